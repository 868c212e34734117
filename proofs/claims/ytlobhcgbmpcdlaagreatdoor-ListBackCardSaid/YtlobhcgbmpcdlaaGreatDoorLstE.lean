import Derived.Test.YtlobhcgbmpcdlaaGreatDoorLstD
open List (length_cons length_nil)
namespace Go.Proofs.YtlobhcgbmpcdlaaGreatDoor.R
open Go Go.Bm Go.Proofs
set_option linter.unusedVariables false
set_option linter.unusedSimpArgs false
set_option maxRecDepth 4000
def K (l : List Str) : Str := l.flatMap fun s => s ++ [32]
theorem nameB_len {s : Str} (h : nameB s = true) : s.length ≤ 40 := by
 unfold nameB at h
 simp only [Bool.and_eq_true, decide_eq_true_eq] at h
 exact h.2.1
theorem tyX_len (t : Int) : (tyX t).length ≤ 4 := by unfold tyX; split <;> simp
theorem wPm_J {p : Pm} (h : prmB p = true) : (J (wPm p)).length ≤ 49 := by
 rw [prmB, Bool.and_eq_true] at h
 have h1 := nameB_len h.1
 have h2 := tyX_len p.2
 rw [wPm, J_c, J_c, J_c, J_n]; simp only [length_cons, length_nil]; omega
theorem wsep_J {α : Type} {f : α → List Str} (s : Str) (B : Nat) : ∀ l : List α, (∀ x ∈ l, (J (f x)).length ≤ B) → (J (wtail s (l.map f))).length ≤ l.length * (B + s.length + 1) ∧ (J (wsep s (l.map f))).length ≤ l.length * (B + s.length + 1)
 | [], _ => by simp [wtail, wsep, J]
 | x :: r, h => by
   have hx := h x (by simp)
   have ih := wsep_J s B r fun y hy => h y (List.mem_cons_of_mem _ hy)
   have hmul : (r.length + 1) * (B + s.length + 1) = r.length * (B + s.length + 1) + (B + s.length + 1) := Nat.succ_mul _ _
   simp only [List.map_cons, wtail, wsep, J_c, J_a, length_cons, hmul]
   omega
theorem map_J {α : Type} {f : α → List Str} (B : Nat) : ∀ l : List α, (∀ x ∈ l, (J (f x)).length ≤ B) → (J ((l.map f).flatten)).length ≤ l.length * B
 | [], _ => by simp [J]
 | x :: r, h => by
   have hx := h x (by simp)
   have ih := map_J B r fun y hy => h y (List.mem_cons_of_mem _ hy)
   have hmul : (r.length + 1) * B = r.length * B + B := Nat.succ_mul _ _
   simp only [List.map_cons, List.flatten_cons, J_a, length_cons, hmul]
   omega
theorem wIt_J {M : Nat} {x : Itm} (h : itmB x = true) (he : x.2.2.2.1.length ≤ M) (hf : x.2.2.2.2.1.length ≤ M) (ha : ∀ y ∈ x.2.2.2.2.2, y.length ≤ M) (hM : M ≤ 5000) : (J (wIt x)).length ≤ (x.2.2.2.2.2.length + 2) * (60 * M + 2) + 200 := by
 have E : ∀ {e : List Nd}, mayS e = true → e.length ≤ M → (J (etoks e)).length ≤ 60 * M := fun h1 h2 => by have := (ef h1).j; omega
 cases itF h with
 | ag k nm ty e f a =>
   have := E e he
   unfold wIt
   rw [a]
   rcases k with k | k
   · rw [if_pos k]; simp only [J_c, J_a, J_n, length_cons, length_nil]; omega
   · rw [if_neg (by omega), if_pos k]; simp only [J_c, J_a, J_n, length_cons, length_nil]; omega
 | gh k nm ty e f a =>
   have := E e he
   have hp : (J (wPm (x.2.1, x.2.2.1))).length ≤ 49 := wPm_J (by unfold prmB; rw [nm]; rcases ty with ty | ty <;> simp [ty])
   unfold wIt
   rw [a, if_neg (by omega), if_neg (by omega), if_pos k]; simp only [J_c, J_a, J_n, length_cons, length_nil]; omega
 | md k nm ty e f a =>
   have := E e he
   have := E f hf
   have := nameB_len nm
   unfold wIt
   rw [a, if_neg (by omega), if_neg (by omega), if_neg (by omega), if_pos k]; simp only [J_c, J_a, J_n, length_cons, length_nil]; omega
 | im k nm ty e f l a =>
   have := nameB_len nm
   have hs : (J (wsep [44] (x.2.2.2.2.2.map etoks))).length ≤ x.2.2.2.2.2.length * (60 * M + 2) := (wsep_J (f := etoks) [44] (60 * M) x.2.2.2.2.2 fun y hy => E (a y hy) (ha y hy)).2
   have hmul : (x.2.2.2.2.2.length + 2) * (60 * M + 2) = x.2.2.2.2.2.length * (60 * M + 2) + 2 * (60 * M + 2) := Nat.add_mul _ _ _
   unfold wIt
   rw [if_neg (by omega), if_neg (by omega), if_neg (by omega), if_neg (by omega)]; simp only [J_c, J_a, J_n, length_cons, length_nil]; omega
theorem wEq_any {q : Eqn} (h : eqnB q = true) : (J (wEq q)).length ≤ 300100 ∧ (J (wEq q)).length ≤ 60 * q.2.length + 60 := by
 obtain ⟨h1, h2⟩ := eqF h
 have := nameB_len h1
 have h3 := (ef h2).j
 have h4 := (ef h2).sz
 rw [wEq]; simp only [J_c, J_a, J_n, length_cons, length_nil]; omega
theorem wPms_J {l : List Pm} (h : ∀ p ∈ l, prmB p = true) : (J (wsep [59] (l.map wPm))).length ≤ l.length * 51 := by
 have := (wsep_J (f := wPm) [59] 49 l fun p hp => wPm_J (h p hp)).2
 simpa using this
theorem wUn_J {A B : Nat} {u : Unt} (h : untB u = true) (hx : ∀ x ∈ u.2.2.2.2.2.2.2, (J (wIt x)).length ≤ A) (hq : ∀ x ∈ u.2.2.2.2.2.2.1, (J (wEq x)).length ≤ B) : (J (wUn u)).length ≤ u.2.2.2.2.2.2.2.length * A + u.2.2.2.2.2.2.1.length * B + 22000 := by
 have H := unF h
 have h1 := map_J (f := wIt) A _ hx
 have h2 := map_J (f := wEq) B _ hq
 have h3 := wPms_J H.ib
 have h4 := wPms_J H.vb
 have h5 := nameB_len H.nm
 have a := H.i; have b := H.v
 unfold wUn
 split
 · simp only [wIn, wIts, J_c, J_a, J_n, length_cons, length_nil]; omega
 · rename_i hk
   have ho := wPms_J (l := [(u.2.2.2.1, u.2.2.2.2.1)]) (by intro p hp; rw [List.mem_singleton] at hp; subst hp; exact H.o (by simpa using hk))
   simp only [length_cons, length_nil] at ho
   unfold wVars
   split <;> split <;> simp only [wIn, wIts, wEqs, J_c, J_a, J_n, length_cons, length_nil] <;> omega
theorem wEnd_J {mn bk : Str} (h : nameB mn = true) (k : bk = [] ∨ nameB bk = true) : (J (wEnd mn bk)).length ≤ 200 := by
 have := nameB_len h
 unfold wEnd
 split
 · simp only [J_c, J_n, length_cons, length_nil]; omega
 · rename_i hb
   have := nameB_len (k.resolve_left hb)
   simp only [J_c, J_n, length_cons, length_nil]; omega
theorem wPg_J {p : Prg} (hs : SzP 30 200 p) (h : prgB p = true) : (J (wPg p)).length ≤ 100000000000 := by
 have H := pgF h
 have hu : ∀ u ∈ p.1, (J (wUn u)).length ≤ 12622000 := fun u hu => by
  have Hu := unF (H.u u hu)
  have su := hs.u u hu
  have := wUn_J (H.u u hu) (A := 400000) (B := 20000) (fun x hx => by
   have sx := su.xe x hx
   have := wIt_J (M := 200) (Hu.xb x hx) sx.e sx.f sx.a (by omega)
   have := sx.c
   omega) (fun q hq => by
   have := (wEq_any (Hu.qb q hq)).2
   have := su.qe q hq
   omega)
  have a1 := Nat.mul_le_mul_right 400000 su.x
  have a2 := Nat.mul_le_mul_right 20000 su.q
  have a3 := Nat.add_le_add_right (Nat.add_le_add a1 a2) 22000
  exact Nat.le_trans this (Nat.le_trans a3 (by decide))
 have h1 := map_J (f := wUn) _ _ hu
 have h2 := wEnd_J H.mn H.bk
 have := hs.c
 rw [wPg, J_a, wUns]
 omega
theorem wsep_two (s : Str) (x y : List Str) (r : List (List Str)) : wsep s (x :: y :: r) = x ++ s :: wsep s (y :: r) := rfl
theorem wsep_one (s : Str) (x : List Str) : wsep s [x] = x := by simp [wsep, wtail]
end Go.Proofs.YtlobhcgbmpcdlaaGreatDoor.R
