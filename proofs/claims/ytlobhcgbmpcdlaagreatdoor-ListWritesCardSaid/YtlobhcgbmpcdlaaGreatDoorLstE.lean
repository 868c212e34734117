import Derived.Test.YtlobhcgbmpcdlaaGreatDoorLstD
open Option (bind_some)
open List (length_append length_cons length_nil)
namespace Go.Proofs.YtlobhcgbmpcdlaaGreatDoor.R
open Go Go.Bm Go.Proofs
set_option linter.unusedVariables false
set_option linter.unusedSimpArgs false
set_option maxRecDepth 4000
def K (l : List Str) : Str := l.flatMap fun s => s ++ [32]
theorem O1 (l m : List Str) : K (l ++ m) = K l ++ K m := by simp [K]
theorem J9 (x : Str) (l : List Str) : K (x :: l) = x ++ 32 :: K l := by simp [K]
theorem a0H : K [] = [] := rfl
theorem K_J : ∀ l : List Str, 32 :: K l = J l ++ [32]
 | [] => rfl
 | x :: l => by rw [J9, J8, List.cons_append, List.append_assoc, ← K_J l]
theorem a0I {l : List Str} (h : 1 ≤ l.length) : txt l ++ [32] = K l := by
 have := K_J l
 rw [T8 h, List.cons_append] at this
 exact (List.cons.inj this).2.symm
theorem d2r {l : List Str} {m : List Str} (h : 1 ≤ m.length) : txt (l ++ m) = K l ++ txt m := by
 by_cases hl : 1 ≤ l.length
 · rw [b0i hl, T8 h, ← a0I hl]; simp
 · have : l = [] := List.length_eq_zero_iff.1 (by omega)
   subst this; rfl
theorem a8i (l : List Str) : (K l).length = (J l).length := by
 have := congrArg List.length (K_J l)
 simpa using this
theorem a1A (l : List Str) : (txt l).length ≤ (J l).length := by unfold txt; rw [List.length_drop]; omega
theorem s3 {s : Str} (h : o5 s = true) : s.length ≤ 40 := by
 unfold o5 at h
 simp only [Bool.and_eq_true, decide_eq_true_eq] at h
 exact h.2.1
theorem c1C (t : Int) : (tyX t).length ≤ 4 := by unfold tyX; split <;> simp
theorem a9n {p : Pm} (h : M9 p = true) : (J (wPm p)).length ≤ 49 := by
 rw [M9, Bool.and_eq_true] at h
 have h1 := s3 h.1
 have h2 := c1C p.2
 rw [wPm, J_c, J_c, J_c, J_n]; simp only [length_cons, length_nil]; omega
theorem b0n {α : Type} {f : α → List Str} (s : Str) (B : Nat) : ∀ l : List α, (∀ x ∈ l, (J (f x)).length ≤ B) → (J (a7M s (l.map f))).length ≤ l.length * (B + s.length + 1) ∧ (J (P0 s (l.map f))).length ≤ l.length * (B + s.length + 1)
 | [], _ => by simp [a7M, P0, J]
 | x :: r, h => by
   have hx := h x (by simp)
   have ih := b0n s B r fun y hy => h y (List.mem_cons_of_mem _ hy)
   have hmul : (r.length + 1) * (B + s.length + 1) = r.length * (B + s.length + 1) + (B + s.length + 1) := Nat.succ_mul _ _
   simp only [List.map_cons, a7M, P0, J_c, J_a, length_cons, hmul]
   omega
theorem a8T {α : Type} {f : α → List Str} (B : Nat) : ∀ l : List α, (∀ x ∈ l, (J (f x)).length ≤ B) → (J ((l.map f).flatten)).length ≤ l.length * B
 | [], _ => by simp [J]
 | x :: r, h => by
   have hx := h x (by simp)
   have ih := a8T B r fun y hy => h y (List.mem_cons_of_mem _ hy)
   have hmul : (r.length + 1) * B = r.length * B + B := Nat.succ_mul _ _
   simp only [List.map_cons, List.flatten_cons, J_a, length_cons, hmul]
   omega
theorem b1P {M : Nat} {x : Itm} (h : T7 x = true) (he : x.2.2.2.1.length ≤ M) (hf : x.2.2.2.2.1.length ≤ M) (ha : ∀ y ∈ x.2.2.2.2.2, y.length ≤ M) (hM : M ≤ 5000) : (J (wIt x)).length ≤ (x.2.2.2.2.2.length + 2) * (60 * M + 2) + 200 := by
 have E : ∀ {e : List Nd}, B3 e = true → e.length ≤ M → (J (n7 e)).length ≤ 60 * M := fun h1 h2 => by have := (ef h1).j; omega
 cases itF h with
 | ag k nm ty e f a =>
   have := E e he
   unfold wIt
   rw [a]
   rcases k with k | k
   · rw [if_pos k]; simp only [J_c, J_a, J_n, length_cons, length_nil]; omega
   · rw [if_neg (by omega), if_pos k]; simp only [J_c, J_a, J_n, length_cons, length_nil]; omega
 | gh k nm ty e f a =>
   have := E e he
   have hp : (J (wPm (x.2.1, x.2.2.1))).length ≤ 49 := a9n (by unfold M9; rw [nm]; rcases ty with ty | ty <;> simp [ty])
   unfold wIt
   rw [a, if_neg (by omega), if_neg (by omega), if_pos k]; simp only [J_c, J_a, J_n, length_cons, length_nil]; omega
 | md k nm ty e f a =>
   have := E e he
   have := E f hf
   have := s3 nm
   unfold wIt
   rw [a, if_neg (by omega), if_neg (by omega), if_neg (by omega), if_pos k]; simp only [J_c, J_a, J_n, length_cons, length_nil]; omega
 | im k nm ty e f l a =>
   have := s3 nm
   have hs : (J (P0 [44] (x.2.2.2.2.2.map n7))).length ≤ x.2.2.2.2.2.length * (60 * M + 2) := (b0n (f := n7) [44] (60 * M) x.2.2.2.2.2 fun y hy => E (a y hy) (ha y hy)).2
   have hmul : (x.2.2.2.2.2.length + 2) * (60 * M + 2) = x.2.2.2.2.2.length * (60 * M + 2) + 2 * (60 * M + 2) := Nat.add_mul _ _ _
   unfold wIt
   rw [if_neg (by omega), if_neg (by omega), if_neg (by omega), if_neg (by omega)]; simp only [J_c, J_a, J_n, length_cons, length_nil]; omega
theorem b3Z {x : Itm} (h : T7 x = true) : (J (wIt x)).length ≤ 70000000 := by
 have E : ∀ {e : List Nd}, B3 e = true → e.length ≤ 5000 := fun h => (ef h).sz
 have fin : x.2.2.2.2.2.length ≤ 200 → (J (wIt x)).length ≤ (x.2.2.2.2.2.length + 2) * (60 * 5000 + 2) + 200 → (J (wIt x)).length ≤ 70000000 := fun h1 h2 => by omega
 cases itF h with
 | ag k nm ty e f a => exact fin (by rw [a]; simp) (b1P h (E e) (by rw [f]; simp) (by rw [a]; simp) (by omega))
 | gh k nm ty e f a => exact fin (by rw [a]; simp) (b1P h (E e) (by rw [f]; simp) (by rw [a]; simp) (by omega))
 | md k nm ty e f a => exact fin (by rw [a]; simp) (b1P h (E e) (E f) (by rw [a]; simp) (by omega))
 | im k nm ty e f l a => exact fin l (b1P h (by rw [e]; simp) (by rw [f]; simp) (fun y hy => E (a y hy)) (by omega))
theorem b3Y {q : Eqn} (h : a3i q = true) : (J (wEq q)).length ≤ 300100 ∧ (J (wEq q)).length ≤ 60 * q.2.length + 60 := by
 obtain ⟨h1, h2⟩ := eqF h
 have := s3 h1
 have h3 := (ef h2).j
 have h4 := (ef h2).sz
 rw [wEq]; simp only [J_c, J_a, J_n, length_cons, length_nil]; omega
theorem a4G {l : List Pm} (h : ∀ p ∈ l, M9 p = true) : (J (P0 [59] (l.map wPm))).length ≤ l.length * 51 := by
 have := (b0n (f := wPm) [59] 49 l fun p hp => a9n (h p hp)).2
 simpa using this
theorem d2t {A B : Nat} {u : Unt} (h : T4 u = true) (hx : ∀ x ∈ u.2.2.2.2.2.2.2, (J (wIt x)).length ≤ A) (hq : ∀ x ∈ u.2.2.2.2.2.2.1, (J (wEq x)).length ≤ B) : (J (wUn u)).length ≤ u.2.2.2.2.2.2.2.length * A + u.2.2.2.2.2.2.1.length * B + 22000 := by
 have H := unF h
 have h1 := a8T (f := wIt) A _ hx
 have h2 := a8T (f := wEq) B _ hq
 have h3 := a4G H.ib
 have h4 := a4G H.vb
 have h5 := s3 H.nm
 have a := H.i; have b := H.v
 unfold wUn
 split
 · simp only [wIn, a2N, J_c, J_a, J_n, length_cons, length_nil]; omega
 · rename_i hk
   have ho := a4G (l := [(u.2.2.2.1, u.2.2.2.2.1)]) (by intro p hp; rw [List.mem_singleton] at hp; subst hp; exact H.o (by simpa using hk))
   simp only [length_cons, length_nil] at ho
   unfold Y9
   split <;> split <;> simp only [wIn, a2N, a7K, J_c, J_a, J_n, length_cons, length_nil] <;> omega
theorem c6z {mn bk : Str} (h : o5 mn = true) (k : bk = [] ∨ o5 bk = true) : (J (b0l mn bk)).length ≤ 200 := by
 have := s3 h
 unfold b0l
 split
 · simp only [J_c, J_n, length_cons, length_nil]; omega
 · rename_i hb
   have := s3 (k.resolve_left hb)
   simp only [J_c, J_n, length_cons, length_nil]; omega
theorem d2s {p : Prg} (hs : SzP 30 200 p) (h : a3C p = true) : (J (wPg p)).length ≤ 100000000000 := by
 have H := pgF h
 have hu : ∀ u ∈ p.1, (J (wUn u)).length ≤ 12622000 := fun u hu => by
  have Hu := unF (H.u u hu)
  have su := hs.u u hu
  have := d2t (H.u u hu) (A := 400000) (B := 20000) (fun x hx => by
   have sx := su.xe x hx
   have := b1P (M := 200) (Hu.xb x hx) sx.e sx.f sx.a (by omega)
   have := sx.c
   omega) (fun q hq => by
   have := (b3Y (Hu.qb q hq)).2
   have := su.qe q hq
   omega)
  have a1 := Nat.mul_le_mul_right 400000 su.x
  have a2 := Nat.mul_le_mul_right 20000 su.q
  have a3 := Nat.add_le_add_right (Nat.add_le_add a1 a2) 22000
  exact Nat.le_trans this (Nat.le_trans a3 (by decide))
 have h1 := a8T (f := wUn) _ _ hu
 have h2 := c6z H.mn H.bk
 have := hs.c
 rw [wPg, J_a, a2O]
 omega
theorem Y1 {p : Pm} (h : p.1.length ≤ 1000) : b2d T.rf p = some (txt (wPm p)) := d1U (by
 simp only [c1w, a6 (show p.1.length + 7 ≤ 274877906944 by omega), a6 (show p.1.length + 6 ≤ 274877906944 by omega), cond_true, wPm, y0, J8, a2T, tyX]
 by_cases ht : p.2 = 1
 · rw [bt ht, cond_true, if_pos ht]; simp
 · rw [bf ht, cond_false, if_neg ht]; simp)
theorem a7L (s : Str) (x y : List Str) (r : List (List Str)) : P0 s (x :: y :: r) = x ++ s :: P0 s (y :: r) := rfl
theorem a3U (s : Str) (x : List Str) : P0 s [x] = x := by simp [P0, a7M]
theorem b3B {α : Type} (pre : List α) (x : α) (suf : List α) (h : (pre ++ x :: suf).length ≤ 1000000) : decide (((pre.length : Nat) : Int) < IntKind.i64.wrap ((((pre ++ x :: suf).length : Nat) : Int) - 1)) = !(suf.isEmpty) := by
 rw [wr (by simp at h ⊢; omega)]
 cases suf with
 | nil => rw [df (by simp)]; rfl
 | cons y suf => rw [dt (by simp; omega)]; rfl
theorem S6 : ∀ (suf pre : List Pm) (d : Str), (pre ++ suf).length ≤ 1000 → (∀ p ∈ suf, M9 p = true) → d.length + suf.length * 60 ≤ 1000000 →
  b7j T.rb (pre ++ suf) d (pre.length : Nat) = some (d ++ J (P0 [59] (suf.map wPm)))
 | [], pre, d, _, _, _ => c4E (by simp only [b6r, l8, cond_false]; simp [P0, J])
 | x :: suf, pre, d, h, hx, hl => c4E (by
   simp only [length_cons] at hl
   have hp : pre.length < 4611686018427387904 := by simp at h; omega
   have hb := hx x (by simp)
   have hb1 : x.1.length ≤ 40 := by rw [M9, Bool.and_eq_true] at hb; exact s3 hb.1
   have hJ := a9n hb
   have hT := a1A (wPm x)
   have hJT : J (wPm x) = 32 :: txt (wPm x) := T8 (by simp [wPm])
   simp only [b6r, j6, e8, e9, cond_true, bind_some, a6 (show d.length + 1 ≤ 274877906944 by omega), Y1 (p := x) (by omega), a6 (show (d ++ ([32] : Str)).length + (txt (wPm x)).length ≤ 274877906944 by simp; omega),
    b3B pre x suf (by omega), a6 (show ((d ++ ([32] : Str)) ++ txt (wPm x)).length + 2 ≤ 274877906944 by simp; omega), j7 pre x hp]
   cases suf with
   | nil =>
     have ih := S6 [] (pre ++ [x]) ((d ++ ([32] : Str)) ++ txt (wPm x)) (by simpa using h) (fun y hy => by cases hy) (by simp; omega)
     simp only [List.append_assoc, List.singleton_append] at ih ⊢
     rw [List.isEmpty_nil, Bool.not_true, cond_false]
     rw [ih, List.map_cons, List.map_nil, a3U, hJT]
     simp [P0, J]
   | cons y suf =>
     have ih := S6 (y :: suf) (pre ++ [x]) (((d ++ ([32] : Str)) ++ txt (wPm x)) ++ ([32, 59] : Str)) (by simpa using h) (fun z hz => hx z (List.mem_cons_of_mem _ hz)) (by simp at hl ⊢; omega)
     simp only [List.append_assoc, List.singleton_append] at ih ⊢
     rw [List.isEmpty_cons, Bool.not_false, cond_true]
     rw [ih]
     simp only [List.map_cons]
     rw [a7L, a0G, J8, hJT]
     simp)
theorem a9X {l : List Pm} (hl : l.length ≤ 200) (h : ∀ p ∈ l, M9 p = true) : b9L T.rf l = some (txt (wIn l)) := d1V (by
 have := S6 l [] [40] (by simp; omega) h (by simp; omega)
 simp only [List.nil_append, length_nil] at this
 rw [show ((0 : Nat) : Int) = (0 : Int) from rfl] at this
 have hJ := a4G h
 simp only [c1x, this, bind_some, a6 (show (([40] : Str) ++ J (P0 [59] (l.map wPm))).length + 2 ≤ 274877906944 by simp; omega), cond_true, wIn, y0, a0G, J8, a2T]
 simp)
theorem a0j (kd : Int) (nm : Str) (ty : Int) (e f : List Nd) : ∀ (suf pre : List (List Nd)) (d : Str), (pre ++ suf).length ≤ 1000 → (∀ y ∈ suf, B3 y = true) → d.length + suf.length * 300010 ≤ 1000000000 →
  b7i T.rb (kd, nm, ty, e, f, pre ++ suf) d (pre.length : Nat) = some ((kd, nm, ty, e, f, pre ++ suf), d ++ J (P0 [44] (suf.map n7)))
 | [], pre, d, _, _, _ => c4D (by simp only [b6q, l8, cond_false]; simp [P0, J])
 | x :: suf, pre, d, h, hx, hl => c4D (by
   simp only [length_cons] at hl
   have hp : pre.length < 4611686018427387904 := by simp at h; omega
   have hb := hx x (by simp)
   have H := ef hb
   have hT := a1A (n7 x)
   have h1 := H.j
   have h2 := H.sz
   have hJT : J (n7 x) = 32 :: txt (n7 x) := T8 H.len
   simp only [b6q, j6, e8, e9, cond_true, bind_some, a6 (show d.length + 1 ≤ 274877906944 by omega), N3 hb, a6 (show (d ++ ([32] : Str)).length + (txt (n7 x)).length ≤ 274877906944 by simp; omega),
    b3B pre x suf (by omega), a6 (show ((d ++ ([32] : Str)) ++ txt (n7 x)).length + 2 ≤ 274877906944 by simp; omega), j7 pre x hp]
   cases suf with
   | nil =>
     have ih := a0j kd nm ty e f [] (pre ++ [x]) ((d ++ ([32] : Str)) ++ txt (n7 x)) (by simpa using h) (fun y hy => by cases hy) (by simp; omega)
     simp only [List.append_assoc, List.singleton_append] at ih ⊢
     rw [List.isEmpty_nil, Bool.not_true, cond_false]
     rw [ih, List.map_cons, List.map_nil, a3U, hJT]
     simp [P0, J]
   | cons y suf =>
     have ih := a0j kd nm ty e f (y :: suf) (pre ++ [x]) (((d ++ ([32] : Str)) ++ txt (n7 x)) ++ ([32, 44] : Str)) (by simpa using h) (fun z hz => hx z (List.mem_cons_of_mem _ hz)) (by simp at hl ⊢; omega)
     simp only [List.append_assoc, List.singleton_append] at ih ⊢
     rw [List.isEmpty_cons, Bool.not_false, cond_true]
     rw [ih]
     simp only [List.map_cons]
     rw [a7L, a0G, J8, hJT]
     simp)
theorem a6s : a9w T.rf [] = some [] := b1r b7z (by simp)
theorem b2H {x : Itm} (h : T7 x = true) : c5T T.rf x = some (K (wIt x)) := d1Q (by
 have T : ∀ {e : List Nd}, B3 e = true → (txt (n7 e)).length ≤ 300000 := fun {e} h => by
  have h1 := (ef h).j; have h2 := (ef h).sz; have h3 := a1A (n7 e); omega
 cases itF h with
 | ag k nm ty e f a =>
   have t := T e
   rcases k with k | k
   · simp only [b1m, N3 e, bind_some, bt k, cond_true, a6 (show 7 + (txt (n7 x.2.2.2.1)).length ≤ 274877906944 by omega), a6 (show (([97, 115, 115, 117, 109, 101, 32] : Str) ++ txt (n7 x.2.2.2.1)).length + 3 ≤ 274877906944 by simp; omega)]
     simp only [wIt, if_pos k, J9, O1, a0H, ← a0I (ef e).len]
     simp
   · simp only [b1m, N3 e, bind_some, bf (show x.1 ≠ 1 by omega), bt k, cond_true, cond_false, a6 (show 10 + (txt (n7 x.2.2.2.1)).length ≤ 274877906944 by omega), a6 (show (([103, 117, 97, 114, 97, 110, 116, 101, 101, 32] : Str) ++ txt (n7 x.2.2.2.1)).length + 3 ≤ 274877906944 by simp; omega)]
     simp only [wIt, if_neg (show ¬ x.1 = 1 by omega), if_pos k, J9, O1, a0H, ← a0I (ef e).len]
     simp
 | gh k nm ty e f a =>
   have t := T e
   have hn := s3 nm
   have hp : (J (wPm (x.2.1, x.2.2.1))).length ≤ 49 := a9n (by unfold M9; rw [nm]; rcases ty with ty | ty <;> simp [ty])
   have hp2 := a1A (wPm (x.2.1, x.2.2.1))
   have hw : 1 ≤ (wPm (x.2.1, x.2.2.1)).length := by simp [wPm]
   simp only [b1m, N3 e, bind_some, bf (show x.1 ≠ 1 by omega), bf (show x.1 ≠ 2 by omega), bt k, cond_true, cond_false, Y1 (p := (x.2.1, x.2.2.1)) (by show x.2.1.length ≤ 1000; omega),
    a6 (show 6 + (txt (wPm (x.2.1, x.2.2.1))).length ≤ 274877906944 by omega), a6 (show (([103, 104, 111, 115, 116, 32] : Str) ++ txt (wPm (x.2.1, x.2.2.1))).length + 3 ≤ 274877906944 by simp; omega), a6 (show ((([103, 104, 111, 115, 116, 32] : Str) ++ txt (wPm (x.2.1, x.2.2.1))) ++ ([32, 61, 32] : Str)).length + (txt (n7 x.2.2.2.1)).length ≤ 274877906944 by simp; omega), a6 (show (((([103, 104, 111, 115, 116, 32] : Str) ++ txt (wPm (x.2.1, x.2.2.1))) ++ ([32, 61, 32] : Str)) ++ txt (n7 x.2.2.2.1)).length + 3 ≤ 274877906944 by simp; omega)]
   simp only [wIt, if_neg (show ¬ x.1 = 1 by omega), if_neg (show ¬ x.1 = 2 by omega), if_pos k, J9, O1, a0H, ← a0I (ef e).len, ← a0I hw]
   simp
 | md k nm ty e f a =>
   have t := T e
   have t2 := T f
   have hn := s3 nm
   simp only [b1m, N3 e, N3 f, bind_some, bf (show x.1 ≠ 1 by omega), bf (show x.1 ≠ 2 by omega), bf (show x.1 ≠ 3 by omega), bt k, cond_true, cond_false,
    a6 (show 5 + x.2.1.length ≤ 274877906944 by omega), a6 (show (([109, 111, 100, 101, 32] : Str) ++ x.2.1).length + 9 ≤ 274877906944 by simp; omega), a6 (show ((([109, 111, 100, 101, 32] : Str) ++ x.2.1) ++ ([32, 114, 101, 113, 117, 105, 114, 101, 32] : Str)).length + (txt (n7 x.2.2.2.1)).length ≤ 274877906944 by simp; omega),
    a6 (show (((([109, 111, 100, 101, 32] : Str) ++ x.2.1) ++ ([32, 114, 101, 113, 117, 105, 114, 101, 32] : Str)) ++ txt (n7 x.2.2.2.1)).length + 8 ≤ 274877906944 by simp; omega), a6 (show ((((([109, 111, 100, 101, 32] : Str) ++ x.2.1) ++ ([32, 114, 101, 113, 117, 105, 114, 101, 32] : Str)) ++ txt (n7 x.2.2.2.1)) ++ ([32, 101, 110, 115, 117, 114, 101, 32] : Str)).length + (txt (n7 x.2.2.2.2.1)).length ≤ 274877906944 by simp; omega),
    a6 (show (((((([109, 111, 100, 101, 32] : Str) ++ x.2.1) ++ ([32, 114, 101, 113, 117, 105, 114, 101, 32] : Str)) ++ txt (n7 x.2.2.2.1)) ++ ([32, 101, 110, 115, 117, 114, 101, 32] : Str)) ++ txt (n7 x.2.2.2.2.1)).length + 3 ≤ 274877906944 by simp; omega)]
   simp only [wIt, if_neg (show ¬ x.1 = 1 by omega), if_neg (show ¬ x.1 = 2 by omega), if_neg (show ¬ x.1 = 3 by omega), if_pos k, J9, O1, a0H, ← a0I (ef e).len, ← a0I (ef f).len]
   simp
 | im k nm ty e f l a =>
   have hn := s3 nm
   obtain ⟨kd, nn, tt, ee, ff, gs⟩ := x
   simp only at k nm ty e f l a hn
   subst k; subst e; subst f
   have hloop := a0j 5 nn tt [] [] gs [] (([105, 109, 112, 111, 114, 116, 32] ++ nn) ++ [32, 40]) (by simp; omega) a (by simp; omega)
   simp only [List.nil_append, length_nil] at hloop
   rw [show ((0 : Nat) : Int) = (0 : Int) from rfl] at hloop
   have hs := (b0n (f := n7) [44] 300000 gs fun y hy => by have h1 := (ef (a y hy)).j; have h2 := (ef (a y hy)).sz; omega).2
   simp only [length_cons, length_nil] at hs
   simp only [b1m, a6s, bind_some, show ((5 : Int) == 1) = false from rfl, show ((5 : Int) == 2) = false from rfl, show ((5 : Int) == 3) = false from rfl, show ((5 : Int) == 4) = false from rfl, cond_true, cond_false,
    a6 (show 7 + nn.length ≤ 274877906944 by omega), a6 (show (([105, 109, 112, 111, 114, 116, 32] : Str) ++ nn).length + 2 ≤ 274877906944 by simp; omega), hloop, a6 (show ((([105, 109, 112, 111, 114, 116, 32] : Str) ++ nn) ++ ([32, 40] : Str) ++ J (P0 [44] (gs.map n7))).length + 5 ≤ 274877906944 by simp; omega)]
   have hw : ∀ l : List Str, 32 :: K l = J l ++ [32] := K_J
   simp only [wIt, if_neg (show ¬ (5 : Int) = 1 by omega), if_neg (show ¬ (5 : Int) = 2 by omega), if_neg (show ¬ (5 : Int) = 3 by omega), if_neg (show ¬ (5 : Int) = 4 by omega), J9, O1, a0H]
   have : ([40] : Str) ++ 32 :: (K (P0 [44] (gs.map n7)) ++ ([41] ++ 32 :: ([59] ++ [32]))) = [40] ++ (J (P0 [44] (gs.map n7)) ++ ([32] ++ ([41] ++ 32 :: ([59] ++ [32])))) := by
    rw [← List.append_assoc (J _), ← hw]; simp
   rw [this]; simp)
theorem b8x (k : Bool) (nm : Str) (i : List Pm) (o : Str) (t : Int) (v : List Pm) (q : List Eqn) : ∀ (suf pre : List Itm) (d : Str), (pre ++ suf).length ≤ 1000 → (∀ x ∈ suf, T7 x = true) → d.length + suf.length * 70000000 ≤ 100000000000 →
  c0k T.rb (k, nm, i, o, t, v, q, pre ++ suf) d (pre.length : Nat) = some ((k, nm, i, o, t, v, q, pre ++ suf), d ++ K (a2N suf))
 | [], pre, d, _, _, _ => c4B (by simp only [b6o, l8, cond_false]; simp [a2N, K])
 | x :: suf, pre, d, h, hx, hl => c4B (by
   simp only [length_cons] at hl
   have hp : pre.length < 4611686018427387904 := by simp at h; omega
   have h1 := b3Z (hx x (by simp))
   rw [← a8i] at h1
   have ih := b8x k nm i o t v q suf (pre ++ [x]) (d ++ K (wIt x)) (by simpa using h) (fun y hy => hx y (List.mem_cons_of_mem _ hy)) (by rw [length_append]; omega)
   simp only [List.append_assoc, List.singleton_append] at ih
   simp only [b6o, j6, e8, e9, cond_true, bind_some, b2H (hx x (by simp)), a6 (show d.length + (K (wIt x)).length ≤ 274877906944 by omega), j7 pre x hp, ih]
   rw [show a2N (x :: suf) = wIt x ++ a2N suf from rfl, O1])
theorem b8z (k : Bool) (nm : Str) (i : List Pm) (o : Str) (t : Int) (v : List Pm) (its : List Itm) : ∀ (suf pre : List Eqn) (d : Str), (pre ++ suf).length ≤ 1000 → (∀ x ∈ suf, a3i x = true) → d.length + suf.length * 400000 ≤ 200000000000 →
  c0m T.rb (k, nm, i, o, t, v, pre ++ suf, its) d (pre.length : Nat) = some ((k, nm, i, o, t, v, pre ++ suf, its), d ++ K (a7K suf))
 | [], pre, d, _, _, _ => c4G (by simp only [b6s, l8, cond_false]; simp [a7K, K])
 | x :: suf, pre, d, h, hx, hl => c4G (by
   simp only [length_cons] at hl
   have hp : pre.length < 4611686018427387904 := by simp at h; omega
   obtain ⟨q1, q2⟩ := eqF (hx x (by simp))
   have hn := s3 q1
   have t1 : (txt (n7 x.2)).length ≤ 300000 := by have h1 := (ef q2).j; have h2 := (ef q2).sz; have h3 := a1A (n7 x.2); omega
   have e : ((((d ++ x.1) ++ ([32, 61, 32] : Str)) ++ txt (n7 x.2)) ++ ([32, 59, 32] : Str)) = d ++ K (wEq x) := by
    simp only [wEq, J9, O1, a0H, ← a0I (ef q2).len]; simp
   have ih := b8z k nm i o t v its suf (pre ++ [x]) (d ++ K (wEq x)) (by simpa using h) (fun y hy => hx y (List.mem_cons_of_mem _ hy)) (by rw [← e]; simp; omega)
   simp only [List.append_assoc, List.singleton_append] at ih
   simp only [b6s, j6, e8, e9, cond_true, bind_some, N3 q2, a6 (show d.length + x.1.length ≤ 274877906944 by omega), a6 (show (d ++ x.1).length + 3 ≤ 274877906944 by simp; omega), a6 (show ((d ++ x.1) ++ ([32, 61, 32] : Str)).length + (txt (n7 x.2)).length ≤ 274877906944 by simp; omega), a6 (show (((d ++ x.1) ++ ([32, 61, 32] : Str)) ++ txt (n7 x.2)).length + 3 ≤ 274877906944 by simp; omega), j7 pre x hp]
   rw [e, ih, show a7K (x :: suf) = wEq x ++ a7K suf from rfl, O1])
def a5y (l : List Pm) : Str := l.flatMap fun p => K (wPm p) ++ [59, 32]
theorem b3X : ∀ (x : Pm) (l : List Pm), K (P0 [59] ((x :: l).map wPm) ++ [[59]]) = a5y (x :: l)
 | x, [] => by simp only [List.map_cons, List.map_nil, a3U, O1, a5y, List.flatMap_cons, List.flatMap_nil]; simp [K]
 | x, y :: l => by
   have := b3X y l
   rw [List.map_cons, List.map_cons, a7L]
   rw [List.map_cons] at this
   rw [List.append_assoc, List.cons_append, O1, J9, this]
   simp [a5y]
theorem b8y (k : Bool) (nm : Str) (i : List Pm) (o : Str) (t : Int) (q : List Eqn) (its : List Itm) : ∀ (suf pre : List Pm) (d : Str), (pre ++ suf).length ≤ 1000 → (∀ x ∈ suf, M9 x = true) → d.length + suf.length * 60 + 10 ≤ 200000000000 →
  b5d T.rb (k, nm, i, o, t, pre ++ suf, q, its) d (pre.length : Nat) = some ((k, nm, i, o, t, pre ++ suf, q, its), d ++ (if pre.length = 0 then K (Y9 suf) else a5y suf))
 | [], pre, d, _, _, _ => c4F (by simp only [b4A, l8, cond_false]; split <;> simp [Y9, K, a5y])
 | x :: suf, pre, d, h, hx, hl => c4F (by
   simp only [length_cons] at hl
   have hp : pre.length < 4611686018427387904 := by simp at h; omega
   have hb := hx x (by simp)
   have hb1 : x.1.length ≤ 40 := by rw [M9, Bool.and_eq_true] at hb; exact s3 hb.1
   have hJ := a9n hb
   have hT := a1A (wPm x)
   have hK : K (wPm x) = txt (wPm x) ++ [32] := (a0I (by simp [wPm])).symm
   have ih : ∀ d' : Str, d'.length ≤ d.length + 60 → b5d T.rb (k, nm, i, o, t, pre ++ x :: suf, q, its) d' (((pre ++ [x]).length : Nat) : Int) = some ((k, nm, i, o, t, pre ++ x :: suf, q, its), d' ++ a5y suf) := fun d' hd => by
    have := b8y k nm i o t q its suf (pre ++ [x]) d' (by simpa using h) (fun y hy => hx y (List.mem_cons_of_mem _ hy)) (by omega)
    rw [if_neg (by simp)] at this
    simpa using this
   by_cases h0 : pre.length = 0
   · have hz : (((pre.length : Nat) : Int) == 0) = true := bt (by omega)
     simp only [b4A, j6, e8, e9, cond_true, bind_some, hz, a6 (show d.length + 4 ≤ 274877906944 by omega), Y1 (p := x) (by omega), a6 (show (d ++ ([118, 97, 114, 32] : Str)).length + (txt (wPm x)).length ≤ 274877906944 by simp; omega), a6 (show ((d ++ ([118, 97, 114, 32] : Str)) ++ txt (wPm x)).length + 3 ≤ 274877906944 by simp; omega), j7 pre x hp]
     rw [ih _ (by simp; omega), if_pos h0, Y9, if_pos (by simp), J9, b3X]
     simp [a5y, hK]
   · have hz : (((pre.length : Nat) : Int) == 0) = false := bf (by omega)
     simp only [b4A, j6, e8, e9, cond_true, cond_false, bind_some, hz, Y1 (p := x) (by omega), a6 (show d.length + (txt (wPm x)).length ≤ 274877906944 by omega), a6 (show (d ++ txt (wPm x)).length + 3 ≤ 274877906944 by simp; omega), j7 pre x hp]
     rw [ih _ (by simp; omega), if_neg h0]
     simp [a5y, hK])
end Go.Proofs.YtlobhcgbmpcdlaaGreatDoor.R
