import Derived.Test.YtlobhcgbmpcdlaaGreatDoorLstC
open Option (bind_some)
open List (length_append length_cons length_nil)
open Bool (and_eq_true)
namespace Go.Proofs.YtlobhcgbmpcdlaaGreatDoor.R
open Go Go.Bm Go.Proofs
set_option linter.unusedVariables false
set_option linter.unusedSimpArgs false
set_option maxRecDepth 4000
theorem wrl (out : List m7) (G : List (List Str)) : (out ++ wrG G).length = out.length + G.length := by rw [length_append, a2C]
theorem sgl (l : List Str) : (sg l).length = l.length := by simp [sg]
theorem a7O {α : Type} {g : α → List (List Str)} (s : Str) (B : Nat) : ∀ l : List α, (∀ x ∈ l, (g x).length ≤ B) → (a0F s (l.map g)).length ≤ l.length * (B + 1) ∧ (a1G s (l.map g)).length ≤ l.length * (B + 1)
 | [], _ => by simp [a0F, a1G]
 | x :: r, h => by
   have hx := h x (by simp)
   have ih := a7O s B r fun y hy => h y (List.mem_cons_of_mem _ hy)
   have hmul : (r.length + 1) * (B + 1) = r.length * (B + 1) + (B + 1) := Nat.succ_mul _ _
   simp only [List.map_cons, a0F, a1G, length_cons, length_append, hmul]
   omega
theorem b5d (s : Str) (l : List (List Nd)) : (a1G s (l.map gE)).length ≤ l.length * 2 := (a7O s 1 l fun x _ => by simp [gE]).2
theorem a6R (s : Str) (l : List Pm) : (a1G s (l.map gPm)).length ≤ l.length * 4 := (a7O s 3 l fun x _ => by simp [gPm, sg, wPm]).2
theorem Y9 (e : List Nd) : (gE e).length = 1 := rfl
theorem a6Q (p : Pm) : (gPm p).length = 3 := rfl
theorem a6P (l : List Pm) : (gIn l).length ≤ l.length * 4 + 2 := by
 have := a6R [59] l
 simp only [gIn, length_append, sgl, length_cons, length_nil]; omega
inductive ItF (x : Itm) : Prop
 | ag (k : x.1 = 1 ∨ x.1 = 2) (nm : x.2.1 = []) (ty : x.2.2.1 = 0) (e : D3 x.2.2.2.1 = true) (f : x.2.2.2.2.1 = []) (a : x.2.2.2.2.2 = [])
 | gh (k : x.1 = 3) (nm : u9 x.2.1 = true) (ty : x.2.2.1 = 1 ∨ x.2.2.1 = 2) (e : D3 x.2.2.2.1 = true) (f : x.2.2.2.2.1 = []) (a : x.2.2.2.2.2 = [])
 | md (k : x.1 = 4) (nm : u9 x.2.1 = true) (ty : x.2.2.1 = 0) (e : D3 x.2.2.2.1 = true) (f : D3 x.2.2.2.2.1 = true) (a : x.2.2.2.2.2 = [])
 | im (k : x.1 = 5) (nm : u9 x.2.1 = true) (ty : x.2.2.1 = 0) (e : x.2.2.2.1 = []) (f : x.2.2.2.2.1 = []) (l : x.2.2.2.2.2.length ≤ 200) (a : ∀ y ∈ x.2.2.2.2.2, D3 y = true)
theorem itF {x : Itm} (h : I7 x = true) : ItF x := by
 unfold I7 at h
 split at h
 · rename_i k
   simp only [and_eq_true, beq_iff_eq, decide_eq_true_eq, List.length_eq_zero_iff] at h
   exact .ag k h.1 h.2.1 h.2.2.1 h.2.2.2.1 h.2.2.2.2
 split at h
 · rename_i k
   simp only [and_eq_true, Bool.or_eq_true, beq_iff_eq, decide_eq_true_eq, List.length_eq_zero_iff] at h
   exact .gh k h.1 h.2.1 h.2.2.1 h.2.2.2.1 h.2.2.2.2
 split at h
 · rename_i k
   simp only [and_eq_true, beq_iff_eq, decide_eq_true_eq, List.length_eq_zero_iff] at h
   exact .md k h.1 h.2.1 h.2.2.1 h.2.2.2.1 h.2.2.2.2
 split at h
 · rename_i k
   simp only [and_eq_true, beq_iff_eq, decide_eq_true_eq, List.length_eq_zero_iff, List.all_eq_true] at h
   exact .im k h.1 h.2.1 h.2.2.1 h.2.2.2.1 h.2.2.2.2.1 h.2.2.2.2.2
 · cases h
structure UnF (u : Unt) : Prop where
 nm : u9 u.2.1 = true
 i : u.2.2.1.length ≤ 200
 ib : ∀ p ∈ u.2.2.1, H9 p = true
 v : u.2.2.2.2.2.1.length ≤ 200
 vb : ∀ p ∈ u.2.2.2.2.2.1, H9 p = true
 q : u.2.2.2.2.2.2.1.length ≤ 200
 qb : ∀ p ∈ u.2.2.2.2.2.2.1, V8 p = true
 x : u.2.2.2.2.2.2.2.length ≤ 200
 xb : ∀ p ∈ u.2.2.2.2.2.2.2, I7 p = true
 k : u.1 = true → u.2.2.2.1 = [] ∧ u.2.2.2.2.1 = 0 ∧ u.2.2.2.2.2.1 = [] ∧ u.2.2.2.2.2.2.1 = []
 o : u.1 = false → H9 (u.2.2.2.1, u.2.2.2.2.1) = true
theorem unF {u : Unt} (h : K5 u = true) : UnF u := by
 unfold K5 a4M at h
 simp only [and_eq_true, decide_eq_true_eq, List.all_eq_true] at h
 obtain ⟨h1, ⟨h2, h3⟩, ⟨h4, h5⟩, ⟨h6, h7⟩, ⟨h8, h9⟩, h10⟩ := h
 refine ⟨h1, h2, h3, h4, h5, h6, h7, h8, h9, fun k => ?_, fun k => ?_⟩
 · rw [k, cond_true] at h10
   simp only [and_eq_true, beq_iff_eq, decide_eq_true_eq, List.length_eq_zero_iff] at h10
   exact ⟨h10.1.1, h10.1.2, h10.2.1, h10.2.2⟩
 · rw [k, cond_false] at h10; exact h10
structure PgF (p : Prg) : Prop where
 mn : u9 p.2.1 = true
 bk : p.2.2 = [] ∨ u9 p.2.2 = true
 n : p.1.length ≤ 200
 u : ∀ u ∈ p.1, K5 u = true
theorem pgF {p : Prg} (h : a1o p = true) : PgF p := by
 unfold a1o at h
 simp only [and_eq_true, Bool.or_eq_true, beq_iff_eq, decide_eq_true_eq, List.all_eq_true] at h
 exact ⟨h.1, h.2.1, h.2.2.1, h.2.2.2⟩
theorem eqF {q : Eqn} (h : V8 q = true) : u9 q.1 = true ∧ D3 q.2 = true := by rw [V8, and_eq_true] at h; exact h
theorem b5e {x : Itm} (h : I7 x = true) : (gIt x).length ≤ 410 := by
 have hE := b5d [44] x.2.2.2.2.2
 have hl : x.2.2.2.2.2.length ≤ 200 := by
  cases itF h with
  | ag k nm ty e f a => rw [a]; simp
  | gh k nm ty e f a => rw [a]; simp
  | md k nm ty e f a => rw [a]; simp
  | im k nm ty e f l a => exact l
 unfold gIt
 split
 · simp only [length_append, sgl, Y9, length_cons, length_nil]; omega
 split
 · simp only [length_append, sgl, Y9, length_cons, length_nil]; omega
 split
 · simp only [length_append, sgl, Y9, a6Q, length_cons, length_nil]; omega
 split
 · simp only [length_append, sgl, Y9, length_cons, length_nil]; omega
 · simp only [length_append, sgl, length_cons, length_nil]; omega
theorem a7L : ∀ l : List Itm, (∀ x ∈ l, I7 x = true) → (a0t l).length ≤ l.length * 410
 | [], _ => by simp [a0t]
 | x :: l, h => by
   have h1 := b5e (h x (by simp))
   have h2 := a7L l fun y hy => h y (List.mem_cons_of_mem _ hy)
   have e : a0t (x :: l) = gIt x ++ a0t l := rfl
   rw [e, length_append, length_cons]; omega
theorem a7I : ∀ l : List Eqn, (a0s l).length = l.length * 4
 | [] => by simp [a0s]
 | x :: l => by
   have h2 := a7I l
   have e : a0s (x :: l) = gEq x ++ a0s l := rfl
   have e2 : (gEq x).length = 4 := rfl
   rw [e, length_append, length_cons]; omega
theorem b6r (l : List Pm) : (P8 l).length ≤ l.length * 4 + 2 := by
 have := a6R [59] l
 unfold P8; split
 · simp only [length_append, sgl, length_cons, length_nil]; omega
 · simp
theorem b5f {u : Unt} (h : K5 u = true) : (gUn u).length ≤ 90000 := by
 have H := unF h
 have h1 := a6P u.2.2.1
 have h2 := a6P [(u.2.2.2.1, u.2.2.2.2.1)]
 have h3 := a7L _ H.xb
 have h4 := b6r u.2.2.2.2.2.1
 have h5 := a7I u.2.2.2.2.2.2.1
 have a := H.i; have b := H.v; have c := H.q; have d := H.x
 simp only [length_cons, length_nil] at h2
 unfold gUn
 split
 · simp only [length_append, sgl, length_cons, length_nil]; omega
 · split
   · simp only [length_append, sgl, length_cons, length_nil]; omega
   · simp only [length_append, sgl, length_cons, length_nil]; omega
theorem b5c {e : List Nd} (he : D3 e = true) : Full (gE e) := fun g hg => by
 have : g = l6 e := by simpa [gE] using hg
 rw [this]; exact (ef he).len
theorem b8i {x : Itm} (h : I7 x = true) : Full (gIt x) := by
 have fe : ∀ {e : List Nd}, D3 e = true → Full (gE e) := fun he => b5c he
 have S : ∀ l, Full (sg l) := Full.sg
 cases itF h with
 | ag k nm ty e f a =>
   unfold gIt
   rcases k with k | k
   · rw [if_pos k]; exact (S _).app ((fe e).app (S _))
   · rw [if_neg (by omega), if_pos k]; exact (S _).app ((fe e).app (S _))
 | gh k nm ty e f a =>
   unfold gIt
   rw [if_neg (by omega), if_neg (by omega), if_pos k]
   exact (S _).app ((S _).app ((S _).app ((fe e).app (S _))))
 | md k nm ty e f a =>
   unfold gIt
   rw [if_neg (by omega), if_neg (by omega), if_neg (by omega), if_pos k]
   exact (S _).app ((fe e).app ((S _).app ((fe f).app (S _))))
 | im k nm ty e f l a =>
   unfold gIt
   rw [if_neg (by omega), if_neg (by omega), if_neg (by omega), if_neg (by omega)]
   refine (S _).app ((a5y _ _ fun G hG => ?_).app ((S _).app (S _)))
   obtain ⟨y, hy, rfl⟩ := List.mem_map.1 hG
   exact fe (a y hy)
theorem a2K {α : Type} {g : α → List (List Str)} : ∀ l : List α, (∀ x ∈ l, Full (g x)) → Full (l.map g).flatten
 | [], _ => fun x hx => by cases hx
 | x :: l, h => by
   rw [List.map_cons, List.flatten_cons]
   exact (h x (by simp)).app (a2K l fun y hy => h y (List.mem_cons_of_mem _ hy))
theorem a7K (l : List Pm) : Full (gIn l) := (Full.sg _).app ((a5y _ _ fun G hG => by obtain ⟨y, _, rfl⟩ := List.mem_map.1 hG; exact Full.sg _).app (Full.sg _))
theorem b8m {u : Unt} (h : K5 u = true) : Full (gUn u) := by
 have H := unF h
 have S : ∀ l, Full (sg l) := Full.sg
 have hx : Full (a0t u.2.2.2.2.2.2.2) := a2K _ fun x hx => b8i (H.xb x hx)
 have hq : Full (a0s u.2.2.2.2.2.2.1) := a2K _ fun q hq => (S _).app ((b5c (eqF (H.qb q hq)).2).app (S _))
 have hv : Full (P8 u.2.2.2.2.2.1) := by
  unfold P8; split
  · exact (S _).app ((a5y _ _ fun G hG => by obtain ⟨y, _, rfl⟩ := List.mem_map.1 hG; exact S _).app (S _))
  · intro g hg; cases hg
 unfold gUn
 split
 · exact (S _).app ((a7K _).app (hx.app (S _)))
 · refine (S _).app ((a7K _).app ((S _).app ((a7K _).app (Full.app ?_ (hv.app ((S _).app (hq.app (S _))))))))
   split
   · exact (S _).app (hx.app (S _))
   · intro g hg; cases hg
theorem a3N {out : List m7} {l : List Pm} (hl : l.length ≤ 1000) (h : out.length ≤ 100000000) : b7O T.rf out l = some (out ++ wrG (gIn l)) := d2i (by
 have hg := a6R [59] l
 simp only [c1C]
 rw [o9 (by simp only [length_cons, length_nil]; omega) (by simp), bind_some, b0b _ (by omega) (by simp only [wrl, sgl, length_cons, length_nil]; omega), bind_some,
  o9 (by simp only [wrl, sgl, length_cons, length_nil]; omega) (by simp), bind_some]
 simp only [gIn, F8, List.append_assoc])
theorem b8K {out : List m7} {x : Itm} (hx : I7 x = true) (h : out.length ≤ 100000000) : c4W T.rf out x = some (out ++ wrG (gIt x)) := d2l (by
 have b1 : ∀ k : Int, k ≠ x.1 → (x.1 == k) = false := fun k hk => bf (fun h => hk h.symm)
 cases itF hx with
 | ag k nm ty e f a =>
   rcases k with k | k
   · simp only [b2V, bt k, cond_true]
     rw [o9 (by simp only [length_cons, length_nil]; omega) (by simp), bind_some, Z4 e (by simp only [wrl, sgl, length_cons, length_nil]; omega), bind_some, o9 (by simp only [wrl, sgl, Y9, length_cons, length_nil]; omega) (by simp), bind_some]
     simp only [gIt, if_pos k, F8, List.append_assoc]
   · simp only [b2V, bf (show x.1 ≠ 1 by omega), bt k, cond_true, cond_false]
     rw [o9 (by simp only [length_cons, length_nil]; omega) (by simp), bind_some, Z4 e (by simp only [wrl, sgl, length_cons, length_nil]; omega), bind_some, o9 (by simp only [wrl, sgl, Y9, length_cons, length_nil]; omega) (by simp), bind_some]
     simp only [gIt, if_neg (show ¬ x.1 = 1 by omega), if_pos k, F8, List.append_assoc]
 | gh k nm ty e f a =>
   simp only [b2V, bf (show x.1 ≠ 1 by omega), bf (show x.1 ≠ 2 by omega), bt k, cond_true, cond_false]
   rw [o9 (by simp only [length_cons, length_nil]; omega) (by simp), bind_some, b0h _ (by simp only [wrl, sgl, length_cons, length_nil]; omega), bind_some, o9 (by simp only [wrl, sgl, a6Q, length_cons, length_nil]; omega) (by simp), bind_some, Z4 e (by simp only [wrl, sgl, a6Q, length_cons, length_nil]; omega), bind_some, o9 (by simp only [wrl, sgl, Y9, a6Q, length_cons, length_nil]; omega) (by simp), bind_some]
   simp only [gIt, if_neg (show ¬ x.1 = 1 by omega), if_neg (show ¬ x.1 = 2 by omega), if_pos k, F8, List.append_assoc]
 | md k nm ty e f a =>
   simp only [b2V, bf (show x.1 ≠ 1 by omega), bf (show x.1 ≠ 2 by omega), bf (show x.1 ≠ 3 by omega), bt k, cond_true, cond_false]
   rw [o9 (by simp only [length_cons, length_nil]; omega) (by simp), bind_some, Z4 e (by simp only [wrl, sgl, length_cons, length_nil]; omega), bind_some, o9 (by simp only [wrl, sgl, Y9, length_cons, length_nil]; omega) (by simp), bind_some, Z4 f (by simp only [wrl, sgl, Y9, length_cons, length_nil]; omega), bind_some, o9 (by simp only [wrl, sgl, Y9, length_cons, length_nil]; omega) (by simp), bind_some]
   simp only [gIt, if_neg (show ¬ x.1 = 1 by omega), if_neg (show ¬ x.1 = 2 by omega), if_neg (show ¬ x.1 = 3 by omega), if_pos k, F8, List.append_assoc]
 | im k nm ty e f l a =>
   have hg := b5d [44] x.2.2.2.2.2
   simp only [b2V, bf (show x.1 ≠ 1 by omega), bf (show x.1 ≠ 2 by omega), bf (show x.1 ≠ 3 by omega), bf (show x.1 ≠ 4 by omega), bt k, cond_true, cond_false]
   rw [o9 (by simp only [length_cons, length_nil]; omega) (by simp), bind_some, b6D _ a (by omega) (by simp only [wrl, sgl, length_cons, length_nil]; omega), bind_some, o9 (by simp only [wrl, sgl, length_cons, length_nil]; omega) (by simp), bind_some, o9 (by simp only [wrl, sgl, length_cons, length_nil]; omega) (by simp), bind_some]
   simp only [gIt, if_neg (show ¬ x.1 = 1 by omega), if_neg (show ¬ x.1 = 2 by omega), if_neg (show ¬ x.1 = 3 by omega), if_neg (show ¬ x.1 = 4 by omega), F8, List.append_assoc])
theorem d1C (N : Nat) (hN : N ≤ 1000) : ∀ (suf pre : List Itm) (out : List m7), N = (pre ++ suf).length → (∀ x ∈ suf, I7 x = true) → out.length + suf.length * 410 ≤ 100000000 →
  b8w T.rb out (pre ++ suf) ((N : Nat) : Int) (pre.length : Nat) = some (out ++ wrG (a0t suf))
 | [], pre, out, h, _, _ => c3T (by simp only [b7C, b1e pre h, cond_false]; simp [a0t, wrG])
 | x :: suf, pre, out, h, hx, hl => c3T (by
   simp only [length_cons] at hl
   have h1 := b5e (hx x (by simp))
   have hp : pre.length < 4611686018427387904 := by simp at h; omega
   have ih := d1C N hN suf (pre ++ [x]) (out ++ wrG (gIt x)) (by simpa using h) (fun y hy => hx y (List.mem_cons_of_mem _ hy)) (by rw [wrl]; omega)
   simp only [List.append_assoc, List.singleton_append] at ih
   simp only [b7C, a4B pre x suf h, m5, m6, cond_true, bind_some, b8K (out := out) (hx x (by simp)) (by omega), s3 pre x hp, ih]
   rw [show a0t (x :: suf) = gIt x ++ a0t suf from rfl, F8])
theorem d1E (N : Nat) (hN : N ≤ 1000) : ∀ (suf pre : List Eqn) (out : List m7), N = (pre ++ suf).length → (∀ x ∈ suf, V8 x = true) → out.length + suf.length * 4 ≤ 100000000 →
  b6B T.rb out (pre ++ suf) ((N : Nat) : Int) (pre.length : Nat) = some (out ++ wrG (a0s suf))
 | [], pre, out, h, _, _ => c3U (by simp only [b7D, b1e pre h, cond_false]; simp [a0s, wrG])
 | x :: suf, pre, out, h, hx, hl => c3U (by
   simp only [length_cons] at hl
   have hp : pre.length < 4611686018427387904 := by simp at h; omega
   have he := (eqF (hx x (by simp))).2
   have ih := d1E N hN suf (pre ++ [x]) (out ++ wrG (gEq x)) (by simpa using h) (fun y hy => hx y (List.mem_cons_of_mem _ hy)) (by rw [wrl, show (gEq x).length = 4 from rfl]; omega)
   simp only [List.append_assoc, List.singleton_append] at ih
   simp only [b7D, a4B pre x suf h, m5, m6, cond_true, bind_some, s3 pre x hp]
   rw [o9 (by simp only [length_cons, length_nil]; omega) (by simp), bind_some, Z4 he (by simp only [wrl, sgl, length_cons, length_nil]; omega), bind_some, o9 (by simp only [wrl, sgl, Y9, length_cons, length_nil]; omega) (by simp), bind_some]
   rw [show out ++ wrG (sg [x.1, [61]]) ++ wrG (gE x.2) ++ wrG (sg [[59]]) = out ++ wrG (gEq x) by simp only [gEq, F8, List.append_assoc], ih]
   rw [show a0s (x :: suf) = gEq x ++ a0s suf from rfl, F8])
theorem d1D {u : Unt} (hu : K5 u = true) {out : List m7} (h : out.length ≤ 60000000) :
  ∃ z, b6A T.rb u out = some z ∧ (z = .inl (u, out ++ wrG (if u.1 = true then [] else P8 u.2.2.2.2.2.1 ++ (sg [[108, 101, 116]] ++ (a0s u.2.2.2.2.2.2.1 ++ sg [[116, 101, 108]])))) ∨ z = .inr (u, out ++ wrG (if u.1 = true then [] else P8 u.2.2.2.2.2.1 ++ (sg [[108, 101, 116]] ++ (a0s u.2.2.2.2.2.2.1 ++ sg [[116, 101, 108]]))))) := by
 have H := unF hu
 cases hk : u.1 with
 | true =>
   exact ⟨.inl (u, out), b9a (by simp only [b5Z, hk, cond_true]), .inl (by rw [if_pos rfl]; simp [wrG])⟩
 | false =>
   simp only [if_neg (show ¬ (false = true) by decide)]
   have hg := a6R [59] u.2.2.2.2.2.1
   have hq := a7I u.2.2.2.2.2.2.1
   have hv := H.v
   have hqq := H.q
   have loop : ∀ o : List m7, o.length ≤ 60001000 → b6B T.rb o u.2.2.2.2.2.2.1 ((u.2.2.2.2.2.2.1.length : Nat) : Int) 0 = some (o ++ wrG (a0s u.2.2.2.2.2.2.1)) := fun o ho => by
    have := d1E u.2.2.2.2.2.2.1.length (by omega) u.2.2.2.2.2.2.1 [] o rfl H.qb (by omega)
    simpa using this
   by_cases hvl : u.2.2.2.2.2.1.length > 0
   · refine ⟨.inr (u, out ++ wrG (P8 u.2.2.2.2.2.1 ++ (sg [[108, 101, 116]] ++ (a0s u.2.2.2.2.2.2.1 ++ sg [[116, 101, 108]])))), b9a ?_, .inr rfl⟩
     simp only [b5Z, hk, cond_false, dt (show ((u.2.2.2.2.2.1.length : Nat) : Int) > 0 by omega), cond_true]
     rw [o9 (by simp only [length_cons, length_nil]; omega) (by simp), bind_some, b0b _ (by omega) (by simp only [wrl, sgl, length_cons, length_nil]; omega), bind_some, o9 (by simp only [wrl, sgl, length_cons, length_nil]; omega) (by simp), bind_some, o9 (by simp only [wrl, sgl, length_cons, length_nil]; omega) (by simp), bind_some,
      loop _ (by simp only [wrl, sgl, length_cons, length_nil]; omega), bind_some, o9 (by simp only [wrl, sgl, length_cons, length_nil]; omega) (by simp), bind_some]
     simp only [P8, if_pos hvl, F8, List.append_assoc]
   · refine ⟨.inr (u, out ++ wrG (P8 u.2.2.2.2.2.1 ++ (sg [[108, 101, 116]] ++ (a0s u.2.2.2.2.2.2.1 ++ sg [[116, 101, 108]])))), b9a ?_, .inr rfl⟩
     simp only [b5Z, hk, cond_false, df (show ¬ ((u.2.2.2.2.2.1.length : Nat) : Int) > 0 by omega)]
     rw [o9 (by simp only [length_cons, length_nil]; omega) (by simp), bind_some, loop _ (by simp only [wrl, sgl, length_cons, length_nil]; omega), bind_some, o9 (by simp only [wrl, sgl, length_cons, length_nil]; omega) (by simp), bind_some]
     simp only [P8, if_neg hvl, F8, List.append_assoc]
     simp [wrG]
theorem b8N {u : Unt} (hu : K5 u = true) {out : List m7} (h : out.length ≤ 50000000) {R : List m7}
  (hR : R = out ++ wrG (a0t u.2.2.2.2.2.2.2 ++ ((if u.1 = true ∨ u.2.2.2.2.2.2.2.length > 0 then sg [[101, 110, 100]] else []) ++ (if u.1 = true then [] else P8 u.2.2.2.2.2.1 ++ (sg [[108, 101, 116]] ++ (a0s u.2.2.2.2.2.2.1 ++ sg [[116, 101, 108]])))))) :
  ∃ z, b8v T.rb u out = some z ∧ (z = .inl (u, R) ∨ z = .inr (u, R)) := by
 have H := unF hu
 have hx := a7L _ H.xb
 have hxl := H.x
 have loop : b8w T.rb out u.2.2.2.2.2.2.2 ((u.2.2.2.2.2.2.2.length : Nat) : Int) 0 = some (out ++ wrG (a0t u.2.2.2.2.2.2.2)) := by
  have := d1C u.2.2.2.2.2.2.2.length (by omega) u.2.2.2.2.2.2.2 [] out rfl H.xb (by omega)
  simpa using this
 have fin : ∀ (o : List m7), o.length ≤ 60000000 → o ++ wrG (if u.1 = true then [] else P8 u.2.2.2.2.2.1 ++ (sg [[108, 101, 116]] ++ (a0s u.2.2.2.2.2.2.1 ++ sg [[116, 101, 108]]))) = R → ∃ z, b6A T.rb u o = some z ∧ (z = .inl (u, R) ∨ z = .inr (u, R)) := fun o ho hr => by
  obtain ⟨z, h1, h2⟩ := d1D hu ho
  exact ⟨z, h1, by rw [hr] at h2; exact h2⟩
 by_cases hc : u.1 = true ∨ u.2.2.2.2.2.2.2.length > 0
 · rw [if_pos hc] at hR
   obtain ⟨z, h1, h2⟩ := fin (out ++ wrG (a0t u.2.2.2.2.2.2.2) ++ wrG (sg [[101, 110, 100]])) (by simp only [wrl, sgl, length_cons, length_nil]; omega) (by rw [hR]; simp only [F8, List.append_assoc])
   refine ⟨z, c3S ?_, h2⟩
   simp only [b7B, loop, bind_some]
   have hp := o9 (out := out ++ wrG (a0t u.2.2.2.2.2.2.2)) (l := [[101, 110, 100]]) (by simp only [wrl, sgl, length_cons, length_nil]; omega) (by simp)
   cases hk : u.1 with
   | true =>
     rw [cond_true, hp, bind_some, h1, bind_some]
     rcases h2 with rfl | rfl <;> rfl
   | false =>
     rw [hk] at hc
     have hl : u.2.2.2.2.2.2.2.length > 0 := hc.resolve_left (by decide)
     rw [cond_false, dt (show ((u.2.2.2.2.2.2.2.length : Nat) : Int) > 0 by omega), cond_true, hp, bind_some, h1, bind_some]
     rcases h2 with rfl | rfl <;> rfl
 · rw [if_neg hc] at hR
   have hk : u.1 = false := by
    cases hk : u.1 with
    | true => exact absurd (.inl hk) hc
    | false => rfl
   have hl : ¬ u.2.2.2.2.2.2.2.length > 0 := fun h => hc (.inr h)
   obtain ⟨z, h1, h2⟩ := fin (out ++ wrG (a0t u.2.2.2.2.2.2.2)) (by simp only [wrl]; omega) (by rw [hR]; simp only [F8, List.append_assoc, List.nil_append])
   refine ⟨z, c3S ?_, h2⟩
   simp only [b7B, loop, bind_some, hk, cond_false, df (show ¬ ((u.2.2.2.2.2.2.2.length : Nat) : Int) > 0 by omega)]
   rw [h1, bind_some]
   rcases h2 with rfl | rfl <;> rfl
theorem b8O {u : Unt} (hu : K5 u = true) {out : List m7} (h : out.length ≤ 40000000) : c4V T.rf out u = some (out ++ wrG (gUn u)) := d2g (by
 have H := unF hu
 have hi := H.i
 have hI := a6P u.2.2.1
 have hO := a6P [(u.2.2.2.1, u.2.2.2.2.1)]
 simp only [length_cons, length_nil] at hO
 simp only [c1A]
 cases hk : u.1 with
 | true =>
   rw [cond_true, o9 (by simp only [length_cons, length_nil]; omega) (by simp), bind_some, a3N (by omega) (by simp only [wrl, sgl, length_cons, length_nil]; omega), bind_some]
   obtain ⟨z, h1, h2⟩ := b8N hu (out := out ++ wrG (sg [[99, 111, 110, 116, 114, 97, 99, 116], u.2.1]) ++ wrG (gIn u.2.2.1)) (by simp only [wrl, sgl, length_cons, length_nil]; omega) rfl
   rw [h1, bind_some]
   have e : out ++ wrG (sg [[99, 111, 110, 116, 114, 97, 99, 116], u.2.1]) ++ wrG (gIn u.2.2.1) ++ wrG (a0t u.2.2.2.2.2.2.2 ++ ((if u.1 = true ∨ u.2.2.2.2.2.2.2.length > 0 then sg [[101, 110, 100]] else []) ++ (if u.1 = true then [] else P8 u.2.2.2.2.2.1 ++ (sg [[108, 101, 116]] ++ (a0s u.2.2.2.2.2.2.1 ++ sg [[116, 101, 108]]))))) = out ++ wrG (gUn u) := by
    rw [if_pos (.inl hk), if_pos hk, List.append_nil, gUn, if_pos hk]
    simp only [F8, List.append_assoc]
   rw [e] at h2
   rcases h2 with rfl | rfl <;> rfl
 | false =>
   rw [cond_false, o9 (by simp only [length_cons, length_nil]; omega) (by simp), bind_some, a3N (by omega) (by simp only [wrl, sgl, length_cons, length_nil]; omega), bind_some, o9 (by simp only [wrl, sgl, length_cons, length_nil]; omega) (by simp), bind_some,
    a3N (by simp) (by simp only [wrl, sgl, length_cons, length_nil]; omega), bind_some]
   have hnt : ¬ (u.1 = true) := by rw [hk]; decide
   by_cases hl : u.2.2.2.2.2.2.2.length > 0
   · rw [dt (show ((u.2.2.2.2.2.2.2.length : Nat) : Int) > 0 by omega), cond_true, o9 (by simp only [wrl, sgl, length_cons, length_nil]; omega) (by simp), bind_some]
     obtain ⟨z, h1, h2⟩ := b8N hu (out := out ++ wrG (sg [[110, 111, 100, 101], u.2.1]) ++ wrG (gIn u.2.2.1) ++ wrG (sg [[114, 101, 116, 117, 114, 110, 115]]) ++ wrG (gIn [(u.2.2.2.1, u.2.2.2.2.1)]) ++ wrG (sg [[99, 111, 110, 116, 114, 97, 99, 116]])) (by simp only [wrl, sgl, length_cons, length_nil]; omega) rfl
     rw [h1, bind_some]
     rw [if_pos (.inr hl), if_neg hnt] at h2
     have e : out ++ wrG (sg [[110, 111, 100, 101], u.2.1]) ++ wrG (gIn u.2.2.1) ++ wrG (sg [[114, 101, 116, 117, 114, 110, 115]]) ++ wrG (gIn [(u.2.2.2.1, u.2.2.2.2.1)]) ++ wrG (sg [[99, 111, 110, 116, 114, 97, 99, 116]]) ++ wrG (a0t u.2.2.2.2.2.2.2 ++ (sg [[101, 110, 100]] ++ (P8 u.2.2.2.2.2.1 ++ (sg [[108, 101, 116]] ++ (a0s u.2.2.2.2.2.2.1 ++ sg [[116, 101, 108]]))))) = out ++ wrG (gUn u) := by
      rw [gUn, if_neg hnt, if_pos hl]
      simp only [F8, List.append_assoc]
     rw [e] at h2
     rcases h2 with rfl | rfl <;> rfl
   · rw [df (show ¬ ((u.2.2.2.2.2.2.2.length : Nat) : Int) > 0 by omega), cond_false]
     obtain ⟨z, h1, h2⟩ := b8N hu (out := out ++ wrG (sg [[110, 111, 100, 101], u.2.1]) ++ wrG (gIn u.2.2.1) ++ wrG (sg [[114, 101, 116, 117, 114, 110, 115]]) ++ wrG (gIn [(u.2.2.2.1, u.2.2.2.2.1)])) (by simp only [wrl, sgl, length_cons, length_nil]; omega) rfl
     rw [h1, bind_some]
     rw [if_neg (fun h => h.elim hnt hl), if_neg hnt] at h2
     have hx0 : u.2.2.2.2.2.2.2 = [] := List.length_eq_zero_iff.1 (by omega)
     have e : out ++ wrG (sg [[110, 111, 100, 101], u.2.1]) ++ wrG (gIn u.2.2.1) ++ wrG (sg [[114, 101, 116, 117, 114, 110, 115]]) ++ wrG (gIn [(u.2.2.2.1, u.2.2.2.2.1)]) ++ wrG (a0t u.2.2.2.2.2.2.2 ++ ([] ++ (P8 u.2.2.2.2.2.1 ++ (sg [[108, 101, 116]] ++ (a0s u.2.2.2.2.2.2.1 ++ sg [[116, 101, 108]]))))) = out ++ wrG (gUn u) := by
      rw [gUn, if_neg hnt, if_neg hl, hx0]
      simp only [F8, List.append_assoc]
      simp [a0t, wrG]
     rw [e] at h2
     rcases h2 with rfl | rfl <;> rfl)
theorem b5u (N : Nat) (hN : N ≤ 1000) : ∀ (suf pre : List Unt) (out : List m7), N = (pre ++ suf).length → (∀ x ∈ suf, K5 x = true) → out.length + suf.length * 90000 ≤ 40000000 →
  b8x T.rb out (pre ++ suf) ((N : Nat) : Int) (pre.length : Nat) = some (out ++ wrG (a7M suf))
 | [], pre, out, h, _, _ => c3V (by simp only [b7E, b1e pre h, cond_false]; simp [a7M, wrG])
 | x :: suf, pre, out, h, hx, hl => c3V (by
   simp only [length_cons] at hl
   have h1 := b5f (hx x (by simp))
   have hp : pre.length < 4611686018427387904 := by simp at h; omega
   have e : a7M (x :: suf) = gUn x ++ a7M suf := rfl
   have ih := b5u N hN suf (pre ++ [x]) (out ++ wrG (gUn x)) (by simpa using h) (fun y hy => hx y (List.mem_cons_of_mem _ hy)) (by rw [wrl]; omega)
   simp only [List.append_assoc, List.singleton_append] at ih
   simp only [b7E, a4B pre x suf h, m5, m6, cond_true, bind_some, b8O (out := out) (hx x (by simp)) (by omega), s3 pre x hp, ih]
   rw [e, F8])
theorem b2q : ∀ l : List Unt, (∀ u ∈ l, K5 u = true) → (a7M l).length ≤ l.length * 90000
 | [], _ => by simp [a7M]
 | x :: l, h => by
   have h1 := b5f (h x (by simp))
   have h2 := b2q l fun y hy => h y (List.mem_cons_of_mem _ hy)
   have e : a7M (x :: l) = gUn x ++ a7M l := rfl
   rw [e, length_append, length_cons]; omega
theorem a7h {n m : Nat} {p : Prg} (h : SzP n m p) (hn : n ≤ 1000000) (hm : m ≤ 1000000) (hj : a1o p = true → (J (wPg p)).length ≤ 200000000000) : c66 T.rf p = some (if a1o p = true then txt (wPg p) else []) := d5O (by
 simp only [r66, b1L h hn hm, bind_some]
 cases hp : a1o p with
 | false => rfl
 | true =>
   have H := pgF hp
   have hnl := H.n
   have hgl := b2q _ H.u
   have loop : b8x T.rb [] p.1 ((p.1.length : Nat) : Int) 0 = some (wrG (a7M p.1)) := by
    have := b5u p.1.length (by omega) p.1 [] [] rfl H.u (by simp only [length_nil]; omega)
    simpa using this
   have full : Full (gPg p) := (a2K _ fun u hu => b8m (H.u u hu)).app (Full.sg _)
   have join : ∀ l, l = wrG (gPg p) → b6f T.rf l = some (txt (wPg p)) := fun l hl => c4a (by
    have hlen : (txt (wPg p)).length ≤ 274877906944 := by
     have := hj hp
     unfold txt; rw [List.length_drop]; omega
    subst hl
    simp only [b9x, b8t full, b8j, m8 hlen, cond_true])
   rw [Bool.not_true, cond_false, loop, bind_some, o9 (by rw [a2C]; simp only [length_cons, length_nil]; omega) (by simp), bind_some, if_pos rfl]
   by_cases hb : p.2.2 = []
   · rw [beq_iff_eq.2 hb, Bool.not_true, cond_false, join _ (by rw [gPg, F8, b3v, if_pos hb]), bind_some]
   · rw [beq_eq_false_iff_ne.2 hb, Bool.not_false, cond_true, o9 (by rw [wrl, a2C]; simp only [sgl, length_cons, length_nil]; omega) (by simp), bind_some, join _ (by
      rw [gPg, F8, b3v, if_neg hb, List.append_assoc, ← F8]; rfl), bind_some])
end Go.Proofs.YtlobhcgbmpcdlaaGreatDoor.R
