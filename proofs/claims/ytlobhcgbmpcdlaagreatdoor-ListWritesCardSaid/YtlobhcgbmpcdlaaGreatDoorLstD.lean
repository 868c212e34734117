import Derived.Test.YtlobhcgbmpcdlaaGreatDoorLstC
open Option (bind_some)
open List (length_append length_cons length_nil)
open Bool (and_eq_true)
namespace Go.Proofs.YtlobhcgbmpcdlaaGreatDoor.R
open Go Go.Bm Go.Proofs
set_option linter.unusedVariables false
set_option linter.unusedSimpArgs false
set_option maxRecDepth 4000
theorem wrl (out : List s4) (G : List (List Str)) : (out ++ wrG G).length = out.length + G.length := by rw [length_append, a1C]
theorem sgl (l : List Str) : (sg l).length = l.length := by simp [sg]
theorem a6I {α : Type} {g : α → List (List Str)} (s : Str) (B : Nat) : ∀ l : List α, (∀ x ∈ l, (g x).length ≤ B) → (X0 s (l.map g)).length ≤ l.length * (B + 1) ∧ (a0D s (l.map g)).length ≤ l.length * (B + 1)
 | [], _ => by simp [X0, a0D]
 | x :: r, h => by
   have hx := h x (by simp)
   have ih := a6I s B r fun y hy => h y (List.mem_cons_of_mem _ hy)
   have hmul : (r.length + 1) * (B + 1) = r.length * (B + 1) + (B + 1) := Nat.succ_mul _ _
   simp only [List.map_cons, X0, a0D, length_cons, length_append, hmul]
   omega
theorem b3s (s : Str) (l : List (List Nd)) : (a0D s (l.map gE)).length ≤ l.length * 2 := (a6I s 1 l fun x _ => by simp [gE]).2
theorem a5K (s : Str) (l : List Pm) : (a0D s (l.map gPm)).length ≤ l.length * 4 := (a6I s 3 l fun x _ => by simp [gPm, sg, wPm]).2
theorem R7 (e : List Nd) : (gE e).length = 1 := rfl
theorem a5J (p : Pm) : (gPm p).length = 3 := rfl
theorem a5I (l : List Pm) : (gIn l).length ≤ l.length * 4 + 2 := by
 have := a5K [59] l
 simp only [gIn, length_append, sgl, length_cons, length_nil]; omega
inductive ItF (x : Itm) : Prop
 | ag (k : x.1 = 1 ∨ x.1 = 2) (nm : x.2.1 = []) (ty : x.2.2.1 = 0) (e : B3 x.2.2.2.1 = true) (f : x.2.2.2.2.1 = []) (a : x.2.2.2.2.2 = [])
 | gh (k : x.1 = 3) (nm : o5 x.2.1 = true) (ty : x.2.2.1 = 1 ∨ x.2.2.1 = 2) (e : B3 x.2.2.2.1 = true) (f : x.2.2.2.2.1 = []) (a : x.2.2.2.2.2 = [])
 | md (k : x.1 = 4) (nm : o5 x.2.1 = true) (ty : x.2.2.1 = 0) (e : B3 x.2.2.2.1 = true) (f : B3 x.2.2.2.2.1 = true) (a : x.2.2.2.2.2 = [])
 | im (k : x.1 = 5) (nm : o5 x.2.1 = true) (ty : x.2.2.1 = 0) (e : x.2.2.2.1 = []) (f : x.2.2.2.2.1 = []) (l : x.2.2.2.2.2.length ≤ 200) (a : ∀ y ∈ x.2.2.2.2.2, B3 y = true)
theorem itF {x : Itm} (h : T7 x = true) : ItF x := by
 unfold T7 at h
 split at h
 · rename_i k
   simp only [and_eq_true, beq_iff_eq, decide_eq_true_eq, List.length_eq_zero_iff] at h
   exact .ag k h.1 h.2.1 h.2.2.1 h.2.2.2.1 h.2.2.2.2
 split at h
 · rename_i k
   simp only [and_eq_true, Bool.or_eq_true, beq_iff_eq, decide_eq_true_eq, List.length_eq_zero_iff] at h
   exact .gh k h.1 h.2.1 h.2.2.1 h.2.2.2.1 h.2.2.2.2
 split at h
 · rename_i k
   simp only [and_eq_true, beq_iff_eq, decide_eq_true_eq, List.length_eq_zero_iff] at h
   exact .md k h.1 h.2.1 h.2.2.1 h.2.2.2.1 h.2.2.2.2
 split at h
 · rename_i k
   simp only [and_eq_true, beq_iff_eq, decide_eq_true_eq, List.length_eq_zero_iff, List.all_eq_true] at h
   exact .im k h.1 h.2.1 h.2.2.1 h.2.2.2.1 h.2.2.2.2.1 h.2.2.2.2.2
 · cases h
structure UnF (u : Unt) : Prop where
 nm : o5 u.2.1 = true
 i : u.2.2.1.length ≤ 200
 ib : ∀ p ∈ u.2.2.1, M9 p = true
 v : u.2.2.2.2.2.1.length ≤ 200
 vb : ∀ p ∈ u.2.2.2.2.2.1, M9 p = true
 q : u.2.2.2.2.2.2.1.length ≤ 200
 qb : ∀ p ∈ u.2.2.2.2.2.2.1, a3i p = true
 x : u.2.2.2.2.2.2.2.length ≤ 200
 xb : ∀ p ∈ u.2.2.2.2.2.2.2, T7 p = true
 k : u.1 = true → u.2.2.2.1 = [] ∧ u.2.2.2.2.1 = 0 ∧ u.2.2.2.2.2.1 = [] ∧ u.2.2.2.2.2.2.1 = []
 o : u.1 = false → M9 (u.2.2.2.1, u.2.2.2.2.1) = true
theorem unF {u : Unt} (h : T4 u = true) : UnF u := by
 unfold T4 a0v at h
 simp only [and_eq_true, decide_eq_true_eq, List.all_eq_true] at h
 obtain ⟨h1, ⟨h2, h3⟩, ⟨h4, h5⟩, ⟨h6, h7⟩, ⟨h8, h9⟩, h10⟩ := h
 refine ⟨h1, h2, h3, h4, h5, h6, h7, h8, h9, fun k => ?_, fun k => ?_⟩
 · rw [k, cond_true] at h10
   simp only [and_eq_true, beq_iff_eq, decide_eq_true_eq, List.length_eq_zero_iff] at h10
   exact ⟨h10.1.1, h10.1.2, h10.2.1, h10.2.2⟩
 · rw [k, cond_false] at h10; exact h10
structure PgF (p : Prg) : Prop where
 mn : o5 p.2.1 = true
 bk : p.2.2 = [] ∨ o5 p.2.2 = true
 n : p.1.length ≤ 200
 u : ∀ u ∈ p.1, T4 u = true
theorem pgF {p : Prg} (h : a3C p = true) : PgF p := by
 unfold a3C at h
 simp only [and_eq_true, Bool.or_eq_true, beq_iff_eq, decide_eq_true_eq, List.all_eq_true] at h
 exact ⟨h.1, h.2.1, h.2.2.1, h.2.2.2⟩
theorem eqF {q : Eqn} (h : a3i q = true) : o5 q.1 = true ∧ B3 q.2 = true := by rw [a3i, and_eq_true] at h; exact h
theorem b3t {x : Itm} (h : T7 x = true) : (gIt x).length ≤ 410 := by
 have hE := b3s [44] x.2.2.2.2.2
 have hl : x.2.2.2.2.2.length ≤ 200 := by
  cases itF h with
  | ag k nm ty e f a => rw [a]; simp
  | gh k nm ty e f a => rw [a]; simp
  | md k nm ty e f a => rw [a]; simp
  | im k nm ty e f l a => exact l
 unfold gIt
 split
 · simp only [length_append, sgl, R7, length_cons, length_nil]; omega
 split
 · simp only [length_append, sgl, R7, length_cons, length_nil]; omega
 split
 · simp only [length_append, sgl, R7, a5J, length_cons, length_nil]; omega
 split
 · simp only [length_append, sgl, R7, length_cons, length_nil]; omega
 · simp only [length_append, sgl, length_cons, length_nil]; omega
theorem a6F : ∀ l : List Itm, (∀ x ∈ l, T7 x = true) → (W3 l).length ≤ l.length * 410
 | [], _ => by simp [W3]
 | x :: l, h => by
   have h1 := b3t (h x (by simp))
   have h2 := a6F l fun y hy => h y (List.mem_cons_of_mem _ hy)
   have e : W3 (x :: l) = gIt x ++ W3 l := rfl
   rw [e, length_append, length_cons]; omega
theorem a6C : ∀ l : List Eqn, (W0 l).length = l.length * 4
 | [] => by simp [W0]
 | x :: l => by
   have h2 := a6C l
   have e : W0 (x :: l) = gEq x ++ W0 l := rfl
   have e2 : (gEq x).length = 4 := rfl
   rw [e, length_append, length_cons]; omega
theorem b4R (l : List Pm) : (L7 l).length ≤ l.length * 4 + 2 := by
 have := a5K [59] l
 unfold L7; split
 · simp only [length_append, sgl, length_cons, length_nil]; omega
 · simp
theorem b3u {u : Unt} (h : T4 u = true) : (gUn u).length ≤ 90000 := by
 have H := unF h
 have h1 := a5I u.2.2.1
 have h2 := a5I [(u.2.2.2.1, u.2.2.2.2.1)]
 have h3 := a6F _ H.xb
 have h4 := b4R u.2.2.2.2.2.1
 have h5 := a6C u.2.2.2.2.2.2.1
 have a := H.i; have b := H.v; have c := H.q; have d := H.x
 simp only [length_cons, length_nil] at h2
 unfold gUn
 split
 · simp only [length_append, sgl, length_cons, length_nil]; omega
 · split
   · simp only [length_append, sgl, length_cons, length_nil]; omega
   · simp only [length_append, sgl, length_cons, length_nil]; omega
theorem b3r {e : List Nd} (he : B3 e = true) : Full (gE e) := fun g hg => by
 have : g = n7 e := by simpa [gE] using hg
 rw [this]; exact (ef he).len
theorem b6L {x : Itm} (h : T7 x = true) : Full (gIt x) := by
 have fe : ∀ {e : List Nd}, B3 e = true → Full (gE e) := fun he => b3r he
 have S : ∀ l, Full (sg l) := Full.sg
 cases itF h with
 | ag k nm ty e f a =>
   unfold gIt
   rcases k with k | k
   · rw [if_pos k]; exact (S _).app ((fe e).app (S _))
   · rw [if_neg (by omega), if_pos k]; exact (S _).app ((fe e).app (S _))
 | gh k nm ty e f a =>
   unfold gIt
   rw [if_neg (by omega), if_neg (by omega), if_pos k]
   exact (S _).app ((S _).app ((S _).app ((fe e).app (S _))))
 | md k nm ty e f a =>
   unfold gIt
   rw [if_neg (by omega), if_neg (by omega), if_neg (by omega), if_pos k]
   exact (S _).app ((fe e).app ((S _).app ((fe f).app (S _))))
 | im k nm ty e f l a =>
   unfold gIt
   rw [if_neg (by omega), if_neg (by omega), if_neg (by omega), if_neg (by omega)]
   refine (S _).app ((a4q _ _ fun G hG => ?_).app ((S _).app (S _)))
   obtain ⟨y, hy, rfl⟩ := List.mem_map.1 hG
   exact fe (a y hy)
theorem a1H {α : Type} {g : α → List (List Str)} : ∀ l : List α, (∀ x ∈ l, Full (g x)) → Full (l.map g).flatten
 | [], _ => fun x hx => by cases hx
 | x :: l, h => by
   rw [List.map_cons, List.flatten_cons]
   exact (h x (by simp)).app (a1H l fun y hy => h y (List.mem_cons_of_mem _ hy))
theorem a6E (l : List Pm) : Full (gIn l) := (Full.sg _).app ((a4q _ _ fun G hG => by obtain ⟨y, _, rfl⟩ := List.mem_map.1 hG; exact Full.sg _).app (Full.sg _))
theorem b6P {u : Unt} (h : T4 u = true) : Full (gUn u) := by
 have H := unF h
 have S : ∀ l, Full (sg l) := Full.sg
 have hx : Full (W3 u.2.2.2.2.2.2.2) := a1H _ fun x hx => b6L (H.xb x hx)
 have hq : Full (W0 u.2.2.2.2.2.2.1) := a1H _ fun q hq => (S _).app ((b3r (eqF (H.qb q hq)).2).app (S _))
 have hv : Full (L7 u.2.2.2.2.2.1) := by
  unfold L7; split
  · exact (S _).app ((a4q _ _ fun G hG => by obtain ⟨y, _, rfl⟩ := List.mem_map.1 hG; exact S _).app (S _))
  · intro g hg; cases hg
 unfold gUn
 split
 · exact (S _).app ((a6E _).app (hx.app (S _)))
 · refine (S _).app ((a6E _).app ((S _).app ((a6E _).app (Full.app ?_ (hv.app ((S _).app (hq.app (S _))))))))
   split
   · exact (S _).app (hx.app (S _))
   · intro g hg; cases hg
theorem a2D {out : List s4} {l : List Pm} (hl : l.length ≤ 1000) (h : out.length ≤ 100000000) : b6v T.rf out l = some (out ++ wrG (gIn l)) := d1a (by
 have hg := a5K [59] l
 simp only [c0O]
 rw [m6 (by simp only [length_cons, length_nil]; omega) (by simp), bind_some, a8L _ (by omega) (by simp only [wrl, sgl, length_cons, length_nil]; omega), bind_some,
  m6 (by simp only [wrl, sgl, length_cons, length_nil]; omega) (by simp), bind_some]
 simp only [gIn, D0, List.append_assoc])
theorem b7r {out : List s4} {x : Itm} (hx : T7 x = true) (h : out.length ≤ 100000000) : c5E T.rf out x = some (out ++ wrG (gIt x)) := d1d (by
 have b1 : ∀ k : Int, k ≠ x.1 → (x.1 == k) = false := fun k hk => bf (fun h => hk h.symm)
 cases itF hx with
 | ag k nm ty e f a =>
   rcases k with k | k
   · simp only [b1k, bt k, cond_true]
     rw [m6 (by simp only [length_cons, length_nil]; omega) (by simp), bind_some, S4 e (by simp only [wrl, sgl, length_cons, length_nil]; omega), bind_some, m6 (by simp only [wrl, sgl, R7, length_cons, length_nil]; omega) (by simp), bind_some]
     simp only [gIt, if_pos k, D0, List.append_assoc]
   · simp only [b1k, bf (show x.1 ≠ 1 by omega), bt k, cond_true, cond_false]
     rw [m6 (by simp only [length_cons, length_nil]; omega) (by simp), bind_some, S4 e (by simp only [wrl, sgl, length_cons, length_nil]; omega), bind_some, m6 (by simp only [wrl, sgl, R7, length_cons, length_nil]; omega) (by simp), bind_some]
     simp only [gIt, if_neg (show ¬ x.1 = 1 by omega), if_pos k, D0, List.append_assoc]
 | gh k nm ty e f a =>
   simp only [b1k, bf (show x.1 ≠ 1 by omega), bf (show x.1 ≠ 2 by omega), bt k, cond_true, cond_false]
   rw [m6 (by simp only [length_cons, length_nil]; omega) (by simp), bind_some, a8R _ (by simp only [wrl, sgl, length_cons, length_nil]; omega), bind_some, m6 (by simp only [wrl, sgl, a5J, length_cons, length_nil]; omega) (by simp), bind_some, S4 e (by simp only [wrl, sgl, a5J, length_cons, length_nil]; omega), bind_some, m6 (by simp only [wrl, sgl, R7, a5J, length_cons, length_nil]; omega) (by simp), bind_some]
   simp only [gIt, if_neg (show ¬ x.1 = 1 by omega), if_neg (show ¬ x.1 = 2 by omega), if_pos k, D0, List.append_assoc]
 | md k nm ty e f a =>
   simp only [b1k, bf (show x.1 ≠ 1 by omega), bf (show x.1 ≠ 2 by omega), bf (show x.1 ≠ 3 by omega), bt k, cond_true, cond_false]
   rw [m6 (by simp only [length_cons, length_nil]; omega) (by simp), bind_some, S4 e (by simp only [wrl, sgl, length_cons, length_nil]; omega), bind_some, m6 (by simp only [wrl, sgl, R7, length_cons, length_nil]; omega) (by simp), bind_some, S4 f (by simp only [wrl, sgl, R7, length_cons, length_nil]; omega), bind_some, m6 (by simp only [wrl, sgl, R7, length_cons, length_nil]; omega) (by simp), bind_some]
   simp only [gIt, if_neg (show ¬ x.1 = 1 by omega), if_neg (show ¬ x.1 = 2 by omega), if_neg (show ¬ x.1 = 3 by omega), if_pos k, D0, List.append_assoc]
 | im k nm ty e f l a =>
   have hg := b3s [44] x.2.2.2.2.2
   simp only [b1k, bf (show x.1 ≠ 1 by omega), bf (show x.1 ≠ 2 by omega), bf (show x.1 ≠ 3 by omega), bf (show x.1 ≠ 4 by omega), bt k, cond_true, cond_false]
   rw [m6 (by simp only [length_cons, length_nil]; omega) (by simp), bind_some, b5f _ a (by omega) (by simp only [wrl, sgl, length_cons, length_nil]; omega), bind_some, m6 (by simp only [wrl, sgl, length_cons, length_nil]; omega) (by simp), bind_some, m6 (by simp only [wrl, sgl, length_cons, length_nil]; omega) (by simp), bind_some]
   simp only [gIt, if_neg (show ¬ x.1 = 1 by omega), if_neg (show ¬ x.1 = 2 by omega), if_neg (show ¬ x.1 = 3 by omega), if_neg (show ¬ x.1 = 4 by omega), D0, List.append_assoc])
theorem d0v (N : Nat) (hN : N ≤ 1000) : ∀ (suf pre : List Itm) (out : List s4), N = (pre ++ suf).length → (∀ x ∈ suf, T7 x = true) → out.length + suf.length * 410 ≤ 100000000 →
  b6X T.rb out (pre ++ suf) ((N : Nat) : Int) (pre.length : Nat) = some (out ++ wrG (W3 suf))
 | [], pre, out, h, _, _ => c4g (by simp only [b5T, a0c pre h, cond_false]; simp [W3, wrG])
 | x :: suf, pre, out, h, hx, hl => c4g (by
   simp only [length_cons] at hl
   have h1 := b3t (hx x (by simp))
   have hp : pre.length < 4611686018427387904 := by simp at h; omega
   have ih := d0v N hN suf (pre ++ [x]) (out ++ wrG (gIt x)) (by simpa using h) (fun y hy => hx y (List.mem_cons_of_mem _ hy)) (by rw [wrl]; omega)
   simp only [List.append_assoc, List.singleton_append] at ih
   simp only [b5T, Q2 pre x suf h, e8, e9, cond_true, bind_some, b7r (out := out) (hx x (by simp)) (by omega), j7 pre x hp, ih]
   rw [show W3 (x :: suf) = gIt x ++ W3 suf from rfl, D0])
theorem d0x (N : Nat) (hN : N ≤ 1000) : ∀ (suf pre : List Eqn) (out : List s4), N = (pre ++ suf).length → (∀ x ∈ suf, a3i x = true) → out.length + suf.length * 4 ≤ 100000000 →
  b4Y T.rb out (pre ++ suf) ((N : Nat) : Int) (pre.length : Nat) = some (out ++ wrG (W0 suf))
 | [], pre, out, h, _, _ => c4h (by simp only [b5U, a0c pre h, cond_false]; simp [W0, wrG])
 | x :: suf, pre, out, h, hx, hl => c4h (by
   simp only [length_cons] at hl
   have hp : pre.length < 4611686018427387904 := by simp at h; omega
   have he := (eqF (hx x (by simp))).2
   have ih := d0x N hN suf (pre ++ [x]) (out ++ wrG (gEq x)) (by simpa using h) (fun y hy => hx y (List.mem_cons_of_mem _ hy)) (by rw [wrl, show (gEq x).length = 4 from rfl]; omega)
   simp only [List.append_assoc, List.singleton_append] at ih
   simp only [b5U, Q2 pre x suf h, e8, e9, cond_true, bind_some, j7 pre x hp]
   rw [m6 (by simp only [length_cons, length_nil]; omega) (by simp), bind_some, S4 he (by simp only [wrl, sgl, length_cons, length_nil]; omega), bind_some, m6 (by simp only [wrl, sgl, R7, length_cons, length_nil]; omega) (by simp), bind_some]
   rw [show out ++ wrG (sg [x.1, [61]]) ++ wrG (gE x.2) ++ wrG (sg [[59]]) = out ++ wrG (gEq x) by simp only [gEq, D0, List.append_assoc], ih]
   rw [show W0 (x :: suf) = gEq x ++ W0 suf from rfl, D0])
theorem d0w {u : Unt} (hu : T4 u = true) {out : List s4} (h : out.length ≤ 60000000) :
  ∃ z, b4X T.rb u out = some z ∧ (z = .inl (u, out ++ wrG (if u.1 = true then [] else L7 u.2.2.2.2.2.1 ++ (sg [[108, 101, 116]] ++ (W0 u.2.2.2.2.2.2.1 ++ sg [[116, 101, 108]])))) ∨ z = .inr (u, out ++ wrG (if u.1 = true then [] else L7 u.2.2.2.2.2.1 ++ (sg [[108, 101, 116]] ++ (W0 u.2.2.2.2.2.2.1 ++ sg [[116, 101, 108]]))))) := by
 have H := unF hu
 cases hk : u.1 with
 | true =>
   exact ⟨.inl (u, out), b7L (by simp only [b4n, hk, cond_true]), .inl (by rw [if_pos rfl]; simp [wrG])⟩
 | false =>
   simp only [if_neg (show ¬ (false = true) by decide)]
   have hg := a5K [59] u.2.2.2.2.2.1
   have hq := a6C u.2.2.2.2.2.2.1
   have hv := H.v
   have hqq := H.q
   have loop : ∀ o : List s4, o.length ≤ 60001000 → b4Y T.rb o u.2.2.2.2.2.2.1 ((u.2.2.2.2.2.2.1.length : Nat) : Int) 0 = some (o ++ wrG (W0 u.2.2.2.2.2.2.1)) := fun o ho => by
    have := d0x u.2.2.2.2.2.2.1.length (by omega) u.2.2.2.2.2.2.1 [] o rfl H.qb (by omega)
    simpa using this
   by_cases hvl : u.2.2.2.2.2.1.length > 0
   · refine ⟨.inr (u, out ++ wrG (L7 u.2.2.2.2.2.1 ++ (sg [[108, 101, 116]] ++ (W0 u.2.2.2.2.2.2.1 ++ sg [[116, 101, 108]])))), b7L ?_, .inr rfl⟩
     simp only [b4n, hk, cond_false, dt (show ((u.2.2.2.2.2.1.length : Nat) : Int) > 0 by omega), cond_true]
     rw [m6 (by simp only [length_cons, length_nil]; omega) (by simp), bind_some, a8L _ (by omega) (by simp only [wrl, sgl, length_cons, length_nil]; omega), bind_some, m6 (by simp only [wrl, sgl, length_cons, length_nil]; omega) (by simp), bind_some, m6 (by simp only [wrl, sgl, length_cons, length_nil]; omega) (by simp), bind_some,
      loop _ (by simp only [wrl, sgl, length_cons, length_nil]; omega), bind_some, m6 (by simp only [wrl, sgl, length_cons, length_nil]; omega) (by simp), bind_some]
     simp only [L7, if_pos hvl, D0, List.append_assoc]
   · refine ⟨.inr (u, out ++ wrG (L7 u.2.2.2.2.2.1 ++ (sg [[108, 101, 116]] ++ (W0 u.2.2.2.2.2.2.1 ++ sg [[116, 101, 108]])))), b7L ?_, .inr rfl⟩
     simp only [b4n, hk, cond_false, df (show ¬ ((u.2.2.2.2.2.1.length : Nat) : Int) > 0 by omega)]
     rw [m6 (by simp only [length_cons, length_nil]; omega) (by simp), bind_some, loop _ (by simp only [wrl, sgl, length_cons, length_nil]; omega), bind_some, m6 (by simp only [wrl, sgl, length_cons, length_nil]; omega) (by simp), bind_some]
     simp only [L7, if_neg hvl, D0, List.append_assoc]
     simp [wrG]
theorem b7u {u : Unt} (hu : T4 u = true) {out : List s4} (h : out.length ≤ 50000000) {R : List s4}
  (hR : R = out ++ wrG (W3 u.2.2.2.2.2.2.2 ++ ((if u.1 = true ∨ u.2.2.2.2.2.2.2.length > 0 then sg [[101, 110, 100]] else []) ++ (if u.1 = true then [] else L7 u.2.2.2.2.2.1 ++ (sg [[108, 101, 116]] ++ (W0 u.2.2.2.2.2.2.1 ++ sg [[116, 101, 108]])))))) :
  ∃ z, b6W T.rb u out = some z ∧ (z = .inl (u, R) ∨ z = .inr (u, R)) := by
 have H := unF hu
 have hx := a6F _ H.xb
 have hxl := H.x
 have loop : b6X T.rb out u.2.2.2.2.2.2.2 ((u.2.2.2.2.2.2.2.length : Nat) : Int) 0 = some (out ++ wrG (W3 u.2.2.2.2.2.2.2)) := by
  have := d0v u.2.2.2.2.2.2.2.length (by omega) u.2.2.2.2.2.2.2 [] out rfl H.xb (by omega)
  simpa using this
 have fin : ∀ (o : List s4), o.length ≤ 60000000 → o ++ wrG (if u.1 = true then [] else L7 u.2.2.2.2.2.1 ++ (sg [[108, 101, 116]] ++ (W0 u.2.2.2.2.2.2.1 ++ sg [[116, 101, 108]]))) = R → ∃ z, b4X T.rb u o = some z ∧ (z = .inl (u, R) ∨ z = .inr (u, R)) := fun o ho hr => by
  obtain ⟨z, h1, h2⟩ := d0w hu ho
  exact ⟨z, h1, by rw [hr] at h2; exact h2⟩
 by_cases hc : u.1 = true ∨ u.2.2.2.2.2.2.2.length > 0
 · rw [if_pos hc] at hR
   obtain ⟨z, h1, h2⟩ := fin (out ++ wrG (W3 u.2.2.2.2.2.2.2) ++ wrG (sg [[101, 110, 100]])) (by simp only [wrl, sgl, length_cons, length_nil]; omega) (by rw [hR]; simp only [D0, List.append_assoc])
   refine ⟨z, c4f ?_, h2⟩
   simp only [b5S, loop, bind_some]
   have hp := m6 (out := out ++ wrG (W3 u.2.2.2.2.2.2.2)) (l := [[101, 110, 100]]) (by simp only [wrl, sgl, length_cons, length_nil]; omega) (by simp)
   cases hk : u.1 with
   | true =>
     rw [cond_true, hp, bind_some, h1, bind_some]
     rcases h2 with rfl | rfl <;> rfl
   | false =>
     rw [hk] at hc
     have hl : u.2.2.2.2.2.2.2.length > 0 := hc.resolve_left (by decide)
     rw [cond_false, dt (show ((u.2.2.2.2.2.2.2.length : Nat) : Int) > 0 by omega), cond_true, hp, bind_some, h1, bind_some]
     rcases h2 with rfl | rfl <;> rfl
 · rw [if_neg hc] at hR
   have hk : u.1 = false := by
    cases hk : u.1 with
    | true => exact absurd (.inl hk) hc
    | false => rfl
   have hl : ¬ u.2.2.2.2.2.2.2.length > 0 := fun h => hc (.inr h)
   obtain ⟨z, h1, h2⟩ := fin (out ++ wrG (W3 u.2.2.2.2.2.2.2)) (by simp only [wrl]; omega) (by rw [hR]; simp only [D0, List.append_assoc, List.nil_append])
   refine ⟨z, c4f ?_, h2⟩
   simp only [b5S, loop, bind_some, hk, cond_false, df (show ¬ ((u.2.2.2.2.2.2.2.length : Nat) : Int) > 0 by omega)]
   rw [h1, bind_some]
   rcases h2 with rfl | rfl <;> rfl
theorem b7v {u : Unt} (hu : T4 u = true) {out : List s4} (h : out.length ≤ 40000000) : c5D T.rf out u = some (out ++ wrG (gUn u)) := d0Y (by
 have H := unF hu
 have hi := H.i
 have hI := a5I u.2.2.1
 have hO := a5I [(u.2.2.2.1, u.2.2.2.2.1)]
 simp only [length_cons, length_nil] at hO
 simp only [c0M]
 cases hk : u.1 with
 | true =>
   rw [cond_true, m6 (by simp only [length_cons, length_nil]; omega) (by simp), bind_some, a2D (by omega) (by simp only [wrl, sgl, length_cons, length_nil]; omega), bind_some]
   obtain ⟨z, h1, h2⟩ := b7u hu (out := out ++ wrG (sg [[99, 111, 110, 116, 114, 97, 99, 116], u.2.1]) ++ wrG (gIn u.2.2.1)) (by simp only [wrl, sgl, length_cons, length_nil]; omega) rfl
   rw [h1, bind_some]
   have e : out ++ wrG (sg [[99, 111, 110, 116, 114, 97, 99, 116], u.2.1]) ++ wrG (gIn u.2.2.1) ++ wrG (W3 u.2.2.2.2.2.2.2 ++ ((if u.1 = true ∨ u.2.2.2.2.2.2.2.length > 0 then sg [[101, 110, 100]] else []) ++ (if u.1 = true then [] else L7 u.2.2.2.2.2.1 ++ (sg [[108, 101, 116]] ++ (W0 u.2.2.2.2.2.2.1 ++ sg [[116, 101, 108]]))))) = out ++ wrG (gUn u) := by
    rw [if_pos (.inl hk), if_pos hk, List.append_nil, gUn, if_pos hk]
    simp only [D0, List.append_assoc]
   rw [e] at h2
   rcases h2 with rfl | rfl <;> rfl
 | false =>
   rw [cond_false, m6 (by simp only [length_cons, length_nil]; omega) (by simp), bind_some, a2D (by omega) (by simp only [wrl, sgl, length_cons, length_nil]; omega), bind_some, m6 (by simp only [wrl, sgl, length_cons, length_nil]; omega) (by simp), bind_some,
    a2D (by simp) (by simp only [wrl, sgl, length_cons, length_nil]; omega), bind_some]
   have hnt : ¬ (u.1 = true) := by rw [hk]; decide
   by_cases hl : u.2.2.2.2.2.2.2.length > 0
   · rw [dt (show ((u.2.2.2.2.2.2.2.length : Nat) : Int) > 0 by omega), cond_true, m6 (by simp only [wrl, sgl, length_cons, length_nil]; omega) (by simp), bind_some]
     obtain ⟨z, h1, h2⟩ := b7u hu (out := out ++ wrG (sg [[110, 111, 100, 101], u.2.1]) ++ wrG (gIn u.2.2.1) ++ wrG (sg [[114, 101, 116, 117, 114, 110, 115]]) ++ wrG (gIn [(u.2.2.2.1, u.2.2.2.2.1)]) ++ wrG (sg [[99, 111, 110, 116, 114, 97, 99, 116]])) (by simp only [wrl, sgl, length_cons, length_nil]; omega) rfl
     rw [h1, bind_some]
     rw [if_pos (.inr hl), if_neg hnt] at h2
     have e : out ++ wrG (sg [[110, 111, 100, 101], u.2.1]) ++ wrG (gIn u.2.2.1) ++ wrG (sg [[114, 101, 116, 117, 114, 110, 115]]) ++ wrG (gIn [(u.2.2.2.1, u.2.2.2.2.1)]) ++ wrG (sg [[99, 111, 110, 116, 114, 97, 99, 116]]) ++ wrG (W3 u.2.2.2.2.2.2.2 ++ (sg [[101, 110, 100]] ++ (L7 u.2.2.2.2.2.1 ++ (sg [[108, 101, 116]] ++ (W0 u.2.2.2.2.2.2.1 ++ sg [[116, 101, 108]]))))) = out ++ wrG (gUn u) := by
      rw [gUn, if_neg hnt, if_pos hl]
      simp only [D0, List.append_assoc]
     rw [e] at h2
     rcases h2 with rfl | rfl <;> rfl
   · rw [df (show ¬ ((u.2.2.2.2.2.2.2.length : Nat) : Int) > 0 by omega), cond_false]
     obtain ⟨z, h1, h2⟩ := b7u hu (out := out ++ wrG (sg [[110, 111, 100, 101], u.2.1]) ++ wrG (gIn u.2.2.1) ++ wrG (sg [[114, 101, 116, 117, 114, 110, 115]]) ++ wrG (gIn [(u.2.2.2.1, u.2.2.2.2.1)])) (by simp only [wrl, sgl, length_cons, length_nil]; omega) rfl
     rw [h1, bind_some]
     rw [if_neg (fun h => h.elim hnt hl), if_neg hnt] at h2
     have hx0 : u.2.2.2.2.2.2.2 = [] := List.length_eq_zero_iff.1 (by omega)
     have e : out ++ wrG (sg [[110, 111, 100, 101], u.2.1]) ++ wrG (gIn u.2.2.1) ++ wrG (sg [[114, 101, 116, 117, 114, 110, 115]]) ++ wrG (gIn [(u.2.2.2.1, u.2.2.2.2.1)]) ++ wrG (W3 u.2.2.2.2.2.2.2 ++ ([] ++ (L7 u.2.2.2.2.2.1 ++ (sg [[108, 101, 116]] ++ (W0 u.2.2.2.2.2.2.1 ++ sg [[116, 101, 108]]))))) = out ++ wrG (gUn u) := by
      rw [gUn, if_neg hnt, if_neg hl, hx0]
      simp only [D0, List.append_assoc]
      simp [W3, wrG]
     rw [e] at h2
     rcases h2 with rfl | rfl <;> rfl)
theorem b3G (N : Nat) (hN : N ≤ 1000) : ∀ (suf pre : List Unt) (out : List s4), N = (pre ++ suf).length → (∀ x ∈ suf, T4 x = true) → out.length + suf.length * 90000 ≤ 40000000 →
  b6Y T.rb out (pre ++ suf) ((N : Nat) : Int) (pre.length : Nat) = some (out ++ wrG (a6G suf))
 | [], pre, out, h, _, _ => c4i (by simp only [b5V, a0c pre h, cond_false]; simp [a6G, wrG])
 | x :: suf, pre, out, h, hx, hl => c4i (by
   simp only [length_cons] at hl
   have h1 := b3u (hx x (by simp))
   have hp : pre.length < 4611686018427387904 := by simp at h; omega
   have e : a6G (x :: suf) = gUn x ++ a6G suf := rfl
   have ih := b3G N hN suf (pre ++ [x]) (out ++ wrG (gUn x)) (by simpa using h) (fun y hy => hx y (List.mem_cons_of_mem _ hy)) (by rw [wrl]; omega)
   simp only [List.append_assoc, List.singleton_append] at ih
   simp only [b5V, Q2 pre x suf h, e8, e9, cond_true, bind_some, b7v (out := out) (hx x (by simp)) (by omega), j7 pre x hp, ih]
   rw [e, D0])
theorem b0M : ∀ l : List Unt, (∀ u ∈ l, T4 u = true) → (a6G l).length ≤ l.length * 90000
 | [], _ => by simp [a6G]
 | x :: l, h => by
   have h1 := b3u (h x (by simp))
   have h2 := b0M l fun y hy => h y (List.mem_cons_of_mem _ hy)
   have e : a6G (x :: l) = gUn x ++ a6G l := rfl
   rw [e, length_append, length_cons]; omega
theorem b1V {n m : Nat} {p : Prg} (h : SzP n m p) (hn : n ≤ 1000000) (hm : m ≤ 1000000) (hj : a3C p = true → (J (wPg p)).length ≤ 200000000000) : c66 T.rf p = some (if a3C p = true then txt (wPg p) else []) := d5L (by
 simp only [r66, b0p h hn hm, bind_some]
 cases hp : a3C p with
 | false => rfl
 | true =>
   have H := pgF hp
   have hnl := H.n
   have hgl := b0M _ H.u
   have loop : b6Y T.rb [] p.1 ((p.1.length : Nat) : Int) 0 = some (wrG (a6G p.1)) := by
    have := b3G p.1.length (by omega) p.1 [] [] rfl H.u (by simp only [length_nil]; omega)
    simpa using this
   have full : Full (gPg p) := (a1H _ fun u hu => b6P (H.u u hu)).app (Full.sg _)
   have join : ∀ l, l = wrG (gPg p) → b4E T.rf l = some (txt (wPg p)) := fun l hl => c4L (by
    have hlen : (txt (wPg p)).length ≤ 274877906944 := by
     have := hj hp
     unfold txt; rw [List.length_drop]; omega
    subst hl
    simp only [b8i, b6U full, b6M, a6 hlen, cond_true])
   rw [Bool.not_true, cond_false, loop, bind_some, m6 (by rw [a1C]; simp only [length_cons, length_nil]; omega) (by simp), bind_some, if_pos rfl]
   by_cases hb : p.2.2 = []
   · rw [beq_iff_eq.2 hb, Bool.not_true, cond_false, join _ (by rw [gPg, D0, b0l, if_pos hb]), bind_some]
   · rw [beq_eq_false_iff_ne.2 hb, Bool.not_false, cond_true, m6 (by rw [wrl, a1C]; simp only [sgl, length_cons, length_nil]; omega) (by simp), bind_some, join _ (by
      rw [gPg, D0, b0l, if_neg hb, List.append_assoc, ← D0]; rfl), bind_some])
end Go.Proofs.YtlobhcgbmpcdlaaGreatDoor.R
