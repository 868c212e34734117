import Derived.Test.YtlobhcgbmpcdlaaGreatDoorLstA
open Option (bind_some)
open List (length_cons length_nil)
namespace Go.Proofs.YtlobhcgbmpcdlaaGreatDoor.R
open Go Go.Bm Go.Proofs
set_option linter.unusedVariables false
set_option linter.unusedSimpArgs false
set_option maxRecDepth 4000
section
variable {α : Type}
theorem b2N (pre : List α) (x y : α) (suf : List α) : m5 (pre ++ x :: suf) pre.length y = pre ++ y :: suf := by
 induction pre with
 | nil => rfl
 | cons a pre ih => simp only [List.cons_append, length_cons, m5, ih]
theorem a7G (pre suf : List α) : (pre ++ suf).take pre.length = pre := by simp
theorem a6q (pre : List α) (x : α) (suf : List α) : (pre ++ x :: suf).drop (pre.length + 1) = suf := by
 induction pre with
 | nil => rfl
 | cons a pre ih => simp
end
theorem H5 (n : Nat) : Nat.beq n n = true := Nat.beq_refl n
def a7g (q : Eqn) : Eqn := (q.1, norm q.2)
def a7X (x : Itm) : Itm := (x.1, x.2.1, x.2.2.1, norm x.2.2.2.1, norm x.2.2.2.2.1, x.2.2.2.2.2.map norm)
def a7h (u : Unt) : Unt := (u.1, u.2.1, u.2.2.1, u.2.2.2.1, u.2.2.2.2.1, u.2.2.2.2.2.1, u.2.2.2.2.2.2.1.map a7g, u.2.2.2.2.2.2.2.map a7X)
def b7V (p : Prg) : Prg := (p.1.map a7h, p.2)
theorem a0g {e : List Nd} (h : e.length ≤ 1000000) : K4 T.rf e = some (norm e) := d1u (by
 simp only [c1a, b7X h, c5m h, bind_some, norm])
theorem b9M {l : List (List Nd)} (h : l.length ≤ 1000000) : b9A T.rf l = some l := d1x (by
 simp only [b8r, a6 (show 0 + l.length ≤ 274877906944 by omega), Bool.and_true, cond_true, List.nil_append])
theorem b3i {l : List Pm} (h : l.length ≤ 1000000) : L3 T.rf l = some l := d1r (by
 simp only [b8l, a6 (show 0 + l.length ≤ 274877906944 by omega), Bool.and_true, cond_true, List.nil_append])
theorem b9O {l : List Eqn} (h : l.length ≤ 1000000) : a6l T.rf l = some l := d1s (by
 simp only [b8n, a6 (show 0 + l.length ≤ 274877906944 by omega), Bool.and_true, cond_true, List.nil_append])
theorem b9N {l : List Itm} (h : l.length ≤ 1000000) : b9y T.rf l = some l := d1t (by
 simp only [b8p, a6 (show 0 + l.length ≤ 274877906944 by omega), Bool.and_true, cond_true, List.nil_append])
theorem b9P {l : List Unt} (h : l.length ≤ 1000000) : c5J T.rf l = some l := d1q (by
 simp only [b8j, a6 (show 0 + l.length ≤ 274877906944 by omega), Bool.and_true, cond_true, List.nil_append])
theorem Q2 {α : Type} {N : Nat} (pre : List α) (x : α) (suf : List α) (h : N = (pre ++ x :: suf).length) : decide (((pre.length : Nat) : Int) < ((N : Nat) : Int)) = true := by subst h; exact j6 pre x suf
theorem a0c {α : Type} {N : Nat} (pre : List α) (h : N = (pre ++ []).length) : decide (((pre.length : Nat) : Int) < ((N : Nat) : Int)) = false := by subst h; exact l8 pre
theorem a1M {α : Type} (pre : List α) (y : α) (h : pre.length < 4611686018427387904) : IntKind.i64.wrap ((pre.length : Int) + 1) = ((pre ++ [y]).length : Nat) := j7 pre y h
theorem d2d (D : List Itm) (kd : Int) (nm : Str) (ty : Int) (rest : List Itm) (e f : List Nd) (N : Nat) (hN : N ≤ 1000000) : ∀ (suf pre : List (List Nd)), N = (pre ++ suf).length → (∀ y ∈ suf, y.length ≤ 1000000) →
  b0R T.rb D kd nm ty rest e f (pre ++ suf) ((D.length : Nat) : Int) ((N : Nat) : Int) (pre.length : Nat) = some (D, kd, nm, ty, rest, e, f, pre ++ suf.map norm)
 | [], pre, h, _ => c4n (by simp only [b4r, a0c pre h, cond_false, List.map_nil])
 | x :: suf, pre, h, hy => c4n (by
   have ih := d2d D kd nm ty rest e f N hN suf (pre ++ [norm x]) (by simpa using h) (fun y h => hy y (List.mem_cons_of_mem _ h))
   simp only [List.append_assoc, List.singleton_append] at ih
   have hp : pre.length < 4611686018427387904 := by simp at h; omega
   have hb : Nat.blt (((pre.length : Nat) : Int)).toNat (pre ++ x :: suf).length = true := a4L (by simp)
   simp only [b4r, Q2 pre x suf h, Int.toNat_natCast, H5, cond_true, e8, e9, bind_some]
   simp only [Int.toNat_natCast] at hb
   rw [show nth (pre ++ x :: suf) pre.length = some x from by have := e9 pre x suf; rwa [Int.toNat_natCast] at this]
   simp only [bind_some, hb, cond_true, a0g (hy x (by simp)), b2N, a1M pre (norm x) hp, ih, List.map_cons])
theorem a7e {α : Type} (pre : List α) (x : α) (suf : List α) : nth (pre ++ x :: suf) pre.length = some x := by have := e9 pre x suf; rwa [Int.toNat_natCast] at this
theorem d2c (D : List Unt) (k : Bool) (nm o : Str) (t : Int) (rest : List Unt) (i v : List Pm) (q : List Eqn) {n m : Nat} (hn : n ≤ 1000000) (hm : m ≤ 1000000) (N : Nat) (hN : N ≤ 1000000) : ∀ (suf pre : List Itm), N = (pre ++ suf).length → (∀ y ∈ suf, SzI n m y) →
  b7b T.rb D k nm o t rest i v q (pre ++ suf) ((D.length : Nat) : Int) ((N : Nat) : Int) (pre.length : Nat) = some (D, k, nm, o, t, rest, i, v, q, pre ++ suf.map a7X)
 | [], pre, h, _ => c4m (by simp only [b4q, a0c pre h, cond_false, List.map_nil])
 | x :: suf, pre, h, hy => c4m (by
   have ih := d2c D k nm o t rest i v q hn hm N hN suf (pre ++ [a7X x]) (by simpa using h) (fun y h => hy y (List.mem_cons_of_mem _ h))
   simp only [List.append_assoc, List.singleton_append] at ih
   have hp : pre.length < 4611686018427387904 := by simp at h; omega
   have hx := hy x (by simp)
   have h6 := d2d pre x.1 x.2.1 x.2.2.1 suf (norm x.2.2.2.1) (norm x.2.2.2.2.1) x.2.2.2.2.2.length (Nat.le_trans hx.c hn) x.2.2.2.2.2 [] rfl (fun y h => Nat.le_trans (hx.a y h) hm)
   simp only [List.nil_append, length_nil] at h6
   rw [show ((0 : Nat) : Int) = (0 : Int) from rfl] at h6
   have h17 : c0b T.rb pre x.1 x.2.1 x.2.2.1 suf (norm x.2.2.2.1) (norm x.2.2.2.2.1) x.2.2.2.2.2 ((pre.length : Nat) : Int) = some (pre, x.1, x.2.1, x.2.2.1, suf, norm x.2.2.2.1, norm x.2.2.2.2.1, x.2.2.2.2.2.map norm) := d0D (by
    simp only [b9n, Int.toNat_natCast, H5, cond_true, h6, bind_some])
   simp only [b4q, Q2 pre x suf h, Int.toNat_natCast, H5, cond_true, e8, a7e, bind_some, a7G, a6q, Bool.and_true, a0g (Nat.le_trans hx.e hm), a0g (Nat.le_trans hx.f hm), b9M (Nat.le_trans hx.c hn), h17, a1M pre (a7X x) hp, List.map_cons]
   exact ih)
theorem d2b (D : List Unt) (k : Bool) (nm o : Str) (t : Int) (rest : List Unt) (i v : List Pm) (its : List Itm) (N : Nat) (hN : N ≤ 1000000) : ∀ (suf pre : List Eqn), N = (pre ++ suf).length → (∀ y ∈ suf, y.2.length ≤ 1000000) →
  b7a T.rb D k nm o t rest i v (pre ++ suf) its ((D.length : Nat) : Int) ((N : Nat) : Int) (pre.length : Nat) = some (D, k, nm, o, t, rest, i, v, pre ++ suf.map a7g, its)
 | [], pre, h, _ => c4l (by simp only [b4p, a0c pre h, cond_false, List.map_nil])
 | x :: suf, pre, h, hy => c4l (by
   have ih := d2b D k nm o t rest i v its N hN suf (pre ++ [a7g x]) (by simpa using h) (fun y h => hy y (List.mem_cons_of_mem _ h))
   simp only [List.append_assoc, List.singleton_append] at ih
   have hp : pre.length < 4611686018427387904 := by simp at h; omega
   simp only [b4p, Q2 pre x suf h, Int.toNat_natCast, H5, cond_true, e8, a7e, bind_some, a7G, a6q, a0g (hy x (by simp)), a1M pre (a7g x) hp, List.map_cons]
   exact ih)
theorem d2a (mn bk : Str) {n m : Nat} (hn : n ≤ 1000000) (hm : m ≤ 1000000) (N : Nat) (hN : N ≤ 1000000) : ∀ (suf pre : List Unt), N = (pre ++ suf).length → (∀ y ∈ suf, SzU n m y) →
  b6Z T.rb mn bk (pre ++ suf) ((N : Nat) : Int) (pre.length : Nat) = some (mn, bk, pre ++ suf.map a7h)
 | [], pre, h, _ => c4k (by simp only [b4o, a0c pre h, cond_false, List.map_nil])
 | x :: suf, pre, h, hy => c4k (by
   have ih := d2a mn bk hn hm N hN suf (pre ++ [a7h x]) (by simpa using h) (fun y h => hy y (List.mem_cons_of_mem _ h))
   simp only [List.append_assoc, List.singleton_append] at ih
   have hp : pre.length < 4611686018427387904 := by simp at h; omega
   have hx := hy x (by simp)
   have h2 := d2b pre x.1 x.2.1 x.2.2.2.1 x.2.2.2.2.1 suf x.2.2.1 x.2.2.2.2.2.1 x.2.2.2.2.2.2.2 x.2.2.2.2.2.2.1.length (Nat.le_trans hx.q hn) x.2.2.2.2.2.2.1 [] rfl (fun y h => Nat.le_trans (hx.qe y h) hm)
   have h4 := d2c pre x.1 x.2.1 x.2.2.2.1 x.2.2.2.2.1 suf x.2.2.1 x.2.2.2.2.2.1 (x.2.2.2.2.2.2.1.map a7g) hn hm x.2.2.2.2.2.2.2.length (Nat.le_trans hx.x hn) x.2.2.2.2.2.2.2 [] rfl (fun y h => hx.xe y h)
   simp only [List.nil_append, length_nil] at h2 h4
   rw [show ((0 : Nat) : Int) = (0 : Int) from rfl] at h2 h4
   have h7 : c0a T.rb pre x.1 x.2.1 x.2.2.2.1 x.2.2.2.2.1 suf x.2.2.1 x.2.2.2.2.2.1 x.2.2.2.2.2.2.1 x.2.2.2.2.2.2.2 ((pre.length : Nat) : Int) = some (pre, x.1, x.2.1, x.2.2.2.1, x.2.2.2.2.1, suf, x.2.2.1, x.2.2.2.2.2.1, x.2.2.2.2.2.2.1.map a7g, x.2.2.2.2.2.2.2.map a7X) := d0C (by
    simp only [b9m, Int.toNat_natCast, H5, cond_true, h2, h4, bind_some])
   simp only [b4o, Q2 pre x suf h, Int.toNat_natCast, H5, cond_true, e8, a7e, bind_some, a7G, a6q, Bool.and_true, b3i (Nat.le_trans hx.i hn), b3i (Nat.le_trans hx.v hn), b9O (Nat.le_trans hx.q hn), b9N (Nat.le_trans hx.x hn), h7, a1M pre (a7h x) hp, List.map_cons]
   exact ih)
theorem b1T {n m : Nat} {p : Prg} (h : SzP n m p) (hn : n ≤ 1000000) (hm : m ≤ 1000000) : a7S T.rf p = some (b7V p) := d1p (by
 have h0 := d2a p.2.1 p.2.2 hn hm p.1.length (Nat.le_trans h.c hn) p.1 [] rfl (fun y hy => h.u y hy)
 simp only [List.nil_append, length_nil] at h0
 rw [show ((0 : Nat) : Int) = (0 : Int) from rfl] at h0
 simp only [c0Z, b9P (Nat.le_trans h.c hn), bind_some, h0, b7V])
theorem c4U (k : Bool) (nm : Str) (i : List Pm) (o : Str) (t : Int) (v : List Pm) (q : List Eqn) (A B : List Itm) (ykd : Int) (ynm : Str) (yty : Int) (ye yf : List Nd) (kd : Int) (nn : Str) (ty : Int) (e f : List Nd) : ∀ (suf pre : List (List Nd)) (out : List (List Nd)), (pre ++ suf).length ≤ 1000000 → out.length = pre.length → (∀ y ∈ suf, y.length ≤ 1000000) → A.length ≤ 1000000 →
  b5b T.rb (k, nm, i, o, t, v, q, A ++ (ykd, ynm, yty, ye, yf, pre ++ suf) :: B) kd nn ty e f out ((A.length : Nat) : Int) (pre.length : Nat) = some ((k, nm, i, o, t, v, q, A ++ (ykd, ynm, yty, ye, yf, pre ++ suf) :: B), kd, nn, ty, e, f, out ++ suf.map norm)
 | [], pre, out, h, _, _, _ => c4r (by simp only [b4u, e8, e9, cond_true, bind_some, l8, o6, cond_false, List.map_nil, List.append_nil])
 | x :: suf, pre, out, h, ho, hy, hA => c4r (by
   have ih := c4U k nm i o t v q A B ykd ynm yty ye yf kd nn ty e f suf (pre ++ [x]) (out ++ [norm x]) (by simpa using h) (by simp [ho]) (fun y h => hy y (List.mem_cons_of_mem _ h)) hA
   simp only [List.append_assoc, List.singleton_append] at ih
   have hp : pre.length < 4611686018427387904 := by simp at h; omega
   simp only [b4u, e8, e9, cond_true, bind_some, j6, a5G (hy x (by simp)), a6 (show out.length + 1 ≤ 274877906944 by rw [ho]; simp at h; omega), Bool.and_true, j7 pre x hp, List.map_cons]
   exact ih)
theorem c4T (k0 : Bool) (nm0 : Str) (i0 : List Pm) (o0 : Str) (t0 : Int) (v0 : List Pm) (q0 : List Eqn) (k : Bool) (nm o : Str) (t : Int) (i v : List Pm) (q : List Eqn) {n m : Nat} (hn : n ≤ 1000000) (hm : m ≤ 1000000) : ∀ (suf pre out : List Itm), (pre ++ suf).length ≤ 1000000 → out.length = pre.length → (∀ y ∈ suf, SzI n m y) →
  c0d T.rb (k0, nm0, i0, o0, t0, v0, q0, pre ++ suf) k nm o t i v q out (pre.length : Nat) = some ((k0, nm0, i0, o0, t0, v0, q0, pre ++ suf), k, nm, o, t, i, v, q, out ++ suf.map a7X)
 | [], pre, out, h, _, _ => c4q (by simp only [b6d, l8, o6, cond_false, List.map_nil, List.append_nil])
 | x :: suf, pre, out, h, ho, hy => c4q (by
   have ih := c4T k0 nm0 i0 o0 t0 v0 q0 k nm o t i v q hn hm suf (pre ++ [x]) (out ++ [a7X x]) (by simpa using h) (by simp [ho]) (fun y h => hy y (List.mem_cons_of_mem _ h))
   simp only [List.append_assoc, List.singleton_append] at ih
   have hp : pre.length < 4611686018427387904 := by simp at h; omega
   have hx := hy x (by simp)
   have h4 := c4U k0 nm0 i0 o0 t0 v0 q0 pre suf x.1 x.2.1 x.2.2.1 x.2.2.2.1 x.2.2.2.2.1 x.1 x.2.1 x.2.2.1 (norm x.2.2.2.1) (norm x.2.2.2.2.1) x.2.2.2.2.2 [] [] (Nat.le_trans hx.c hn) rfl (fun y h => Nat.le_trans (hx.a y h) hm) (by simp at h; omega)
   simp only [List.nil_append, length_nil] at h4
   rw [show ((0 : Nat) : Int) = (0 : Int) from rfl] at h4
   simp only [b6d, e8, e9, cond_true, bind_some, j6, a5G (Nat.le_trans hx.e hm), a5G (Nat.le_trans hx.f hm), h4, a6 (show out.length + 1 ≤ 274877906944 by rw [ho]; simp at h; omega), Bool.and_true, j7 pre x hp, List.map_cons]
   exact ih)
theorem c4S (k0 : Bool) (nm0 : Str) (i0 : List Pm) (o0 : Str) (t0 : Int) (v0 : List Pm) (x0 : List Itm) (k : Bool) (nm o : Str) (t : Int) (i v : List Pm) (its : List Itm) : ∀ (suf pre out : List Eqn), (pre ++ suf).length ≤ 1000000 → out.length = pre.length → (∀ y ∈ suf, y.2.length ≤ 1000000) →
  b5a T.rb (k0, nm0, i0, o0, t0, v0, pre ++ suf, x0) k nm o t i v out its (pre.length : Nat) = some ((k0, nm0, i0, o0, t0, v0, pre ++ suf, x0), k, nm, o, t, i, v, its, out ++ suf.map a7g)
 | [], pre, out, h, _, _ => c4p (by simp only [b4t, l8, o6, cond_false, List.map_nil, List.append_nil])
 | x :: suf, pre, out, h, ho, hy => c4p (by
   have ih := c4S k0 nm0 i0 o0 t0 v0 x0 k nm o t i v its suf (pre ++ [x]) (out ++ [a7g x]) (by simpa using h) (by simp [ho]) (fun y h => hy y (List.mem_cons_of_mem _ h))
   simp only [List.append_assoc, List.singleton_append] at ih
   have hp : pre.length < 4611686018427387904 := by simp at h; omega
   simp only [b4t, e8, e9, cond_true, bind_some, j6, a5G (hy x (by simp)), a6 (show out.length + 1 ≤ 274877906944 by rw [ho]; simp at h; omega), Bool.and_true, j7 pre x hp, List.map_cons]
   exact ih)
theorem b8w {n m : Nat} {u : Unt} (hx : SzU n m u) (hn : n ≤ 1000000) (hm : m ≤ 1000000) : b6w T.rf u = some (a7h u) := d1z (by
 have h0 := c4S u.1 u.2.1 u.2.2.1 u.2.2.2.1 u.2.2.2.2.1 u.2.2.2.2.2.1 u.2.2.2.2.2.2.2 u.1 u.2.1 u.2.2.2.1 u.2.2.2.2.1 u.2.2.1 u.2.2.2.2.2.1 [] u.2.2.2.2.2.2.1 [] [] (Nat.le_trans hx.q hn) rfl (fun y h => Nat.le_trans (hx.qe y h) hm)
 have h2 := c4T u.1 u.2.1 u.2.2.1 u.2.2.2.1 u.2.2.2.2.1 u.2.2.2.2.2.1 u.2.2.2.2.2.2.1 u.1 u.2.1 u.2.2.2.1 u.2.2.2.2.1 u.2.2.1 u.2.2.2.2.2.1 (u.2.2.2.2.2.2.1.map a7g) hn hm u.2.2.2.2.2.2.2 [] [] (Nat.le_trans hx.x hn) rfl (fun y h => hx.xe y h)
 simp only [List.nil_append, length_nil] at h0 h2
 rw [show ((0 : Nat) : Int) = (0 : Int) from rfl] at h0 h2
 have l1 := Nat.le_trans hx.i hn
 have l2 := Nat.le_trans hx.v hn
 simp only [c1e, a6 (show u.2.2.1.length ≤ 274877906944 by omega), a6 (show u.2.2.2.2.2.1.length ≤ 274877906944 by omega), cond_true, h0, h2, bind_some, a7h])
theorem c4R (mn bk mn' bk' : Str) {n m : Nat} (hn : n ≤ 1000000) (hm : m ≤ 1000000) : ∀ (suf pre out : List Unt), (pre ++ suf).length ≤ 1000000 → out.length = pre.length → (∀ y ∈ suf, SzU n m y) →
  b5c T.rb (pre ++ suf, mn, bk) mn' bk' out (pre.length : Nat) = some ((pre ++ suf, mn, bk), mn', bk', out ++ suf.map a7h)
 | [], pre, out, h, _, _ => c4s (by simp only [b4v, l8, o6, cond_false, List.map_nil, List.append_nil])
 | x :: suf, pre, out, h, ho, hy => c4s (by
   have ih := c4R mn bk mn' bk' hn hm suf (pre ++ [x]) (out ++ [a7h x]) (by simpa using h) (by simp [ho]) (fun y h => hy y (List.mem_cons_of_mem _ h))
   simp only [List.append_assoc, List.singleton_append] at ih
   have hp : pre.length < 4611686018427387904 := by simp at h; omega
   simp only [b4v, e8, e9, cond_true, bind_some, j6, b8w (hy x (by simp)) hn hm, a6 (show out.length + 1 ≤ 274877906944 by rw [ho]; simp at h; omega), Bool.and_true, j7 pre x hp, List.map_cons]
   exact ih)
theorem a7Y {n m : Nat} {p : Prg} (h : SzP n m p) (hn : n ≤ 1000000) (hm : m ≤ 1000000) : b9B T.rf p = some (b7V p) := d1y (by
 have h0 := c4R p.2.1 p.2.2 p.2.1 p.2.2 hn hm p.1 [] [] (Nat.le_trans h.c hn) rfl (fun y hy => h.u y hy)
 simp only [List.nil_append, length_nil] at h0
 rw [show ((0 : Nat) : Int) = (0 : Int) from rfl] at h0
 simp only [c1d, h0, bind_some, b7V])
theorem c0E {n m : Nat} {x : Itm} (h : SzI n m x) : SzI n (max m 5001) (a7X x) :=
 ⟨Nat.le_trans a3x (by omega), Nat.le_trans a3x (by omega), by show (x.2.2.2.2.2.map norm).length ≤ n; rw [List.length_map]; exact h.c, fun y hy => by
  obtain ⟨z, _, rfl⟩ := List.mem_map.1 (show y ∈ x.2.2.2.2.2.map norm from hy)
  exact Nat.le_trans a3x (by omega)⟩
theorem c0G {n m : Nat} {u : Unt} (h : SzU n m u) : SzU n (max m 5001) (a7h u) :=
 ⟨h.i, h.v, by show (u.2.2.2.2.2.2.1.map a7g).length ≤ n; rw [List.length_map]; exact h.q, by show (u.2.2.2.2.2.2.2.map a7X).length ≤ n; rw [List.length_map]; exact h.x,
  fun q hq => by
   obtain ⟨z, _, rfl⟩ := List.mem_map.1 (show q ∈ u.2.2.2.2.2.2.1.map a7g from hq)
   exact Nat.le_trans a3x (by omega),
  fun x hx => by
   obtain ⟨z, hz, rfl⟩ := List.mem_map.1 (show x ∈ u.2.2.2.2.2.2.2.map a7X from hx)
   exact c0E (h.xe z hz)⟩
theorem c0F {n m : Nat} {p : Prg} (h : SzP n m p) : SzP n (max m 5001) (b7V p) :=
 ⟨by show (p.1.map a7h).length ≤ n; rw [List.length_map]; exact h.c, fun u hu => by
  obtain ⟨z, hz, rfl⟩ := List.mem_map.1 (show u ∈ p.1.map a7h from hu)
  exact c0G (h.u z hz)⟩
theorem a7t : ∀ (s t p q : List Pm), p.length = q.length → s.length = t.length → (p ++ s).length ≤ 1000000 →
  ∃ z, c0f T.rb (p ++ s) (q ++ t) (p.length : Nat) = some z ∧ ((s = t ∧ z = .inr ()) ∨ (s ≠ t ∧ z = .inl false))
 | [], [], p, q, _, _, _ => ⟨.inr (), b7O (by simp only [b4x, l8, cond_false]), .inl ⟨rfl, rfl⟩⟩
 | x :: s, y :: t, p, q, h, h2, h3 => by
   obtain ⟨z, k1, k2⟩ := a7t s t (p ++ [x]) (q ++ [y]) (by simp [h]) (by simpa using h2) (by simpa using h3)
   simp only [List.append_assoc, List.singleton_append] at k1
   have hp : p.length < 4611686018427387904 := by simp at h3; omega
   have e1 : inb ((p.length : Nat) : Int) (q ++ y :: t).length = true := by rw [h]; exact e8 q y t
   have e2 : nth (q ++ y :: t) (((p.length : Nat) : Int)).toNat = some y := by rw [h]; exact e9 q y t
   by_cases hx : x = y
   · subst hx
     refine ⟨z, b7O ?_, ?_⟩
     · simp only [b4x, j6, e8, e9, e1, e2, cond_true, bind_some, beq_self_eq_true, Bool.and_true, Bool.not_true, cond_false, j7 p x hp]
       exact k1
     · rcases k2 with ⟨g, g2⟩ | ⟨g, g2⟩
       · exact .inl ⟨by rw [g], g2⟩
       · exact .inr ⟨by simpa using g, g2⟩
   · have hb : (x.1 == y.1 && x.2 == y.2) = false := by
      rw [Bool.and_eq_false_iff]
      by_cases h1 : x.1 = y.1
      · exact .inr (bf fun h2 => hx (Prod.ext h1 h2))
      · exact .inl (beq_eq_false_iff_ne.2 h1)
     refine ⟨.inl false, b7O ?_, .inr ⟨by simp [hx], rfl⟩⟩
     simp only [b4x, j6, e8, e9, e1, e2, cond_true, bind_some, hb, Bool.not_false]
 | [], _ :: _, _, _, _, h, _ => by simp at h
 | _ :: _, [], _, _, _, h, _ => by simp at h
theorem b1A {a b : List Pm} (h : a.length ≤ 1000000) : ∃ z, b9G T.rf a b = some z ∧ (z = true ↔ a = b) := by
 by_cases hl : a.length = b.length
 · obtain ⟨z, k1, k2⟩ := a7t a b [] [] rfl hl (by simpa using h)
   simp only [List.nil_append, length_nil] at k1
   rw [show ((0 : Nat) : Int) = (0 : Int) from rfl] at k1
   rcases k2 with ⟨g, rfl⟩ | ⟨g, rfl⟩
   · exact ⟨true, b7T (by simp only [b5l, nbt (show ((a.length : Nat) : Int) = ((b.length : Nat) : Int) by omega), cond_false, k1, bind_some]), by simp [g]⟩
   · exact ⟨false, b7T (by simp only [b5l, nbt (show ((a.length : Nat) : Int) = ((b.length : Nat) : Int) by omega), cond_false, k1, bind_some]), by simp [g]⟩
 · exact ⟨false, b7T (by simp only [b5l, nbf (show ((a.length : Nat) : Int) ≠ ((b.length : Nat) : Int) by omega), cond_true]), by
    constructor
    · intro h; cases h
    · intro h; subst h; exact absurd rfl hl⟩
theorem a7s : ∀ (s t p q : List (List Nd)), p.length = q.length → s.length = t.length → (p ++ s).length ≤ 1000000 → (∀ y ∈ s, y.length ≤ 1000000) → (∀ y ∈ t, y.length ≤ 1000000) →
  ∃ z, c0h T.rb (p ++ s) (q ++ t) (p.length : Nat) = some z ∧ ((s = t ∧ z = .inr ()) ∨ (s ≠ t ∧ z = .inl false))
 | [], [], p, q, _, _, _, _, _ => ⟨.inr (), b7P (by simp only [b4y, l8, cond_false]), .inl ⟨rfl, rfl⟩⟩
 | x :: s, y :: t, p, q, h, h2, h3, hs, ht => by
   obtain ⟨z, k1, k2⟩ := a7s s t (p ++ [x]) (q ++ [y]) (by simp [h]) (by simpa using h2) (by simpa using h3) (fun y h => hs y (List.mem_cons_of_mem _ h)) (fun y h => ht y (List.mem_cons_of_mem _ h))
   simp only [List.append_assoc, List.singleton_append] at k1
   have hp : p.length < 4611686018427387904 := by simp at h3; omega
   have e1 : inb ((p.length : Nat) : Int) (q ++ y :: t).length = true := by rw [h]; exact e8 q y t
   have e2 : nth (q ++ y :: t) (((p.length : Nat) : Int)).toNat = some y := by rw [h]; exact e9 q y t
   have hS := a5H (a := x) (b := y) (by have := hs x (by simp); omega) (by have := ht y (by simp); omega)
   by_cases hx : x = y
   · refine ⟨z, b7P ?_, ?_⟩
     · simp only [b4y, j6, e8, e9, e1, e2, cond_true, bind_some, hS, dt hx, Bool.not_true, cond_false, j7 p x hp]
       exact k1
     · rcases k2 with ⟨g, g2⟩ | ⟨g, g2⟩
       · exact .inl ⟨by rw [g, hx], g2⟩
       · exact .inr ⟨by simpa [hx] using g, g2⟩
   · refine ⟨.inl false, b7P ?_, .inr ⟨by simp [hx], rfl⟩⟩
     simp only [b4y, j6, e8, e9, e1, e2, cond_true, bind_some, hS, df hx, Bool.not_false]
 | [], _ :: _, _, _, _, h, _, _, _ => by simp at h
 | _ :: _, [], _, _, _, h, _, _, _ => by simp at h
theorem b8D {a b : List (List Nd)} (h : a.length ≤ 1000000) (ha : ∀ y ∈ a, y.length ≤ 1000000) (hb : ∀ y ∈ b, y.length ≤ 1000000) : ∃ z, c5O T.rf a b = some z ∧ (z = true ↔ a = b) := by
 by_cases hl : a.length = b.length
 · obtain ⟨z, k1, k2⟩ := a7s a b [] [] rfl hl (by simpa using h) ha hb
   simp only [List.nil_append, length_nil] at k1
   rw [show ((0 : Nat) : Int) = (0 : Int) from rfl] at k1
   rcases k2 with ⟨g, rfl⟩ | ⟨g, rfl⟩
   · exact ⟨true, b7U (by simp only [b5m, nbt (show ((a.length : Nat) : Int) = ((b.length : Nat) : Int) by omega), cond_false, k1, bind_some]), by simp [g]⟩
   · exact ⟨false, b7U (by simp only [b5m, nbt (show ((a.length : Nat) : Int) = ((b.length : Nat) : Int) by omega), cond_false, k1, bind_some]), by simp [g]⟩
 · exact ⟨false, b7U (by simp only [b5m, nbf (show ((a.length : Nat) : Int) ≠ ((b.length : Nat) : Int) by omega), cond_true]), by
    constructor
    · intro h; cases h
    · intro h; subst h; exact absurd rfl hl⟩
theorem M7 {A : Type} {a b : A} {P : Prop} (hP : ¬ P) (h : a = b → P) : (false = true ↔ a = b) := ⟨fun h => Bool.noConfusion h, fun hh => absurd (h hh) hP⟩
theorem b8F (k k' : Bool) (nm nm' : Str) (i i' : List Pm) (o o' : Str) (ty ty' : Int) (v v' : List Pm) (xs xs' : List Itm) : ∀ (s t p q : List Eqn), p.length = q.length → s.length = t.length → (p ++ s).length ≤ 1000000 → (∀ y ∈ s, y.2.length ≤ 1000000) → (∀ y ∈ t, y.2.length ≤ 1000000) →
  ∃ z, b7c T.rb (k, nm, i, o, ty, v, p ++ s, xs) (k', nm', i', o', ty', v', q ++ t, xs') (p.length : Nat) = some z ∧ ((s = t ∧ z = .inr ((k, nm, i, o, ty, v, p ++ s, xs), (k', nm', i', o', ty', v', q ++ t, xs'))) ∨ (s ≠ t ∧ ∃ a b, z = .inl (a, b, false)))
 | [], [], p, q, _, _, _, _, _ => ⟨_, b3K (by simp only [b1Y, l8, cond_false]), .inl ⟨rfl, rfl⟩⟩
 | x :: s, y :: t, p, q, h, h2, h3, hs, ht => by
   obtain ⟨z, k1, k2⟩ := b8F k k' nm nm' i i' o o' ty ty' v v' xs xs' s t (p ++ [x]) (q ++ [y]) (by simp [h]) (by simpa using h2) (by simpa using h3) (fun y h => hs y (List.mem_cons_of_mem _ h)) (fun y h => ht y (List.mem_cons_of_mem _ h))
   simp only [List.append_assoc, List.singleton_append] at k1 k2
   have hp : p.length < 4611686018427387904 := by simp at h3; omega
   have e1 : inb ((p.length : Nat) : Int) (q ++ y :: t).length = true := by rw [h]; exact e8 q y t
   have e2 : nth (q ++ y :: t) (((p.length : Nat) : Int)).toNat = some y := by rw [h]; exact e9 q y t
   have hS := a5H (a := x.2) (b := y.2) (by have := hs x (by simp); omega) (by have := ht y (by simp); omega)
   by_cases hn : x.1 = y.1
   · by_cases hx : x.2 = y.2
     · have hxy : x = y := Prod.ext hn hx
       refine ⟨z, b3K ?_, ?_⟩
       · simp only [b1Y, j6, e8, e9, e1, e2, cond_true, bind_some, beq_iff_eq.2 hn, Bool.not_true, cond_false, hS, dt hx, j7 p x hp]
         exact k1
       · rcases k2 with ⟨g, g2⟩ | ⟨g, g2⟩
         · exact .inl ⟨by rw [g, hxy], g2⟩
         · exact .inr ⟨by simpa [hxy] using g, g2⟩
     · refine ⟨.inl ((k, nm, i, o, ty, v, p ++ x :: s, xs), (k', nm', i', o', ty', v', q ++ y :: t, xs'), false), b3K ?_, .inr ⟨fun hh => hx (by cases hh; rfl), _, _, rfl⟩⟩
       simp only [b1Y, j6, e8, e9, e1, e2, cond_true, bind_some, beq_iff_eq.2 hn, Bool.not_true, cond_false, hS, df hx, Bool.not_false]
   · refine ⟨.inl ((k, nm, i, o, ty, v, p ++ x :: s, xs), (k', nm', i', o', ty', v', q ++ y :: t, xs'), false), b3K ?_, .inr ⟨fun hh => hn (by cases hh; rfl), _, _, rfl⟩⟩
     simp only [b1Y, j6, e8, e9, e1, e2, cond_true, bind_some, beq_eq_false_iff_ne.2 hn, Bool.not_false]
 | [], _ :: _, _, _, _, h, _, _, _ => by simp at h
 | _ :: _, [], _, _, _, h, _, _, _ => by simp at h
theorem b8G {n m : Nat} (hnn : n ≤ 1000000) (hmm : m ≤ 1000000) (k k' : Bool) (nm nm' : Str) (i i' : List Pm) (o o' : Str) (ty ty' : Int) (v v' : List Pm) (qs qs' : List Eqn) : ∀ (s t p q : List Itm), p.length = q.length → s.length = t.length → (p ++ s).length ≤ 1000000 → (∀ y ∈ s, SzI n m y) → (∀ y ∈ t, SzI n m y) →
  ∃ z, b7d T.rb (k, nm, i, o, ty, v, qs, p ++ s) (k', nm', i', o', ty', v', qs', q ++ t) (p.length : Nat) = some z ∧ ((s = t ∧ ∃ a, z = .inr a) ∨ (s ≠ t ∧ ∃ a b, z = .inl (a, b, false)))
 | [], [], p, q, _, _, _, _, _ => ⟨_, a5d (by simp only [a6e, l8, cond_false]; rfl), .inl ⟨rfl, _, rfl⟩⟩
 | x :: s, y :: t, p, q, h, h2, h3, hs, ht => by
   obtain ⟨z, k1, k2⟩ := b8G hnn hmm k k' nm nm' i i' o o' ty ty' v v' qs qs' s t (p ++ [x]) (q ++ [y]) (by simp [h]) (by simpa using h2) (by simpa using h3) (fun y h => hs y (List.mem_cons_of_mem _ h)) (fun y h => ht y (List.mem_cons_of_mem _ h))
   simp only [List.append_assoc, List.singleton_append] at k1
   have hp : p.length < 4611686018427387904 := by simp at h3; omega
   have hx := hs x (by simp)
   have hy := ht y (by simp)
   have e1 : inb ((p.length : Nat) : Int) (q ++ y :: t).length = true := by rw [h]; exact e8 q y t
   have e2 : nth (q ++ y :: t) (((p.length : Nat) : Int)).toNat = some y := by rw [h]; exact e9 q y t
   have hE := a5H (a := x.2.2.2.1) (b := y.2.2.2.1) (by have := hx.e; omega) (by have := hy.e; omega)
   have hF := a5H (a := x.2.2.2.2.1) (b := y.2.2.2.2.1) (by have := hx.f; omega) (by have := hy.f; omega)
   obtain ⟨za, a1, a2⟩ := b8D (a := x.2.2.2.2.2) (b := y.2.2.2.2.2) (Nat.le_trans hx.c hnn) (fun w hw => Nat.le_trans (hx.a w hw) hmm) (fun w hw => Nat.le_trans (hy.a w hw) hmm)
   by_cases c1 : x.1 = y.1
   case neg => exact ⟨_, a5d (by simp only [a6e, j6, e8, e9, e1, e2, cond_true, bind_some, nbf c1]; rfl), .inr ⟨fun hh => c1 (by cases hh; rfl), _, _, rfl⟩⟩
   by_cases c2 : x.2.1 = y.2.1
   case neg => exact ⟨_, a5d (by simp only [a6e, j6, e8, e9, e1, e2, cond_true, bind_some, nbt c1, cond_false, beq_eq_false_iff_ne.2 c2, Bool.not_false]; rfl), .inr ⟨fun hh => c2 (by cases hh; rfl), _, _, rfl⟩⟩
   by_cases c3 : x.2.2.1 = y.2.2.1
   case neg => exact ⟨_, a5d (by simp only [a6e, j6, e8, e9, e1, e2, cond_true, bind_some, nbt c1, cond_false, beq_iff_eq.2 c2, Bool.not_true, nbf c3]; rfl), .inr ⟨fun hh => c3 (by cases hh; rfl), _, _, rfl⟩⟩
   by_cases c4 : x.2.2.2.1 = y.2.2.2.1
   case neg => exact ⟨_, a5d (by simp only [a6e, j6, e8, e9, e1, e2, cond_true, bind_some, nbt c1, cond_false, beq_iff_eq.2 c2, Bool.not_true, nbt c3, hE, df c4, Bool.not_false]; rfl), .inr ⟨fun hh => c4 (by cases hh; rfl), _, _, rfl⟩⟩
   by_cases c5 : x.2.2.2.2.1 = y.2.2.2.2.1
   case neg => exact ⟨_, a5d (by simp only [a6e, j6, e8, e9, e1, e2, cond_true, bind_some, nbt c1, cond_false, beq_iff_eq.2 c2, Bool.not_true, nbt c3, hE, dt c4, hF, df c5, Bool.not_false]; rfl), .inr ⟨fun hh => c5 (by cases hh; rfl), _, _, rfl⟩⟩
   cases za with
   | false =>
     have c6 : x.2.2.2.2.2 ≠ y.2.2.2.2.2 := fun hh => by have := a2.2 hh; cases this
     exact ⟨_, a5d (by simp only [a6e, j6, e8, e9, e1, e2, cond_true, bind_some, nbt c1, cond_false, beq_iff_eq.2 c2, Bool.not_true, nbt c3, hE, dt c4, hF, dt c5, a1, Bool.not_false]; rfl), .inr ⟨fun hh => c6 (by cases hh; rfl), _, _, rfl⟩⟩
   | true =>
     have hxy : x = y := Prod.ext c1 (Prod.ext c2 (Prod.ext c3 (Prod.ext c4 (Prod.ext c5 (a2.1 rfl)))))
     refine ⟨z, a5d ?_, ?_⟩
     · simp only [a6e, j6, e8, e9, e1, e2, cond_true, bind_some, nbt c1, cond_false, beq_iff_eq.2 c2, Bool.not_true, nbt c3, hE, dt c4, hF, dt c5, a1, j7 p x hp]
       exact k1
     · rcases k2 with ⟨g, g2⟩ | ⟨g, g2⟩
       · exact .inl ⟨by rw [g, hxy], g2⟩
       · exact .inr ⟨by simpa [hxy] using g, g2⟩
 | [], _ :: _, _, _, _, h, _, _, _ => by simp at h
 | _ :: _, [], _, _, _, h, _, _, _ => by simp at h
theorem b8H {n m : Nat} (hn : n ≤ 1000000) (hm : m ≤ 1000000) {a b : Unt} (ha : SzU n m a) (hb : SzU n m b) : ∃ z, b9F T.rf a b = some z ∧ (z = true ↔ a = b) := by
 obtain ⟨zi, i1, i2⟩ := b1A (a := a.2.2.1) (b := b.2.2.1) (Nat.le_trans ha.i hn)
 obtain ⟨zv, v1, v2⟩ := b1A (a := a.2.2.2.2.2.1) (b := b.2.2.2.2.2.1) (Nat.le_trans ha.v hn)
 by_cases c1 : a.1 = b.1
 case neg => exact ⟨false, a5f (by simp only [a7l, beq_eq_false_iff_ne.2 c1, Bool.not_false, cond_true]), M7 c1 (fun h => by rw [h])⟩
 by_cases c2 : a.2.1 = b.2.1
 case neg => exact ⟨false, a5f (by simp only [a7l, beq_iff_eq.2 c1, Bool.not_true, cond_false, beq_eq_false_iff_ne.2 c2, Bool.not_false, cond_true]), M7 c2 (fun h => by rw [h])⟩
 cases zi with
 | false => exact ⟨false, a5f (by simp only [a7l, beq_iff_eq.2 c1, Bool.not_true, cond_false, beq_iff_eq.2 c2, i1, bind_some, Bool.not_false, cond_true]), M7 (P := a.2.2.1 = b.2.2.1) (fun h => by have := i2.2 h; cases this) (fun h => by rw [h])⟩
 | true =>
 by_cases c3 : a.2.2.2.1 = b.2.2.2.1 ∧ a.2.2.2.2.1 = b.2.2.2.2.1
 case neg =>
  have hh : (a.2.2.2.1 == b.2.2.2.1 && a.2.2.2.2.1 == b.2.2.2.2.1) = false := by
   rw [Bool.and_eq_false_iff]
   by_cases h1 : a.2.2.2.1 = b.2.2.2.1
   · exact .inr (bf fun h2 => c3 ⟨h1, h2⟩)
   · exact .inl (beq_eq_false_iff_ne.2 h1)
  exact ⟨false, a5f (by simp only [a7l, beq_iff_eq.2 c1, Bool.not_true, cond_false, beq_iff_eq.2 c2, i1, bind_some, hh, Bool.not_false, cond_true]), M7 c3 (fun h => by rw [h]; exact ⟨rfl, rfl⟩)⟩
 have h3 : (a.2.2.2.1 == b.2.2.2.1 && a.2.2.2.2.1 == b.2.2.2.2.1) = true := by rw [beq_iff_eq.2 c3.1, bt c3.2]; rfl
 cases zv with
 | false => exact ⟨false, a5f (by simp only [a7l, beq_iff_eq.2 c1, Bool.not_true, cond_false, beq_iff_eq.2 c2, i1, bind_some, h3, v1, Bool.not_false, cond_true]), M7 (P := a.2.2.2.2.2.1 = b.2.2.2.2.2.1) (fun h => by have := v2.2 h; cases this) (fun h => by rw [h])⟩
 | true =>
 by_cases c4 : a.2.2.2.2.2.2.1.length = b.2.2.2.2.2.2.1.length
 case neg => exact ⟨false, a5f (by simp only [a7l, beq_iff_eq.2 c1, Bool.not_true, cond_false, beq_iff_eq.2 c2, i1, bind_some, h3, v1, nbf (show ((a.2.2.2.2.2.2.1.length : Nat) : Int) ≠ ((b.2.2.2.2.2.2.1.length : Nat) : Int) by omega), cond_true]), M7 c4 (fun h => by rw [h])⟩
 by_cases c5 : a.2.2.2.2.2.2.2.length = b.2.2.2.2.2.2.2.length
 case neg => exact ⟨false, a5f (by simp only [a7l, beq_iff_eq.2 c1, Bool.not_true, cond_false, beq_iff_eq.2 c2, i1, bind_some, h3, v1, nbt (show ((a.2.2.2.2.2.2.1.length : Nat) : Int) = ((b.2.2.2.2.2.2.1.length : Nat) : Int) by omega), nbf (show ((a.2.2.2.2.2.2.2.length : Nat) : Int) ≠ ((b.2.2.2.2.2.2.2.length : Nat) : Int) by omega), cond_true]), M7 c5 (fun h => by rw [h])⟩
 obtain ⟨z0, k1, k2⟩ := b8F a.1 b.1 a.2.1 b.2.1 a.2.2.1 b.2.2.1 a.2.2.2.1 b.2.2.2.1 a.2.2.2.2.1 b.2.2.2.2.1 a.2.2.2.2.2.1 b.2.2.2.2.2.1 a.2.2.2.2.2.2.2 b.2.2.2.2.2.2.2 a.2.2.2.2.2.2.1 b.2.2.2.2.2.2.1 [] [] rfl c4 (Nat.le_trans ha.q hn) (fun y h => Nat.le_trans (ha.qe y h) hm) (fun y h => Nat.le_trans (hb.qe y h) hm)
 obtain ⟨z2, l1, l2⟩ := b8G hn hm a.1 b.1 a.2.1 b.2.1 a.2.2.1 b.2.2.1 a.2.2.2.1 b.2.2.2.1 a.2.2.2.2.1 b.2.2.2.2.1 a.2.2.2.2.2.1 b.2.2.2.2.2.1 a.2.2.2.2.2.2.1 b.2.2.2.2.2.2.1 a.2.2.2.2.2.2.2 b.2.2.2.2.2.2.2 [] [] rfl c5 (Nat.le_trans ha.x hn) (fun y h => ha.xe y h) (fun y h => hb.xe y h)
 simp only [List.nil_append, length_nil] at k1 k2 l1
 rw [show ((0 : Nat) : Int) = (0 : Int) from rfl] at k1 l1
 have base : ∀ z, (b7c T.rb a b 0).bind (fun z3 => match z3 with
   | .inl u4 => some u4.2.2
   | .inr w5 => (b7d T.rb w5.1 w5.2 0).bind fun z6 => match z6 with
     | .inl u7 => some u7.2.2
     | .inr w8 => some true) = some z → b9F T.rf a b = some z := fun z hz => a5f (by
  simp only [a7l, beq_iff_eq.2 c1, Bool.not_true, cond_false, beq_iff_eq.2 c2, i1, bind_some, h3, v1, nbt (show ((a.2.2.2.2.2.2.1.length : Nat) : Int) = ((b.2.2.2.2.2.2.1.length : Nat) : Int) by omega), nbt (show ((a.2.2.2.2.2.2.2.length : Nat) : Int) = ((b.2.2.2.2.2.2.2.length : Nat) : Int) by omega)]
  exact hz)
 rcases k2 with ⟨g, rfl⟩ | ⟨g, _, _, rfl⟩
 · rcases l2 with ⟨g', _, rfl⟩ | ⟨g', _, _, rfl⟩
   · exact ⟨true, base _ (by rw [k1, bind_some]; simp only; rw [l1, bind_some]), ⟨fun _ => Prod.ext c1 (Prod.ext c2 (Prod.ext (i2.1 rfl) (Prod.ext c3.1 (Prod.ext c3.2 (Prod.ext (v2.1 rfl) (Prod.ext g g')))))), fun _ => rfl⟩⟩
   · exact ⟨false, base _ (by rw [k1, bind_some]; simp only; rw [l1, bind_some]), M7 g' (fun h => by rw [h])⟩
 · exact ⟨false, base _ (by rw [k1, bind_some]), M7 g (fun h => by rw [h])⟩
theorem b8E {n m : Nat} (hnn : n ≤ 1000000) (hmm : m ≤ 1000000) (mn mn' bk bk' : Str) : ∀ (s t p q : List Unt), p.length = q.length → s.length = t.length → (p ++ s).length ≤ 1000000 → (∀ y ∈ s, SzU n m y) → (∀ y ∈ t, SzU n m y) →
  ∃ z, c0e T.rb (p ++ s, mn, bk) (q ++ t, mn', bk') (p.length : Nat) = some z ∧ ((s = t ∧ ∃ a, z = .inr a) ∨ (s ≠ t ∧ ∃ a b, z = .inl (a, b, false)))
 | [], [], p, q, _, _, _, _, _ => ⟨_, b7N (by simp only [b4w, l8, cond_false]; rfl), .inl ⟨rfl, _, rfl⟩⟩
 | x :: s, y :: t, p, q, h, h2, h3, hs, ht => by
   obtain ⟨z, k1, k2⟩ := b8E hnn hmm mn mn' bk bk' s t (p ++ [x]) (q ++ [y]) (by simp [h]) (by simpa using h2) (by simpa using h3) (fun y h => hs y (List.mem_cons_of_mem _ h)) (fun y h => ht y (List.mem_cons_of_mem _ h))
   simp only [List.append_assoc, List.singleton_append] at k1
   have hp : p.length < 4611686018427387904 := by simp at h3; omega
   have e1 : inb ((p.length : Nat) : Int) (q ++ y :: t).length = true := by rw [h]; exact e8 q y t
   have e2 : nth (q ++ y :: t) (((p.length : Nat) : Int)).toNat = some y := by rw [h]; exact e9 q y t
   obtain ⟨zu, a1, a2⟩ := b8H hnn hmm (hs x (by simp)) (ht y (by simp))
   cases zu with
   | false =>
     have c6 : x ≠ y := fun hh => by have := a2.2 hh; cases this
     exact ⟨_, b7N (by simp only [b4w, j6, e8, e9, e1, e2, cond_true, bind_some, a1, Bool.not_false]; rfl), .inr ⟨fun hh => c6 (by cases hh; rfl), _, _, rfl⟩⟩
   | true =>
     have hxy : x = y := a2.1 rfl
     refine ⟨z, b7N ?_, ?_⟩
     · simp only [b4w, j6, e8, e9, e1, e2, cond_true, bind_some, a1, Bool.not_true, cond_false, j7 p x hp]
       exact k1
     · rcases k2 with ⟨g, g2⟩ | ⟨g, g2⟩
       · exact .inl ⟨by rw [g, hxy], g2⟩
       · exact .inr ⟨by simpa [hxy] using g, g2⟩
 | [], _ :: _, _, _, _, h, _, _, _ => by simp at h
 | _ :: _, [], _, _, _, h, _, _, _ => by simp at h
theorem c6B {n m : Nat} (hn : n ≤ 1000000) (hm : m ≤ 1000000) {a b : Prg} (ha : SzP n m a) (hb : SzP n m b) : ∃ z, a9v T.rf a b = some z ∧ (z = true ↔ a = b) := by
 by_cases c1 : a.2.1 = b.2.1
 case neg => exact ⟨false, b1c (by simp only [b1l, beq_eq_false_iff_ne.2 c1, Bool.not_false, cond_true]), M7 c1 (fun h => by rw [h])⟩
 by_cases c2 : a.2.2 = b.2.2
 case neg => exact ⟨false, b1c (by simp only [b1l, beq_iff_eq.2 c1, Bool.not_true, cond_false, beq_eq_false_iff_ne.2 c2, Bool.not_false, cond_true]), M7 c2 (fun h => by rw [h])⟩
 by_cases c3 : a.1.length = b.1.length
 case neg => exact ⟨false, b1c (by simp only [b1l, beq_iff_eq.2 c1, Bool.not_true, cond_false, beq_iff_eq.2 c2, nbf (show ((a.1.length : Nat) : Int) ≠ ((b.1.length : Nat) : Int) by omega), cond_true]), M7 c3 (fun h => by rw [h])⟩
 obtain ⟨z0, k1, k2⟩ := b8E hn hm a.2.1 b.2.1 a.2.2 b.2.2 a.1 b.1 [] [] rfl c3 (Nat.le_trans ha.c hn) (fun y h => ha.u y h) (fun y h => hb.u y h)
 simp only [List.nil_append, length_nil] at k1
 rw [show ((0 : Nat) : Int) = (0 : Int) from rfl] at k1
 have hl := nbt (show ((a.1.length : Nat) : Int) = ((b.1.length : Nat) : Int) by omega)
 rcases k2 with ⟨g, _, rfl⟩ | ⟨g, _, _, rfl⟩
 · exact ⟨true, b1c (by simp only [b1l, beq_iff_eq.2 c1, Bool.not_true, cond_false, beq_iff_eq.2 c2, hl, k1, bind_some]), ⟨fun _ => Prod.ext g (Prod.ext c1 c2), fun _ => rfl⟩⟩
 · exact ⟨false, b1c (by simp only [b1l, beq_iff_eq.2 c1, Bool.not_true, cond_false, beq_iff_eq.2 c2, hl, k1, bind_some]), M7 g (fun h => by rw [h])⟩
end Go.Proofs.YtlobhcgbmpcdlaaGreatDoor.R
