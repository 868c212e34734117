import Derived.Test.YtlobhcgbmpcdlaaGreatDoorShwX
open Option (bind_some)
open List (length_nil)
namespace Go.Proofs.YtlobhcgbmpcdlaaGreatDoor.R
open Go Go.Bm Go.Proofs
set_option linter.unusedVariables false
set_option linter.unusedSimpArgs false
set_option maxRecDepth 4000
abbrev Pm : Type := Str × Int
abbrev Eqn : Type := Str × List Nd
abbrev Itm : Type := Int × Str × Int × List Nd × List Nd × List (List Nd)
abbrev Unt : Type := Bool × Str × List Pm × Str × Int × List Pm × List Eqn × List Itm
abbrev Prg : Type := List Unt × Str × Str
structure SzI (n m : Nat) (x : Itm) : Prop where
 e : x.2.2.2.1.length ≤ m
 f : x.2.2.2.2.1.length ≤ m
 c : x.2.2.2.2.2.length ≤ n
 a : ∀ y ∈ x.2.2.2.2.2, y.length ≤ m
structure SzU (n m : Nat) (u : Unt) : Prop where
 i : u.2.2.1.length ≤ n
 v : u.2.2.2.2.2.1.length ≤ n
 q : u.2.2.2.2.2.2.1.length ≤ n
 x : u.2.2.2.2.2.2.2.length ≤ n
 qe : ∀ q ∈ u.2.2.2.2.2.2.1, q.2.length ≤ m
 xe : ∀ x ∈ u.2.2.2.2.2.2.2, SzI n m x
structure SzP (n m : Nat) (p : Prg) : Prop where
 c : p.1.length ≤ n
 u : ∀ u ∈ p.1, SzU n m u
theorem SzI.mono {n m n' m' : Nat} {x : Itm} (h : SzI n m x) (h1 : n ≤ n') (h2 : m ≤ m') : SzI n' m' x :=
 ⟨Nat.le_trans h.e h2, Nat.le_trans h.f h2, Nat.le_trans h.c h1, fun y hy => Nat.le_trans (h.a y hy) h2⟩
theorem SzU.mono {n m n' m' : Nat} {u : Unt} (h : SzU n m u) (h1 : n ≤ n') (h2 : m ≤ m') : SzU n' m' u :=
 ⟨Nat.le_trans h.i h1, Nat.le_trans h.v h1, Nat.le_trans h.q h1, Nat.le_trans h.x h1, fun y hy => Nat.le_trans (h.qe y hy) h2, fun x hx => (h.xe x hx).mono h1 h2⟩
theorem SzP.mono {n m n' m' : Nat} {p : Prg} (h : SzP n m p) (h1 : n ≤ n') (h2 : m ≤ m') : SzP n' m' p :=
 ⟨Nat.le_trans h.c h1, fun x hx => (h.u x hx).mono h1 h2⟩
theorem T6 {n : Nat} (h : n ≤ 30) : decide (((n : Nat) : Int) > 30) = false := df (by omega)
theorem a8J {n : Nat} (h : ¬ n ≤ 30) : decide (((n : Nat) : Int) > 30) = true := dt (by omega)
theorem a3n {n : Nat} (h : n ≤ 200) : decide (((n : Nat) : Int) > 200) = false := df (by omega)
theorem a9E {n : Nat} (h : ¬ n ≤ 200) : decide (((n : Nat) : Int) > 200) = true := dt (by omega)
theorem b8N (kd : Int) (nm : Str) (ty : Int) (e f : List Nd) : ∀ (suf pre : List (List Nd)), (pre ++ suf).length ≤ 30 →
  ∃ z, k3 T.rb (kd, nm, ty, e, f, pre ++ suf) (pre.length : Nat) = some z ∧ ((∀ y ∈ suf, y.length ≤ 200) ∧ (∃ u, z = .inr u) ∨ ∃ u, z = .inl (u, false))
 | [], pre, h => ⟨.inr (kd, nm, ty, e, f, pre ++ []), ob3 (by simp only [b3, l8, cond_false]), .inl ⟨by simp, _, rfl⟩⟩
 | x :: suf, pre, h => by
   have hp : pre.length < 4611686018427387904 := by simp at h; omega
   obtain ⟨z, h1, h2⟩ := b8N kd nm ty e f suf (pre ++ [x]) (by simpa using h)
   simp only [List.append_assoc, List.singleton_append] at h1
   by_cases hx : x.length ≤ 200
   · refine ⟨z, ob3 (by
      simp only [b3, j6, e8, e9, cond_true, bind_some, a3n hx, cond_false, j7 pre x hp]
      exact h1), ?_⟩
     rcases h2 with ⟨g, u, rfl⟩ | g
     · exact .inl ⟨fun y hy => by rcases List.mem_cons.1 hy with rfl | hy; exact hx; exact g y hy, u, rfl⟩
     · exact .inr g
   · exact ⟨_, ob3 (by
      simp only [b3, j6, e8, e9, cond_true, bind_some, a9E hx]
      rfl), .inr ⟨_, rfl⟩⟩
theorem b8M (k : Bool) (nm : Str) (i : List Pm) (o : Str) (t : Int) (v : List Pm) (q : List Eqn) : ∀ (suf pre : List Itm), (pre ++ suf).length ≤ 30 →
  ∃ z, k2 T.rb (k, nm, i, o, t, v, q, pre ++ suf) (pre.length : Nat) = some z ∧ ((∀ y ∈ suf, SzI 30 200 y) ∧ (∃ u, z = .inr u) ∨ ∃ u, z = .inl (u, false))
 | [], pre, h => ⟨.inr (k, nm, i, o, t, v, q, pre ++ []), ob2 (by simp only [b2, l8, cond_false]), .inl ⟨by simp, _, rfl⟩⟩
 | x :: suf, pre, h => by
   have hp : pre.length < 4611686018427387904 := by simp at h; omega
   obtain ⟨z, h1, h2⟩ := b8M k nm i o t v q suf (pre ++ [x]) (by simpa using h)
   simp only [List.append_assoc, List.singleton_append] at h1
   by_cases he : x.2.2.2.1.length ≤ 200
   case neg => exact ⟨_, ob2 (by
    simp only [b2, j6, e8, e9, cond_true, bind_some, a9E he]
    rfl), .inr ⟨_, rfl⟩⟩
   by_cases hf : x.2.2.2.2.1.length ≤ 200
   case neg => exact ⟨_, ob2 (by
    simp only [b2, j6, e8, e9, cond_true, bind_some, a3n he, a9E hf, cond_false]
    rfl), .inr ⟨_, rfl⟩⟩
   by_cases ha : x.2.2.2.2.2.length ≤ 30
   case neg => exact ⟨_, ob2 (by
    simp only [b2, j6, e8, e9, cond_true, bind_some, a3n he, a3n hf, a8J ha, cond_false]
    rfl), .inr ⟨_, rfl⟩⟩
   obtain ⟨z6, g1, g2⟩ := b8N x.1 x.2.1 x.2.2.1 x.2.2.2.1 x.2.2.2.2.1 x.2.2.2.2.2 [] (by simpa using ha)
   simp only [List.nil_append, length_nil] at g1
   rw [show ((0 : Nat) : Int) = (0 : Int) from rfl] at g1
   rcases g2 with ⟨g2, u, rfl⟩ | ⟨u, rfl⟩
   · refine ⟨z, ob2 (by
      simp only [b2, j6, e8, e9, cond_true, bind_some, a3n he, a3n hf, T6 ha, cond_false, g1, j7 pre x hp]
      exact h1), ?_⟩
     rcases h2 with ⟨g, u, rfl⟩ | g
     · exact .inl ⟨fun y hy => by rcases List.mem_cons.1 hy with rfl | hy; exact ⟨he, hf, ha, g2⟩; exact g y hy, u, rfl⟩
     · exact .inr g
   · exact ⟨_, ob2 (by
      simp only [b2, j6, e8, e9, cond_true, bind_some, a3n he, a3n hf, T6 ha, cond_false, g1]
      rfl), .inr ⟨_, rfl⟩⟩
theorem b8L (k : Bool) (nm : Str) (i : List Pm) (o : Str) (t : Int) (v : List Pm) (its : List Itm) : ∀ (suf pre : List Eqn), (pre ++ suf).length ≤ 30 →
  ∃ z, k1 T.rb (k, nm, i, o, t, v, pre ++ suf, its) (pre.length : Nat) = some z ∧ ((∀ y ∈ suf, y.2.length ≤ 200) ∧ z = .inr (k, nm, i, o, t, v, pre ++ suf, its) ∨ ∃ u, z = .inl (u, false))
 | [], pre, h => ⟨.inr (k, nm, i, o, t, v, pre ++ [], its), ob1 (by simp only [b1, l8, cond_false]), .inl ⟨by simp, rfl⟩⟩
 | x :: suf, pre, h => by
   have hp : pre.length < 4611686018427387904 := by simp at h; omega
   obtain ⟨z, h1, h2⟩ := b8L k nm i o t v its suf (pre ++ [x]) (by simpa using h)
   simp only [List.append_assoc, List.singleton_append] at h1 h2
   by_cases hx : x.2.length ≤ 200
   · refine ⟨z, ob1 (by
      simp only [b1, j6, e8, e9, cond_true, bind_some, a3n hx, cond_false, j7 pre x hp]
      exact h1), ?_⟩
     rcases h2 with ⟨g, rfl⟩ | g
     · exact .inl ⟨fun y hy => by rcases List.mem_cons.1 hy with rfl | hy; exact hx; exact g y hy, rfl⟩
     · exact .inr g
   · exact ⟨_, ob1 (by
      simp only [b1, j6, e8, e9, cond_true, bind_some, a9E hx]
      rfl), .inr ⟨_, rfl⟩⟩
theorem b8K (mn bk : Str) : ∀ (suf pre : List Unt), (pre ++ suf).length ≤ 30 →
  ∃ z, k0 T.rb (pre ++ suf, mn, bk) (pre.length : Nat) = some z ∧ ((∀ y ∈ suf, SzU 30 200 y) ∧ (∃ u, z = .inr u) ∨ ∃ u, z = .inl (u, false))
 | [], pre, h => ⟨.inr (pre ++ [], mn, bk), ob0 (by simp only [b0, l8, cond_false]), .inl ⟨by simp, _, rfl⟩⟩
 | x :: suf, pre, h => by
   have hp : pre.length < 4611686018427387904 := by simp at h; omega
   obtain ⟨z, h1, h2⟩ := b8K mn bk suf (pre ++ [x]) (by simpa using h)
   simp only [List.append_assoc, List.singleton_append] at h1
   by_cases c1 : x.2.2.1.length ≤ 30
   case neg => exact ⟨_, ob0 (by
    simp only [b0, j6, e8, e9, cond_true, bind_some, a8J c1]
    rfl), .inr ⟨_, rfl⟩⟩
   by_cases c2 : x.2.2.2.2.2.1.length ≤ 30
   case neg => exact ⟨_, ob0 (by
    simp only [b0, j6, e8, e9, cond_true, bind_some, T6 c1, a8J c2, cond_false]
    rfl), .inr ⟨_, rfl⟩⟩
   by_cases c3 : x.2.2.2.2.2.2.1.length ≤ 30
   case neg => exact ⟨_, ob0 (by
    simp only [b0, j6, e8, e9, cond_true, bind_some, T6 c1, T6 c2, a8J c3, cond_false]
    rfl), .inr ⟨_, rfl⟩⟩
   by_cases c4 : x.2.2.2.2.2.2.2.length ≤ 30
   case neg => exact ⟨_, ob0 (by
    simp only [b0, j6, e8, e9, cond_true, bind_some, T6 c1, T6 c2, T6 c3, a8J c4, cond_false]
    rfl), .inr ⟨_, rfl⟩⟩
   obtain ⟨z2, g1, g2⟩ := b8L x.1 x.2.1 x.2.2.1 x.2.2.2.1 x.2.2.2.2.1 x.2.2.2.2.2.1 x.2.2.2.2.2.2.2 x.2.2.2.2.2.2.1 [] (by simpa using c3)
   obtain ⟨z4, k1, k2⟩ := b8M x.1 x.2.1 x.2.2.1 x.2.2.2.1 x.2.2.2.2.1 x.2.2.2.2.2.1 x.2.2.2.2.2.2.1 x.2.2.2.2.2.2.2 [] (by simpa using c4)
   simp only [List.nil_append, length_nil] at g1 g2 k1
   rw [show ((0 : Nat) : Int) = (0 : Int) from rfl] at g1 k1
   rcases g2 with ⟨g2, rfl⟩ | ⟨u, rfl⟩
   · rcases k2 with ⟨k2, u, rfl⟩ | ⟨u, rfl⟩
     · refine ⟨z, ob0 (by
        simp only [b0, j6, e8, e9, cond_true, bind_some, T6 c1, T6 c2, T6 c3, T6 c4, cond_false, g1, k1, j7 pre x hp]
        exact h1), ?_⟩
       rcases h2 with ⟨g, u, rfl⟩ | g
       · exact .inl ⟨fun y hy => by rcases List.mem_cons.1 hy with rfl | hy; exact ⟨c1, c2, c3, c4, g2, k2⟩; exact g y hy, u, rfl⟩
       · exact .inr g
     · exact ⟨_, ob0 (by
        simp only [b0, j6, e8, e9, cond_true, bind_some, T6 c1, T6 c2, T6 c3, T6 c4, cond_false, g1, k1]
        rfl), .inr ⟨_, rfl⟩⟩
   · exact ⟨_, ob0 (by
      simp only [b0, j6, e8, e9, cond_true, bind_some, T6 c1, T6 c2, T6 c3, T6 c4, cond_false, g1]
      rfl), .inr ⟨_, rfl⟩⟩
theorem b5M (p : Prg) : ∃ s, c1 T.rf p = some s ∧ (s = true → SzP 30 200 p) := by
 by_cases hl : p.1.length ≤ 30
 · obtain ⟨z, h1, h2⟩ := b8K p.2.1 p.2.2 p.1 [] (by simpa using hl)
   simp only [List.nil_append, length_nil] at h1
   rw [show ((0 : Nat) : Int) = (0 : Int) from rfl] at h1
   rcases h2 with ⟨g, u, rfl⟩ | ⟨u, rfl⟩
   · exact ⟨true, or1 (by simp only [r1, T6 hl, cond_false, h1, bind_some]), fun _ => ⟨hl, g⟩⟩
   · exact ⟨false, or1 (by simp only [r1, T6 hl, cond_false, h1, bind_some]), fun h => by cases h⟩
 · exact ⟨false, or1 (by simp only [r1, a8J hl, cond_true]), fun h => by cases h⟩
def M9 (p : Pm) : Bool := o5 p.1 && (p.2 == 1 || p.2 == 2)
def a0v (l : List Pm) : Bool := decide (l.length ≤ 200) && l.all M9
def a3i (q : Eqn) : Bool := o5 q.1 && B3 q.2
def T7 (x : Itm) : Bool :=
 if x.1 = 1 ∨ x.1 = 2 then (x.2.1 == ([] : Str)) && (x.2.2.1 == 0 && (B3 x.2.2.2.1 && (decide (x.2.2.2.2.1.length = 0) && decide (x.2.2.2.2.2.length = 0)))) else
 if x.1 = 3 then o5 x.2.1 && ((x.2.2.1 == 1 || x.2.2.1 == 2) && (B3 x.2.2.2.1 && (decide (x.2.2.2.2.1.length = 0) && decide (x.2.2.2.2.2.length = 0)))) else
 if x.1 = 4 then o5 x.2.1 && (x.2.2.1 == 0 && (B3 x.2.2.2.1 && (B3 x.2.2.2.2.1 && decide (x.2.2.2.2.2.length = 0)))) else
 if x.1 = 5 then o5 x.2.1 && (x.2.2.1 == 0 && (decide (x.2.2.2.1.length = 0) && (decide (x.2.2.2.2.1.length = 0) && (decide (x.2.2.2.2.2.length ≤ 200) && x.2.2.2.2.2.all B3)))) else false
def T4 (u : Unt) : Bool :=
 o5 u.2.1 && (a0v u.2.2.1 && (a0v u.2.2.2.2.2.1 && ((decide (u.2.2.2.2.2.2.1.length ≤ 200) && u.2.2.2.2.2.2.1.all a3i) && ((decide (u.2.2.2.2.2.2.2.length ≤ 200) && u.2.2.2.2.2.2.2.all T7) &&
 (bif u.1 then (u.2.2.2.1 == ([] : Str) && u.2.2.2.2.1 == 0) && (decide (u.2.2.2.2.2.1.length = 0) && decide (u.2.2.2.2.2.2.1.length = 0)) else M9 (u.2.2.2.1, u.2.2.2.2.1))))))
def a3C (p : Prg) : Bool := o5 p.2.1 && ((p.2.2 == ([] : Str) || o5 p.2.2) && (decide (p.1.length ≤ 200) && p.1.all T4))
theorem a0s {n : Nat} : decide (((n : Nat) : Int) ≤ 200) = decide (n ≤ 200) := by
 by_cases h : n ≤ 200
 · rw [dt h, dt (by omega)]
 · rw [df h, df (by omega)]
theorem d0u {n : Nat} : (((n : Nat) : Int) == 0) = decide (n = 0) := by
 by_cases h : n = 0
 · rw [dt h, bt (by omega)]
 · rw [df h, bf (by omega)]
theorem b7o {n m : Nat} (h : n ≤ 1000000) (h2 : m ≤ 1000000) : (IntKind.i64.wrap (((n : Nat) : Int) + ((m : Nat) : Int)) == 0) = (decide (n = 0) && decide (m = 0)) := by
 rw [wr (by omega)]
 by_cases h : n = 0
 · by_cases g : m = 0
   · rw [dt h, dt g, bt (by omega)]; rfl
   · rw [dt h, df g, bf (by omega)]; rfl
 · rw [df h, bf (by omega)]; rfl
theorem a6N (p : Pm) : c85 T.rf p = some (M9 p) := d6b (by
 simp only [r85, Q6, bind_some, M9]
 cases o5 p.1 <;> cases (p.2 == 1) <;> rfl)
theorem a1q (p : Pm) : a4e T.rf p = some (M9 p) := d1M (by
 simp only [c1r, H6, bind_some, M9]
 cases o5 p.1 <;> cases (p.2 == 1) <;> rfl)
theorem d0o {l : List Pm} {p : Pm → Bool} (hp : ∀ x ∈ l, c85 T.rf x = some (p x)) (hl : l.length ≤ 200) : ∀ (suf pre : List Pm), l = pre ++ suf →
  ∃ z, k73 T.rb l ((l.length : Nat) : Int) (pre.length : Nat) = some z ∧ ((suf.all p = true ∧ z = .inr ()) ∨ (suf.all p = false ∧ ∃ j : Nat, z = .inl (j : Int)))
 | [], pre, h => ⟨.inr (), c6d (by
    subst h
    simp only [b73, l8, cond_false]), .inl ⟨rfl, rfl⟩⟩
 | x :: suf, pre, h => by
   obtain ⟨z, h1, h2⟩ := d0o hp hl suf (pre ++ [x]) (by rw [h]; simp)
   have hpl : pre.length < 4611686018427387904 := by rw [h] at hl; simp at hl; omega
   have hx := hp x (by rw [h]; simp)
   have hx' : c84 T.rf x = some (!(p x)) := d6a (by simp only [r84, hx, bind_some])
   cases hb : p x with
   | false =>
     refine ⟨.inl (pre.length : Nat), c6d ?_, .inr ⟨by simp [hb], _, rfl⟩⟩
     subst h
     simp only [b73, j6, e8, e9, cond_true, bind_some, hx', hb, Bool.not_false]
   | true =>
     refine ⟨z, c6d ?_, by simpa [hb] using h2⟩
     subst h
     simp only [b73, j6, e8, e9, cond_true, cond_false, bind_some, hx', hb, Bool.not_true, j7 pre x hpl]
     exact h1
theorem b9i {l : List Pm} {p : Pm → Bool} (hp : ∀ x ∈ l, c85 T.rf x = some (p x)) : c81 T.rf l = some (decide (l.length ≤ 200) && l.all p) := d5Y (by
 by_cases hl : l.length ≤ 200
 · obtain ⟨z, h1, h2⟩ := d0o hp hl l [] rfl
   simp only [length_nil] at h1
   rw [show ((0 : Nat) : Int) = (0 : Int) from rfl] at h1
   have hc : c82 T.rf l = some (!(l.all p)) := d5Z (by
    rcases h2 with ⟨g, rfl⟩ | ⟨g, j, rfl⟩
    · have : c83 T.rf l = some (-1) := d1Y (by simp only [r83, h1, bind_some])
      simp only [r82, this, bind_some, g]; rfl
    · have : c83 T.rf l = some (j : Int) := d1Y (by simp only [r83, h1, bind_some])
      simp only [r82, this, bind_some, g, dt (show (j : Int) ≥ 0 by omega)]; rfl)
   simp only [r81, a0s, dt hl, cond_true, hc, bind_some, Bool.not_not, Bool.true_and]
 · simp only [r81, a0s, df hl, cond_false, Bool.false_and])
theorem d0p {l : List Eqn} {p : Eqn → Bool} (hp : ∀ x ∈ l, c90 T.rf x = some (p x)) (hl : l.length ≤ 200) : ∀ (suf pre : List Eqn), l = pre ++ suf →
  ∃ z, k74 T.rb l ((l.length : Nat) : Int) (pre.length : Nat) = some z ∧ ((suf.all p = true ∧ z = .inr ()) ∨ (suf.all p = false ∧ ∃ j : Nat, z = .inl (j : Int)))
 | [], pre, h => ⟨.inr (), c6e (by
    subst h
    simp only [b74, l8, cond_false]), .inl ⟨rfl, rfl⟩⟩
 | x :: suf, pre, h => by
   obtain ⟨z, h1, h2⟩ := d0p hp hl suf (pre ++ [x]) (by rw [h]; simp)
   have hpl : pre.length < 4611686018427387904 := by rw [h] at hl; simp at hl; omega
   have hx := hp x (by rw [h]; simp)
   have hx' : c89 T.rf x = some (!(p x)) := d6e (by simp only [r89, hx, bind_some])
   cases hb : p x with
   | false =>
     refine ⟨.inl (pre.length : Nat), c6e ?_, .inr ⟨by simp [hb], _, rfl⟩⟩
     subst h
     simp only [b74, j6, e8, e9, cond_true, bind_some, hx', hb, Bool.not_false]
   | true =>
     refine ⟨z, c6e ?_, by simpa [hb] using h2⟩
     subst h
     simp only [b74, j6, e8, e9, cond_true, cond_false, bind_some, hx', hb, Bool.not_true, j7 pre x hpl]
     exact h1
theorem b9j {l : List Eqn} {p : Eqn → Bool} (hp : ∀ x ∈ l, c90 T.rf x = some (p x)) : c86 T.rf l = some (decide (l.length ≤ 200) && l.all p) := d6c (by
 by_cases hl : l.length ≤ 200
 · obtain ⟨z, h1, h2⟩ := d0p hp hl l [] rfl
   simp only [length_nil] at h1
   rw [show ((0 : Nat) : Int) = (0 : Int) from rfl] at h1
   have hc : c87 T.rf l = some (!(l.all p)) := d6d (by
    rcases h2 with ⟨g, rfl⟩ | ⟨g, j, rfl⟩
    · have : c88 T.rf l = some (-1) := d1Z (by simp only [r88, h1, bind_some])
      simp only [r87, this, bind_some, g]; rfl
    · have : c88 T.rf l = some (j : Int) := d1Z (by simp only [r88, h1, bind_some])
      simp only [r87, this, bind_some, g, dt (show (j : Int) ≥ 0 by omega)]; rfl)
   simp only [r86, a0s, dt hl, cond_true, hc, bind_some, Bool.not_not, Bool.true_and]
 · simp only [r86, a0s, df hl, cond_false, Bool.false_and])
theorem a7W {q : Eqn} (h : q.2.length ≤ 1000000) : c90 T.rf q = some (a3i q) := d6f (by
 simp only [r90, Q6, bind_some, a3w h, a3i]
 cases o5 q.1 <;> rfl)
theorem d0m {l : List (List Nd)} {p : (List Nd) → Bool} (hp : ∀ x ∈ l, c91 T.rf x = some (p x)) (hl : l.length ≤ 200) : ∀ (suf pre : List (List Nd)), l = pre ++ suf →
  ∃ z, k90 T.rb l ((l.length : Nat) : Int) (pre.length : Nat) = some z ∧ ((suf.all p = true ∧ z = .inr ()) ∨ (suf.all p = false ∧ ∃ j : Nat, z = .inl (j : Int)))
 | [], pre, h => ⟨.inr (), c6i (by
    subst h
    simp only [b90, l8, cond_false]), .inl ⟨rfl, rfl⟩⟩
 | x :: suf, pre, h => by
   obtain ⟨z, h1, h2⟩ := d0m hp hl suf (pre ++ [x]) (by rw [h]; simp)
   have hpl : pre.length < 4611686018427387904 := by rw [h] at hl; simp at hl; omega
   have hx := hp x (by rw [h]; simp)
   have hx' : c5C T.rf x = some (!(p x)) := d0X (by simp only [c0L, hx, bind_some])
   cases hb : p x with
   | false =>
     refine ⟨.inl (pre.length : Nat), c6i ?_, .inr ⟨by simp [hb], _, rfl⟩⟩
     subst h
     simp only [b90, j6, e8, e9, cond_true, bind_some, hx', hb, Bool.not_false]
   | true =>
     refine ⟨z, c6i ?_, by simpa [hb] using h2⟩
     subst h
     simp only [b90, j6, e8, e9, cond_true, cond_false, bind_some, hx', hb, Bool.not_true, j7 pre x hpl]
     exact h1
theorem b9g {l : List (List Nd)} {p : (List Nd) → Bool} (hp : ∀ x ∈ l, c91 T.rf x = some (p x)) : b4C T.rf l = some (decide (l.length ≤ 200) && l.all p) := d0V (by
 by_cases hl : l.length ≤ 200
 · obtain ⟨z, h1, h2⟩ := d0m hp hl l [] rfl
   simp only [length_nil] at h1
   rw [show ((0 : Nat) : Int) = (0 : Int) from rfl] at h1
   have hc : c5B T.rf l = some (!(l.all p)) := d0W (by
    rcases h2 with ⟨g, rfl⟩ | ⟨g, j, rfl⟩
    · have : b9s T.rf l = some (-1) := c4J (by simp only [b8g, h1, bind_some])
      simp only [b8f, this, bind_some, g]; rfl
    · have : b9s T.rf l = some (j : Int) := c4J (by simp only [b8g, h1, bind_some])
      simp only [b8f, this, bind_some, g, dt (show (j : Int) ≥ 0 by omega)]; rfl)
   simp only [b8e, a0s, dt hl, cond_true, hc, bind_some, Bool.not_not, Bool.true_and]
 · simp only [b8e, a0s, df hl, cond_false, Bool.false_and])
theorem b4S {n m : Nat} {x : Itm} (h : SzI n m x) (hn : n ≤ 1000000) (hm : m ≤ 1000000) : b6u T.rf x = some (T7 x) := d0U (by
 obtain ⟨kd, nm, ty, e, f, gs⟩ := x
 have he : e.length ≤ 1000000 := Nat.le_trans h.e hm
 have hf : f.length ≤ 1000000 := Nat.le_trans h.f hm
 have ha : gs.length ≤ 1000000 := Nat.le_trans h.c hn
 have hA := b9g (l := gs) (p := B3) (fun y hy => a3w (Nat.le_trans (h.a y hy) hm))
 simp only [c0K, Q6, bind_some, a3w he, a3w hf, hA, b7o hf ha, b7o he hf, d0u, T7]
 by_cases k1 : kd = 1
 · subst k1; cases (nm == ([] : Str)) <;> cases (ty == 0) <;> cases (ty == 1) <;> cases B3 e <;> rfl
 by_cases k2 : kd = 2
 · subst k2; cases (nm == ([] : Str)) <;> cases (ty == 0) <;> cases (ty == 1) <;> cases B3 e <;> rfl
 by_cases k3 : kd = 3
 · subst k3; cases o5 nm <;> cases (ty == 1) <;> cases (ty == 2) <;> cases B3 e <;> rfl
 by_cases k4 : kd = 4
 · subst k4; cases o5 nm <;> cases (ty == 0) <;> cases (ty == 1) <;> cases B3 e <;> cases B3 f <;> rfl
 by_cases k5 : kd = 5
 · subst k5; cases o5 nm <;> cases (ty == 0) <;> cases (ty == 1) <;> cases decide (e.length = 0) <;> cases decide (f.length = 0) <;> rfl
 simp only [bf k1, bf k2, bf k3, bf k4, bf k5, cond_false, if_neg k3, if_neg k4, if_neg k5, if_neg (show ¬ (kd = 1 ∨ kd = 2) by omega)]
 cases (ty == 1) <;> rfl)
theorem d0n {l : List Itm} {p : Itm → Bool} (hp : ∀ x ∈ l, b6u T.rf x = some (p x)) (hl : l.length ≤ 200) : ∀ (suf pre : List Itm), l = pre ++ suf →
  ∃ z, k89 T.rb l ((l.length : Nat) : Int) (pre.length : Nat) = some z ∧ ((suf.all p = true ∧ z = .inr ()) ∨ (suf.all p = false ∧ ∃ j : Nat, z = .inl (j : Int)))
 | [], pre, h => ⟨.inr (), c6h (by
    subst h
    simp only [b89, l8, cond_false]), .inl ⟨rfl, rfl⟩⟩
 | x :: suf, pre, h => by
   obtain ⟨z, h1, h2⟩ := d0n hp hl suf (pre ++ [x]) (by rw [h]; simp)
   have hpl : pre.length < 4611686018427387904 := by rw [h] at hl; simp at hl; omega
   have hx := hp x (by rw [h]; simp)
   have hx' : c5A T.rf x = some (!(p x)) := d0T (by simp only [c0J, hx, bind_some])
   cases hb : p x with
   | false =>
     refine ⟨.inl (pre.length : Nat), c6h ?_, .inr ⟨by simp [hb], _, rfl⟩⟩
     subst h
     simp only [b89, j6, e8, e9, cond_true, bind_some, hx', hb, Bool.not_false]
   | true =>
     refine ⟨z, c6h ?_, by simpa [hb] using h2⟩
     subst h
     simp only [b89, j6, e8, e9, cond_true, cond_false, bind_some, hx', hb, Bool.not_true, j7 pre x hpl]
     exact h1
theorem b9h {l : List Itm} {p : Itm → Bool} (hp : ∀ x ∈ l, b6u T.rf x = some (p x)) : c5y T.rf l = some (decide (l.length ≤ 200) && l.all p) := d0R (by
 by_cases hl : l.length ≤ 200
 · obtain ⟨z, h1, h2⟩ := d0n hp hl l [] rfl
   simp only [length_nil] at h1
   rw [show ((0 : Nat) : Int) = (0 : Int) from rfl] at h1
   have hc : c5z T.rf l = some (!(l.all p)) := d0S (by
    rcases h2 with ⟨g, rfl⟩ | ⟨g, j, rfl⟩
    · have : b9r T.rf l = some (-1) := c4I (by simp only [b8d, h1, bind_some])
      simp only [b8c, this, bind_some, g]; rfl
    · have : b9r T.rf l = some (j : Int) := c4I (by simp only [b8d, h1, bind_some])
      simp only [b8c, this, bind_some, g, dt (show (j : Int) ≥ 0 by omega)]; rfl)
   simp only [b8b, a0s, dt hl, cond_true, hc, bind_some, Bool.not_not, Bool.true_and]
 · simp only [b8b, a0s, df hl, cond_false, Bool.false_and])
theorem b4T {n m : Nat} {u : Unt} (h : SzU n m u) (hn : n ≤ 1000000) (hm : m ≤ 1000000) : c80 T.rf u = some (T4 u) := d5X (by
 obtain ⟨k, nm, i, o, t, v, q, xs⟩ := u
 have hP : ∀ l : List Pm, c81 T.rf l = some (a0v l) := fun l => b9i (fun x _ => a6N x)
 have hQ := b9j (l := q) (p := a3i) (fun y hy => a7W (Nat.le_trans (h.qe y hy) hm))
 have hI := b9h (l := xs) (p := T7) (fun y hy => b4S (h.xe y hy) hn hm)
 simp only [r80, Q6, bind_some, hP, hQ, hI, a6N, b7o (Nat.le_trans h.v hn) (Nat.le_trans h.q hn), T4]
 cases o5 nm <;> cases a0v i <;> cases a0v v <;> cases (decide (q.length ≤ 200) && q.all a3i) <;> cases (decide (xs.length ≤ 200) && xs.all T7) <;> cases k <;> first | rfl | (cases (o == ([] : Str)) <;> cases (t == 0) <;> rfl))
theorem d0q {l : List Unt} {p : Unt → Bool} (hp : ∀ x ∈ l, c80 T.rf x = some (p x)) (hl : l.length ≤ 200) : ∀ (suf pre : List Unt), l = pre ++ suf →
  ∃ z, k72 T.rb l ((l.length : Nat) : Int) (pre.length : Nat) = some z ∧ ((suf.all p = true ∧ z = .inr ()) ∨ (suf.all p = false ∧ ∃ j : Nat, z = .inl (j : Int)))
 | [], pre, h => ⟨.inr (), c6c (by
    subst h
    simp only [b72, l8, cond_false]), .inl ⟨rfl, rfl⟩⟩
 | x :: suf, pre, h => by
   obtain ⟨z, h1, h2⟩ := d0q hp hl suf (pre ++ [x]) (by rw [h]; simp)
   have hpl : pre.length < 4611686018427387904 := by rw [h] at hl; simp at hl; omega
   have hx := hp x (by rw [h]; simp)
   have hx' : c79 T.rf x = some (!(p x)) := d5W (by simp only [r79, hx, bind_some])
   cases hb : p x with
   | false =>
     refine ⟨.inl (pre.length : Nat), c6c ?_, .inr ⟨by simp [hb], _, rfl⟩⟩
     subst h
     simp only [b72, j6, e8, e9, cond_true, bind_some, hx', hb, Bool.not_false]
   | true =>
     refine ⟨z, c6c ?_, by simpa [hb] using h2⟩
     subst h
     simp only [b72, j6, e8, e9, cond_true, cond_false, bind_some, hx', hb, Bool.not_true, j7 pre x hpl]
     exact h1
theorem b9k {l : List Unt} {p : Unt → Bool} (hp : ∀ x ∈ l, c80 T.rf x = some (p x)) : c76 T.rf l = some (decide (l.length ≤ 200) && l.all p) := d5U (by
 by_cases hl : l.length ≤ 200
 · obtain ⟨z, h1, h2⟩ := d0q hp hl l [] rfl
   simp only [length_nil] at h1
   rw [show ((0 : Nat) : Int) = (0 : Int) from rfl] at h1
   have hc : c77 T.rf l = some (!(l.all p)) := d5V (by
    rcases h2 with ⟨g, rfl⟩ | ⟨g, j, rfl⟩
    · have : c78 T.rf l = some (-1) := d1X (by simp only [r78, h1, bind_some])
      simp only [r77, this, bind_some, g]; rfl
    · have : c78 T.rf l = some (j : Int) := d1X (by simp only [r78, h1, bind_some])
      simp only [r77, this, bind_some, g, dt (show (j : Int) ≥ 0 by omega)]; rfl)
   simp only [r76, a0s, dt hl, cond_true, hc, bind_some, Bool.not_not, Bool.true_and]
 · simp only [r76, a0s, df hl, cond_false, Bool.false_and])
theorem b0p {n m : Nat} {p : Prg} (h : SzP n m p) (hn : n ≤ 1000000) (hm : m ≤ 1000000) : c67 T.rf p = some (a3C p) := d5M (by
 have hU := b9k (l := p.1) (p := T4) (fun y hy => b4T (h.u y hy) hn hm)
 simp only [r67, Q6, bind_some, hU, a3C]
 cases o5 p.2.1 <;> cases (p.2.2 == ([] : Str)) <;> cases o5 p.2.2 <;> rfl)
theorem a1r : ∀ (suf pre : List Pm), (pre ++ suf).length ≤ 1000000 → c0i T.rb (pre ++ suf) (pre.length : Nat) = some (bif suf.all M9 then .inr () else .inl false)
 | [], pre, h => c4v (by simp only [b6i, l8, cond_false]; rfl)
 | x :: suf, pre, h => c4v (by
   have ih := a1r suf (pre ++ [x]) (by simpa using h)
   simp only [List.append_assoc, List.singleton_append] at ih
   simp only [b6i, j6, e8, e9, cond_true, bind_some, a1q, j7 pre x (by simp at h; omega), ih, List.all_cons]
   cases M9 x <;> rfl)
theorem a3J {l : List Pm} (h : l.length ≤ 1000000) : b9I T.rf l = some (a0v l) := d1L (by
 have := a1r l [] (by simpa using h)
 simp only [List.nil_append, length_nil] at this
 rw [show ((0 : Nat) : Int) = (0 : Int) from rfl] at this
 simp only [c1q, this, bind_some, a0s, a0v]
 cases l.all M9
 · simp
 · simp)
theorem a3D (kd : Int) (nm : Str) (ty : Int) (e f : List Nd) : ∀ (suf pre : List (List Nd)), (pre ++ suf).length ≤ 1000000 → (∀ y ∈ suf, y.length ≤ 1000000) →
  a6O T.rb (kd, nm, ty, e, f, pre ++ suf) (pre.length : Nat) = some (bif suf.all B3 then .inr (kd, nm, ty, e, f, pre ++ suf) else .inl ((kd, nm, ty, e, f, pre ++ suf), false))
 | [], pre, h, _ => c4z (by simp only [b6m, l8, cond_false]; rfl)
 | x :: suf, pre, h, hy => c4z (by
   have ih := a3D kd nm ty e f suf (pre ++ [x]) (by simpa using h) (fun y h => hy y (List.mem_cons_of_mem _ h))
   simp only [List.append_assoc, List.singleton_append] at ih
   simp only [b6m, j6, e8, e9, cond_true, bind_some, N2 (hy x (by simp)), j7 pre x (by simp at h; omega), ih, List.all_cons]
   cases B3 x <;> rfl)
theorem b2F {n m : Nat} {x : Itm} (h : SzI n m x) (hn : n ≤ 1000000) (hm : m ≤ 1000000) : c5R T.rf x = some (T7 x) := d1O (by
 obtain ⟨kd, nm, ty, e, f, gs⟩ := x
 have he : e.length ≤ 1000000 := Nat.le_trans h.e hm
 have hf : f.length ≤ 1000000 := Nat.le_trans h.f hm
 have ha : gs.length ≤ 1000000 := Nat.le_trans h.c hn
 have hA := a3D kd nm ty e f gs [] (by simpa using ha) (fun y hy => Nat.le_trans (h.a y hy) hm)
 simp only [List.nil_append, length_nil] at hA
 rw [show ((0 : Nat) : Int) = (0 : Int) from rfl] at hA
 simp only [c1t, H6, bind_some, N2 he, N2 hf, hA, d0u, T7, a1q, M9, a0s]
 by_cases k1 : kd = 1
 · subst k1; cases (nm == ([] : Str)) <;> cases (ty == 0) <;> cases decide (f.length = 0) <;> cases decide (gs.length = 0) <;> cases B3 e <;> rfl
 by_cases k2 : kd = 2
 · subst k2; cases (nm == ([] : Str)) <;> cases (ty == 0) <;> cases decide (f.length = 0) <;> cases decide (gs.length = 0) <;> cases B3 e <;> rfl
 by_cases k3 : kd = 3
 · subst k3; cases (nm == ([] : Str)) <;> cases (ty == 0) <;> cases o5 nm <;> cases (ty == 1) <;> cases (ty == 2) <;> cases decide (f.length = 0) <;> cases decide (gs.length = 0) <;> cases B3 e <;> rfl
 by_cases k4 : kd = 4
 · subst k4; cases (nm == ([] : Str)) <;> cases (ty == 0) <;> cases o5 nm <;> cases decide (f.length = 0) <;> cases decide (gs.length = 0) <;> cases B3 e <;> cases B3 f <;> rfl
 by_cases k5 : kd = 5
 · subst k5
   cases gs.all B3 <;> simp only [cond_true, cond_false] <;> cases (nm == ([] : Str)) <;> cases (ty == 0) <;> cases o5 nm <;> cases decide (e.length = 0) <;> cases decide (f.length = 0) <;> cases decide (gs.length ≤ 200) <;> rfl
 simp only [bf k1, bf k2, bf k3, bf k4, bf k5, cond_false, if_neg k3, if_neg k4, if_neg k5, if_neg (show ¬ (kd = 1 ∨ kd = 2) by omega)]
 cases (nm == ([] : Str)) <;> cases (ty == 0) <;> cases decide (f.length = 0) <;> rfl)
theorem b1s (k : Bool) (nm : Str) (i : List Pm) (o : Str) (t : Int) (v : List Pm) (its : List Itm) : ∀ (suf pre : List Eqn), (pre ++ suf).length ≤ 1000000 → (∀ y ∈ suf, y.2.length ≤ 1000000) →
  b2q T.rb (k, nm, i, o, t, v, pre ++ suf, its) (pre.length : Nat) = some (bif suf.all a3i then .inr (k, nm, i, o, t, v, pre ++ suf, its) else .inl ((k, nm, i, o, t, v, pre ++ suf, its), false))
 | [], pre, h, _ => c4w (by simp only [b6j, l8, cond_false]; rfl)
 | x :: suf, pre, h, hy => c4w (by
   have ih := b1s k nm i o t v its suf (pre ++ [x]) (by simpa using h) (fun y h => hy y (List.mem_cons_of_mem _ h))
   simp only [List.append_assoc, List.singleton_append] at ih
   simp only [b6j, j6, e8, e9, cond_true, bind_some, H6, N2 (hy x (by simp)), j7 pre x (by simp at h; omega), ih, List.all_cons, a3i]
   cases o5 x.1 <;> cases B3 x.2 <;> rfl)
theorem b1t {n m : Nat} (hn : n ≤ 1000000) (hm : m ≤ 1000000) (k : Bool) (nm : Str) (i : List Pm) (o : Str) (t : Int) (v : List Pm) (q : List Eqn) : ∀ (suf pre : List Itm), (pre ++ suf).length ≤ 1000000 → (∀ y ∈ suf, SzI n m y) →
  b2r T.rb (k, nm, i, o, t, v, q, pre ++ suf) (pre.length : Nat) = some (bif suf.all T7 then .inr (k, nm, i, o, t, v, q, pre ++ suf) else .inl ((k, nm, i, o, t, v, q, pre ++ suf), false))
 | [], pre, h, _ => c4y (by simp only [b6l, l8, cond_false]; rfl)
 | x :: suf, pre, h, hy => c4y (by
   have ih := b1t hn hm k nm i o t v q suf (pre ++ [x]) (by simpa using h) (fun y h => hy y (List.mem_cons_of_mem _ h))
   simp only [List.append_assoc, List.singleton_append] at ih
   simp only [b6l, j6, e8, e9, cond_true, bind_some, b2F (hy x (by simp)) hn hm, j7 pre x (by simp at h; omega), ih, List.all_cons]
   cases T7 x <;> rfl)
theorem b6R {n : Nat} : decide (((n : Nat) : Int) > 200) = !(decide (n ≤ 200)) := by
 by_cases h : n ≤ 200
 · rw [dt h, df (by omega)]; rfl
 · rw [df h, dt (by omega)]; rfl
theorem d5e {n : Nat} : decide (((n : Nat) : Int) > 0) = !(decide (n = 0)) := by
 by_cases h : n = 0
 · rw [dt h, df (by omega)]; rfl
 · rw [df h, dt (by omega)]; rfl
theorem b2I {n m : Nat} {u : Unt} (h : SzU n m u) (hn : n ≤ 1000000) (hm : m ≤ 1000000) : c5Q T.rf u = some (T4 u) := d1K (by
 obtain ⟨k, nm, i, o, t, v, q, xs⟩ := u
 have h0 := b1s k nm i o t v xs q [] (by simpa using Nat.le_trans h.q hn) (fun y hy => Nat.le_trans (h.qe y hy) hm)
 have h2 := b1t hn hm k nm i o t v q xs [] (by simpa using Nat.le_trans h.x hn) (fun y hy => h.xe y hy)
 simp only [List.nil_append, length_nil] at h0 h2
 rw [show ((0 : Nat) : Int) = (0 : Int) from rfl] at h0 h2
 simp only [c1p, H6, bind_some, a3J (Nat.le_trans h.i hn), a3J (Nat.le_trans h.v hn), a1q, h0, b6R, d5e, T4]
 cases q.all a3i
 · simp only [cond_false, Bool.and_false, Bool.false_and]
   cases o5 nm <;> cases a0v i <;> cases a0v v <;> cases decide (q.length ≤ 200) <;> cases decide (xs.length ≤ 200) <;> cases k <;> cases (o == ([] : Str)) <;> cases (t == 0) <;> cases decide (v.length = 0) <;> cases decide (q.length = 0) <;> cases M9 (o, t) <;> rfl
 · simp only [cond_true, h2, bind_some]
   cases xs.all T7 <;> simp only [cond_true, cond_false, Bool.and_true, Bool.and_false, Bool.false_and]
   all_goals (cases o5 nm <;> cases a0v i <;> cases a0v v <;> cases decide (q.length ≤ 200) <;> cases decide (xs.length ≤ 200) <;> cases k <;> cases (o == ([] : Str)) <;> cases (t == 0) <;> cases decide (v.length = 0) <;> cases decide (q.length = 0) <;> cases M9 (o, t) <;> rfl))
theorem b3N {n m : Nat} (hn : n ≤ 1000000) (hm : m ≤ 1000000) (mn bk : Str) : ∀ (suf pre : List Unt), (pre ++ suf).length ≤ 1000000 → (∀ y ∈ suf, SzU n m y) →
  b7e T.rb (pre ++ suf, mn, bk) (pre.length : Nat) = some (bif suf.all T4 then .inr (pre ++ suf, mn, bk) else .inl ((pre ++ suf, mn, bk), false))
 | [], pre, h, _ => c4u (by simp only [b6h, l8, cond_false]; rfl)
 | x :: suf, pre, h, hy => c4u (by
   have ih := b3N hn hm mn bk suf (pre ++ [x]) (by simpa using h) (fun y h => hy y (List.mem_cons_of_mem _ h))
   simp only [List.append_assoc, List.singleton_append] at ih
   simp only [b6h, j6, e8, e9, cond_true, bind_some, b2I (hy x (by simp)) hn hm, j7 pre x (by simp at h; omega), ih, List.all_cons]
   cases T4 x <;> rfl)
theorem a5m {n m : Nat} {p : Prg} (h : SzP n m p) (hn : n ≤ 1000000) (hm : m ≤ 1000000) : b9H T.rf p = some (a3C p) := d1J (by
 have h0 := b3N hn hm p.2.1 p.2.2 p.1 [] (by simpa using Nat.le_trans h.c hn) (fun y hy => h.u y hy)
 simp only [List.nil_append, length_nil] at h0
 rw [show ((0 : Nat) : Int) = (0 : Int) from rfl] at h0
 simp only [c1o, H6, bind_some, h0, b6R, a3C]
 cases o5 p.2.1 <;> cases (p.2.2 == ([] : Str)) <;> cases o5 p.2.2 <;> cases decide (p.1.length ≤ 200) <;> cases p.1.all T4 <;> rfl)
end Go.Proofs.YtlobhcgbmpcdlaaGreatDoor.R
