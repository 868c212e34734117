import Derived.Test.YtlobhcgbmpcdlaaGreatDoorShwX
open Option (bind_some)
open List (length_nil)
namespace Go.Proofs.YtlobhcgbmpcdlaaGreatDoor.R
open Go Go.Bm Go.Proofs
set_option linter.unusedVariables false
set_option linter.unusedSimpArgs false
set_option maxRecDepth 4000
abbrev Pm : Type := Str × Int
abbrev Eqn : Type := Str × List Nd
abbrev Itm : Type := Int × Str × Int × List Nd × List Nd × List (List Nd)
abbrev Unt : Type := Bool × Str × List Pm × Str × Int × List Pm × List Eqn × List Itm
abbrev Prg : Type := List Unt × Str × Str
structure SzI (n m : Nat) (x : Itm) : Prop where
 e : x.2.2.2.1.length ≤ m
 f : x.2.2.2.2.1.length ≤ m
 c : x.2.2.2.2.2.length ≤ n
 a : ∀ y ∈ x.2.2.2.2.2, y.length ≤ m
structure SzU (n m : Nat) (u : Unt) : Prop where
 i : u.2.2.1.length ≤ n
 v : u.2.2.2.2.2.1.length ≤ n
 q : u.2.2.2.2.2.2.1.length ≤ n
 x : u.2.2.2.2.2.2.2.length ≤ n
 qe : ∀ q ∈ u.2.2.2.2.2.2.1, q.2.length ≤ m
 xe : ∀ x ∈ u.2.2.2.2.2.2.2, SzI n m x
structure SzP (n m : Nat) (p : Prg) : Prop where
 c : p.1.length ≤ n
 u : ∀ u ∈ p.1, SzU n m u
theorem SzI.mono {n m n' m' : Nat} {x : Itm} (h : SzI n m x) (h1 : n ≤ n') (h2 : m ≤ m') : SzI n' m' x :=
 ⟨Nat.le_trans h.e h2, Nat.le_trans h.f h2, Nat.le_trans h.c h1, fun y hy => Nat.le_trans (h.a y hy) h2⟩
theorem SzU.mono {n m n' m' : Nat} {u : Unt} (h : SzU n m u) (h1 : n ≤ n') (h2 : m ≤ m') : SzU n' m' u :=
 ⟨Nat.le_trans h.i h1, Nat.le_trans h.v h1, Nat.le_trans h.q h1, Nat.le_trans h.x h1, fun y hy => Nat.le_trans (h.qe y hy) h2, fun x hx => (h.xe x hx).mono h1 h2⟩
theorem SzP.mono {n m n' m' : Nat} {p : Prg} (h : SzP n m p) (h1 : n ≤ n') (h2 : m ≤ m') : SzP n' m' p :=
 ⟨Nat.le_trans h.c h1, fun x hx => (h.u x hx).mono h1 h2⟩
theorem gt30 {n : Nat} (h : n ≤ 30) : decide (((n : Nat) : Int) > 30) = false := df (by omega)
theorem gt30' {n : Nat} (h : ¬ n ≤ 30) : decide (((n : Nat) : Int) > 30) = true := dt (by omega)
theorem gt200 {n : Nat} (h : n ≤ 200) : decide (((n : Nat) : Int) > 200) = false := df (by omega)
theorem gt200' {n : Nat} (h : ¬ n ≤ 200) : decide (((n : Nat) : Int) > 200) = true := dt (by omega)
theorem small6 (kd : Int) (nm : Str) (ty : Int) (e f : List Nd) : ∀ (suf pre : List (List Nd)), (pre ++ suf).length ≤ 30 →
  ∃ z, k3 T.rb (kd, nm, ty, e, f, pre ++ suf) (pre.length : Nat) = some z ∧ ((∀ y ∈ suf, y.length ≤ 200) ∧ (∃ u, z = .inr u) ∨ ∃ u, z = .inl (u, false))
 | [], pre, h => ⟨.inr (kd, nm, ty, e, f, pre ++ []), ob3 (by simp only [b3, lt_end, cond_false]), .inl ⟨by simp, _, rfl⟩⟩
 | x :: suf, pre, h => by
   have hp : pre.length < 4611686018427387904 := by simp at h; omega
   obtain ⟨z, h1, h2⟩ := small6 kd nm ty e f suf (pre ++ [x]) (by simpa using h)
   simp only [List.append_assoc, List.singleton_append] at h1
   by_cases hx : x.length ≤ 200
   · refine ⟨z, ob3 (by
      simp only [b3, lt_mid, inb_mid, nth_mid, cond_true, bind_some, gt200 hx, cond_false, next_mid pre x hp]
      exact h1), ?_⟩
     rcases h2 with ⟨g, u, rfl⟩ | g
     · exact .inl ⟨fun y hy => by rcases List.mem_cons.1 hy with rfl | hy; exact hx; exact g y hy, u, rfl⟩
     · exact .inr g
   · exact ⟨_, ob3 (by
      simp only [b3, lt_mid, inb_mid, nth_mid, cond_true, bind_some, gt200' hx]
      rfl), .inr ⟨_, rfl⟩⟩
theorem small4 (k : Bool) (nm : Str) (i : List Pm) (o : Str) (t : Int) (v : List Pm) (q : List Eqn) : ∀ (suf pre : List Itm), (pre ++ suf).length ≤ 30 →
  ∃ z, k2 T.rb (k, nm, i, o, t, v, q, pre ++ suf) (pre.length : Nat) = some z ∧ ((∀ y ∈ suf, SzI 30 200 y) ∧ (∃ u, z = .inr u) ∨ ∃ u, z = .inl (u, false))
 | [], pre, h => ⟨.inr (k, nm, i, o, t, v, q, pre ++ []), ob2 (by simp only [b2, lt_end, cond_false]), .inl ⟨by simp, _, rfl⟩⟩
 | x :: suf, pre, h => by
   have hp : pre.length < 4611686018427387904 := by simp at h; omega
   obtain ⟨z, h1, h2⟩ := small4 k nm i o t v q suf (pre ++ [x]) (by simpa using h)
   simp only [List.append_assoc, List.singleton_append] at h1
   by_cases he : x.2.2.2.1.length ≤ 200
   case neg => exact ⟨_, ob2 (by
    simp only [b2, lt_mid, inb_mid, nth_mid, cond_true, bind_some, gt200' he]
    rfl), .inr ⟨_, rfl⟩⟩
   by_cases hf : x.2.2.2.2.1.length ≤ 200
   case neg => exact ⟨_, ob2 (by
    simp only [b2, lt_mid, inb_mid, nth_mid, cond_true, bind_some, gt200 he, gt200' hf, cond_false]
    rfl), .inr ⟨_, rfl⟩⟩
   by_cases ha : x.2.2.2.2.2.length ≤ 30
   case neg => exact ⟨_, ob2 (by
    simp only [b2, lt_mid, inb_mid, nth_mid, cond_true, bind_some, gt200 he, gt200 hf, gt30' ha, cond_false]
    rfl), .inr ⟨_, rfl⟩⟩
   obtain ⟨z6, g1, g2⟩ := small6 x.1 x.2.1 x.2.2.1 x.2.2.2.1 x.2.2.2.2.1 x.2.2.2.2.2 [] (by simpa using ha)
   simp only [List.nil_append, length_nil] at g1
   rw [show ((0 : Nat) : Int) = (0 : Int) from rfl] at g1
   rcases g2 with ⟨g2, u, rfl⟩ | ⟨u, rfl⟩
   · refine ⟨z, ob2 (by
      simp only [b2, lt_mid, inb_mid, nth_mid, cond_true, bind_some, gt200 he, gt200 hf, gt30 ha, cond_false, g1, next_mid pre x hp]
      exact h1), ?_⟩
     rcases h2 with ⟨g, u, rfl⟩ | g
     · exact .inl ⟨fun y hy => by rcases List.mem_cons.1 hy with rfl | hy; exact ⟨he, hf, ha, g2⟩; exact g y hy, u, rfl⟩
     · exact .inr g
   · exact ⟨_, ob2 (by
      simp only [b2, lt_mid, inb_mid, nth_mid, cond_true, bind_some, gt200 he, gt200 hf, gt30 ha, cond_false, g1]
      rfl), .inr ⟨_, rfl⟩⟩
theorem small2 (k : Bool) (nm : Str) (i : List Pm) (o : Str) (t : Int) (v : List Pm) (its : List Itm) : ∀ (suf pre : List Eqn), (pre ++ suf).length ≤ 30 →
  ∃ z, k1 T.rb (k, nm, i, o, t, v, pre ++ suf, its) (pre.length : Nat) = some z ∧ ((∀ y ∈ suf, y.2.length ≤ 200) ∧ z = .inr (k, nm, i, o, t, v, pre ++ suf, its) ∨ ∃ u, z = .inl (u, false))
 | [], pre, h => ⟨.inr (k, nm, i, o, t, v, pre ++ [], its), ob1 (by simp only [b1, lt_end, cond_false]), .inl ⟨by simp, rfl⟩⟩
 | x :: suf, pre, h => by
   have hp : pre.length < 4611686018427387904 := by simp at h; omega
   obtain ⟨z, h1, h2⟩ := small2 k nm i o t v its suf (pre ++ [x]) (by simpa using h)
   simp only [List.append_assoc, List.singleton_append] at h1 h2
   by_cases hx : x.2.length ≤ 200
   · refine ⟨z, ob1 (by
      simp only [b1, lt_mid, inb_mid, nth_mid, cond_true, bind_some, gt200 hx, cond_false, next_mid pre x hp]
      exact h1), ?_⟩
     rcases h2 with ⟨g, rfl⟩ | g
     · exact .inl ⟨fun y hy => by rcases List.mem_cons.1 hy with rfl | hy; exact hx; exact g y hy, rfl⟩
     · exact .inr g
   · exact ⟨_, ob1 (by
      simp only [b1, lt_mid, inb_mid, nth_mid, cond_true, bind_some, gt200' hx]
      rfl), .inr ⟨_, rfl⟩⟩
theorem small0 (mn bk : Str) : ∀ (suf pre : List Unt), (pre ++ suf).length ≤ 30 →
  ∃ z, k0 T.rb (pre ++ suf, mn, bk) (pre.length : Nat) = some z ∧ ((∀ y ∈ suf, SzU 30 200 y) ∧ (∃ u, z = .inr u) ∨ ∃ u, z = .inl (u, false))
 | [], pre, h => ⟨.inr (pre ++ [], mn, bk), ob0 (by simp only [b0, lt_end, cond_false]), .inl ⟨by simp, _, rfl⟩⟩
 | x :: suf, pre, h => by
   have hp : pre.length < 4611686018427387904 := by simp at h; omega
   obtain ⟨z, h1, h2⟩ := small0 mn bk suf (pre ++ [x]) (by simpa using h)
   simp only [List.append_assoc, List.singleton_append] at h1
   by_cases c1 : x.2.2.1.length ≤ 30
   case neg => exact ⟨_, ob0 (by
    simp only [b0, lt_mid, inb_mid, nth_mid, cond_true, bind_some, gt30' c1]
    rfl), .inr ⟨_, rfl⟩⟩
   by_cases c2 : x.2.2.2.2.2.1.length ≤ 30
   case neg => exact ⟨_, ob0 (by
    simp only [b0, lt_mid, inb_mid, nth_mid, cond_true, bind_some, gt30 c1, gt30' c2, cond_false]
    rfl), .inr ⟨_, rfl⟩⟩
   by_cases c3 : x.2.2.2.2.2.2.1.length ≤ 30
   case neg => exact ⟨_, ob0 (by
    simp only [b0, lt_mid, inb_mid, nth_mid, cond_true, bind_some, gt30 c1, gt30 c2, gt30' c3, cond_false]
    rfl), .inr ⟨_, rfl⟩⟩
   by_cases c4 : x.2.2.2.2.2.2.2.length ≤ 30
   case neg => exact ⟨_, ob0 (by
    simp only [b0, lt_mid, inb_mid, nth_mid, cond_true, bind_some, gt30 c1, gt30 c2, gt30 c3, gt30' c4, cond_false]
    rfl), .inr ⟨_, rfl⟩⟩
   obtain ⟨z2, g1, g2⟩ := small2 x.1 x.2.1 x.2.2.1 x.2.2.2.1 x.2.2.2.2.1 x.2.2.2.2.2.1 x.2.2.2.2.2.2.2 x.2.2.2.2.2.2.1 [] (by simpa using c3)
   obtain ⟨z4, k1, k2⟩ := small4 x.1 x.2.1 x.2.2.1 x.2.2.2.1 x.2.2.2.2.1 x.2.2.2.2.2.1 x.2.2.2.2.2.2.1 x.2.2.2.2.2.2.2 [] (by simpa using c4)
   simp only [List.nil_append, length_nil] at g1 g2 k1
   rw [show ((0 : Nat) : Int) = (0 : Int) from rfl] at g1 k1
   rcases g2 with ⟨g2, rfl⟩ | ⟨u, rfl⟩
   · rcases k2 with ⟨k2, u, rfl⟩ | ⟨u, rfl⟩
     · refine ⟨z, ob0 (by
        simp only [b0, lt_mid, inb_mid, nth_mid, cond_true, bind_some, gt30 c1, gt30 c2, gt30 c3, gt30 c4, cond_false, g1, k1, next_mid pre x hp]
        exact h1), ?_⟩
       rcases h2 with ⟨g, u, rfl⟩ | g
       · exact .inl ⟨fun y hy => by rcases List.mem_cons.1 hy with rfl | hy; exact ⟨c1, c2, c3, c4, g2, k2⟩; exact g y hy, u, rfl⟩
       · exact .inr g
     · exact ⟨_, ob0 (by
        simp only [b0, lt_mid, inb_mid, nth_mid, cond_true, bind_some, gt30 c1, gt30 c2, gt30 c3, gt30 c4, cond_false, g1, k1]
        rfl), .inr ⟨_, rfl⟩⟩
   · exact ⟨_, ob0 (by
      simp only [b0, lt_mid, inb_mid, nth_mid, cond_true, bind_some, gt30 c1, gt30 c2, gt30 c3, gt30 c4, cond_false, g1]
      rfl), .inr ⟨_, rfl⟩⟩
theorem Small_eq (p : Prg) : ∃ s, c1 T.rf p = some s ∧ (s = true → SzP 30 200 p) := by
 by_cases hl : p.1.length ≤ 30
 · obtain ⟨z, h1, h2⟩ := small0 p.2.1 p.2.2 p.1 [] (by simpa using hl)
   simp only [List.nil_append, length_nil] at h1
   rw [show ((0 : Nat) : Int) = (0 : Int) from rfl] at h1
   rcases h2 with ⟨g, u, rfl⟩ | ⟨u, rfl⟩
   · exact ⟨true, or1 (by simp only [r1, gt30 hl, cond_false, h1, bind_some]), fun _ => ⟨hl, g⟩⟩
   · exact ⟨false, or1 (by simp only [r1, gt30 hl, cond_false, h1, bind_some]), fun h => by cases h⟩
 · exact ⟨false, or1 (by simp only [r1, gt30' hl, cond_true]), fun h => by cases h⟩
def prmB (p : Pm) : Bool := nameB p.1 && (p.2 == 1 || p.2 == 2)
def prmsB (l : List Pm) : Bool := decide (l.length ≤ 200) && l.all prmB
def eqnB (q : Eqn) : Bool := nameB q.1 && mayS q.2
def itmB (x : Itm) : Bool :=
 if x.1 = 1 ∨ x.1 = 2 then (x.2.1 == ([] : Str)) && (x.2.2.1 == 0 && (mayS x.2.2.2.1 && (decide (x.2.2.2.2.1.length = 0) && decide (x.2.2.2.2.2.length = 0)))) else
 if x.1 = 3 then nameB x.2.1 && ((x.2.2.1 == 1 || x.2.2.1 == 2) && (mayS x.2.2.2.1 && (decide (x.2.2.2.2.1.length = 0) && decide (x.2.2.2.2.2.length = 0)))) else
 if x.1 = 4 then nameB x.2.1 && (x.2.2.1 == 0 && (mayS x.2.2.2.1 && (mayS x.2.2.2.2.1 && decide (x.2.2.2.2.2.length = 0)))) else
 if x.1 = 5 then nameB x.2.1 && (x.2.2.1 == 0 && (decide (x.2.2.2.1.length = 0) && (decide (x.2.2.2.2.1.length = 0) && (decide (x.2.2.2.2.2.length ≤ 200) && x.2.2.2.2.2.all mayS)))) else false
def untB (u : Unt) : Bool :=
 nameB u.2.1 && (prmsB u.2.2.1 && (prmsB u.2.2.2.2.2.1 && ((decide (u.2.2.2.2.2.2.1.length ≤ 200) && u.2.2.2.2.2.2.1.all eqnB) && ((decide (u.2.2.2.2.2.2.2.length ≤ 200) && u.2.2.2.2.2.2.2.all itmB) &&
 (bif u.1 then (u.2.2.2.1 == ([] : Str) && u.2.2.2.2.1 == 0) && (decide (u.2.2.2.2.2.1.length = 0) && decide (u.2.2.2.2.2.2.1.length = 0)) else prmB (u.2.2.2.1, u.2.2.2.2.1))))))
def prgB (p : Prg) : Bool := nameB p.2.1 && ((p.2.2 == ([] : Str) || nameB p.2.2) && (decide (p.1.length ≤ 200) && p.1.all untB))
theorem le200 {n : Nat} : decide (((n : Nat) : Int) ≤ 200) = decide (n ≤ 200) := by
 by_cases h : n ≤ 200
 · rw [dt h, dt (by omega)]
 · rw [df h, df (by omega)]
theorem len0 {n : Nat} : (((n : Nat) : Int) == 0) = decide (n = 0) := by
 by_cases h : n = 0
 · rw [dt h, bt (by omega)]
 · rw [df h, bf (by omega)]
theorem len00 {n m : Nat} (h : n ≤ 1000000) (h2 : m ≤ 1000000) : (IntKind.i64.wrap (((n : Nat) : Int) + ((m : Nat) : Int)) == 0) = (decide (n = 0) && decide (m = 0)) := by
 rw [wr (by omega)]
 by_cases h : n = 0
 · by_cases g : m = 0
   · rw [dt h, dt g, bt (by omega)]; rfl
   · rw [dt h, df g, bf (by omega)]; rfl
 · rw [df h, bf (by omega)]; rfl
theorem isParam_eq (p : Pm) : c85 T.rf p = some (prmB p) := or85 (by
 simp only [r85, isName_eq, bind_some, prmB]
 cases nameB p.1 <;> cases (p.2 == 1) <;> rfl)
theorem idxP {l : List Pm} {p : Pm → Bool} (hp : ∀ x ∈ l, c85 T.rf x = some (p x)) (hl : l.length ≤ 200) : ∀ (suf pre : List Pm), l = pre ++ suf →
  ∃ z, k73 T.rb l ((l.length : Nat) : Int) (pre.length : Nat) = some z ∧ ((suf.all p = true ∧ z = .inr ()) ∨ (suf.all p = false ∧ ∃ j : Nat, z = .inl (j : Int)))
 | [], pre, h => ⟨.inr (), ob73 (by
    subst h
    simp only [b73, lt_end, cond_false]), .inl ⟨rfl, rfl⟩⟩
 | x :: suf, pre, h => by
   obtain ⟨z, h1, h2⟩ := idxP hp hl suf (pre ++ [x]) (by rw [h]; simp)
   have hpl : pre.length < 4611686018427387904 := by rw [h] at hl; simp at hl; omega
   have hx := hp x (by rw [h]; simp)
   have hx' : c84 T.rf x = some (!(p x)) := or84 (by simp only [r84, hx, bind_some])
   cases hb : p x with
   | false =>
     refine ⟨.inl (pre.length : Nat), ob73 ?_, .inr ⟨by simp [hb], _, rfl⟩⟩
     subst h
     simp only [b73, lt_mid, inb_mid, nth_mid, cond_true, bind_some, hx', hb, Bool.not_false]
   | true =>
     refine ⟨z, ob73 ?_, by simpa [hb] using h2⟩
     subst h
     simp only [b73, lt_mid, inb_mid, nth_mid, cond_true, cond_false, bind_some, hx', hb, Bool.not_true, next_mid pre x hpl]
     exact h1
theorem allP_eq {l : List Pm} {p : Pm → Bool} (hp : ∀ x ∈ l, c85 T.rf x = some (p x)) : c81 T.rf l = some (decide (l.length ≤ 200) && l.all p) := or81 (by
 by_cases hl : l.length ≤ 200
 · obtain ⟨z, h1, h2⟩ := idxP hp hl l [] rfl
   simp only [length_nil] at h1
   rw [show ((0 : Nat) : Int) = (0 : Int) from rfl] at h1
   have hc : c82 T.rf l = some (!(l.all p)) := or82 (by
    rcases h2 with ⟨g, rfl⟩ | ⟨g, j, rfl⟩
    · have : c83 T.rf l = some (-1) := or83 (by simp only [r83, h1, bind_some])
      simp only [r82, this, bind_some, g]; rfl
    · have : c83 T.rf l = some (j : Int) := or83 (by simp only [r83, h1, bind_some])
      simp only [r82, this, bind_some, g, dt (show (j : Int) ≥ 0 by omega)]; rfl)
   simp only [r81, le200, dt hl, cond_true, hc, bind_some, Bool.not_not, Bool.true_and]
 · simp only [r81, le200, df hl, cond_false, Bool.false_and])
theorem idxQ {l : List Eqn} {p : Eqn → Bool} (hp : ∀ x ∈ l, c90 T.rf x = some (p x)) (hl : l.length ≤ 200) : ∀ (suf pre : List Eqn), l = pre ++ suf →
  ∃ z, k74 T.rb l ((l.length : Nat) : Int) (pre.length : Nat) = some z ∧ ((suf.all p = true ∧ z = .inr ()) ∨ (suf.all p = false ∧ ∃ j : Nat, z = .inl (j : Int)))
 | [], pre, h => ⟨.inr (), ob74 (by
    subst h
    simp only [b74, lt_end, cond_false]), .inl ⟨rfl, rfl⟩⟩
 | x :: suf, pre, h => by
   obtain ⟨z, h1, h2⟩ := idxQ hp hl suf (pre ++ [x]) (by rw [h]; simp)
   have hpl : pre.length < 4611686018427387904 := by rw [h] at hl; simp at hl; omega
   have hx := hp x (by rw [h]; simp)
   have hx' : c89 T.rf x = some (!(p x)) := or89 (by simp only [r89, hx, bind_some])
   cases hb : p x with
   | false =>
     refine ⟨.inl (pre.length : Nat), ob74 ?_, .inr ⟨by simp [hb], _, rfl⟩⟩
     subst h
     simp only [b74, lt_mid, inb_mid, nth_mid, cond_true, bind_some, hx', hb, Bool.not_false]
   | true =>
     refine ⟨z, ob74 ?_, by simpa [hb] using h2⟩
     subst h
     simp only [b74, lt_mid, inb_mid, nth_mid, cond_true, cond_false, bind_some, hx', hb, Bool.not_true, next_mid pre x hpl]
     exact h1
theorem allQ_eq {l : List Eqn} {p : Eqn → Bool} (hp : ∀ x ∈ l, c90 T.rf x = some (p x)) : c86 T.rf l = some (decide (l.length ≤ 200) && l.all p) := or86 (by
 by_cases hl : l.length ≤ 200
 · obtain ⟨z, h1, h2⟩ := idxQ hp hl l [] rfl
   simp only [length_nil] at h1
   rw [show ((0 : Nat) : Int) = (0 : Int) from rfl] at h1
   have hc : c87 T.rf l = some (!(l.all p)) := or87 (by
    rcases h2 with ⟨g, rfl⟩ | ⟨g, j, rfl⟩
    · have : c88 T.rf l = some (-1) := or88 (by simp only [r88, h1, bind_some])
      simp only [r87, this, bind_some, g]; rfl
    · have : c88 T.rf l = some (j : Int) := or88 (by simp only [r88, h1, bind_some])
      simp only [r87, this, bind_some, g, dt (show (j : Int) ≥ 0 by omega)]; rfl)
   simp only [r86, le200, dt hl, cond_true, hc, bind_some, Bool.not_not, Bool.true_and]
 · simp only [r86, le200, df hl, cond_false, Bool.false_and])
theorem isEquation_eq {q : Eqn} (h : q.2.length ≤ 1000000) : c90 T.rf q = some (eqnB q) := or90 (by
 simp only [r90, isName_eq, bind_some, mayS_eq h, eqnB]
 cases nameB q.1 <;> rfl)
theorem idxE {l : List (List Nd)} {p : (List Nd) → Bool} (hp : ∀ x ∈ l, c91 T.rf x = some (p x)) (hl : l.length ≤ 200) : ∀ (suf pre : List (List Nd)), l = pre ++ suf →
  ∃ z, k90 T.rb l ((l.length : Nat) : Int) (pre.length : Nat) = some z ∧ ((suf.all p = true ∧ z = .inr ()) ∨ (suf.all p = false ∧ ∃ j : Nat, z = .inl (j : Int)))
 | [], pre, h => ⟨.inr (), ob90 (by
    subst h
    simp only [b90, lt_end, cond_false]), .inl ⟨rfl, rfl⟩⟩
 | x :: suf, pre, h => by
   obtain ⟨z, h1, h2⟩ := idxE hp hl suf (pre ++ [x]) (by rw [h]; simp)
   have hpl : pre.length < 4611686018427387904 := by rw [h] at hl; simp at hl; omega
   have hx := hp x (by rw [h]; simp)
   have hx' : c111 T.rf x = some (!(p x)) := or111 (by simp only [r111, hx, bind_some])
   cases hb : p x with
   | false =>
     refine ⟨.inl (pre.length : Nat), ob90 ?_, .inr ⟨by simp [hb], _, rfl⟩⟩
     subst h
     simp only [b90, lt_mid, inb_mid, nth_mid, cond_true, bind_some, hx', hb, Bool.not_false]
   | true =>
     refine ⟨z, ob90 ?_, by simpa [hb] using h2⟩
     subst h
     simp only [b90, lt_mid, inb_mid, nth_mid, cond_true, cond_false, bind_some, hx', hb, Bool.not_true, next_mid pre x hpl]
     exact h1
theorem allE_eq {l : List (List Nd)} {p : (List Nd) → Bool} (hp : ∀ x ∈ l, c91 T.rf x = some (p x)) : c108 T.rf l = some (decide (l.length ≤ 200) && l.all p) := or108 (by
 by_cases hl : l.length ≤ 200
 · obtain ⟨z, h1, h2⟩ := idxE hp hl l [] rfl
   simp only [length_nil] at h1
   rw [show ((0 : Nat) : Int) = (0 : Int) from rfl] at h1
   have hc : c109 T.rf l = some (!(l.all p)) := or109 (by
    rcases h2 with ⟨g, rfl⟩ | ⟨g, j, rfl⟩
    · have : c110 T.rf l = some (-1) := or110 (by simp only [r110, h1, bind_some])
      simp only [r109, this, bind_some, g]; rfl
    · have : c110 T.rf l = some (j : Int) := or110 (by simp only [r110, h1, bind_some])
      simp only [r109, this, bind_some, g, dt (show (j : Int) ≥ 0 by omega)]; rfl)
   simp only [r108, le200, dt hl, cond_true, hc, bind_some, Bool.not_not, Bool.true_and]
 · simp only [r108, le200, df hl, cond_false, Bool.false_and])
theorem isItem_eq {n m : Nat} {x : Itm} (h : SzI n m x) (hn : n ≤ 1000000) (hm : m ≤ 1000000) : c107 T.rf x = some (itmB x) := or107 (by
 obtain ⟨kd, nm, ty, e, f, gs⟩ := x
 have he : e.length ≤ 1000000 := Nat.le_trans h.e hm
 have hf : f.length ≤ 1000000 := Nat.le_trans h.f hm
 have ha : gs.length ≤ 1000000 := Nat.le_trans h.c hn
 have hA := allE_eq (l := gs) (p := mayS) (fun y hy => mayS_eq (Nat.le_trans (h.a y hy) hm))
 simp only [r107, isName_eq, bind_some, mayS_eq he, mayS_eq hf, hA, len00 hf ha, len00 he hf, len0, itmB]
 by_cases k1 : kd = 1
 · subst k1; cases (nm == ([] : Str)) <;> cases (ty == 0) <;> cases (ty == 1) <;> cases mayS e <;> rfl
 by_cases k2 : kd = 2
 · subst k2; cases (nm == ([] : Str)) <;> cases (ty == 0) <;> cases (ty == 1) <;> cases mayS e <;> rfl
 by_cases k3 : kd = 3
 · subst k3; cases nameB nm <;> cases (ty == 1) <;> cases (ty == 2) <;> cases mayS e <;> rfl
 by_cases k4 : kd = 4
 · subst k4; cases nameB nm <;> cases (ty == 0) <;> cases (ty == 1) <;> cases mayS e <;> cases mayS f <;> rfl
 by_cases k5 : kd = 5
 · subst k5; cases nameB nm <;> cases (ty == 0) <;> cases (ty == 1) <;> cases decide (e.length = 0) <;> cases decide (f.length = 0) <;> rfl
 simp only [bf k1, bf k2, bf k3, bf k4, bf k5, cond_false, if_neg k3, if_neg k4, if_neg k5, if_neg (show ¬ (kd = 1 ∨ kd = 2) by omega)]
 cases (ty == 1) <;> rfl)
theorem idxI {l : List Itm} {p : Itm → Bool} (hp : ∀ x ∈ l, c107 T.rf x = some (p x)) (hl : l.length ≤ 200) : ∀ (suf pre : List Itm), l = pre ++ suf →
  ∃ z, k89 T.rb l ((l.length : Nat) : Int) (pre.length : Nat) = some z ∧ ((suf.all p = true ∧ z = .inr ()) ∨ (suf.all p = false ∧ ∃ j : Nat, z = .inl (j : Int)))
 | [], pre, h => ⟨.inr (), ob89 (by
    subst h
    simp only [b89, lt_end, cond_false]), .inl ⟨rfl, rfl⟩⟩
 | x :: suf, pre, h => by
   obtain ⟨z, h1, h2⟩ := idxI hp hl suf (pre ++ [x]) (by rw [h]; simp)
   have hpl : pre.length < 4611686018427387904 := by rw [h] at hl; simp at hl; omega
   have hx := hp x (by rw [h]; simp)
   have hx' : c106 T.rf x = some (!(p x)) := or106 (by simp only [r106, hx, bind_some])
   cases hb : p x with
   | false =>
     refine ⟨.inl (pre.length : Nat), ob89 ?_, .inr ⟨by simp [hb], _, rfl⟩⟩
     subst h
     simp only [b89, lt_mid, inb_mid, nth_mid, cond_true, bind_some, hx', hb, Bool.not_false]
   | true =>
     refine ⟨z, ob89 ?_, by simpa [hb] using h2⟩
     subst h
     simp only [b89, lt_mid, inb_mid, nth_mid, cond_true, cond_false, bind_some, hx', hb, Bool.not_true, next_mid pre x hpl]
     exact h1
theorem allI_eq {l : List Itm} {p : Itm → Bool} (hp : ∀ x ∈ l, c107 T.rf x = some (p x)) : c103 T.rf l = some (decide (l.length ≤ 200) && l.all p) := or103 (by
 by_cases hl : l.length ≤ 200
 · obtain ⟨z, h1, h2⟩ := idxI hp hl l [] rfl
   simp only [length_nil] at h1
   rw [show ((0 : Nat) : Int) = (0 : Int) from rfl] at h1
   have hc : c104 T.rf l = some (!(l.all p)) := or104 (by
    rcases h2 with ⟨g, rfl⟩ | ⟨g, j, rfl⟩
    · have : c105 T.rf l = some (-1) := or105 (by simp only [r105, h1, bind_some])
      simp only [r104, this, bind_some, g]; rfl
    · have : c105 T.rf l = some (j : Int) := or105 (by simp only [r105, h1, bind_some])
      simp only [r104, this, bind_some, g, dt (show (j : Int) ≥ 0 by omega)]; rfl)
   simp only [r103, le200, dt hl, cond_true, hc, bind_some, Bool.not_not, Bool.true_and]
 · simp only [r103, le200, df hl, cond_false, Bool.false_and])
theorem isUnit_eq {n m : Nat} {u : Unt} (h : SzU n m u) (hn : n ≤ 1000000) (hm : m ≤ 1000000) : c80 T.rf u = some (untB u) := or80 (by
 obtain ⟨k, nm, i, o, t, v, q, xs⟩ := u
 have hP : ∀ l : List Pm, c81 T.rf l = some (prmsB l) := fun l => allP_eq (fun x _ => isParam_eq x)
 have hQ := allQ_eq (l := q) (p := eqnB) (fun y hy => isEquation_eq (Nat.le_trans (h.qe y hy) hm))
 have hI := allI_eq (l := xs) (p := itmB) (fun y hy => isItem_eq (h.xe y hy) hn hm)
 simp only [r80, isName_eq, bind_some, hP, hQ, hI, isParam_eq, len00 (Nat.le_trans h.v hn) (Nat.le_trans h.q hn), untB]
 cases nameB nm <;> cases prmsB i <;> cases prmsB v <;> cases (decide (q.length ≤ 200) && q.all eqnB) <;> cases (decide (xs.length ≤ 200) && xs.all itmB) <;> cases k <;> first | rfl | (cases (o == ([] : Str)) <;> cases (t == 0) <;> rfl))
theorem idxU {l : List Unt} {p : Unt → Bool} (hp : ∀ x ∈ l, c80 T.rf x = some (p x)) (hl : l.length ≤ 200) : ∀ (suf pre : List Unt), l = pre ++ suf →
  ∃ z, k72 T.rb l ((l.length : Nat) : Int) (pre.length : Nat) = some z ∧ ((suf.all p = true ∧ z = .inr ()) ∨ (suf.all p = false ∧ ∃ j : Nat, z = .inl (j : Int)))
 | [], pre, h => ⟨.inr (), ob72 (by
    subst h
    simp only [b72, lt_end, cond_false]), .inl ⟨rfl, rfl⟩⟩
 | x :: suf, pre, h => by
   obtain ⟨z, h1, h2⟩ := idxU hp hl suf (pre ++ [x]) (by rw [h]; simp)
   have hpl : pre.length < 4611686018427387904 := by rw [h] at hl; simp at hl; omega
   have hx := hp x (by rw [h]; simp)
   have hx' : c79 T.rf x = some (!(p x)) := or79 (by simp only [r79, hx, bind_some])
   cases hb : p x with
   | false =>
     refine ⟨.inl (pre.length : Nat), ob72 ?_, .inr ⟨by simp [hb], _, rfl⟩⟩
     subst h
     simp only [b72, lt_mid, inb_mid, nth_mid, cond_true, bind_some, hx', hb, Bool.not_false]
   | true =>
     refine ⟨z, ob72 ?_, by simpa [hb] using h2⟩
     subst h
     simp only [b72, lt_mid, inb_mid, nth_mid, cond_true, cond_false, bind_some, hx', hb, Bool.not_true, next_mid pre x hpl]
     exact h1
theorem allU_eq {l : List Unt} {p : Unt → Bool} (hp : ∀ x ∈ l, c80 T.rf x = some (p x)) : c76 T.rf l = some (decide (l.length ≤ 200) && l.all p) := or76 (by
 by_cases hl : l.length ≤ 200
 · obtain ⟨z, h1, h2⟩ := idxU hp hl l [] rfl
   simp only [length_nil] at h1
   rw [show ((0 : Nat) : Int) = (0 : Int) from rfl] at h1
   have hc : c77 T.rf l = some (!(l.all p)) := or77 (by
    rcases h2 with ⟨g, rfl⟩ | ⟨g, j, rfl⟩
    · have : c78 T.rf l = some (-1) := or78 (by simp only [r78, h1, bind_some])
      simp only [r77, this, bind_some, g]; rfl
    · have : c78 T.rf l = some (j : Int) := or78 (by simp only [r78, h1, bind_some])
      simp only [r77, this, bind_some, g, dt (show (j : Int) ≥ 0 by omega)]; rfl)
   simp only [r76, le200, dt hl, cond_true, hc, bind_some, Bool.not_not, Bool.true_and]
 · simp only [r76, le200, df hl, cond_false, Bool.false_and])
theorem May_list {n m : Nat} {p : Prg} (h : SzP n m p) (hn : n ≤ 1000000) (hm : m ≤ 1000000) : c67 T.rf p = some (prgB p) := or67 (by
 have hU := allU_eq (l := p.1) (p := untB) (fun y hy => isUnit_eq (h.u y hy) hn hm)
 simp only [r67, isName_eq, bind_some, hU, prgB]
 cases nameB p.2.1 <;> cases (p.2.2 == ([] : Str)) <;> cases nameB p.2.2 <;> rfl)
end Go.Proofs.YtlobhcgbmpcdlaaGreatDoor.R
