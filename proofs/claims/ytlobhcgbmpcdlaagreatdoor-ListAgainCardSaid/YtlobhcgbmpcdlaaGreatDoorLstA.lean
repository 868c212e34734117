import Derived.Test.YtlobhcgbmpcdlaaGreatDoorShwX
open Option (bind_some)
open List (length_nil)
namespace Go.Proofs.YtlobhcgbmpcdlaaGreatDoor.R
open Go Go.Bm Go.Proofs
set_option linter.unusedVariables false
set_option linter.unusedSimpArgs false
set_option maxRecDepth 4000
abbrev Pm : Type := Str × Int
abbrev Eqn : Type := Str × List Nd
abbrev Itm : Type := Int × Str × Int × List Nd × List Nd × List (List Nd)
abbrev Unt : Type := Bool × Str × List Pm × Str × Int × List Pm × List Eqn × List Itm
abbrev Prg : Type := List Unt × Str × Str
structure SzI (n m : Nat) (x : Itm) : Prop where
 e : x.2.2.2.1.length ≤ m
 f : x.2.2.2.2.1.length ≤ m
 c : x.2.2.2.2.2.length ≤ n
 a : ∀ y ∈ x.2.2.2.2.2, y.length ≤ m
structure SzU (n m : Nat) (u : Unt) : Prop where
 i : u.2.2.1.length ≤ n
 v : u.2.2.2.2.2.1.length ≤ n
 q : u.2.2.2.2.2.2.1.length ≤ n
 x : u.2.2.2.2.2.2.2.length ≤ n
 qe : ∀ q ∈ u.2.2.2.2.2.2.1, q.2.length ≤ m
 xe : ∀ x ∈ u.2.2.2.2.2.2.2, SzI n m x
structure SzP (n m : Nat) (p : Prg) : Prop where
 c : p.1.length ≤ n
 u : ∀ u ∈ p.1, SzU n m u
theorem SzI.mono {n m n' m' : Nat} {x : Itm} (h : SzI n m x) (h1 : n ≤ n') (h2 : m ≤ m') : SzI n' m' x :=
 ⟨Nat.le_trans h.e h2, Nat.le_trans h.f h2, Nat.le_trans h.c h1, fun y hy => Nat.le_trans (h.a y hy) h2⟩
theorem SzU.mono {n m n' m' : Nat} {u : Unt} (h : SzU n m u) (h1 : n ≤ n') (h2 : m ≤ m') : SzU n' m' u :=
 ⟨Nat.le_trans h.i h1, Nat.le_trans h.v h1, Nat.le_trans h.q h1, Nat.le_trans h.x h1, fun y hy => Nat.le_trans (h.qe y hy) h2, fun x hx => (h.xe x hx).mono h1 h2⟩
theorem SzP.mono {n m n' m' : Nat} {p : Prg} (h : SzP n m p) (h1 : n ≤ n') (h2 : m ≤ m') : SzP n' m' p :=
 ⟨Nat.le_trans h.c h1, fun x hx => (h.u x hx).mono h1 h2⟩
def H9 (p : Pm) : Bool := u9 p.1 && (p.2 == 1 || p.2 == 2)
def a4M (l : List Pm) : Bool := decide (l.length ≤ 200) && l.all H9
def V8 (q : Eqn) : Bool := u9 q.1 && D3 q.2
def I7 (x : Itm) : Bool :=
 if x.1 = 1 ∨ x.1 = 2 then (x.2.1 == ([] : Str)) && (x.2.2.1 == 0 && (D3 x.2.2.2.1 && (decide (x.2.2.2.2.1.length = 0) && decide (x.2.2.2.2.2.length = 0)))) else
 if x.1 = 3 then u9 x.2.1 && ((x.2.2.1 == 1 || x.2.2.1 == 2) && (D3 x.2.2.2.1 && (decide (x.2.2.2.2.1.length = 0) && decide (x.2.2.2.2.2.length = 0)))) else
 if x.1 = 4 then u9 x.2.1 && (x.2.2.1 == 0 && (D3 x.2.2.2.1 && (D3 x.2.2.2.2.1 && decide (x.2.2.2.2.2.length = 0)))) else
 if x.1 = 5 then u9 x.2.1 && (x.2.2.1 == 0 && (decide (x.2.2.2.1.length = 0) && (decide (x.2.2.2.2.1.length = 0) && (decide (x.2.2.2.2.2.length ≤ 200) && x.2.2.2.2.2.all D3)))) else false
def K5 (u : Unt) : Bool :=
 u9 u.2.1 && (a4M u.2.2.1 && (a4M u.2.2.2.2.2.1 && ((decide (u.2.2.2.2.2.2.1.length ≤ 200) && u.2.2.2.2.2.2.1.all V8) && ((decide (u.2.2.2.2.2.2.2.length ≤ 200) && u.2.2.2.2.2.2.2.all I7) &&
 (bif u.1 then (u.2.2.2.1 == ([] : Str) && u.2.2.2.2.1 == 0) && (decide (u.2.2.2.2.2.1.length = 0) && decide (u.2.2.2.2.2.2.1.length = 0)) else H9 (u.2.2.2.1, u.2.2.2.2.1))))))
def a1o (p : Prg) : Bool := u9 p.2.1 && ((p.2.2 == ([] : Str) || u9 p.2.2) && (decide (p.1.length ≤ 200) && p.1.all K5))
theorem a3q {n : Nat} : decide (((n : Nat) : Int) ≤ 200) = decide (n ≤ 200) := by
 by_cases h : n ≤ 200
 · rw [dt h, dt (by omega)]
 · rw [df h, df (by omega)]
theorem d5t {n : Nat} : (((n : Nat) : Int) == 0) = decide (n = 0) := by
 by_cases h : n = 0
 · rw [dt h, bt (by omega)]
 · rw [df h, bf (by omega)]
theorem b8G {n m : Nat} (h : n ≤ 1000000) (h2 : m ≤ 1000000) : (IntKind.i64.wrap (((n : Nat) : Int) + ((m : Nat) : Int)) == 0) = (decide (n = 0) && decide (m = 0)) := by
 rw [wr (by omega)]
 by_cases h : n = 0
 · by_cases g : m = 0
   · rw [dt h, dt g, bt (by omega)]; rfl
   · rw [dt h, df g, bf (by omega)]; rfl
 · rw [df h, bf (by omega)]; rfl
theorem a7V (p : Pm) : c85 T.rf p = some (H9 p) := d6e (by
 simp only [r85, X2, bind_some, H9]
 cases u9 p.1 <;> cases (p.2 == 1) <;> rfl)
theorem d1q {l : List Pm} {p : Pm → Bool} (hp : ∀ x ∈ l, c85 T.rf x = some (p x)) (hl : l.length ≤ 200) : ∀ (suf pre : List Pm), l = pre ++ suf →
  ∃ z, k73 T.rb l ((l.length : Nat) : Int) (pre.length : Nat) = some z ∧ ((suf.all p = true ∧ z = .inr ()) ∨ (suf.all p = false ∧ ∃ j : Nat, z = .inl (j : Int)))
 | [], pre, h => ⟨.inr (), c5J (by
    subst h
    simp only [b73, E4, cond_false]), .inl ⟨rfl, rfl⟩⟩
 | x :: suf, pre, h => by
   obtain ⟨z, h1, h2⟩ := d1q hp hl suf (pre ++ [x]) (by rw [h]; simp)
   have hpl : pre.length < 4611686018427387904 := by rw [h] at hl; simp at hl; omega
   have hx := hp x (by rw [h]; simp)
   have hx' : c84 T.rf x = some (!(p x)) := d6d (by simp only [r84, hx, bind_some])
   cases hb : p x with
   | false =>
     refine ⟨.inl (pre.length : Nat), c5J ?_, .inr ⟨by simp [hb], _, rfl⟩⟩
     subst h
     simp only [b73, s4, m5, m6, cond_true, bind_some, hx', hb, Bool.not_false]
   | true =>
     refine ⟨z, c5J ?_, by simpa [hb] using h2⟩
     subst h
     simp only [b73, s4, m5, m6, cond_true, cond_false, bind_some, hx', hb, Bool.not_true, s3 pre x hpl]
     exact h1
theorem c0s {l : List Pm} {p : Pm → Bool} (hp : ∀ x ∈ l, c85 T.rf x = some (p x)) : c81 T.rf l = some (decide (l.length ≤ 200) && l.all p) := d6b (by
 by_cases hl : l.length ≤ 200
 · obtain ⟨z, h1, h2⟩ := d1q hp hl l [] rfl
   simp only [length_nil] at h1
   rw [show ((0 : Nat) : Int) = (0 : Int) from rfl] at h1
   have hc : c82 T.rf l = some (!(l.all p)) := d6c (by
    rcases h2 with ⟨g, rfl⟩ | ⟨g, j, rfl⟩
    · have : c83 T.rf l = some (-1) := d2L (by simp only [r83, h1, bind_some])
      simp only [r82, this, bind_some, g]; rfl
    · have : c83 T.rf l = some (j : Int) := d2L (by simp only [r83, h1, bind_some])
      simp only [r82, this, bind_some, g, dt (show (j : Int) ≥ 0 by omega)]; rfl)
   simp only [r81, a3q, dt hl, cond_true, hc, bind_some, Bool.not_not, Bool.true_and]
 · simp only [r81, a3q, df hl, cond_false, Bool.false_and])
theorem d1r {l : List Eqn} {p : Eqn → Bool} (hp : ∀ x ∈ l, c90 T.rf x = some (p x)) (hl : l.length ≤ 200) : ∀ (suf pre : List Eqn), l = pre ++ suf →
  ∃ z, k74 T.rb l ((l.length : Nat) : Int) (pre.length : Nat) = some z ∧ ((suf.all p = true ∧ z = .inr ()) ∨ (suf.all p = false ∧ ∃ j : Nat, z = .inl (j : Int)))
 | [], pre, h => ⟨.inr (), c5K (by
    subst h
    simp only [b74, E4, cond_false]), .inl ⟨rfl, rfl⟩⟩
 | x :: suf, pre, h => by
   obtain ⟨z, h1, h2⟩ := d1r hp hl suf (pre ++ [x]) (by rw [h]; simp)
   have hpl : pre.length < 4611686018427387904 := by rw [h] at hl; simp at hl; omega
   have hx := hp x (by rw [h]; simp)
   have hx' : c89 T.rf x = some (!(p x)) := d6h (by simp only [r89, hx, bind_some])
   cases hb : p x with
   | false =>
     refine ⟨.inl (pre.length : Nat), c5K ?_, .inr ⟨by simp [hb], _, rfl⟩⟩
     subst h
     simp only [b74, s4, m5, m6, cond_true, bind_some, hx', hb, Bool.not_false]
   | true =>
     refine ⟨z, c5K ?_, by simpa [hb] using h2⟩
     subst h
     simp only [b74, s4, m5, m6, cond_true, cond_false, bind_some, hx', hb, Bool.not_true, s3 pre x hpl]
     exact h1
theorem c0t {l : List Eqn} {p : Eqn → Bool} (hp : ∀ x ∈ l, c90 T.rf x = some (p x)) : c86 T.rf l = some (decide (l.length ≤ 200) && l.all p) := d6f (by
 by_cases hl : l.length ≤ 200
 · obtain ⟨z, h1, h2⟩ := d1r hp hl l [] rfl
   simp only [length_nil] at h1
   rw [show ((0 : Nat) : Int) = (0 : Int) from rfl] at h1
   have hc : c87 T.rf l = some (!(l.all p)) := d6g (by
    rcases h2 with ⟨g, rfl⟩ | ⟨g, j, rfl⟩
    · have : c88 T.rf l = some (-1) := d2M (by simp only [r88, h1, bind_some])
      simp only [r87, this, bind_some, g]; rfl
    · have : c88 T.rf l = some (j : Int) := d2M (by simp only [r88, h1, bind_some])
      simp only [r87, this, bind_some, g, dt (show (j : Int) ≥ 0 by omega)]; rfl)
   simp only [r86, a3q, dt hl, cond_true, hc, bind_some, Bool.not_not, Bool.true_and]
 · simp only [r86, a3q, df hl, cond_false, Bool.false_and])
theorem a9h {q : Eqn} (h : q.2.length ≤ 1000000) : c90 T.rf q = some (V8 q) := d6i (by
 simp only [r90, X2, bind_some, a4D h, V8]
 cases u9 q.1 <;> rfl)
theorem d1o {l : List (List Nd)} {p : (List Nd) → Bool} (hp : ∀ x ∈ l, c91 T.rf x = some (p x)) (hl : l.length ≤ 200) : ∀ (suf pre : List (List Nd)), l = pre ++ suf →
  ∃ z, k90 T.rb l ((l.length : Nat) : Int) (pre.length : Nat) = some z ∧ ((suf.all p = true ∧ z = .inr ()) ∨ (suf.all p = false ∧ ∃ j : Nat, z = .inl (j : Int)))
 | [], pre, h => ⟨.inr (), c5O (by
    subst h
    simp only [b90, E4, cond_false]), .inl ⟨rfl, rfl⟩⟩
 | x :: suf, pre, h => by
   obtain ⟨z, h1, h2⟩ := d1o hp hl suf (pre ++ [x]) (by rw [h]; simp)
   have hpl : pre.length < 4611686018427387904 := by rw [h] at hl; simp at hl; omega
   have hx := hp x (by rw [h]; simp)
   have hx' : c4U T.rf x = some (!(p x)) := d2f (by simp only [c1z, hx, bind_some])
   cases hb : p x with
   | false =>
     refine ⟨.inl (pre.length : Nat), c5O ?_, .inr ⟨by simp [hb], _, rfl⟩⟩
     subst h
     simp only [b90, s4, m5, m6, cond_true, bind_some, hx', hb, Bool.not_false]
   | true =>
     refine ⟨z, c5O ?_, by simpa [hb] using h2⟩
     subst h
     simp only [b90, s4, m5, m6, cond_true, cond_false, bind_some, hx', hb, Bool.not_true, s3 pre x hpl]
     exact h1
theorem c0q {l : List (List Nd)} {p : (List Nd) → Bool} (hp : ∀ x ∈ l, c91 T.rf x = some (p x)) : b6d T.rf l = some (decide (l.length ≤ 200) && l.all p) := d2d (by
 by_cases hl : l.length ≤ 200
 · obtain ⟨z, h1, h2⟩ := d1o hp hl l [] rfl
   simp only [length_nil] at h1
   rw [show ((0 : Nat) : Int) = (0 : Int) from rfl] at h1
   have hc : c4T T.rf l = some (!(l.all p)) := d2e (by
    rcases h2 with ⟨g, rfl⟩ | ⟨g, j, rfl⟩
    · have : c0C T.rf l = some (-1) := c3Y (by simp only [b9v, h1, bind_some])
      simp only [b9u, this, bind_some, g]; rfl
    · have : c0C T.rf l = some (j : Int) := c3Y (by simp only [b9v, h1, bind_some])
      simp only [b9u, this, bind_some, g, dt (show (j : Int) ≥ 0 by omega)]; rfl)
   simp only [b9t, a3q, dt hl, cond_true, hc, bind_some, Bool.not_not, Bool.true_and]
 · simp only [b9t, a3q, df hl, cond_false, Bool.false_and])
theorem b6s {n m : Nat} {x : Itm} (h : SzI n m x) (hn : n ≤ 1000000) (hm : m ≤ 1000000) : b7N T.rf x = some (I7 x) := d2c (by
 obtain ⟨kd, nm, ty, e, f, gs⟩ := x
 have he : e.length ≤ 1000000 := Nat.le_trans h.e hm
 have hf : f.length ≤ 1000000 := Nat.le_trans h.f hm
 have ha : gs.length ≤ 1000000 := Nat.le_trans h.c hn
 have hA := c0q (l := gs) (p := D3) (fun y hy => a4D (Nat.le_trans (h.a y hy) hm))
 simp only [c1y, X2, bind_some, a4D he, a4D hf, hA, b8G hf ha, b8G he hf, d5t, I7]
 by_cases k1 : kd = 1
 · subst k1; cases (nm == ([] : Str)) <;> cases (ty == 0) <;> cases (ty == 1) <;> cases D3 e <;> rfl
 by_cases k2 : kd = 2
 · subst k2; cases (nm == ([] : Str)) <;> cases (ty == 0) <;> cases (ty == 1) <;> cases D3 e <;> rfl
 by_cases k3 : kd = 3
 · subst k3; cases u9 nm <;> cases (ty == 1) <;> cases (ty == 2) <;> cases D3 e <;> rfl
 by_cases k4 : kd = 4
 · subst k4; cases u9 nm <;> cases (ty == 0) <;> cases (ty == 1) <;> cases D3 e <;> cases D3 f <;> rfl
 by_cases k5 : kd = 5
 · subst k5; cases u9 nm <;> cases (ty == 0) <;> cases (ty == 1) <;> cases decide (e.length = 0) <;> cases decide (f.length = 0) <;> rfl
 simp only [bf k1, bf k2, bf k3, bf k4, bf k5, cond_false, if_neg k3, if_neg k4, if_neg k5, if_neg (show ¬ (kd = 1 ∨ kd = 2) by omega)]
 cases (ty == 1) <;> rfl)
theorem d1p {l : List Itm} {p : Itm → Bool} (hp : ∀ x ∈ l, b7N T.rf x = some (p x)) (hl : l.length ≤ 200) : ∀ (suf pre : List Itm), l = pre ++ suf →
  ∃ z, k89 T.rb l ((l.length : Nat) : Int) (pre.length : Nat) = some z ∧ ((suf.all p = true ∧ z = .inr ()) ∨ (suf.all p = false ∧ ∃ j : Nat, z = .inl (j : Int)))
 | [], pre, h => ⟨.inr (), c5N (by
    subst h
    simp only [b89, E4, cond_false]), .inl ⟨rfl, rfl⟩⟩
 | x :: suf, pre, h => by
   obtain ⟨z, h1, h2⟩ := d1p hp hl suf (pre ++ [x]) (by rw [h]; simp)
   have hpl : pre.length < 4611686018427387904 := by rw [h] at hl; simp at hl; omega
   have hx := hp x (by rw [h]; simp)
   have hx' : c4S T.rf x = some (!(p x)) := d2b (by simp only [c1x, hx, bind_some])
   cases hb : p x with
   | false =>
     refine ⟨.inl (pre.length : Nat), c5N ?_, .inr ⟨by simp [hb], _, rfl⟩⟩
     subst h
     simp only [b89, s4, m5, m6, cond_true, bind_some, hx', hb, Bool.not_false]
   | true =>
     refine ⟨z, c5N ?_, by simpa [hb] using h2⟩
     subst h
     simp only [b89, s4, m5, m6, cond_true, cond_false, bind_some, hx', hb, Bool.not_true, s3 pre x hpl]
     exact h1
theorem c0r {l : List Itm} {p : Itm → Bool} (hp : ∀ x ∈ l, b7N T.rf x = some (p x)) : c4Q T.rf l = some (decide (l.length ≤ 200) && l.all p) := d1Z (by
 by_cases hl : l.length ≤ 200
 · obtain ⟨z, h1, h2⟩ := d1p hp hl l [] rfl
   simp only [length_nil] at h1
   rw [show ((0 : Nat) : Int) = (0 : Int) from rfl] at h1
   have hc : c4R T.rf l = some (!(l.all p)) := d2a (by
    rcases h2 with ⟨g, rfl⟩ | ⟨g, j, rfl⟩
    · have : c0B T.rf l = some (-1) := c3X (by simp only [b9s, h1, bind_some])
      simp only [b9r, this, bind_some, g]; rfl
    · have : c0B T.rf l = some (j : Int) := c3X (by simp only [b9s, h1, bind_some])
      simp only [b9r, this, bind_some, g, dt (show (j : Int) ≥ 0 by omega)]; rfl)
   simp only [b9q, a3q, dt hl, cond_true, hc, bind_some, Bool.not_not, Bool.true_and]
 · simp only [b9q, a3q, df hl, cond_false, Bool.false_and])
theorem b6t {n m : Nat} {u : Unt} (h : SzU n m u) (hn : n ≤ 1000000) (hm : m ≤ 1000000) : c80 T.rf u = some (K5 u) := d6a (by
 obtain ⟨k, nm, i, o, t, v, q, xs⟩ := u
 have hP : ∀ l : List Pm, c81 T.rf l = some (a4M l) := fun l => c0s (fun x _ => a7V x)
 have hQ := c0t (l := q) (p := V8) (fun y hy => a9h (Nat.le_trans (h.qe y hy) hm))
 have hI := c0r (l := xs) (p := I7) (fun y hy => b6s (h.xe y hy) hn hm)
 simp only [r80, X2, bind_some, hP, hQ, hI, a7V, b8G (Nat.le_trans h.v hn) (Nat.le_trans h.q hn), K5]
 cases u9 nm <;> cases a4M i <;> cases a4M v <;> cases (decide (q.length ≤ 200) && q.all V8) <;> cases (decide (xs.length ≤ 200) && xs.all I7) <;> cases k <;> first | rfl | (cases (o == ([] : Str)) <;> cases (t == 0) <;> rfl))
theorem d1s {l : List Unt} {p : Unt → Bool} (hp : ∀ x ∈ l, c80 T.rf x = some (p x)) (hl : l.length ≤ 200) : ∀ (suf pre : List Unt), l = pre ++ suf →
  ∃ z, k72 T.rb l ((l.length : Nat) : Int) (pre.length : Nat) = some z ∧ ((suf.all p = true ∧ z = .inr ()) ∨ (suf.all p = false ∧ ∃ j : Nat, z = .inl (j : Int)))
 | [], pre, h => ⟨.inr (), c5I (by
    subst h
    simp only [b72, E4, cond_false]), .inl ⟨rfl, rfl⟩⟩
 | x :: suf, pre, h => by
   obtain ⟨z, h1, h2⟩ := d1s hp hl suf (pre ++ [x]) (by rw [h]; simp)
   have hpl : pre.length < 4611686018427387904 := by rw [h] at hl; simp at hl; omega
   have hx := hp x (by rw [h]; simp)
   have hx' : c79 T.rf x = some (!(p x)) := d5Z (by simp only [r79, hx, bind_some])
   cases hb : p x with
   | false =>
     refine ⟨.inl (pre.length : Nat), c5I ?_, .inr ⟨by simp [hb], _, rfl⟩⟩
     subst h
     simp only [b72, s4, m5, m6, cond_true, bind_some, hx', hb, Bool.not_false]
   | true =>
     refine ⟨z, c5I ?_, by simpa [hb] using h2⟩
     subst h
     simp only [b72, s4, m5, m6, cond_true, cond_false, bind_some, hx', hb, Bool.not_true, s3 pre x hpl]
     exact h1
theorem c0u {l : List Unt} {p : Unt → Bool} (hp : ∀ x ∈ l, c80 T.rf x = some (p x)) : c76 T.rf l = some (decide (l.length ≤ 200) && l.all p) := d5X (by
 by_cases hl : l.length ≤ 200
 · obtain ⟨z, h1, h2⟩ := d1s hp hl l [] rfl
   simp only [length_nil] at h1
   rw [show ((0 : Nat) : Int) = (0 : Int) from rfl] at h1
   have hc : c77 T.rf l = some (!(l.all p)) := d5Y (by
    rcases h2 with ⟨g, rfl⟩ | ⟨g, j, rfl⟩
    · have : c78 T.rf l = some (-1) := d2K (by simp only [r78, h1, bind_some])
      simp only [r77, this, bind_some, g]; rfl
    · have : c78 T.rf l = some (j : Int) := d2K (by simp only [r78, h1, bind_some])
      simp only [r77, this, bind_some, g, dt (show (j : Int) ≥ 0 by omega)]; rfl)
   simp only [r76, a3q, dt hl, cond_true, hc, bind_some, Bool.not_not, Bool.true_and]
 · simp only [r76, a3q, df hl, cond_false, Bool.false_and])
theorem b1L {n m : Nat} {p : Prg} (h : SzP n m p) (hn : n ≤ 1000000) (hm : m ≤ 1000000) : c67 T.rf p = some (a1o p) := d5P (by
 have hU := c0u (l := p.1) (p := K5) (fun y hy => b6t (h.u y hy) hn hm)
 simp only [r67, X2, bind_some, hU, a1o]
 cases u9 p.2.1 <;> cases (p.2.2 == ([] : Str)) <;> cases u9 p.2.2 <;> rfl)
end Go.Proofs.YtlobhcgbmpcdlaaGreatDoor.R
