/-
  OUR OWN: programs as data, and whether one is small.
-/
import Derived.Test.YtomofgclaiaikaaTypA
namespace Go.Proofs.Ytomofgclaiaikaa.R
open Go Go.Bm Go.Proofs
set_option linter.unusedVariables false
set_option linter.unusedSimpArgs false
set_option maxRecDepth 4000




abbrev Pg : Type := List Un × List UInt8 × List UInt8

def argsS (l : List (List Nd)) : Bool := l.all fun a => decide (a.length ≤ 200)
def itemS (x : It) : Bool := decide (x.2.2.2.1.length ≤ 200) && (decide (x.2.2.2.2.1.length ≤ 200) && (decide (x.2.2.2.2.2.length ≤ 30) && argsS x.2.2.2.2.2))
def eqS (q : List UInt8 × List Nd) : Bool := decide (q.2.length ≤ 200)
def unitS (u : Un) : Bool := decide (u.2.2.1.length ≤ 30) && (decide (u.2.2.2.2.2.1.length ≤ 30) && (decide (u.2.2.2.2.2.2.1.length ≤ 30) && (decide (u.2.2.2.2.2.2.2.length ≤ 30) && (u.2.2.2.2.2.2.1.all eqS && u.2.2.2.2.2.2.2.all itemS))))
def smallB (p : Pg) : Bool := decide (p.1.length ≤ 30) && p.1.all unitS

theorem Small_args (x : It) : ∀ (suf pre : List (List Nd)), x.2.2.2.2.2 = pre ++ suf → pre.length + suf.length ≤ 1000 →
    k121 T.rb x (pre.length : Nat) = some (bif argsS suf then .inr x else .inl (x, false))
  | [], pre, hx, h => ob121 (by
    simp only [b121, hx, lt_end, lt_self, List.append_nil, cond_false]; rfl)
  | a :: suf, pre, hx, h => ob121 (by
    simp only [List.length_cons] at h
    have ih := Small_args x suf (pre ++ [a]) (by rw [hx]; simp) (by simp; omega)
    simp only [b121, hx, lt_mid, inb_mid, nth_mid, cond_true, Option.bind_some, next_mid pre a (by omega), ih]
    rw [show argsS (a :: suf) = (decide (a.length ≤ 200) && argsS suf) from rfl]
    by_cases ha : a.length ≤ 200
    · rw [df (by omega), dt ha, cond_false, Bool.true_and]
    · rw [dt (by omega), df ha, cond_true]; rfl)

theorem Small_items (u : Un) : ∀ (suf pre : List It), u.2.2.2.2.2.2.2 = pre ++ suf → pre.length + suf.length ≤ 1000 →
    k120 T.rb u (pre.length : Nat) = some (bif suf.all itemS then .inr u else .inl (u, false))
  | [], pre, hx, h => ob120 (by
    simp only [b120, hx, lt_end, lt_self, List.append_nil, cond_false]; rfl)
  | x :: suf, pre, hx, h => ob120 (by
    simp only [List.length_cons] at h
    have ih := Small_items u suf (pre ++ [x]) (by rw [hx]; simp) (by simp; omega)
    simp only [b120, hx, lt_mid, inb_mid, nth_mid, cond_true, Option.bind_some, next_mid pre x (by omega), ih]
    rw [List.all_cons, itemS]
    by_cases h1 : x.2.2.2.1.length ≤ 200
    case neg => rw [dt (by omega), df h1, cond_true]; rfl
    by_cases h2 : x.2.2.2.2.1.length ≤ 200
    case neg => rw [df (by omega), dt h1, cond_false, dt (by omega), df h2, cond_true]; rfl
    by_cases h3 : x.2.2.2.2.2.length ≤ 30
    case neg => rw [df (by omega), dt h1, cond_false, df (by omega), dt h2, cond_false, dt (by omega), df h3, cond_true]; rfl
    have h0 := Small_args x x.2.2.2.2.2 [] rfl (by simp; omega)
    rw [show (((([] : List (List Nd)).length : Nat)) : Int) = 0 from rfl] at h0
    rw [df (by omega), dt h1, cond_false, df (by omega), dt h2, cond_false, df (by omega), dt h3, cond_false, h0]
    cases argsS x.2.2.2.2.2 <;> rfl)

theorem Small_eqs (u : Un) : ∀ (suf pre : List (List UInt8 × List Nd)), u.2.2.2.2.2.2.1 = pre ++ suf → pre.length + suf.length ≤ 1000 →
    k119 T.rb u (pre.length : Nat) = some (bif suf.all eqS then .inr u else .inl (u, false))
  | [], pre, hx, h => ob119 (by
    simp only [b119, hx, lt_end, lt_self, List.append_nil, cond_false]; rfl)
  | a :: suf, pre, hx, h => ob119 (by
    simp only [List.length_cons] at h
    have ih := Small_eqs u suf (pre ++ [a]) (by rw [hx]; simp) (by simp; omega)
    simp only [b119, hx, lt_mid, inb_mid, nth_mid, cond_true, Option.bind_some, next_mid pre a (by omega), ih]
    rw [List.all_cons, eqS]
    by_cases ha : a.2.length ≤ 200
    · rw [df (by omega), dt ha, cond_false, Bool.true_and]
    · rw [dt (by omega), df ha, cond_true]; rfl)

theorem Small_units (p : Pg) : ∀ (suf pre : List Un), p.1 = pre ++ suf → pre.length + suf.length ≤ 1000 →
    k118 T.rb p (pre.length : Nat) = some (bif suf.all unitS then .inr p else .inl (p, false))
  | [], pre, hx, h => ob118 (by
    simp only [b118, hx, lt_end, lt_self, List.append_nil, cond_false]; rfl)
  | u :: suf, pre, hx, h => ob118 (by
    simp only [List.length_cons] at h
    have ih := Small_units p suf (pre ++ [u]) (by rw [hx]; simp) (by simp; omega)
    simp only [b118, hx, lt_mid, inb_mid, nth_mid, cond_true, Option.bind_some, next_mid pre u (by omega), ih]
    rw [List.all_cons, unitS]
    by_cases h1 : u.2.2.1.length ≤ 30
    case neg => rw [dt (by omega), df h1, cond_true]; rfl
    by_cases h2 : u.2.2.2.2.2.1.length ≤ 30
    case neg => rw [df (by omega), dt h1, cond_false, dt (by omega), df h2, cond_true]; rfl
    by_cases h3 : u.2.2.2.2.2.2.1.length ≤ 30
    case neg => rw [df (by omega), dt h1, cond_false, df (by omega), dt h2, cond_false, dt (by omega), df h3, cond_true]; rfl
    by_cases h4 : u.2.2.2.2.2.2.2.length ≤ 30
    case neg => rw [df (by omega), dt h1, cond_false, df (by omega), dt h2, cond_false, df (by omega), dt h3, cond_false, dt (by omega), df h4, cond_true]; rfl
    have h5 := Small_eqs u u.2.2.2.2.2.2.1 [] rfl (by simp; omega)
    have h6 := Small_items u u.2.2.2.2.2.2.2 [] rfl (by simp; omega)
    rw [show (((([] : List (List UInt8 × List Nd)).length : Nat)) : Int) = 0 from rfl] at h5
    rw [show (((([] : List It).length : Nat)) : Int) = 0 from rfl] at h6
    rw [df (by omega), dt h1, cond_false, df (by omega), dt h2, cond_false, df (by omega), dt h3, cond_false, df (by omega), dt h4, cond_false, h5]
    cases u.2.2.2.2.2.2.1.all eqS
    · rfl
    · simp only [cond_true, Option.bind_some, h6]
      cases u.2.2.2.2.2.2.2.all itemS <;> rfl)

theorem Small_eq (p : Pg) : c97 T.rf p = some (smallB p) := or97 (by
  simp only [r97, smallB]
  by_cases h : p.1.length ≤ 30
  · have h5 := Small_units p p.1 [] rfl (by simp; omega)
    rw [show (((([] : List Un).length : Nat)) : Int) = 0 from rfl] at h5
    rw [df (by omega), dt h, cond_false, h5]
    cases p.1.all unitS <;> rfl
  · rw [dt (by omega), df h, cond_true]; rfl)

structure SmallI (x : It) : Prop where
  e : x.2.2.2.1.length ≤ 200
  f : x.2.2.2.2.1.length ≤ 200
  args : x.2.2.2.2.2.length ≤ 30
  arg : ∀ a ∈ x.2.2.2.2.2, a.length ≤ 200
structure SmallU (u : Un) : Prop where
  ins : u.2.2.1.length ≤ 30
  vars : u.2.2.2.2.2.1.length ≤ 30
  eqs : u.2.2.2.2.2.2.1.length ≤ 30
  items : u.2.2.2.2.2.2.2.length ≤ 30
  eq : ∀ q ∈ u.2.2.2.2.2.2.1, q.2.length ≤ 200
  item : ∀ x ∈ u.2.2.2.2.2.2.2, SmallI x
structure SmallP (p : Pg) : Prop where
  units : p.1.length ≤ 30
  unit : ∀ u ∈ p.1, SmallU u

theorem small_P {p : Pg} (h : smallB p = true) : SmallP p := by
  simp only [smallB, Bool.and_eq_true, decide_eq_true_eq, List.all_eq_true] at h
  refine ⟨h.1, fun u hu => ?_⟩
  have h1 := h.2 u hu
  simp only [unitS, Bool.and_eq_true, decide_eq_true_eq, List.all_eq_true] at h1
  obtain ⟨a1, a2, a3, a4, a5, a6⟩ := h1
  refine ⟨a1, a2, a3, a4, fun q hq => of_decide_eq_true (a5 q hq), fun x hx => ?_⟩
  have h2 := a6 x hx
  simp only [itemS, argsS, Bool.and_eq_true, decide_eq_true_eq, List.all_eq_true] at h2
  obtain ⟨b1, b2, b3, b4⟩ := h2
  exact ⟨b1, b2, b3, b4⟩

end Go.Proofs.Ytomofgclaiaikaa.R
