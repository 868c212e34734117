/-
  OUR OWN: whether code may be: the program's way and the document's.
-/
import Derived.Test.YteifekbmmhpadaaSchA
namespace Go.Proofs.Yteifekbmmhpadaa.R
open Go Go.Bm Go.Proofs
set_option linter.unusedVariables false
set_option linter.unusedSimpArgs false
set_option maxRecDepth 4000

/-- An instruction: operator, D, A, B, C, N. -/
abbrev Ic : Type := Int × Int × Int × Int × Int × Int
/-- Code: instructions, registers, slots, outs, inputs. -/
abbrev Cd : Type := List Ic × Int × Int × List Int × List Int
def rdN (op : Int) : Int :=
  if op = 3 ∨ op = 1 ∨ op = 2 ∨ op = 21 then 0 else if op = 30 then 1 else if op = 19 then 2 else if op = 4 ∨ op = 5 then 1 else if 6 ≤ op ∧ op ≤ 18 then 2 else if op = 26 then 3 else -1
def rdL (x : Ic) : List Int := [x.2.2.1, x.2.2.2.1, x.2.2.2.2.1].take (rdN x.1).toNat
theorem rdN_le (op : Int) : -1 ≤ rdN op ∧ rdN op ≤ 3 := by
  unfold rdN; repeat' split
  all_goals omega
theorem rdL_len {x : Ic} (h : 0 ≤ rdN x.1) : ((rdL x).length : Int) = rdN x.1 := by
  have := rdN_le x.1
  rw [rdL, List.length_take]; simp; omega
theorem rdN_cases (op : Int) : (op = 3 ∨ op = 1 ∨ op = 2 ∨ op = 21 ∨ op = 30 ∨ op = 19 ∨ op = 26) ∨ ((op ≠ 3 ∧ op ≠ 1 ∧ op ≠ 2 ∧ op ≠ 21 ∧ op ≠ 30 ∧ op ≠ 19 ∧ op ≠ 26) ∧ rdN op = if op = 4 ∨ op = 5 then 1 else if 6 ≤ op ∧ op ≤ 18 then 2 else -1) := by
  by_cases h : op = 3 ∨ op = 1 ∨ op = 2 ∨ op = 21 ∨ op = 30 ∨ op = 19 ∨ op = 26
  · exact Or.inl h
  · refine Or.inr ⟨by omega, ?_⟩
    unfold rdN
    rw [if_neg (show ¬ (op = 3 ∨ op = 1 ∨ op = 2 ∨ op = 21) by omega), if_neg (show ¬ op = 30 by omega), if_neg (show ¬ op = 19 by omega)]
    by_cases h1 : op = 4 ∨ op = 5
    · rw [if_pos h1, if_pos h1]
    · rw [if_neg h1, if_neg h1]
      by_cases h2 : 6 ≤ op ∧ op ≤ 18
      · rw [if_pos h2, if_pos h2]
      · rw [if_neg h2, if_neg h2, if_neg (show ¬ op = 26 by omega)]
theorem creads_eq (op : Int) : c6 T.rf op = some (rdN op) := or6 (by
  simp only [r6, numOperands_eq, Option.bind_some]
  rcases rdN_cases op with h | ⟨h, hr⟩
  · rcases h with h | h | h | h | h | h | h <;> subst h <;> rfl
  · rw [hr]
    simp only [bf h.1, bf h.2.1, bf h.2.2.1, bf h.2.2.2.1, bf h.2.2.2.2.1, bf h.2.2.2.2.2.1, cond_false, if_neg h.2.2.2.2.2.2])
theorem refReads_eq (x : Ic) : c28 T.rf x = some (if 0 ≤ rdN x.1 then (rdL x, true) else ([], false)) := or28 (by
  obtain ⟨op, d, a, b, c, m⟩ := x
  simp only [r28, refOperands_eq, Option.bind_some, rdL]
  rcases rdN_cases op with h | ⟨h, hr⟩
  · rcases h with h | h | h | h | h | h | h <;> subst h <;> rfl
  · rw [hr]
    simp only [bf h.1, bf h.2.1, bf h.2.2.1, bf h.2.2.2.1, bf h.2.2.2.2.1, bf h.2.2.2.2.2.1, cond_false, if_neg h.2.2.2.2.2.2]
    by_cases h1 : op = 4 ∨ op = 5
    · simp only [if_pos h1]; rfl
    · simp only [if_neg h1]
      by_cases h2 : 6 ≤ op ∧ op ≤ 18
      · simp only [if_pos h2]; rfl
      · simp only [if_neg h2]; rfl)

/-- Are the fields that are not named 0? -/
def restI (x : Ic) : Bool := decide ((rdN x.1 < 1 → x.2.2.1 = 0) ∧ (rdN x.1 < 2 → x.2.2.2.1 = 0) ∧ (rdN x.1 < 3 → x.2.2.2.2.1 = 0) ∧ (x.1 = 30 → x.2.1 = 0) ∧ ((x.1 = 3 ∨ x.1 = 1 ∨ x.1 = 2 ∨ x.1 = 21 ∨ x.1 = 30) ∨ x.2.2.2.2.2 = 0))
/-- May an instruction's N be? -/
def numI (c : Cd) (x : Ic) : Bool := decide ((x.1 = 3 → 0 ≤ x.2.2.2.2.2 ∧ x.2.2.2.2.2 < c.2.2.2.2.length) ∧ (x.1 = 1 → -2147483648 ≤ x.2.2.2.2.2 ∧ x.2.2.2.2.2 ≤ 2147483647) ∧ (x.1 = 2 → x.2.2.2.2.2 = 0 ∨ x.2.2.2.2.2 = 1) ∧ (x.1 = 21 ∨ x.1 = 30 → 0 ≤ x.2.2.2.2.2 ∧ x.2.2.2.2.2 < c.2.2.1))
def okI (c : Cd) (x : Ic) : Bool := decide (0 ≤ rdN x.1) && (restI x && numI c x)

theorem some_dec {b : Bool} {p : Prop} [Decidable p] (h : b = true ↔ p) : b = decide p := by
  by_cases hp : p
  · rw [dt hp]; exact h.2 hp
  · rw [df hp]
    cases b
    · rfl
    · exact absurd (h.1 rfl) hp
theorem eqn (a b : Int) : (a == b) = decide (a = b) := by
  by_cases h : a = b
  · rw [bt h, dt h]
  · rw [bf h, df h]
theorem okI_iff (c : Cd) (x : Ic) : okI c x = decide (0 ≤ rdN x.1 ∧ ((rdN x.1 < 1 → x.2.2.1 = 0) ∧ (rdN x.1 < 2 → x.2.2.2.1 = 0) ∧ (rdN x.1 < 3 → x.2.2.2.2.1 = 0) ∧ (x.1 = 30 → x.2.1 = 0) ∧ ((x.1 = 3 ∨ x.1 = 1 ∨ x.1 = 2 ∨ x.1 = 21 ∨ x.1 = 30) ∨ x.2.2.2.2.2 = 0)) ∧ ((x.1 = 3 → 0 ≤ x.2.2.2.2.2 ∧ x.2.2.2.2.2 < c.2.2.2.2.length) ∧ (x.1 = 1 → -2147483648 ≤ x.2.2.2.2.2 ∧ x.2.2.2.2.2 ≤ 2147483647) ∧ (x.1 = 2 → x.2.2.2.2.2 = 0 ∨ x.2.2.2.2.2 = 1) ∧ (x.1 = 21 ∨ x.1 = 30 → 0 ≤ x.2.2.2.2.2 ∧ x.2.2.2.2.2 < c.2.2.1))) := by
  rw [okI, restI, numI, Bool.eq_iff_iff]
  simp only [Bool.and_eq_true, decide_eq_true_iff]
theorem opt_bif {c : Bool} {x y z : Option Bool} (h1 : c = true → x = z) (h2 : c = false → y = z) : (bif c then x else y) = z := by
  cases c
  · exact h2 rfl
  · exact h1 rfl
set_option maxHeartbeats 4000000 in
theorem isPlain_eq {c : Cd} (hs : 0 ≤ c.2.2.1 ∧ c.2.2.1 ≤ 1000000) (hi : c.2.2.2.2.length ≤ 1000000) (x : Ic) : c5 T.rf c x = some (okI c x) := or5 (by
  have w1 : IntKind.i64.wrap (c.2.2.1 - 1) = c.2.2.1 - 1 := wr (by omega)
  have w2 : IntKind.i64.wrap (((c.2.2.2.2.length : Nat) : Int) - 1) = ((c.2.2.2.2.length : Nat) : Int) - 1 := wr (by omega)
  have hrl := rdN_le x.1
  rw [okI_iff]
  obtain ⟨op, d, a, b, e, m⟩ := x
  simp only [r5, creads_eq, fits_eq, Option.bind_some, w1, w2, beq_self_eq_true, Bool.true_and]
  generalize hrd : rdN op = rd at *
  have hrd30 : op = 30 → rd = 1 := fun h => by subst h; rw [← hrd]; rfl
  have hrd0 : (op = 3 ∨ op = 1 ∨ op = 2 ∨ op = 21) → rd = 0 := fun h => by rw [← hrd, rdN, if_pos h]
  simp only [eqn]
  repeat' refine opt_bif (fun _ => ?_) (fun _ => ?_)
  all_goals
    refine congrArg some ?_
    simp only [Bool.and_eq_true, Bool.and_eq_false_iff, decide_eq_true_eq, decide_eq_false_iff_not, ge_iff_le, Int.not_le, Bool.and_true, Bool.true_and] at *
    first
      | (refine (decide_eq_false ?_).symm; intro hh; omega)
      | (refine decide_eq_decide.2 ?_; constructor <;> intro hh <;> omega))

end Go.Proofs.Yteifekbmmhpadaa.R
