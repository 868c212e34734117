/-
  OUR OWN: nets: operators' operands, and whether a net may be (the program's way and the document's).
-/
import Derived.Test.YteifekbmmhpadaaResRun
import Derived.Test.YteifekbmmhpadaaBmPl
namespace Go.Proofs.Yteifekbmmhpadaa.R
open Go Go.Bm Go.Proofs
set_option linter.unusedVariables false
set_option linter.unusedSimpArgs false
set_option maxRecDepth 4000

abbrev Od : Type := Int × Int × Int × Int × Int
abbrev Nt : Type := List Od × List Int × List Int
/-- How many operands an operator has. -/
def kidsN (op : Int) : Int :=
  if op = 3 ∨ op = 1 ∨ op = 2 then 0 else if op = 21 then 1 else if op = 19 then 2 else if op = 4 ∨ op = 5 then 1 else if 6 ≤ op ∧ op ≤ 18 then 2 else if op = 26 then 3 else -1
def flds (x : Od) : List Int := [x.2.1, x.2.2.1, x.2.2.2.1]
def manyN (x : Od) : Nat := (kidsN x.1).toNat
def usedN (x : Od) : List Int := (flds x).take (manyN x)
def restN (x : Od) : List Int := (flds x).drop (manyN x)
def inN (m : Nat) (k : Int) : Bool := decide (0 ≤ k ∧ k < m)
def plainN (n : Nt) (x : Od) : Bool :=
  if x.1 = 3 then decide (0 ≤ x.2.2.2.2 ∧ x.2.2.2.2 < n.2.2.length) else if x.1 = 1 then decide (-2147483648 ≤ x.2.2.2.2 ∧ x.2.2.2.2 ≤ 2147483647) else if x.1 = 2 then decide (x.2.2.2.2 = 0 ∨ x.2.2.2.2 = 1) else decide (x.2.2.2.2 = 0)
def mayO (n : Nt) (x : Od) : Bool := decide (0 ≤ kidsN x.1) && ((usedN x).all (inN n.1.length) && ((restN x).all (fun k => decide (k = -1)) && plainN n x))
def mayN (n : Nt) : Bool := n.1.all (mayO n) && n.2.1.all (inN n.1.length)
/-- The operators that one needs. -/
def opsN (x : Od) : List Int := if x.1 = 21 then [] else usedN x

theorem kidsN_le (op : Int) : -1 ≤ kidsN op ∧ kidsN op ≤ 3 := by
  unfold kidsN; repeat' split
  all_goals omega
theorem manyN_le (x : Od) : manyN x ≤ 3 := by have := kidsN_le x.1; unfold manyN; omega

theorem numOperands_eq (op : Int) : c7 T.rf op = some (if op = 4 ∨ op = 5 then 1 else if 6 ≤ op ∧ op ≤ 18 then 2 else if op = 26 then 3 else -1) := or7 (by
  simp only [r7]
  by_cases h4 : op = 4
  · subst h4; rfl
  by_cases h5 : op = 5
  · subst h5; rfl
  rw [bf h4, cond_false, bf h5, cond_false, if_neg (by omega)]
  by_cases h6 : 6 ≤ op
  · rw [dt h6, cond_true]
    by_cases h18 : op ≤ 18
    · rw [dt h18, cond_true, if_pos ⟨h6, h18⟩]
    · rw [df h18, cond_false, if_neg (by omega)]
      by_cases h26 : op = 26
      · rw [bt h26, if_pos h26]; rfl
      · rw [bf h26, if_neg h26]; rfl
  · rw [df h6, cond_false, if_neg (by omega)]
    by_cases h26 : op = 26
    · omega
    · rw [bf h26, if_neg h26]; rfl)
theorem refOperands_eq (op : Int) : c29 T.rf op = some (if op = 4 ∨ op = 5 then 1 else if 6 ≤ op ∧ op ≤ 18 then 2 else if op = 26 then 3 else -1) := or29 (by
  simp only [r29]
  by_cases h4 : op = 4
  · subst h4; rfl
  by_cases h5 : op = 5
  · subst h5; rfl
  rw [bf h4, cond_false, bf h5, cond_false, if_neg (by omega)]
  by_cases h26 : op = 26
  · subst h26; rfl
  rw [bf h26, cond_false, if_neg h26]
  by_cases h6 : 6 ≤ op
  · rw [dt h6, cond_true]
    by_cases h18 : op ≤ 18
    · rw [dt h18, cond_true, if_pos ⟨h6, h18⟩]
    · rw [df h18, cond_false, if_neg (by omega)]
  · rw [df h6, cond_false, if_neg (by omega)])
/-! May a net be: the program's way. -/
def ixO {α : Type} : (α × Int) ⊕ α → α × Int
  | .inl j => j
  | .inr m => (m, -1)
def ixP {α : Type} (n : α) (b : Bool) : (α × Int) ⊕ α → Prop
  | .inl j => j.1 = n ∧ 0 ≤ j.2 ∧ b = false
  | .inr m => m = n ∧ b = true
theorem ixP_fin {α : Type} {n : α} {b : Bool} {z : (α × Int) ⊕ α} (h : ixP n b z) : ((ixO z).1, decide ((ixO z).2 ≥ 0)) = (n, !b) := by
  cases z with
  | inl j => obtain ⟨h1, h2, h3⟩ := h; rw [h3]; show (j.1, decide (j.2 ≥ 0)) = _; rw [h1, dt h2]; rfl
  | inr m => obtain ⟨h1, h2⟩ := h; rw [h1, h2]; rfl
theorem i32_in {x : Int} : ((IntKind.i64.wrap (IntKind.i32.wrap x)) == x) = decide (-2147483648 ≤ x ∧ x ≤ 2147483647) := by
  have hr : -2147483648 ≤ IntKind.i32.wrap x ∧ IntKind.i32.wrap x ≤ 2147483647 := by
    rw [IntKind.wrap_i32]; omega
  rw [wr (by omega)]
  by_cases h : -2147483648 ≤ x ∧ x ≤ 2147483647
  · rw [dt h]
    exact bt (IntWalk.i32_in x h)
  · rw [df h]
    exact bf (fun e => h (e ▸ hr))
theorem fits_eq (x : Int) : c8 T.rf x = some (decide (-2147483648 ≤ x ∧ x ≤ 2147483647)) := or8 (by
  simp only [r8, i32_in])
theorem refFits_eq (x : Int) : c32 T.rf x = some (decide (-2147483648 ≤ x ∧ x ≤ 2147483647)) := or32 (by
  simp only [r32]
  by_cases h : -2147483648 ≤ x
  · rw [dt h, cond_true]; congr 1; by_cases h2 : x ≤ 2147483647
    · rw [dt h2, dt ⟨h, h2⟩]
    · rw [df h2, df (fun a => h2 a.2)]
  · rw [df h, cond_false, df (fun a => h a.1)])
/-! The document's way. -/
/-- The three places of operands. -/
def opB (n : Nt) (x : Od) (at_ : Int) (k : Int) : Bool := if at_ ≥ kidsN x.1 then decide (k = -1) else inN n.1.length k
theorem mayO_ref (n : Nt) (x : Od) : mayO n x = (decide (0 ≤ kidsN x.1) && (plainN n x && (opB n x 0 x.2.1 && (opB n x 1 x.2.2.1 && opB n x 2 x.2.2.2.1)))) := by
  have hk := kidsN_le x.1
  unfold mayO opB usedN restN manyN flds
  by_cases h0 : 0 ≤ kidsN x.1
  case neg => rw [df h0]; rfl
  rw [dt h0, Bool.true_and, Bool.true_and]
  rcases (show kidsN x.1 = 0 ∨ kidsN x.1 = 1 ∨ kidsN x.1 = 2 ∨ kidsN x.1 = 3 by omega) with e | e | e | e <;> rw [e] <;> simp [Bool.and_comm, Bool.and_assoc, Bool.and_left_comm]
end Go.Proofs.Yteifekbmmhpadaa.R
