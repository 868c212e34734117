/-
  OUR OWN: what the functions of package tree and of its document come to, in plain Lean: lists of texts and numbers; an expression's names.
-/
import Derived.Test.YtomofgclaiaikaaTreeE
namespace Go.Proofs.Ytomofgclaiaikaa.R
open Go Go.Bm Go.Proofs
set_option linter.unusedVariables false
set_option linter.unusedSimpArgs false
set_option maxRecDepth 4000

/-- The names of the streams among some nodes, each once. -/
def varsL : List Nd → List (List UInt8) → List (List UInt8)
  | [], l => l
  | n :: r, l => if n.1 = 3 ∧ n.2.2.2.2.2 ∉ l then varsL r (l ++ [n.2.2.2.2.2]) else varsL r l

theorem varsL_len : ∀ (e : List Nd) (l : List (List UInt8)), (varsL e l).length ≤ l.length + e.length
  | [], l => by simp [varsL]
  | n :: r, l => by
    rw [varsL]
    split
    · have := varsL_len r (l ++ [n.2.2.2.2.2]); simp at this ⊢; omega
    · have := varsL_len r l; simp; omega

theorem seen_get (l : List (List UInt8)) (x : List UInt8) : assocGet (CT.eqK .str) false (l.map fun s => (s, true)) x = decide (x ∈ l) := by
  have : assoc (CT.eqK .str) (l.map fun s => (s, true)) x = if x ∈ l then some true else none := by
    induction l with
    | nil => rfl
    | cons y l ih =>
      simp only [List.map_cons, assoc, ih]
      by_cases e : x = y
      · subst e
        have : CT.eqK .str x x = true := beq_self_eq_true x
        rw [this]; simp
      · have : CT.eqK .str x y = false := beq_eq_false_iff_ne.2 e
        rw [this]; simp [e]
  unfold assocGet
  rw [this]
  by_cases h : x ∈ l <;> simp [h]
theorem seen_set : ∀ (l : List (List UInt8)) (x : List UInt8), x ∉ l → assocSet (CT.eqK .str) (l.map fun s => (s, true)) x true = (l ++ [x]).map fun s => (s, true)
  | [], x, _ => rfl
  | y :: l, x, h => by
    simp only [List.mem_cons, not_or] at h
    have : CT.eqK .str x y = false := beq_eq_false_iff_ne.2 h.1
    simp only [List.map_cons, assocSet, this, cond_false, seen_set l x h.2, List.cons_append]

theorem pred_i {α : Type} {l : List α} (h : l.length ≤ 1000000) : IntKind.i64.wrap ((l.length : Int) - 1) = (l.length : Int) - 1 := wr (by omega)

/-- An expression, in order. -/
def norm (e : List Nd) : List Nd := subE e ((e.length : Int) - 1)
def vars (e : List Nd) : List (List UInt8) := varsL (norm e) []

theorem Norm_eq {e : List Nd} (h : e.length ≤ 1000000) : c104 T.rf e = some (norm e) := or104 (by
  simp only [r104, pred_i h, refSub_eq h, Option.bind_some]; rfl)

end Go.Proofs.Ytomofgclaiaikaa.R
