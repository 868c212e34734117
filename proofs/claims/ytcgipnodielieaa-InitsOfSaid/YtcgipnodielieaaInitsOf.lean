/-
  OUR OWN: the law InitsOf comes to true.
-/
import Derived.Test.YtcgipnodielieaaInitsB
import Derived.Test.YtcgipnodielieaaResOk
namespace Go.Proofs.Ytcgipnodielieaa.R
open Go Go.Bm Go.Proofs
set_option linter.unusedVariables false
set_option linter.unusedSimpArgs false
set_option maxRecDepth 4000

theorem InitsOf_eq (e : List Nd) : c0 T.rf e = some true := or0 (by
  have live_eq : c1 T.rf = some true := live_run
  simp only [r0, live_eq, Option.bind_some]
  by_cases hl : e.length ≤ 300
  · rw [df (by omega), cond_false, Of_eq (by omega), refOf_eq (by omega)]
    simp only [Option.bind_some, beq_self_eq_true, cond_true]
  · rw [dt (by omega), cond_true])

theorem lawInitsOf : LawOk T 0 := fun d _ => ⟨true, InitsOf_eq d, rfl, rfl, rfl⟩

end Go.Proofs.Ytcgipnodielieaa.R
