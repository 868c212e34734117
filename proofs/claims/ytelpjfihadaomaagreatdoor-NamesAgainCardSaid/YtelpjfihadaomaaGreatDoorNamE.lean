import Derived.Test.YtelpjfihadaomaaGreatDoorNamF
namespace Go.Proofs.YtelpjfihadaomaaGreatDoor.R
open Go Go.Bm Go.Proofs
set_option linter.unusedVariables false
set_option linter.unusedSimpArgs false
set_option maxRecDepth 4000
theorem bs {a b:Str}:(a == b) = decide (a = b):=by
 by_cases h:a = b
 · rw [dt h]; exact beq_iff_eq.2 h
 · rw [df h]; exact beq_eq_false_iff_ne.2 h
end Go.Proofs.YtelpjfihadaomaaGreatDoor.R
