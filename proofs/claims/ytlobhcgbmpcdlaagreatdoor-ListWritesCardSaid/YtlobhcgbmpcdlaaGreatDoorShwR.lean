import Derived.Test.YtlobhcgbmpcdlaaGreatDoorShwQ
namespace Go.Proofs.YtlobhcgbmpcdlaaGreatDoor.R
open Go Go.Bm Go.Proofs
set_option linter.unusedVariables false
set_option linter.unusedSimpArgs false
set_option maxRecDepth 4000
theorem a1b {b : Nd} {ks : List Tr} (h : n9 (.mk b ks) = true) : C3 b = true ∧ l9 ks = true := by
 rw [n9, Bool.and_eq_true] at h; exact h
end Go.Proofs.YtlobhcgbmpcdlaaGreatDoor.R
