import Derived.Test.YtlobhcgbmpcdlaaGreatDoorShwQ
namespace Go.Proofs.YtlobhcgbmpcdlaaGreatDoor.R
open Go Go.Bm Go.Proofs
set_option linter.unusedVariables false
set_option linter.unusedSimpArgs false
set_option maxRecDepth 4000
theorem namesX {b : Nd} {ks : List Tr} (h : namesT (.mk b ks) = true) : nameN b = true ∧ namesL ks = true := by
 rw [namesT, Bool.and_eq_true] at h; exact h
end Go.Proofs.YtlobhcgbmpcdlaaGreatDoor.R
