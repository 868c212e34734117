import Derived.Test.YtlobhcgbmpcdlaaGreatDoorLstA
namespace Go.Proofs.YtlobhcgbmpcdlaaGreatDoor.R
open Go Go.Bm Go.Proofs
set_option linter.unusedVariables false
set_option linter.unusedSimpArgs false
set_option maxRecDepth 4000
section
variable {α : Type}
end
theorem lt_midN {α : Type} {N : Nat} (pre : List α) (x : α) (suf : List α) (h : N = (pre ++ x :: suf).length) : decide (((pre.length : Nat) : Int) < ((N : Nat) : Int)) = true := by subst h; exact lt_mid pre x suf
theorem lt_endN {α : Type} {N : Nat} (pre : List α) (h : N = (pre ++ []).length) : decide (((pre.length : Nat) : Int) < ((N : Nat) : Int)) = false := by subst h; exact lt_end pre
end Go.Proofs.YtlobhcgbmpcdlaaGreatDoor.R
