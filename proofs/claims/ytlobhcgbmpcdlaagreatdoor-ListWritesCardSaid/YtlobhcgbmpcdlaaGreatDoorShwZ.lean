import Derived.Test.YtlobhcgbmpcdlaaGreatDoorShwW
namespace Go.Proofs.YtlobhcgbmpcdlaaGreatDoor.R
open Go Go.Bm Go.Proofs
set_option linter.unusedVariables false
set_option linter.unusedSimpArgs false
set_option maxRecDepth 4000
theorem J_a (a b : List Str) : (J (a ++ b)).length = (J a).length + (J b).length := by simp [J]
theorem J_c (s : Str) (b : List Str) : (J (s :: b)).length = s.length + 1 + (J b).length := by simp [J]; omega
theorem J_n : (J ([] : List Str)).length = 0 := rfl
theorem b1R (a : Int) (x : Int × List Str) : (J (n0 a x)).length ≤ (J x.2).length + 4 := by
 unfold n0; split
 · omega
 · rw [J_c, J_a, J_c, J_n]; simp only [List.length_cons, List.length_nil]; omega
end Go.Proofs.YtlobhcgbmpcdlaaGreatDoor.R
