import Derived.Test.YtlobhcgbmpcdlaaGreatDoorShwW
namespace Go.Proofs.YtlobhcgbmpcdlaaGreatDoor.R
open Go Go.Bm Go.Proofs
set_option linter.unusedVariables false
set_option linter.unusedSimpArgs false
set_option maxRecDepth 4000
theorem J_a (a b : List Str) : (J (a ++ b)).length = (J a).length + (J b).length := by simp [J]
theorem J_c (s : Str) (b : List Str) : (J (s :: b)).length = s.length + 1 + (J b).length := by simp [J]; omega
theorem J_n : (J ([] : List Str)).length = 0 := rfl
theorem b3z (a : Int) (x : Int × List Str) : (J (n8 a x)).length ≤ (J x.2).length + 4 := by
 unfold n8; split
 · omega
 · rw [J_c, J_a, J_c, J_n]; simp only [List.length_cons, List.length_nil]; omega
theorem a4o {t : Tr} (h : Valid t) : Emb (flat t 0) ((flat t 0).length - 1) t := by
 have hE := a0B t [] [] h
 simp only [List.nil_append, List.append_nil, List.length_nil, Nat.zero_add] at hE
 rw [n6]; exact hE
end Go.Proofs.YtlobhcgbmpcdlaaGreatDoor.R
