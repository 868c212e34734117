import Derived.Test.YtlobhcgbmpcdlaaGreatDoorShwW
namespace Go.Proofs.YtlobhcgbmpcdlaaGreatDoor.R
open Go Go.Bm Go.Proofs
set_option linter.unusedVariables false
set_option linter.unusedSimpArgs false
set_option maxRecDepth 4000
theorem J_a (a b : List Str) : (J (a ++ b)).length = (J a).length + (J b).length := by simp [J]
theorem J_c (s : Str) (b : List Str) : (J (s :: b)).length = s.length + 1 + (J b).length := by simp [J]; omega
theorem J_n : (J ([] : List Str)).length = 0 := rfl
theorem J_part (a : Int) (x : Int × List Str) : (J (partX a x)).length ≤ (J x.2).length + 4 := by
 unfold partX; split
 · omega
 · rw [J_c, J_a, J_c, J_n]; simp only [List.length_cons, List.length_nil]; omega
theorem fine_emb {t : Tr} (h : Valid t) : Emb (flat t 0) ((flat t 0).length - 1) t := by
 have hE := emb_flat t [] [] h
 simp only [List.nil_append, List.append_nil, List.length_nil, Nat.zero_add] at hE
 rw [flat_len]; exact hE
end Go.Proofs.YtlobhcgbmpcdlaaGreatDoor.R
