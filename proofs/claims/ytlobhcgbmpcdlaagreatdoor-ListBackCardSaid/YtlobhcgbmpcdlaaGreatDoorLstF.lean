import Derived.Test.YtlobhcgbmpcdlaaGreatDoorLstE
namespace Go.Proofs.YtlobhcgbmpcdlaaGreatDoor.R
open Go Go.Bm Go.Proofs
set_option linter.unusedVariables false
set_option linter.unusedSimpArgs false
set_option maxRecDepth 4000
theorem Same_refl {n m : Nat} (hn : n ≤ 1000000) (hm : m ≤ 1000000) {a : Prg} (ha : SzP n m a) : c150 T.rf a a = some true := by
 obtain ⟨z, h1, h2⟩ := SameG hn hm ha ha
 rw [h1, h2.2 rfl]
end Go.Proofs.YtlobhcgbmpcdlaaGreatDoor.R
