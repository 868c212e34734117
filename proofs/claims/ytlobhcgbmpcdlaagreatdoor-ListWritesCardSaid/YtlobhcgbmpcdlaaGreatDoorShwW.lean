import Derived.Test.YtlobhcgbmpcdlaaGreatDoorShwV
namespace Go.Proofs.YtlobhcgbmpcdlaaGreatDoor.R
open Go Go.Bm Go.Proofs
set_option linter.unusedVariables false
set_option linter.unusedSimpArgs false
set_option maxRecDepth 4000
structure Fine (t : Tr) : Prop where
 v : Valid t
 o : t.op ≠ 28
 n : n9 t = true
section
variable {L : List s4} (hL : L.length ≤ 100000)
include hL
end
end Go.Proofs.YtlobhcgbmpcdlaaGreatDoor.R
