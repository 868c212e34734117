import Derived.Test.YtlobhcgbmpcdlaaGreatDoorShwR
namespace Go.Proofs.YtlobhcgbmpcdlaaGreatDoor.R
open Go Go.Bm Go.Proofs
set_option linter.unusedVariables false
set_option linter.unusedSimpArgs false
set_option maxRecDepth 4000
end Go.Proofs.YtlobhcgbmpcdlaaGreatDoor.R
