import Derived.Test.YtelpjfihadaomaaGreatDoorNamE
namespace Go.Proofs.YtelpjfihadaomaaGreatDoor.R
open Go Go.Bm Go.Proofs
set_option linter.unusedVariables false
set_option linter.unusedSimpArgs false
set_option maxRecDepth 4000
end Go.Proofs.YtelpjfihadaomaaGreatDoor.R
