import Derived.Test.YtadonikkibahnaaGreatCauN
import Derived.Test.YtadonikkibahnaaGreatCauL
namespace Go.Proofs.YtadonikkibahnaaGreat.R
open Go Go.Bm Go.Proofs
set_option linter.unusedVariables false
set_option linter.unusedSimpArgs false
set_option maxRecDepth 4000
end Go.Proofs.YtadonikkibahnaaGreat.R
