import Derived.Test.YtelpjfihadaomaaGreatDoorNamG
namespace Go.Proofs.YtelpjfihadaomaaGreatDoor.R
open Go Go.Bm Go.Proofs
set_option linter.unusedVariables false
set_option linter.unusedSimpArgs false
set_option maxRecDepth 4000
structure GhOk (u u':Unt):Prop where
 q:u'.2.2.2.2.2.2.1 = u.2.2.2.2.2.2.1.map K9
 l:u.2.2.2.2.2.2.1.length ≤ 1000
 e:∀ q ∈ u.2.2.2.2.2.2.1,q.2.length ≤ 1000000 ∧ (norm q.2).length = q.2.length ∧ ∀ n ∈ norm q.2,n.1 = 3 → n.2.2.2.2.2 ∉ gn u'.2.2.2.2.2.2.2
 x:u'.2.2.2.2.2.2.2.length ≤ 1000
end Go.Proofs.YtelpjfihadaomaaGreatDoor.R
