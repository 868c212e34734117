import Derived.Test.YtadonikkibahnaaGreatCauA
namespace Go.Proofs.YtadonikkibahnaaGreat.R
open Go Go.Bm Go.Proofs
set_option linter.unusedVariables false
set_option linter.unusedSimpArgs false
set_option maxRecDepth 4000
theorem setNth_len {α:Type} (l:List α) (i:Nat) (y:α):(setNth l i y).length = l.length:=by rw [setNth_set,List.length_set]
theorem set_mid {α:Type} (a:List α) (x:α) (r:List α) (y:α) {i:Nat} (h:i = a.length):setNth (a ++ x :: r) i y = a ++ y :: r:=by
 subst h; rw [setNth_set]; simp
end Go.Proofs.YtadonikkibahnaaGreat.R
