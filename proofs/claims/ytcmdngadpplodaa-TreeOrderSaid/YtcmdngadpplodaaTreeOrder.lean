/-
  OUR OWN: the law TreeOrder comes to true.
-/
import Derived.Test.YtcmdngadpplodaaTreeI
import Derived.Test.YtcmdngadpplodaaResOk
namespace Go.Proofs.Ytcmdngadpplodaa.R
open Go Go.Bm Go.Proofs
set_option linter.unusedVariables false
set_option linter.unusedSimpArgs false
set_option maxRecDepth 4000

theorem TreeOrder_eq (e : List Nd) : c45 T.rf e = some true := or45 (by
  have live_eq : c2 T.rf = some true := live_run
  simp only [r45, few_eq, live_eq, Option.bind_some]
  by_cases hl : e.length ≤ 300
  case neg => rw [df (by omega)]; rfl
  have h1 : e.length ≤ 1000000 := by omega
  have h2 : (norm e).length ≤ 1000000 := by have := norm_len (e := e); omega
  rw [dt (by omega), Bool.not_true, cond_false]
  simp only [May_eq h1, Option.bind_some]
  cases hm : mayB e
  · rfl
  obtain ⟨k1, k2, k3, k4⟩ := norm_may hm
  have hs : ∀ x : List Nd, subE x ((x.length : Int) - 1) = norm x := fun _ => rfl
  simp only [Bool.not_true, cond_false, pred_i h1, Sub_eq h1, hs, Option.bind_some, pred_i h2, Sub_eq h2, May_eq h2, k1, cond_true, bt (show (((norm e).length : Nat) : Int) = (e.length : Nat) by rw [k2]), Depth_eq h2, Depth_eq h1, k3, bt (show depth e = depth e from rfl), k4,
    Same_eq (show (norm e).length < 4611686018427387904 by omega) (show (norm e).length < 4611686018427387904 by omega), decide_true])

theorem lawTreeOrder : LawOk T 45 := fun d _ => ⟨true, TreeOrder_eq d, rfl, rfl, rfl⟩

end Go.Proofs.Ytcmdngadpplodaa.R
