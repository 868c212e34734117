/-
  OUR OWN: the law TypesOf comes to true.
-/
import Derived.Test.YtomofgclaiaikaaGreatTypB
import Derived.Test.YtomofgclaiaikaaGreatProgT
import Derived.Test.YtomofgclaiaikaaGreatResOk
namespace Go.Proofs.YtomofgclaiaikaaGreat.R
open Go Go.Bm Go.Proofs
set_option linter.unusedVariables false
set_option linter.unusedSimpArgs false
set_option maxRecDepth 4000

theorem TypesOf_eq (e : List Nd) (S : List Pm) (U : List Un) : c0 T.rf e S U = some true := or0 (by
  have live_eq : c1 T.rf = some true := live_run
  simp only [r0, live_eq, Option.bind_some]
  by_cases h1 : e.length ≤ 300
  case neg => rw [dt (by omega), cond_true]
  by_cases h2 : S.length ≤ 60
  case neg => rw [df (by omega), cond_false, dt (by omega), cond_true]
  rw [df (by omega), cond_false, df (by omega), cond_false, Small_eq, Option.bind_some]
  cases hs : smallB (U, [], [])
  · rfl
  have hP := small_P hs
  have hE : EnvOk S U := ⟨by omega, by have := hP.units; simp only at this; omega, fun u hu => by have := (hP.unit u hu).ins; omega⟩
  rw [Bool.not_true, cond_false, OfTy_eq hE (by omega), Option.bind_some, refOfTy_eq hE (by omega), Option.bind_some]
  simp only [beq_self_eq_true, cond_true])

theorem lawTypesOf : LawOk T 0 := fun d _ => ⟨true, TypesOf_eq d.1 d.2.1 d.2.2, rfl, rfl, rfl⟩

end Go.Proofs.YtomofgclaiaikaaGreat.R
