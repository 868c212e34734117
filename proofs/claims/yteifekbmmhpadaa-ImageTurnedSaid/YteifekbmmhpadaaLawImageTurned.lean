/-
  Proved here: the law ImageTurned: whatever the input, the call returns true, and each argument reads behind it as it read before. No condition.
-/
import Derived.Test.YteifekbmmhpadaaImgD
import Derived.Test.YteifekbmmhpadaaRows
import Derived.ProofKit
namespace Go.Proofs.Yteifekbmmhpadaa
open Go.ChangeShapes Go.WideShapes Go.ChangeAt Go.RowKit Go.Bm
set_option linter.unusedVariables false

theorem Try.own : ownKnob Try.prog.godebug = none := by kernel_rfl
theorem Try.laidOut : laidOutB Try.prog = true := by kernel_rfl

set_option maxRecDepth 100000 in
theorem imageTurned_lifted (os : Os) (started : os.Started) (H : Type) (enc : TypeId × Value → H) :
    ReturnsInHanded {} Try.checked os 5 .any (Rows.imageTurnedSpec.pre6 enc Try.prog Try.f5 Rows.imageTurnedRow.domain false) (Rows.imageTurnedSpec.post enc Try.prog Try.f5 false true false false) := by
  refine returnsInHanded_of_change (C := Try.checked) Try.own started (by kernel_rfl) Try.func5
    (ChangeSpec.witness6 (enc := enc) (C := Try.checked) false ⟨#[], #[.agg #[.slice none 0 0, .int .i64 0, .int .i64 0, .slice none 0 0, .slice none 0 0], .int .i64 0, .int .u8 0], []⟩ 8 (by kernel_rfl) (by kernel_rfl) (by kernel_rfl) (by kernel_rfl)) ?_
  intro W base args ds gs before hval0 hW hcnd _
  have hW' := hW
  obtain ⟨p, q, hA0, hV, rfl, hfz, hnd⟩ := hW
  obtain ⟨rfl, rfl⟩ := trodVars_none hV
  have hval : ∀ (j : Nat) t v, Try.f5.params.toList[j]? = some t → args.toList[j]? = some v → Value.okWide Try.prog W .any base t v := fun j t v h1 h2 => hval0 j t v (by simpa using h1) (by simpa using h2)
  have hrun := law_run R.ok (f := 5) (φ := 39) (by first | exact List.mem_singleton.2 rfl | decide | simp [R.T, Tabs.tbl]) R.lawImageTurned (by kernel_rfl) rfl hval hA0
  rw [show args.toList.toArray = args from by simp] at hrun
  refine hrun.mono fun e W' ⟨he, hw⟩ => ?_
  subst he
  have hfn : (Rows.imageTurnedSpec).fn H (ds ++ []) = { results := [.lit (.bool true)], args := ds } := by
    have hlen := trodAll_len hA0
    match ds, hlen with
    | [d0, d1, d2], _ => rfl
  exact ⟨_, rfl, post_true Try.laidOut (by kernel_rfl) rfl Try.underlying4 rfl hW' hfn hw (fun b h => h)⟩

theorem imageTurned_holds : Rows.ImageTurnedSaid :=
  OpenClaim.holds_of_wide 5 Try.f5 rfl rfl rfl rfl rfl rfl rfl ⟨rfl, rfl, rfl, rfl, rfl⟩ rfl rfl rfl rfl rfl (by kernel_rfl) Try.func5 (by kernel_rfl)
    (of_decide_eq_true (by kernel_rfl)) (by unfold Func.isWrapper; first | (rw [if_pos (by decide +kernel)]; kernel_rfl) | (rw [if_neg (by decide +kernel)]; exact ⟨rfl, rfl⟩))
    (fun os started H enc _ => imageTurned_lifted os started H enc)

end Go.Proofs.Yteifekbmmhpadaa
