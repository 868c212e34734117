import Derived.Test.YtadonikkibahnaaGreatNorK
import Derived.Test.YtadonikkibahnaaGreatRows
import Derived.ProofKit
/-
  Proved here: the law NormKinds: whatever the input, the call returns true, and each argument reads behind it as it read before. No condition.
-/
namespace Go.Proofs.YtadonikkibahnaaGreat
open Go.ChangeShapes Go.WideShapes Go.ChangeAt Go.RowKit Go.Bm
set_option linter.unusedVariables false

theorem Tryz.own : ownKnob Tryz.prog.godebug = none := by kernel_rfl
theorem Tryz.laidOut : laidOutB Tryz.prog = true := by kernel_rfl

set_option maxRecDepth 100000 in
theorem normKinds_lifted (os : Os) (started : os.Started) (H : Type) (enc : TypeId × Value → H) :
    ReturnsInHanded {} Tryz.checked os 6 .any (Rows.normKindsSpec.pre6 enc Tryz.prog Tryz.f6 Rows.normKindsRow.domain false) (Rows.normKindsSpec.post enc Tryz.prog Tryz.f6 false true false false) := by
  refine returnsInHanded_of_change (C := Tryz.checked) Tryz.own started (by kernel_rfl) Tryz.func6
    (ChangeSpec.witness6 (enc := enc) (C := Tryz.checked) false ⟨#[], #[.slice none 0 0], []⟩ 8 (by kernel_rfl) (by kernel_rfl) (by kernel_rfl) (by kernel_rfl)) ?_
  intro W base args ds gs before hval0 hW hcnd _
  have hW' := hW
  obtain ⟨p, q, hA0, hV, rfl, hfz, hnd⟩ := hW
  obtain ⟨rfl, rfl⟩ := trodVars_none hV
  have hval : ∀ (j : Nat) t v, Tryz.f6.params.toList[j]? = some t → args.toList[j]? = some v → Value.okWide Tryz.prog W .any base t v := fun j t v h1 h2 => hval0 j t v (by simpa using h1) (by simpa using h2)
  have hrun := law_run R.okAll (f := 6) (φ := 138) (by first | exact List.mem_singleton.2 rfl | decide | simp [R.T, Tabs.tbl]) R.lawNormKinds (by kernel_rfl) rfl hval hA0
  rw [show args.toList.toArray = args from by simp] at hrun
  refine hrun.mono fun e W' ⟨he, hw⟩ => ?_
  subst he
  have hfn : (Rows.normKindsSpec).fn H (ds ++ []) = { results := [.lit (.bool true)], args := ds } := by
    have hlen := trodAll_len hA0
    match ds, hlen with
    | [d0], _ => rfl
  exact ⟨_, rfl, post_true Tryz.laidOut (by kernel_rfl) rfl Tryz.underlying4 rfl hW' hfn hw (fun b h => h)⟩

theorem normKinds_holds : Rows.NormKindsSaid :=
  OpenClaim.holds_of_wide 6 Tryz.f6 rfl rfl rfl rfl rfl rfl rfl ⟨rfl, rfl, rfl, rfl, rfl⟩ rfl rfl rfl rfl rfl (by kernel_rfl) Tryz.func6 (by kernel_rfl)
    (of_decide_eq_true (by kernel_rfl)) (by unfold Func.isWrapper; first | (rw [if_pos (by decide +kernel)]; kernel_rfl) | (rw [if_neg (by decide +kernel)]; exact ⟨rfl, rfl⟩))
    (fun os started H enc _ => normKinds_lifted os started H enc)

end Go.Proofs.YtadonikkibahnaaGreat
