/-
  Proved here: the law NumParts of package num: whatever the input, the call returns true, and each argument reads behind it as it read before. No condition.
-/
import Derived.Test.YtjphmcfifncgnaaPlain
import Derived.ProofKit
namespace Go.Proofs.Ytjphmcfifncgnaa
open Go.ChangeShapes Go.WideShapes Go.ChangeAt Go.RowKit Go.Bm
set_option linter.unusedVariables false

theorem Try.own : ownKnob Try.prog.godebug = none := by kernel_rfl
theorem Try.laidOut : laidOutB Try.prog = true := by kernel_rfl

theorem run_5 (a b : Int) (W : World) : Calls Try.prog 5 #[.int .i64 a, .int .i64 b] W fun e W' => e = .returned (.bool true) ∧ Same W (· ∈ ([] : List Nat)) W' := by
  refine (Tbl.sound R.ok (f := 5) (d := (a, b)) (y := true) (R.l5 a b) (w := W) (Φ := fun b => b < W.heap.size) (vs := [.int .i64 a, .int .i64 b]) (bs := []) ?_ List.nodup_nil (fun b h => by cases h) (fun b h => h)).mono fun e W' ⟨Φ', rs, bs', h1, h2, h3, h4⟩ => ?_
  · exact ⟨_, _, [], [], rfl, rfl, ⟨rfl, rfl⟩, _, _, [], [], rfl, rfl, ⟨rfl, rfl⟩, rfl, rfl⟩
  · rw [h1, ret_true h2 h3]; exact ⟨rfl, h4.same⟩

set_option maxRecDepth 100000 in
theorem numParts_lifted (os : Os) (started : os.Started) (H : Type) (enc : TypeId × Value → H) :
    ReturnsInHanded {} Try.checked os 5 .any (Rows.numPartsSpec.pre6 enc Try.prog Try.f5 Rows.numPartsRow.domain false) (Rows.numPartsSpec.post enc Try.prog Try.f5 false true false false) := by
  refine returnsInHanded_of_change (C := Try.checked) Try.own started (by kernel_rfl) Try.func5
    (ChangeSpec.witness6 (enc := enc) (C := Try.checked) false ⟨#[], #[.int .i64 0, .int .i64 0], []⟩ 8 (by kernel_rfl) (by kernel_rfl) (by kernel_rfl) (by kernel_rfl)) ?_
  intro W base args ds gs before hval0 hW hcnd _
  have hval : ∀ (j : Nat) t v, Try.f5.params[j]? = some t → args[j]? = some v → Value.okWide Try.prog W .any base t v := hval0
  have hW' := hW
  obtain ⟨p, q, hA0, hV, rfl, hfz, hnd⟩ := hW
  have hA : DataW.TrodAll enc Try.prog W 0 (fun _ => true) true Try.f5.params.toList args.toList ds p := hA0
  rw [Try.params5] at hA hval
  obtain ⟨v0, v1, d0, d1, p0, p1, rfl, rfl, rfl, h0, h1⟩ := trodAll_two hA
  obtain ⟨rfl, rfl⟩ := trodVars_none hV
  obtain ⟨a, rfl, rfl, rfl, wa⟩ := open_int Try.underlying3 (hval 0 3 v0 rfl rfl) h0
  obtain ⟨b, rfl, rfl, rfl, wb⟩ := open_int Try.underlying3 (hval 1 3 v1 rfl rfl) h1
  refine (run_5 a b W).mono fun e W' ⟨he, hw⟩ => ?_
  subst he
  exact ⟨_, rfl, post_true Try.laidOut (by kernel_rfl) rfl Try.underlying4 rfl hW' rfl hw (fun b h => by cases h)⟩

theorem numParts_holds : Rows.NumPartsSaid :=
  OpenClaim.holds_of_wide 5 Try.f5 rfl rfl rfl rfl rfl rfl rfl ⟨rfl, rfl, rfl, rfl, rfl⟩ rfl rfl rfl rfl rfl (by kernel_rfl) Try.func5 (by kernel_rfl)
    (of_decide_eq_true (by kernel_rfl)) (by unfold Func.isWrapper; first | (rw [if_pos (by decide +kernel)]; kernel_rfl) | (rw [if_neg (by decide +kernel)]; exact ⟨rfl, rfl⟩))
    (fun os started H enc _ => numParts_lifted os started H enc)

end Go.Proofs.Ytjphmcfifncgnaa
