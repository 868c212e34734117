/-
  Proved here: the law NumTurned of package num: whatever the input, the call returns true, and each argument reads behind it as it read before. No condition.
-/
import Derived.Test.YtjphmcfifncgnaaPlain
import Derived.ProofKit
namespace Go.Proofs.Ytjphmcfifncgnaa
open Go.ChangeShapes Go.WideShapes Go.ChangeAt Go.RowKit Go.Bm
set_option linter.unusedVariables false

theorem Try.own : ownKnob Try.prog.godebug = none := by kernel_rfl
theorem Try.laidOut : laidOutB Try.prog = true := by kernel_rfl

theorem run_6 (a b : Int) (W : World) : Calls Try.prog 6 #[.int .i64 a, .int .i64 b] W fun e W' => e = .returned (.bool true) ∧ Same W (· ∈ ([] : List Nat)) W' := by
  refine (Tbl.sound R.ok (f := 6) (d := (a, b)) (y := true) (R.l6 a b) (w := W) (Φ := fun b => b < W.heap.size) (vs := [.int .i64 a, .int .i64 b]) (bs := []) ?_ List.nodup_nil (fun b h => by cases h) (fun b h => h)).mono fun e W' ⟨Φ', rs, bs', h1, h2, h3, h4⟩ => ?_
  · exact ⟨_, _, [], [], rfl, rfl, ⟨rfl, rfl⟩, _, _, [], [], rfl, rfl, ⟨rfl, rfl⟩, rfl, rfl⟩
  · rw [h1, ret_true h2 h3]; exact ⟨rfl, h4.same⟩

set_option maxRecDepth 100000 in
theorem numTurned_lifted (os : Os) (started : os.Started) (H : Type) (enc : TypeId × Value → H) :
    ReturnsInHanded {} Try.checked os 6 .any (Rows.numTurnedSpec.pre6 enc Try.prog Try.f6 Rows.numTurnedRow.domain false) (Rows.numTurnedSpec.post enc Try.prog Try.f6 false true false false) := by
  refine returnsInHanded_of_change (C := Try.checked) Try.own started (by kernel_rfl) Try.func6
    (ChangeSpec.witness6 (enc := enc) (C := Try.checked) false ⟨#[], #[.int .i64 0, .int .i64 0], []⟩ 8 (by kernel_rfl) (by kernel_rfl) (by kernel_rfl) (by kernel_rfl)) ?_
  intro W base args ds gs before hval0 hW hcnd _
  have hval : ∀ (j : Nat) t v, Try.f6.params[j]? = some t → args[j]? = some v → Value.okWide Try.prog W .any base t v := hval0
  have hW' := hW
  obtain ⟨p, q, hA0, hV, rfl, hfz, hnd⟩ := hW
  have hA : DataW.TrodAll enc Try.prog W 0 (fun _ => true) true Try.f6.params.toList args.toList ds p := hA0
  rw [Try.params6] at hA hval
  obtain ⟨v0, v1, d0, d1, p0, p1, rfl, rfl, rfl, h0, h1⟩ := trodAll_two hA
  obtain ⟨rfl, rfl⟩ := trodVars_none hV
  obtain ⟨a, rfl, rfl, rfl, wa⟩ := open_int Try.underlying3 (hval 0 3 v0 rfl rfl) h0
  obtain ⟨b, rfl, rfl, rfl, wb⟩ := open_int Try.underlying3 (hval 1 3 v1 rfl rfl) h1
  refine (run_6 a b W).mono fun e W' ⟨he, hw⟩ => ?_
  subst he
  exact ⟨_, rfl, post_true Try.laidOut (by kernel_rfl) rfl Try.underlying4 rfl hW' rfl hw (fun b h => by cases h)⟩

theorem numTurned_holds : Rows.NumTurnedSaid :=
  OpenClaim.holds_of_wide 6 Try.f6 rfl rfl rfl rfl rfl rfl rfl ⟨rfl, rfl, rfl, rfl, rfl⟩ rfl rfl rfl rfl rfl (by kernel_rfl) Try.func6 (by kernel_rfl)
    (of_decide_eq_true (by kernel_rfl)) (by unfold Func.isWrapper; first | (rw [if_pos (by decide +kernel)]; kernel_rfl) | (rw [if_neg (by decide +kernel)]; exact ⟨rfl, rfl⟩))
    (fun os started H enc _ => numTurned_lifted os started H enc)

end Go.Proofs.Ytjphmcfifncgnaa
