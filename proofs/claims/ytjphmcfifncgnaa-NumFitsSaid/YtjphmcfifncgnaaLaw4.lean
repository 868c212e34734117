/-
  Proved here: the law NumFits of package num: whatever the input, the call returns true, and each argument reads behind it as it read before. No condition.
-/
import Derived.Test.YtjphmcfifncgnaaPlain
import Derived.ProofKit
import Derived.Lib.SmallJoins
namespace Go.Proofs.Ytjphmcfifncgnaa
open Go.ChangeShapes Go.WideShapes Go.ChangeAt Go.RowKit Go.Bm
set_option linter.unusedVariables false

theorem Try.own : ownKnob Try.prog.godebug = none := by kernel_rfl
theorem Try.laidOut : laidOutB Try.prog = true := by kernel_rfl

theorem run_4 (op a b c : Int) (W : World) : Calls Try.prog 4 #[.agg #[.int .i64 op, .int .i64 a, .int .i64 b, .int .i64 c]] W fun e W' => e = .returned (.bool true) ∧ Same W (· ∈ ([] : List Nat)) W' := by
  refine (Tbl.sound R.ok (f := 4) (d := (op, a, b, c)) (y := true) (R.l4 op a b c) (w := W) (Φ := fun b => b < W.heap.size) (vs := [.agg #[.int .i64 op, .int .i64 a, .int .i64 b, .int .i64 c]]) (bs := []) ?_ List.nodup_nil (fun b h => by cases h) (fun b h => h)).mono fun e W' ⟨Φ', rs, bs', h1, h2, h3, h4⟩ => ?_
  · exact ⟨_, _, [], [], rfl, rfl, ⟨rfl, _, rfl, _, _, rfl, rfl, _, _, rfl, rfl, _, _, rfl, rfl, rfl⟩, rfl, rfl⟩
  · rw [h1, ret_true h2 h3]; exact ⟨rfl, h4.same⟩

set_option maxRecDepth 100000 in
theorem numFits_lifted (os : Os) (started : os.Started) (H : Type) (enc : TypeId × Value → H) :
    ReturnsInHanded {} Try.checked os 4 .any (Rows.numFitsSpec.pre6 enc Try.prog Try.f4 Rows.numFitsRow.domain false) (Rows.numFitsSpec.post enc Try.prog Try.f4 false true false false) := by
  refine returnsInHanded_of_change (C := Try.checked) Try.own started (by kernel_rfl) Try.func4
    (ChangeSpec.witness6 (enc := enc) (C := Try.checked) false ⟨#[], #[.agg #[.int .i64 0, .int .i64 0, .int .i64 0, .int .i64 0]], []⟩ 8 (by kernel_rfl) (by kernel_rfl) (by kernel_rfl) (by kernel_rfl)) ?_
  intro W base args ds gs before hval0 hW hcnd _
  have hval : ∀ (j : Nat) t v, Try.f4.params[j]? = some t → args[j]? = some v → Value.okWide Try.prog W .any base t v := hval0
  have hW' := hW
  obtain ⟨p, q, hA0, hV, rfl, hfz, hnd⟩ := hW
  have hA : DataW.TrodAll enc Try.prog W 0 (fun _ => true) true Try.f4.params.toList args.toList ds p := hA0
  rw [Try.params4] at hA hval
  obtain ⟨v0, d0, rfl, rfl, h0⟩ := trodAll_one hA
  obtain ⟨rfl, rfl⟩ := trodVars_none hV
  obtain ⟨u0, u1, u2, u3, y0, y1, y2, y3, n, rfl, rfl, rfl, t0, t1, t2, t3⟩ := Joins.open_agg4 Try.underlying23 (by kernel_rfl) (by kernel_rfl) (hval 0 23 v0 rfl rfl) h0
  obtain ⟨op, e0, _, _⟩ := DataW.trod_int Try.underlying3 t0
  cases e0
  obtain ⟨a, e1, _, _⟩ := DataW.trod_int Try.underlying3 t1
  cases e1
  obtain ⟨b, e2, _, _⟩ := DataW.trod_int Try.underlying3 t2
  cases e2
  obtain ⟨c, e3, _, _⟩ := DataW.trod_int Try.underlying3 t3
  cases e3
  refine (run_4 op a b c W).mono fun e W' ⟨he, hw⟩ => ?_
  subst he
  exact ⟨_, rfl, post_true Try.laidOut (by kernel_rfl) rfl Try.underlying4 rfl hW' rfl hw (fun b h => by cases h)⟩

theorem numFits_holds : Rows.NumFitsSaid :=
  OpenClaim.holds_of_wide 4 Try.f4 rfl rfl rfl rfl rfl rfl rfl ⟨rfl, rfl, rfl, rfl, rfl⟩ rfl rfl rfl rfl rfl (by kernel_rfl) Try.func4 (by kernel_rfl)
    (of_decide_eq_true (by kernel_rfl)) (by unfold Func.isWrapper; first | (rw [if_pos (by decide +kernel)]; kernel_rfl) | (rw [if_neg (by decide +kernel)]; exact ⟨rfl, rfl⟩))
    (fun os started H enc _ => numFits_lifted os started H enc)

end Go.Proofs.Ytjphmcfifncgnaa
