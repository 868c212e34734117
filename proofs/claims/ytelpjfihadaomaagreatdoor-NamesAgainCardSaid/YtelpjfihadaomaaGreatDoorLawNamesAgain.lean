import Derived.Test.YtelpjfihadaomaaGreatDoorNamK
import Derived.Test.YtelpjfihadaomaaGreatDoorCards
import Derived.Test.YtelpjfihadaomaaGreatDoorTie
import Derived.Test.YtelpjfihadaomaaGreatDoorExtX
import Derived.ProofKit
import Derived.LaidMore
import Derived.OpenShut
import Derived.Stop.Joined
import Derived.SevenTiedAt
/-
  Proved here: the law NamesAgain: whatever the input, the call returns true, and each argument reads behind it as it read before; the row, and its card.
-/
namespace Go.Proofs.YtelpjfihadaomaaGreatDoor
open Go.ChangeShapes Go.WideShapes Go.ChangeAt Go.WideMaps Go.WideElems Go.RowKit Go.Bm
set_option linter.unusedVariables false

theorem Tryz.own : ownKnob Tryz.prog.godebug = none := by kernel_rfl
theorem Tryz.laidOut : laidOutB Tryz.prog = true := by kernel_rfl
theorem Tryz.door_met (os : Os) (args : Array Value) : laidMetH Tryz.prog [("bailment/lex.words", Rows.laid_bailment_lex_words)] ((World.doorLaid Tryz.prog 400 os).forCall (fun _ _ => 0) ⟨#[], args, []⟩).memory := by
  rw [MakeChecks.laidMetH_plain _ _ _ (by kernel_rfl)]
  exact laidMet_of_run' 8 (by kernel_rfl) (by kernel_rfl)

set_option maxRecDepth 100000 in
theorem namesAgain_lifted (os : Os) (started : os.Started) (H : Type) (enc : TypeId × Value → H) :
    ReturnsInHanded {} Tryz.checked os 4 .any (fun w args => (Rows.namesAgainSpec.pre enc Tryz.prog Tryz.f4 [] false w args ∧ laidMetH Tryz.prog [("bailment/lex.words", Rows.laid_bailment_lex_words)] w) ∧ sizedMet enc Tryz.prog Tryz.f4 (OpenSpec.ofChange Rows.namesAgainSpec) false w args)
      (Rows.namesAgainSpec.post enc Tryz.prog Tryz.f4 false true false false) := by
  refine returnsInHanded_of_change_and (C := Tryz.checked) (X := fun w _ => laidMetH Tryz.prog [("bailment/lex.words", Rows.laid_bailment_lex_words)] w) (fun _ _ _ hh h => h.of_heap hh) Tryz.own started (by kernel_rfl) Tryz.func4
    (ChangeSpec.witness_shaped (enc := enc) (C := Tryz.checked) (os := os) (X := fun w _ => laidMetH Tryz.prog [("bailment/lex.words", Rows.laid_bailment_lex_words)] w) false (World.doorLaid Tryz.prog 400 os) #[.agg #[.slice none 0 0, .string ByteArray.empty, .string ByteArray.empty]] 8 rfl (World.shaped_of_RefB (by kernel_rfl) (by kernel_rfl)) (by kernel_rfl) (by kernel_rfl) (by kernel_rfl) (Tryz.door_met os _)) ?_
  intro W base args ds gs before hval0 hW _ _ hL _
  have hW' := hW
  obtain ⟨p, q, hA0, hV, rfl, hfz, hnd⟩ := hW
  obtain ⟨rfl, rfl⟩ := trodVars_none hV
  have hval : ∀ (j : Nat) t v, Tryz.f4.params.toList[j]? = some t → args.toList[j]? = some v → Value.okWide Tryz.prog W .any base t v := fun j t v h1 h2 => hval0 j t v (by simpa using h1) (by simpa using h2)
  have hrun := law_run R.ok' (f := 4) (φ := 184) (by first | exact List.mem_singleton.2 rfl | decide | simp [R.T, Tabs.tbl]) R.lawNamesAgain (by kernel_rfl) rfl hval hA0 (of_laid hL)
  rw [show args.toList.toArray = args from by simp] at hrun
  refine hrun.mono fun e W' ⟨he, hw⟩ => ?_
  subst he
  have hfn : (Rows.namesAgainSpec).fn H (ds ++ []) = { results := [.lit (.bool true)], args := ds } := by
    have hlen := trodAll_len hA0
    match ds, hlen with
    | [d0], _ => rfl
  exact ⟨_, rfl, post_true Tryz.laidOut (by kernel_rfl) rfl Tryz.underlying4 rfl hW' hfn hw (fun b h => h)⟩

theorem namesAgain_row : Rows.NamesAgainSaid :=
  OpenClaim.holds_of_wide 4 Tryz.f4 rfl rfl rfl rfl rfl rfl rfl ⟨rfl, rfl, rfl, rfl, rfl⟩ rfl rfl rfl rfl rfl (by kernel_rfl) Tryz.func4 (by kernel_rfl)
    (of_decide_eq_true (by kernel_rfl)) (by unfold Func.isWrapper; first | (rw [if_pos (by decide +kernel)]; kernel_rfl) | (rw [if_neg (by decide +kernel)]; exact ⟨rfl, rfl⟩))
    (fun os started H enc _ => namesAgain_lifted os started H enc)

theorem namesAgainCard_holds : Rows.NamesAgainCardSaid :=
  Claim7.holds_tied_plain_at .later [] [.widerDeep] true (true, "1f55e0b84cba2a92222d9bd8c46bbaa1dd27e5a01eb3fd1aaa749a19f3bb45a6") true
    namesAgain_row (fun _ h => by cases h) (by kernel_rfl) (fun _ h => by cases h) namesAgain_row_tie rfl ⟨rfl, rfl⟩ (by kernel_rfl) rfl
    (fun f fn hf hfn => by
      obtain rfl : f = 4 := Option.some.inj ((show Tryz.prog.funcNamed Rows.namesAgainRow.func = some 4 by kernel_rfl).symm.trans hf) |>.symm
      obtain rfl : fn = Tryz.f4 := (Option.some.inj (Tryz.func4.symm.trans hfn)).symm
      exact ⟨by kernel_rfl, fun j t ht => by
        have hm : t ∈ Tryz.f4.params.toList := by rw [← Array.getElem?_toList] at ht; exact List.mem_of_getElem? ht
        have hall : (Tryz.f4.params.toList.all fun u => !Tryz.prog.wantsStandIn u) = true := by kernel_rfl
        exact (show Tryz.prog.wantsStandIn t = false by simpa using List.all_eq_true.1 hall t hm)⟩)
    (by kernel_rfl)

end Go.Proofs.YtelpjfihadaomaaGreatDoor
