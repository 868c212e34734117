/-
  OUR OWN: the law TreeMays comes to true.
-/
import Derived.Test.YtcmdngadpplodaaTreeF
import Derived.Test.YtcmdngadpplodaaResOk
namespace Go.Proofs.Ytcmdngadpplodaa.R
open Go Go.Bm Go.Proofs
set_option linter.unusedVariables false
set_option linter.unusedSimpArgs false
set_option maxRecDepth 4000

theorem Mays_loop0 : ∀ (suf pre : List Nd), pre.length + suf.length ≤ 1000000 → k29 T.rb (pre ++ suf) (pre.length : Nat) = some (.inr ())
  | [], pre, h => ob29 (by simp only [b29, lt_end, lt_self, List.append_nil, cond_false])
  | n :: suf, pre, h => ob29 (by
    simp only [List.length_cons] at h
    have ih := Mays_loop0 suf (pre ++ [n]) (by simp; omega)
    simp only [List.append_assoc, List.singleton_append] at ih
    have hk := kids_len n
    simp only [b29, lt_mid, inb_mid, nth_mid, cond_true, Option.bind_some, kids_eq, refKids_eq, Ints_self (show (kids n).length < 4611686018427387904 by omega), Bool.not_true, cond_false, next_mid pre n (by omega), ih])

theorem TreeMays_eq (e : List Nd) (i : Int) : c0 T.rf e i = some true := or0 (by
  have live_eq : c2 T.rf = some true := live_run
  simp only [r0, few_eq, live_eq, Option.bind_some]
  by_cases hl : e.length ≤ 300
  case neg => rw [df (by omega)]; rfl
  have h := Mays_loop0 e [] (by simp; omega)
  simp only [List.nil_append, List.length_nil] at h
  rw [show ((0 : Nat) : Int) = (0 : Int) from rfl] at h
  have h1 : e.length ≤ 1000000 := by omega
  have hs := subE_len (e := e) i
  have hv : (vars e).length < 4611686018427387904 := by
    have h1 := varsL_len (norm e) []
    have h2 := subE_len (e := e) ((e.length : Int) - 1)
    simp only [vars, norm, List.length_nil] at h1 ⊢; omega
  rw [dt (by omega), Bool.not_true, cond_false, h, Option.bind_some]
  simp only [refMay_eq h1, May_eq h1, Option.bind_some, beq_self_eq_true, Bool.not_true, cond_false, Depth_eq h1, refDepth_eq h1, nbt (show depth e = depth e from rfl), Sub_eq h1, refSub_eq h1, Same_eq (show (subE e i).length < 4611686018427387904 by omega) (show (subE e i).length < 4611686018427387904 by omega), decide_true, cond_true, Vars_eq h1, refVars_eq h1, Texts_eq hv]
  cases mayB e <;> rfl)

theorem lawTreeMays : LawOk T 0 := fun d _ => ⟨true, TreeMays_eq d.1 d.2, rfl, rfl, rfl⟩

end Go.Proofs.Ytcmdngadpplodaa.R
