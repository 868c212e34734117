/-
  OUR OWN: the law TreePutOff comes to true.
-/
import Derived.Test.YtcmdngadpplodaaTreeN
import Derived.Test.YtcmdngadpplodaaResOk
namespace Go.Proofs.Ytcmdngadpplodaa.R
open Go Go.Bm Go.Proofs
set_option linter.unusedVariables false
set_option linter.unusedSimpArgs false
set_option maxRecDepth 4000

theorem vars_len2 (e : List Nd) : (vars e).length ≤ 1000000 := by
  have h1 := varsL_len (norm e) []
  have h2 := norm_len (e := e)
  simp only [vars, List.length_nil] at h1 ⊢; omega

theorem place1 (x s : List UInt8) : (0 ≤ placeI x [s] 0 ↔ x = s) ∧ (0 ≤ placeI x [s] 0 → placeI x [s] 0 = 0) := by
  simp only [placeI]
  by_cases e : s = x
  · rw [if_pos e]; exact ⟨⟨fun _ => e.symm, fun _ => by simp⟩, fun _ => rfl⟩
  · rw [if_neg e]; exact ⟨⟨fun h => absurd h (by decide), fun h => absurd h.symm e⟩, fun h => absurd h (by decide)⟩

theorem TreePutOff_eq (e by_ : List Nd) (s : List UInt8) : c50 T.rf e by_ s = some true := or50 (by
  have live_eq : c2 T.rf = some true := live_run
  simp only [r50, few_eq, live_eq, Option.bind_some]
  by_cases le : e.length ≤ 100
  case neg => rw [df (by omega)]; rfl
  rw [dt (by omega), Bool.not_true, cond_false]
  by_cases lb : by_.length ≤ 100
  case neg => rw [df (by omega)]; rfl
  have h1 : e.length ≤ 1000000 := by omega
  have h2 : by_.length ≤ 1000000 := by omega
  rw [dt (by omega), Bool.not_true, cond_false]
  simp only [May_eq h1, May_eq h2, Option.bind_some]
  cases hm : mayB e
  · rfl
  cases hb : mayB by_
  · rfl
  rw [Bool.not_true, cond_false, cond_false]
  have hby : ∀ x ∈ [by_], x.length ≤ 1000000 := fun x hx => by simp at hx; subst hx; exact h2
  have hp : put e [s] [by_] = putL [s] [by_] (norm e) [] [] := by
    unfold put; rw [if_pos ⟨hm, rfl, by simp [hb]⟩]
  have hn := norm_len (e := e)
  have hs : ∀ x : List Nd, subE x ((x.length : Int) - 1) = norm x := fun _ => rfl
  have hlen : (putL [s] [by_] (norm e) [] []).length ≤ 1000000 := by
    have h3 := putL_len [s] [by_] (norm e) [] []
    have h4 := (norm_may hm).2.1
    simp only [List.length_nil] at h3; omega
  simp only [Put_eq (names := [s]) (by_ := [by_]) h1 (by simp) (by simp) hby, hp, Option.bind_some, Vars_eq h1, count_eq s (vars_len2 e)]
  by_cases hc : (vars e).count s = 0
  · have hsv : s ∉ vars e := List.count_eq_zero.1 hc
    have hput : putL [s] [by_] (norm e) [] [] = norm e := putL_norm hm fun n hn h3 hpl p => by
      exfalso
      have hx := (place1 n.2.2.2.2.2 s).1.1 hpl
      refine hsv ?_
      rw [vars, varsL_mem]
      exact .inr ⟨n, hn, h3, hx⟩
    rw [bt (by rw [hc]; rfl), cond_true, hput]
    simp only [pred_i h1, Sub_eq h1, hs, Option.bind_some, Same_eq (show (norm e).length < 4611686018427387904 by omega) (show (norm e).length < 4611686018427387904 by omega), decide_true, cond_true]
  · rw [bf (by omega), cond_false, May_eq hlen, Option.bind_some]
    cases hmo : mayB (putL [s] [by_] (norm e) [] [])
    · rfl
    rw [Bool.not_true, cond_false, Vars_eq h2, Option.bind_some, count_eq s (vars_len2 by_), Option.bind_some]
    by_cases hcb : (vars by_).count s = 0
    case neg => rw [dt (by omega), cond_true]
    have hsb : s ∉ vars by_ := List.count_eq_zero.1 hcb
    rw [df (by omega), cond_false, Vars_eq hlen, Option.bind_some, count_eq s (vars_len2 _), Option.bind_some]
    have hout : s ∉ vars (putL [s] [by_] (norm e) [] []) := fun hh => by
      obtain ⟨n, h3, h4, h5⟩ := vars_in hmo hh
      refine putL_vars [s] [by_] (fun x => x ≠ s) (norm e) [] [] (fun n hn => by cases hn) (fun n hn h3 => ⟨fun hpl m hm h4 hms => ?_, fun hpl hns => hpl ((place1 _ _).1.2 hns)⟩) n h3 h4 h5
      rw [(place1 _ _).2 hpl] at hm
      refine hsb ?_
      rw [vars, varsL_mem]
      exact .inr ⟨m, hm, h4, hms⟩
    rw [bt (by rw [List.count_eq_zero.2 hout]; rfl), cond_true])

theorem lawTreePutOff : LawOk T 50 := fun d _ => ⟨true, TreePutOff_eq d.1 d.2.1 d.2.2, rfl, rfl, rfl⟩

end Go.Proofs.Ytcmdngadpplodaa.R
