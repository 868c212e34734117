/-
  OUR OWN: what is written is read: laws ShowBack and ShowApart.
-/
import Derived.Test.YtoippcahbninnaaGreatDoorShwR
namespace Go.Proofs.YtoippcahbninnaaGreatDoor.R
open Go Go.Bm Go.Proofs
set_option linter.unusedVariables false
set_option linter.unusedSimpArgs false
set_option maxRecDepth 4000

/-- **What is written is read.** -/
theorem Read_txt {e : List Nd} {t : Tr} {i : Nat} (ht : Emb e i t) (hv : Valid t) (hn : namesT t = true) (hop : t.op ≠ 28) (hs : t.size ≤ 5000) (hd : dep t ≤ 40) (hl : (txt (toks t)).length ≤ 100000) :
    c2 T.rf (txt (toks t)) = some (flat t 0, 0, 0) := by
  obtain ⟨L, h1, h2, h3⟩ := Lex_txt (toks_tok t.size t i (Nat.le_refl _) ht hv hn) hl
  have hlen := toks_len t.size t i (Nat.le_refl _) ht hv
  have hL : L.length ≤ 1000000 := by omega
  have hnx : nxt L (0 + (toks t).length) < ((1 : Nat) : Int) := by
    have : nth L (0 + (toks t).length) = none := by rw [nth_getElem?]; exact List.getElem?_eq_none (by omega)
    unfold nxt
    rw [this]
    show (0 : Int) < 1
    decide
  have hp := (((par t.size t i (Nat.le_refl _) (by omega) ht hv hn).1 hop) L 0 0 hL h2 (by omega) (by omega)).1 1 (by omega) (by omega) (.inl rfl) hnx
  simp only [rd] at hp
  rw [show ((0 : Nat) : Int) = (0 : Int) from rfl] at hp
  have hfl : (flat t 0).length ≤ 1000000 := by rw [flat_len]; omega
  have hE := emb_flat t [] [] hv
  simp only [List.nil_append, List.append_nil, List.length_nil, Nat.zero_add] at hE
  have hdep : depth (flat t 0) = dep t := depth_emb (by rw [flat_len]; exact hE)
  have hfs : ((flat t 0).length : Int) ≤ 5000 := by rw [flat_len]; omega
  have hpt : k37 T.rb (0, 0) L 0 = some (.inr ((0, 0), flat t 0, (((toks t).length : Nat) : Int))) := ob37 (by
    simp only [b37, hp, Option.bind_some, z0, cond_false, df (show ¬ (((flat t 0).length : Nat) : Int) > 5000 by omega), refDepth_eq hfl, hdep, df (show ¬ dep t > 40 by omega), Nat.zero_add])
  have hP : c14 T.rf L 0 = some (flat t 0, (((toks t).length : Nat) : Int), 0, 0) := or14 (by
    simp only [r14, show decide ((0 : Int) < 0) = false from rfl, cond_false, df (show ¬ (0 : Int) > ((L.length : Nat) : Int) by omega), hpt, Option.bind_some])
  exact or2 (by
    simp only [r2, h1, Option.bind_some, z0, cond_false, hP, df (show ¬ (((toks t).length : Nat) : Int) < ((L.length : Nat) : Int) by omega)])

theorem Same_flat {t u : Tr} (h1 : t.size ≤ 5000) (h2 : u.size ≤ 5000) : c92 T.rf (flat t 0) (flat u 0) = some (decide (flat t 0 = flat u 0)) := Same_eq (by rw [flat_len]; omega) (by rw [flat_len]; omega)

theorem txt_300 {e : List Nd} {t : Tr} {i : Nat} (ht : Emb e i t) (hv : Valid t) (hn : namesT t = true) (hs : t.size ≤ 300) : (txt (toks t)).length ≤ 100000 := by
  have h1 := (toks_len t.size t i (Nat.le_refl _) ht hv).2
  have h2 := txt_len (toks_small t hn)
  omega

theorem ShowBack_eq (e : List Nd) : c88 T.rf e = some true := or88 (by
  have live_eq : c1 T.rf = some true := live_run
  simp only [r88, live_eq, Option.bind_some]
  by_cases hl : e.length ≤ 300
  case neg => rw [dt (by omega)]; rfl
  have h1 : e.length ≤ 1000000 := by omega
  rw [df (by omega), cond_false, mayS_eq h1]
  simp only [Option.bind_some]
  cases hm : mayB e with
  | false =>
    rw [Show_not hm h1, Option.bind_some, mayS, hm]
    rfl
  | true =>
    obtain ⟨t, k1, k2, k3, k4, k5, k6, k7, k8⟩ := norm_tree hm
    rw [Show_tree hm k1 k2 k4 k3 h1, Option.bind_some, mayS, hm, names_tree hm k1]
    cases hn : namesT t with
    | false => rfl
    | true =>
      obtain ⟨t', q1, q2, q3, q4, q5, q6, q7⟩ := may_tree hm
      have htt : t' = t := emb_one _ _ _ q1 k1
      subst htt
      have hR := Read_txt k1 k2 hn k3 k4 q6 (txt_300 k1 k2 hn (by omega))
      simp only [if_true, Bool.true_and, Bool.not_true, cond_false, hR, Option.bind_some, Norm_eq h1, k6, Same_flat k4 k4, decide_true, cond_true]
      rfl)
theorem lawShowBack : LawOk T 88 := fun d _ => ⟨true, ShowBack_eq d, rfl, rfl, rfl⟩

theorem flat_inj {t u : Tr} (ht : Valid t) (hu : Valid u) (h : flat t 0 = flat u 0) : t = u := by
  have hE := emb_flat t [] [] ht
  have hF := emb_flat u [] [] hu
  simp only [List.nil_append, List.append_nil, List.length_nil, Nat.zero_add] at hE hF
  have hs : t.size = u.size := by rw [← flat_len t 0, h, flat_len]
  rw [h, hs] at hE
  exact emb_one _ _ _ hE hF

theorem ShowApart_eq (a b : List Nd) : c95 T.rf a b = some true := or95 (by
  have live_eq : c1 T.rf = some true := live_run
  simp only [r95, live_eq, Option.bind_some]
  by_cases hla : a.length ≤ 200
  case neg => rw [dt (by omega)]; rfl
  rw [df (by omega), cond_false]
  by_cases hlb : b.length ≤ 200
  case neg => rw [dt (by omega)]; rfl
  have h1 : a.length ≤ 1000000 := by omega
  have h2 : b.length ≤ 1000000 := by omega
  rw [df (by omega), cond_false, mayS_eq h1]
  simp only [Option.bind_some]
  cases hma : mayS a with
  | false => rfl
  | true =>
    rw [Bool.not_true, cond_false, mayS_eq h2, Option.bind_some]
    cases hmb : mayS b with
    | false => rfl
    | true =>
      have ga := hma
      have gb := hmb
      rw [mayS, Bool.and_eq_true] at ga gb
      obtain ⟨ta, k1, k2, k3, k4, k5, k6, k7, k8⟩ := norm_tree ga.1
      obtain ⟨tb, m1, m2, m3, m4, m5, m6, m7, m8⟩ := norm_tree gb.1
      obtain ⟨t', q1, q2, q3, q4, q5, q6, q7⟩ := may_tree ga.1
      obtain rfl : t' = ta := emb_one _ _ _ q1 k1
      obtain ⟨t'', r1, r2, r3, r4, r5, r6, r7⟩ := may_tree gb.1
      obtain rfl : t'' = tb := emb_one _ _ _ r1 m1
      have na : namesT t' = true := by rw [← names_tree ga.1 k1]; exact ga.2
      have nb : namesT t'' = true := by rw [← names_tree gb.1 m1]; exact gb.2
      have Ra := Read_txt k1 k2 na k3 k4 q6 (txt_300 k1 k2 na (by omega))
      have Rb := Read_txt m1 m2 nb m3 m4 r6 (txt_300 m1 m2 nb (by omega))
      have key : (txt (toks t') == txt (toks t'')) = decide (flat t' 0 = flat t'' 0) := by
        by_cases he : flat t' 0 = flat t'' 0
        · rw [dt he, flat_inj k2 m2 he, beq_self_eq_true]
        · rw [df he]
          refine beq_eq_false_iff_ne.2 fun ht => he ?_
          rw [ht, Rb] at Ra
          injection Ra with Ra
          exact (congrArg Prod.fst Ra).symm
      simp only [Bool.not_true, cond_false, Show_tree ga.1 k1 k2 k4 k3 h1, Show_tree gb.1 m1 m2 m4 m3 h2, na, nb, if_true, Option.bind_some, Norm_eq h1, Norm_eq h2, k6, m6, Same_flat k4 m4, key, beq_self_eq_true, cond_true])
theorem lawShowApart : LawOk T 95 := fun d _ => ⟨true, ShowApart_eq d.1 d.2, rfl, rfl, rfl⟩

end Go.Proofs.YtoippcahbninnaaGreatDoor.R
