/-
  OUR OWN: what is read, and written, is read as the same: law ShowAgain.
-/
import Derived.Test.YtoippcahbninnaaGreatDoorShwW
namespace Go.Proofs.YtoippcahbninnaaGreatDoor.R
open Go Go.Bm Go.Proofs
set_option linter.unusedVariables false
set_option linter.unusedSimpArgs false
set_option maxRecDepth 4000

/-! ### A text is not long -/
theorem J_a (a b : List Str) : (J (a ++ b)).length = (J a).length + (J b).length := by simp [J]
theorem J_c (s : Str) (b : List Str) : (J (s :: b)).length = s.length + 1 + (J b).length := by simp [J]; omega
theorem J_n : (J ([] : List Str)).length = 0 := rfl
theorem J_part (a : Int) (x : Int × List Str) : (J (partX a x)).length ≤ (J x.2).length + 4 := by
  unfold partX; split
  · omega
  · rw [J_c, J_a, J_c, J_n]; simp only [List.length_cons, List.length_nil]; omega
theorem J_toks {e : List Nd} : ∀ (m : Nat) (t : Tr) (i : Nat), t.size ≤ m → Emb e i t → Valid t → namesT t = true → (J (toks t)).length ≤ 100 * t.size := by
  intro m
  induction m with
  | zero => intro t i h; have := t.size_pos; omega
  | succ m ih =>
    intro t i hm ht hv hn
    cases shape ht hv with
    | leaf h hx hN hs =>
      rename_i op a b c nn nm
      obtain ⟨hnb, _⟩ := namesX hn
      have h1 := itoaX_len nn
      have h2 := boolX_len nn
      have h3 : nm.length ≤ 40 := nameN_len hnb
      rw [toks_leaf h, size0, J_c, J_n]
      split
      · omega
      split <;> omega
    | call0 hx hN hs =>
      rename_i b c nn nm
      have h3 : nm.length ≤ 40 := nameN_len (namesX hn).1
      rw [toks_call0, size0, J_c, J_c, J_c, J_n]
      simp only [List.length_cons, List.length_nil]; omega
    | call1 hx hN hs hj ht1 hv1 ho =>
      rename_i b c nn nm j t1
      obtain ⟨hnb, hnl⟩ := namesX hn
      have h3 : nm.length ≤ 40 := nameN_len hnb
      rw [namesL, namesL, Bool.and_true] at hnl
      rw [size1] at hm ⊢
      have := ih _ _ (by omega) ht1 hv1 hnl
      rw [toks_call1, J_c, J_c, J_a, J_c, J_n]
      simp only [List.length_cons, List.length_nil]; omega
    | arg1 hx hN hs hj ht1 hv1 ho =>
      obtain ⟨hnb, hnl⟩ := namesX hn
      rw [namesL, namesL, Bool.and_true] at hnl
      rw [size1] at hm ⊢
      have := ih _ _ (by omega) ht1 hv1 hnl
      rw [toks_arg1]; omega
    | arg2 hx hN hs hj ht1 hv1 ho hk hu hvu hou =>
      obtain ⟨hnb, hnl⟩ := namesX hn
      rw [namesL, namesL, namesL, Bool.and_true, Bool.and_eq_true] at hnl
      rw [size2] at hm ⊢
      have := ih _ _ (by omega) ht1 hv1 hnl.1
      have := ih _ _ (by omega) hu hvu hnl.2
      rw [toks_arg2, J_a, J_c]
      simp only [List.length_cons, List.length_nil]; omega
    | ite hx hN hs hj ht1 hv1 ho hk hu hvu hou hl hw hvw how =>
      obtain ⟨hnb, hnl⟩ := namesX hn
      rw [namesL, namesL, namesL, namesL, Bool.and_true, Bool.and_eq_true, Bool.and_eq_true] at hnl
      rw [size3] at hm ⊢
      have := ih _ _ (by omega) ht1 hv1 hnl.1
      have := ih _ _ (by omega) hu hvu hnl.2.1
      have := ih _ _ (by omega) hw hvw hnl.2.2
      have h4 := opX_len 26
      rw [toks_ite, J_c, J_a, J_c, J_a, J_c]
      simp only [List.length_cons, List.length_nil]; omega
    | un h hx hN hs hj ht1 hv1 ho =>
      rename_i op b c nn nm j t1
      obtain ⟨hnb, hnl⟩ := namesX hn
      rw [namesL, namesL, Bool.and_true] at hnl
      rw [size1] at hm ⊢
      have := ih _ _ (by omega) ht1 hv1 hnl
      have h4 := opX_len op
      have h1 := itoaX_len nn
      have h5 := J_part 9 (t1.op, toks t1)
      simp only at h5
      rw [toks_un h, J_c, J_a]
      split
      · rw [J_c, J_n]; omega
      · rw [J_n]; omega
    | bin h hx hN hs hj ht1 hv1 ho hk hu hvu hou =>
      rename_i op c nn nm j k t1 u1
      obtain ⟨hnb, hnl⟩ := namesX hn
      rw [namesL, namesL, namesL, Bool.and_true, Bool.and_eq_true] at hnl
      rw [size2] at hm ⊢
      have := ih _ _ (by omega) ht1 hv1 hnl.1
      have := ih _ _ (by omega) hu hvu hnl.2
      have h4 := opX_len op
      have h5 := J_part (leftX op) (t1.op, toks t1)
      have h6 := J_part (rightX op) (u1.op, toks u1)
      simp only at h5 h6
      rw [toks_bin h, J_a, J_c]
      omega

theorem fine_emb {t : Tr} (h : Valid t) : Emb (flat t 0) ((flat t 0).length - 1) t := by
  have hE := emb_flat t [] [] h
  simp only [List.nil_append, List.append_nil, List.length_nil, Nat.zero_add] at hE
  rw [flat_len]; exact hE

/-- **Read, of any text.** -/
theorem Read_any {s : Str} (hs : s.length ≤ 1000) : ∃ e c a, c2 T.rf s = some (e, c, a) ∧ (c ≠ 0 ∨ (c = 0 ∧ ∃ t : Tr, e = flat t 0 ∧ Fine t ∧ t.size ≤ 1000 ∧ dep t ≤ 40)) := by
  obtain ⟨L, e, a, h1, h2⟩ := Lex_all (s := s) (by omega)
  rcases h2 with he | ⟨rfl, rfl, hok, hlen⟩
  · exact ⟨[], e, a, or2 (by simp only [r2, h1, Option.bind_some, nbf he, cond_true]), .inl he⟩
  have hL : L.length ≤ 100000 := by omega
  obtain ⟨y, hy, hg⟩ := all_good hL hok L.length 0 (by omega) (by omega) 1 0 (by omega) (by omega) (by omega) (by omega)
  simp only [rd] at hy
  rw [show ((0 : Nat) : Int) = (0 : Int) from rfl] at hy
  have fin : ∀ (z : (Int × Int) × List Nd × Int), k37 T.rb (0, 0) L 0 = some (.inl z) → c14 T.rf L 0 = some (z.2.1, z.2.2, z.1) := fun z hz => or14 (by
    simp only [r14, show decide ((0 : Int) < 0) = false from rfl, cond_false, df (show ¬ (0 : Int) > ((L.length : Nat) : Int) by omega), hz, Option.bind_some])
  have bad : ∀ (z : List Nd × Int × Int × Int), c14 T.rf L 0 = some z → z.2.2.1 ≠ 0 → ∃ e c a, c2 T.rf s = some (e, c, a) ∧ (c ≠ 0 ∨ (c = 0 ∧ ∃ t : Tr, e = flat t 0 ∧ Fine t ∧ t.size ≤ 1000 ∧ dep t ≤ 40)) := fun z hz hne =>
    ⟨[], z.2.2.1, z.2.2.2, or2 (by simp only [r2, h1, Option.bind_some, z0, cond_false, hz, nbf hne, cond_true]), .inl hne⟩
  rcases hg with hb | ⟨j, t, rfl, g1, g2, g3, g4⟩
  · have hpt : k37 T.rb (0, 0) L 0 = some (.inl (y.1.2.2.2, [], 0)) := ob37 (by
      simp only [b37, hy, Option.bind_some, nbf hb, cond_true])
    exact bad _ (fin _ hpt) hb
  have hfl : (flat t 0).length ≤ 1000000 := by rw [flat_len]; omega
  have hfs : ((flat t 0).length : Int) ≤ 5000 := by rw [flat_len]; omega
  have hdep : depth (flat t 0) = dep t := depth_emb (fine_emb g3.v)
  by_cases hd : dep t > 40
  · obtain ⟨a', ha'⟩ := at_eq L 0
    have hpt : k37 T.rb (0, 0) L 0 = some (.inl ((6, a'), [], 0)) := ob37 (by
      simp only [b37, hy, Option.bind_some, z0, cond_false, df (show ¬ (((flat t 0).length : Nat) : Int) > 5000 by omega), refDepth_eq hfl, hdep, dt hd, cond_true, ha'])
    exact bad _ (fin _ hpt) (by show (6 : Int) ≠ 0; decide)
  have hpt : k37 T.rb (0, 0) L 0 = some (.inr ((0, 0), flat t 0, (j : Int))) := ob37 (by
    simp only [b37, hy, Option.bind_some, z0, cond_false, df (show ¬ (((flat t 0).length : Nat) : Int) > 5000 by omega), refDepth_eq hfl, hdep, df hd])
  have hP : c14 T.rf L 0 = some (flat t 0, (j : Int), 0, 0) := or14 (by
    simp only [r14, show decide ((0 : Int) < 0) = false from rfl, cond_false, df (show ¬ (0 : Int) > ((L.length : Nat) : Int) by omega), hpt, Option.bind_some])
  by_cases hj : j < L.length
  · have hx := nth_t hj
    exact ⟨[], 5, L[j].2.2, or2 (by
      simp only [r2, h1, Option.bind_some, z0, cond_false, hP, dt (show ((j : Nat) : Int) < ((L.length : Nat) : Int) by omega), cond_true, inb_t (show (0 : Int) ≤ ((j : Nat) : Int) by omega) (show ((j : Nat) : Int) < ((L.length : Nat) : Int) by omega), Int.toNat_natCast, hx]), .inl (by decide)⟩
  · exact ⟨flat t 0, 0, 0, or2 (by
      simp only [r2, h1, Option.bind_some, z0, cond_false, hP, df (show ¬ ((j : Nat) : Int) < ((L.length : Nat) : Int) by omega)]), .inr ⟨rfl, t, rfl, g3, by omega, by omega⟩⟩

theorem ShowAgain_eq (s : Str) : c93 T.rf s = some true := or93 (by
  have live_eq : c1 T.rf = some true := live_run
  simp only [r93, live_eq, Option.bind_some]
  by_cases hl : s.length ≤ 1000
  case neg => rw [dt (by omega)]; rfl
  rw [df (by omega), cond_false]
  obtain ⟨e, c, a, h1, h2⟩ := Read_any hl
  rw [h1, Option.bind_some]
  rcases h2 with hc | ⟨rfl, t, rfl, hf, hsz, hd⟩
  · simp only [nbf hc, cond_true]
  have hm : mayB (flat t 0) = true := by rw [may_flat hf.v, dt (show t.size ≤ 5000 by omega), dt hf.o, dt hd]; rfl
  have hE := fine_emb hf.v
  have hfl : (flat t 0).length ≤ 1000000 := by rw [flat_len]; omega
  have hS := Show_tree hm hE hf.v (show t.size ≤ 5000 by omega) hf.o hfl
  rw [hf.n, if_pos rfl] at hS
  have hlen : (txt (toks t)).length ≤ 100000 := by
    have := J_toks t.size t _ (Nat.le_refl _) hE hf.v hf.n
    unfold txt
    rw [List.length_drop]; omega
  have hR := Read_txt hE hf.v hf.n hf.o (show t.size ≤ 5000 by omega) hd hlen
  simp only [z0, cond_false, hS, hR, Option.bind_some, show ((0 : Int) == 0) = true from rfl, cond_true, beq_self_eq_true, Norm_eq hfl, norm_of_flat hf.v hm, Same_flat (show t.size ≤ 5000 by omega) (show t.size ≤ 5000 by omega), decide_true])
theorem lawShowAgain : LawOk T 93 := fun d _ => ⟨true, ShowAgain_eq d, rfl, rfl, rfl⟩

end Go.Proofs.YtoippcahbninnaaGreatDoor.R
