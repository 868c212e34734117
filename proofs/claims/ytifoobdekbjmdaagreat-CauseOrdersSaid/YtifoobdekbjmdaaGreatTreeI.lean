/-
  OUR OWN: what may be, in order: it may be, is as long and as deep, and in order again it is the same.
-/
import Derived.Test.YtifoobdekbjmdaaGreatTreeH
namespace Go.Proofs.YtifoobdekbjmdaaGreat.R
open Go Go.Bm Go.Proofs
set_option linter.unusedVariables false
set_option linter.unusedSimpArgs false
set_option maxRecDepth 4000

theorem scanR_U (e : List Nd) (S : Nat → Nat) (hS : ∀ i n, nth e i = some n → S i = 1 + szL (fun k => S k.toNat) (kids n)) : ∀ (suf pre : List Nd) (V V' : List Nat), e = pre ++ suf → scanR e suf pre.length V = some V' → V'.Nodup →
    (∀ x ∈ V, x < pre.length) → Usum S V pre.length = pre.length → Usum S V' e.length = e.length
  | [], pre, V, V', h, hs, hn, hV, hU => by
    cases hs
    rw [h]; simpa using hU
  | n :: suf, pre, V, V', h, hs, hn, hV, hU => by
    rw [scanR] at hs
    split at hs
    case isFalse => cases hs
    rename_i hc
    have hpl : (pre ++ [n]).length = pre.length + 1 := by simp
    have hi : nth e pre.length = some n := by rw [h, nth_getElem?]; simp
    obtain ⟨W, rfl⟩ := scanR_ext e suf _ _ _ hs
    have hn1 := (List.nodup_append.1 hn).1
    have hr : ∀ k ∈ kids n, 0 ≤ k ∧ k < pre.length := fun k hk => by simpa using List.all_eq_true.1 hc.2.1 k hk
    have hV' : ∀ x ∈ V ++ (kids n).map Int.toNat, x < pre.length := fun x hx => by
      rcases List.mem_append.1 hx with hx | hx
      · exact hV x hx
      · obtain ⟨k, hk, rfl⟩ := List.mem_map.1 hx
        have := hr k hk; omega
    have hU' := Usum_adds S pre.length (kids n) V hn1 hr
    have hSi := hS _ _ hi
    have hSU : Usum S (V ++ (kids n).map Int.toNat) (pre.length + 1) = pre.length + 1 := by
      rw [Usum, if_neg (fun hm => by have := hV' _ hm; omega)]; omega
    exact scanR_U e S hS suf (pre ++ [n]) _ _ (by rw [h]; simp) (by rw [hpl]; exact hs) hn (fun x hx => by have := hV' x hx; rw [hpl]; omega) (by rw [hpl]; exact hSU)

theorem Usum_zero (S : Nat → Nat) (V : List Nat) : ∀ i, (∀ j, j < i → j ∈ V) → Usum S V i = 0
  | 0, _ => rfl
  | i + 1, h => by rw [Usum, Usum_zero S V i (fun j hj => h j (by omega)), if_pos (h i (by omega))]

theorem sz_emb {e : List Nd} {i : Nat} {t : Tr} (h : Emb e i t) (f : Nat) (hf : i < f) : sz e f (i : Int) = t.size := by
  have h1 := ord_len (e := e) f (i : Int) []
  rw [ord_emb e t f i [] h hf] at h1
  simp only [List.nil_append, List.length_nil, flat_len, Nat.zero_add] at h1
  exact h1.symm

/-- **What may be is a tree.** -/
theorem may_tree {e : List Nd} (h : mayB e = true) : ∃ t, Emb e (e.length - 1) t ∧ Valid t ∧ t.size = e.length ∧ t.op ≠ 28 ∧ dep t = depth e ∧ dep t ≤ 40 ∧ t.size ≤ 5000 := by
  have hM := may_P h
  have hpos := List.length_pos_iff.2 hM.ne
  obtain ⟨t, ht⟩ := may_emb hM e.length (e.length - 1) (by omega) (by omega)
  have hd := depth_emb ht
  have hop := emb_op ht
  have hsize : t.size = e.length := by
    have h' := h
    simp only [mayB, Bool.and_eq_true, decide_eq_true_eq] at h'
    obtain ⟨h1, h2, h3, h4⟩ := h'
    split at h4
    · cases h4
    rename_i V hs
    simp only [Bool.and_eq_true, decide_eq_true_eq] at h4
    obtain ⟨k1, k2⟩ := (scan_iff e e 0 [] V (by simp)).1 hs
    have hlt := scanR_lt e (e.length - 1) e 0 [] V k1 (by simp) (by omega)
    have hU := scanR_U e (fun i => sz e (i + 1) (i : Int)) (fun i n hn => ?_) e [] [] V rfl k1 k2 (by simp) rfl
    · obtain ⟨m, hm⟩ : ∃ m, e.length = m + 1 := ⟨e.length - 1, by omega⟩
      rw [hm, Usum, Usum_zero _ V m (fun j hj => ?_), if_neg (fun hh => by have := hlt m hh; omega)] at hU
      · have hm1 : e.length - 1 = m := by omega
        rw [hm1] at ht
        have := sz_emb ht (m + 1) (by omega)
        have hU2 : 0 + sz e (m + 1) (m : Int) = m + 1 := hU
        omega
      · have := List.all_eq_true.1 h4.1 j (List.mem_range.2 (by omega))
        exact of_decide_eq_true this
    · have hil : i < e.length := by rw [nth_getElem?] at hn; exact (List.getElem?_eq_some_iff.1 hn).1
      have hg : e.getD i nd0 = n := by have := getD_nth hil; rw [hn] at this; exact (Option.some.inj this).symm
      show sz e (i + 1) (i : Int) = _
      rw [sz, Int.toNat_natCast, hg]
      congr 1
      refine szL_congr fun k hk => ?_
      have := hM.ahead i n hn k hk
      obtain ⟨j, rfl⟩ : ∃ j : Nat, k = j := ⟨k.toNat, by omega⟩
      rw [Int.toNat_natCast]
      exact sz_fuel hM.ahead i j (by omega) (by omega)
  exact ⟨t, ht, valid_emb hM t _ ht, hsize, by rw [← hop]; exact hM.last, hd.symm, by rw [← hd]; exact hM.deep, by rw [hsize]; exact hM.len⟩

theorem norm_flat {e : List Nd} {t : Tr} (h : mayB e = true) (ht : Emb e (e.length - 1) t) : norm e = flat t 0 := by
  have hpos := List.length_pos_iff.2 (may_P h).ne
  rw [norm, show ((e.length : Int) - 1) = ((e.length - 1 : Nat) : Int) by omega]
  exact subE_flat h (by omega) ht

/-- A tree laid flat is in order. -/
theorem norm_of_flat {t : Tr} (hv : Valid t) (hm : mayB (flat t 0) = true) : norm (flat t 0) = flat t 0 := by
  have hE := emb_flat t [] [] hv
  simp only [List.nil_append, List.append_nil, List.length_nil, Nat.zero_add] at hE
  exact norm_flat hm (by rw [flat_len]; exact hE)

theorem norm_may {e : List Nd} (h : mayB e = true) : mayB (norm e) = true ∧ (norm e).length = e.length ∧ depth (norm e) = depth e ∧ norm (norm e) = norm e := by
  obtain ⟨t, h1, h2, h3, h4, h5, h6, h7⟩ := may_tree h
  have hn := norm_flat h h1
  have hm : mayB (flat t 0) = true := by rw [may_flat h2, dt h7, dt h4, dt h6]; rfl
  have hE := emb_flat t [] [] h2
  simp only [List.nil_append, List.append_nil, List.length_nil, Nat.zero_add] at hE
  refine ⟨by rw [hn]; exact hm, by rw [hn, flat_len, h3], ?_, by rw [hn]; exact norm_of_flat h2 hm⟩
  rw [hn, depth_emb (t := t) (by rw [flat_len]; exact hE), h5]

theorem norm_len {e : List Nd} : (norm e).length ≤ 5001 := subE_len _

end Go.Proofs.YtifoobdekbjmdaaGreat.R
