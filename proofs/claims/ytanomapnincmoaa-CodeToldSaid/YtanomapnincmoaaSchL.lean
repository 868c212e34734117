/-
  OUR OWN: the laws of nets in order come to true.
-/
import Derived.Test.YtanomapnincmoaaSchE
import Derived.Test.YtanomapnincmoaaResOk
namespace Go.Proofs.Ytanomapnincmoaa.R
open Go Go.Bm Go.Proofs
set_option linter.unusedVariables false
set_option linter.unusedSimpArgs false
set_option maxRecDepth 4000

theorem idx_nodup {V : List Nat} (h : V.Nodup) {p : Nat} (hp : p < V.length) : V.idxOf V[p] = p := by
  have e : V = V.take p ++ V[p] :: V.drop (p + 1) := by
    rw [← List.drop_eq_getElem_cons hp, List.take_append_drop]
  have hn : V[p] ∉ V.take p := fun hm => by
    rw [e, List.nodup_append] at h
    exact h.2.2 _ hm _ List.mem_cons_self rfl
  generalize V[p] = x at *
  have hl : (V.take p).length = p := by rw [List.length_take]; omega
  rw [e, List.idxOf_append, if_neg hn, List.idxOf_cons_self, hl, Nat.zero_add]
theorem greedy_line {D : Nat → Nat → Bool} {n : Nat} (hD : ∀ i j, i < n → j < n → D i j = true → j < i) : greedy D n n [] = List.range n := by
  have : ∀ (f k : Nat), k + f = n → greedy D n f (List.range k) = List.range n := by
    intro f
    induction f with
    | zero => intro k h; rw [greedy, show k = n by omega]
    | succ f ih =>
      intro k h
      have hn : nextO D n (List.range k) = some k := next_spec.2 ⟨rdy_iff.2 ⟨by simp, fun j hj hd => List.mem_range.2 (hD k j (by omega) hj hd)⟩, by omega, fun j hj => by
        rw [rdy, decide_eq_true (List.mem_range.2 hj)]; rfl⟩
      rw [greedy, hn]
      simp only
      rw [← List.range_succ]
      exact ih (k + 1) (by omega)
  exact this n 0 (by omega)

/-! What a net in order is. -/
section
variable {n : Nt}
theorem sort_len (hc : chkN n = 0) : (sortN n).1.length = n.1.length := by
  rw [sortN, sortV, List.length_map, gN_len hc]
theorem gN_lt (hc : chkN n = 0) {p : Nat} (hp : p < n.1.length) : (gN n).getD p 0 < n.1.length := by
  have hl := gN_len hc
  rw [List.getD_eq_getElem?_getD, List.getElem?_eq_getElem (by omega)]
  exact val_lt (gN_val n) _ (List.getElem_mem _)
theorem sort_op (hc : chkN n = 0) {p : Nat} (hp : p < n.1.length) : opAtN (sortN n) p = turnO (gN n) (opAtN n ((gN n).getD p 0)) := by
  have hl := gN_len hc
  rw [opAtN, sortN, sortV, List.getD_eq_getElem?_getD, List.getElem?_map, List.getD_eq_getElem?_getD, List.getElem?_eq_getElem (by omega)]
  rfl
theorem idx_at (hc : chkN n = 0) {p : Nat} (hp : p < n.1.length) : (gN n).idxOf ((gN n).getD p 0) = p := by
  have hl := gN_len hc
  rw [List.getD_eq_getElem?_getD, List.getElem?_eq_getElem (by omega)]
  exact idx_nodup (val_nodup (gN_val n)) (by omega)
theorem flds_turn (V : List Nat) (x : Od) : flds (turnO V x) = (flds x).map (toV V) := rfl
theorem used_turn (V : List Nat) (x : Od) : usedN (turnO V x) = (usedN x).map (toV V) := by
  rw [usedN, usedN, flds_turn, List.map_take]; rfl
theorem rest_turn (V : List Nat) (x : Od) : restN (turnO V x) = (restN x).map (toV V) := by
  rw [restN, restN, flds_turn, List.map_drop]; rfl
theorem ops_turn (V : List Nat) (x : Od) : opsN (turnO V x) = (opsN x).map (toV V) := by
  unfold opsN
  rw [used_turn, show (turnO V x).1 = x.1 from rfl]
  split
  · rfl
  · rfl
theorem toV_in (hc : chkN n = 0) {k : Int} (h : 0 ≤ k ∧ k < n.1.length) : 0 ≤ toV (gN n) k ∧ toV (gN n) k < n.1.length := by
  have hl := gN_len hc
  have hm := gN_all hc k.toNat (by omega)
  have := List.idxOf_lt_length_of_mem hm
  rw [toV, if_neg (by omega)]; omega
theorem sort_may (hc : chkN n = 0) : mayN (sortN n) = true := by
  have hm := (chk_may hc).1
  have hlen := sort_len hc
  have hlt := val_lt (gN_val n)
  have hm' := hm
  rw [mayN, Bool.and_eq_true, List.all_eq_true, List.all_eq_true] at hm ⊢
  refine ⟨fun y hy => ?_, fun k hk => ?_⟩
  · obtain ⟨i, hi, rfl⟩ := List.mem_map.1 hy
    have := hm.1 _ (opAtN_mem (hlt i hi))
    rw [mayO, Bool.and_eq_true, Bool.and_eq_true, Bool.and_eq_true, List.all_eq_true, List.all_eq_true] at this ⊢
    refine ⟨this.1, fun k hk => ?_, fun k hk => ?_, this.2.2.2⟩
    · rw [used_turn] at hk
      obtain ⟨j, hj, rfl⟩ := List.mem_map.1 hk
      rw [hlen]
      exact dt (toV_in hc (of_decide_eq_true (this.2.1 j hj)))
    · rw [rest_turn] at hk
      obtain ⟨j, hj, rfl⟩ := List.mem_map.1 hk
      have := of_decide_eq_true (this.2.2.1 j hj)
      rw [this]; rfl
  · obtain ⟨j, hj, rfl⟩ := List.mem_map.1 hk
    have h2 := (may_N hm').root j hj
    have h3 := toV_in hc h2
    rw [toV, if_neg (by omega)] at h3
    rw [hlen]
    exact dt h3
theorem sort_is (hc : chkN n = 0) : ∀ p, p < n.1.length → ∀ k ∈ opsN (opAtN (sortN n) p), k < p := fun p hp k hk => by
  have hm := (chk_may hc).1
  have hN := may_N hm
  rw [sort_op hc hp, ops_turn] at hk
  obtain ⟨j, hj, rfl⟩ := List.mem_map.1 hk
  have hi := gN_lt hc hp
  have hjr := hN.ops _ hi j hj
  have hd : DN n ((gN n).getD p 0) j.toNat = true := dt (List.mem_map.2 ⟨j, hj, rfl⟩)
  have := val_idx (gN_val n) (chk_may hc).2 hi (show j.toNat < n.1.length by omega) hd
  rw [idx_at hc hp] at this
  rw [toV, if_neg (by omega)]; omega
theorem sort_line (hc : chkN n = 0) : gN (sortN n) = List.range n.1.length := by
  rw [gN, sort_len hc]
  refine greedy_line fun i j hi hj hd => ?_
  obtain ⟨k, hk, e⟩ := List.mem_map.1 (of_decide_eq_true hd)
  have h1 := sort_is hc i hi k hk
  have h2 := ((may_N (sort_may hc)).ops i (by rw [sort_len hc]; exact hi) k hk).1
  omega
theorem sort_chk (hc : chkN n = 0) : chkN (sortN n) = 0 := by
  unfold chkN
  rw [if_pos (sort_may hc), show greedy (DN (sortN n)) (sortN n).1.length (sortN n).1.length [] = gN (sortN n) from rfl, sort_line hc, sort_len hc, List.length_range, if_neg (by omega)]
theorem sort_isN (hc : chkN n = 0) : isN (sortN n) = true := by
  rw [isN, dt (sort_chk hc), Bool.true_and, List.all_eq_true]
  intro p hp
  rw [sort_len hc, List.mem_range] at hp
  rw [isB, List.all_eq_true]
  exact fun k hk => dt (sort_is hc p hp k hk)
theorem idx_range {N k : Nat} (h : k < N) : (List.range N).idxOf k = k := by
  have := idx_nodup (List.nodup_range (n := N)) (p := k) (by rw [List.length_range]; exact h)
  rwa [List.getElem_range] at this
theorem toV_range {N : Nat} {k : Int} (h : k = -1 ∨ (0 ≤ k ∧ k < N)) : toV (List.range N) k = k := by
  unfold toV
  split
  · rfl
  · rw [idx_range (by omega)]; omega
theorem sort_again (hc : chkN n = 0) : sortN (sortN n) = sortN n := by
  have hm := sort_may hc
  have hlen := sort_len hc
  rw [sortN, sort_line hc, sortV]
  refine Prod.ext ?_ (Prod.ext ?_ rfl)
  · refine List.ext_getElem? fun i => ?_
    rw [List.getElem?_map]
    by_cases hi : i < n.1.length
    · rw [List.getElem?_range hi, Option.map_some]
      have hf := fld_ok hm (i := i) (by rw [hlen]; exact hi)
      have hi2 : i < (sortN n).1.length := by rw [hlen]; exact hi
      have hop : (sortN n).1[i]? = some (opAtN (sortN n) i) := by rw [← nth_getElem?]; exact opAtN_nth hi2
      rw [hop]
      congr 1
      rw [hlen] at hf
      rw [turnO, toV_range (hf _ (by simp [flds])), toV_range (hf _ (by simp [flds])), toV_range (hf _ (by simp [flds]))]
    · rw [List.getElem?_eq_none (by rw [List.length_range]; omega), List.getElem?_eq_none (by rw [hlen]; omega)]; rfl
  · have hr := (may_N hm).root
    rw [hlen] at hr
    conv => rhs; rw [← List.map_id (sortN n).2.1]
    refine List.map_congr_left fun k hk => ?_
    have := hr k hk
    rw [idx_range (by omega)]
    show ((k.toNat : Nat) : Int) = k
    omega
theorem sort_small (hc : chkN n = 0) : (sortN n).2.1.length = n.2.1.length ∧ (sortN n).2.2.length = n.2.2.length := ⟨List.length_map .., rfl⟩
end

/-! Behind. -/
def posF (A : List Nat) (k : Nat) : Int := if k ∈ A then ((A.idxOf k : Nat) : Int) + 1 else 0
theorem posF_snoc {A : List Nat} {x : Nat} (hx : x ∉ A) (k : Nat) : posF (A ++ [x]) k = if k = x then ((A.length : Nat) : Int) + 1 else posF A k := by
  unfold posF
  rw [List.idxOf_append]
  by_cases e : k = x
  · subst e
    rw [if_pos rfl, if_pos (by simp), if_neg hx]; simp
  · rw [if_neg e]
    by_cases h : k ∈ A
    · rw [if_pos (by simp [h]), if_pos h, if_pos h]
    · rw [if_neg (by simp [h, e]), if_neg h]
theorem greedy_ext {D : Nat → Nat → Bool} {n : Nat} : ∀ (f : Nat) (V : List Nat), ∃ W, greedy D n f V = V ++ W
  | 0, V => ⟨[], by rw [greedy, List.append_nil]⟩
  | f + 1, V => by
    rw [greedy]
    cases nextO D n V with
    | none => exact ⟨[], by simp⟩
    | some i =>
      obtain ⟨W, h⟩ := greedy_ext f (V ++ [i])
      exact ⟨i :: W, by show greedy D n f (V ++ [i]) = _; rw [h]; simp⟩
theorem first_first {n : Nt} (hN : NetP n) (hp : 0 < n.1.length) (hL : LN n 0 = []) : (gN n).idxOf 0 = 0 ∧ 0 ∈ gN n := by
  have hr : nextO (DN n) n.1.length [] = some 0 := next_spec.2 ⟨(rdyN_iff hN hp).2 ⟨by simp, by rw [WL_nil, hL]; rfl⟩, hp, fun j hj => by omega⟩
  obtain ⟨m, hm⟩ : ∃ m, n.1.length = m + 1 := ⟨n.1.length - 1, by omega⟩
  have hg : gN n = greedy (DN n) n.1.length m ([] ++ [0]) := by
    rw [gN]
    conv => lhs; arg 3; rw [hm]
    rw [greedy, hr]
  obtain ⟨W, hW⟩ := greedy_ext (D := DN n) (n := n.1.length) m ([] ++ [0])
  rw [hg, hW]
  exact ⟨by simp, by simp⟩
/-! Ends. -/
theorem end_ge (n : Nt) (k : Nat) : ∀ (p q : Nat), q < p → k ∈ LN n q → (q : Int) ≤ endF n p k
  | 0, q, h, _ => by omega
  | p + 1, q, h, hk => by
    rw [endF]
    by_cases e : k ∈ LN n p
    · rw [if_pos e]; omega
    · rw [if_neg e]
      have : q ≠ p := fun x => e (x ▸ hk)
      exact end_ge n k p q (by omega) hk
theorem end_is (n : Nt) (k : Nat) : ∀ (p q : Nat), endF n p k = (q : Int) → k ∈ LN n q
  | 0, q, h => by rw [endF] at h; omega
  | p + 1, q, h => by
    rw [endF] at h
    by_cases e : k ∈ LN n p
    · rw [if_pos e] at h
      have : p = q := by omega
      exact this ▸ e
    · rw [if_neg e] at h
      exact end_is n k p q h
end Go.Proofs.Ytanomapnincmoaa.R
