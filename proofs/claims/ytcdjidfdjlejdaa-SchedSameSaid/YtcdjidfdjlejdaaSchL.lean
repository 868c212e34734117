/-
  OUR OWN: the laws of nets in order come to true.
-/
import Derived.Test.YtcdjidfdjlejdaaSchE
import Derived.Test.YtcdjidfdjlejdaaResOk
namespace Go.Proofs.Ytcdjidfdjlejdaa.R
open Go Go.Bm Go.Proofs
set_option linter.unusedVariables false
set_option linter.unusedSimpArgs false
set_option maxRecDepth 4000

theorem live_eq : c2 T.rf = some true := live_run

theorem idx_nodup {V : List Nat} (h : V.Nodup) {p : Nat} (hp : p < V.length) : V.idxOf V[p] = p := by
  have e : V = V.take p ++ V[p] :: V.drop (p + 1) := by
    rw [← List.drop_eq_getElem_cons hp, List.take_append_drop]
  have hn : V[p] ∉ V.take p := fun hm => by
    rw [e, List.nodup_append] at h
    exact h.2.2 _ hm _ List.mem_cons_self rfl
  generalize V[p] = x at *
  have hl : (V.take p).length = p := by rw [List.length_take]; omega
  rw [e, List.idxOf_append, if_neg hn, List.idxOf_cons_self, hl, Nat.zero_add]
theorem greedy_line {D : Nat → Nat → Bool} {n : Nat} (hD : ∀ i j, i < n → j < n → D i j = true → j < i) : greedy D n n [] = List.range n := by
  have : ∀ (f k : Nat), k + f = n → greedy D n f (List.range k) = List.range n := by
    intro f
    induction f with
    | zero => intro k h; rw [greedy, show k = n by omega]
    | succ f ih =>
      intro k h
      have hn : nextO D n (List.range k) = some k := next_spec.2 ⟨rdy_iff.2 ⟨by simp, fun j hj hd => List.mem_range.2 (hD k j (by omega) hj hd)⟩, by omega, fun j hj => by
        rw [rdy, decide_eq_true (List.mem_range.2 hj)]; rfl⟩
      rw [greedy, hn]
      simp only
      rw [← List.range_succ]
      exact ih (k + 1) (by omega)
  exact this n 0 (by omega)

/-! What a net in order is. -/
section
variable {n : Nt}
theorem sort_len (hc : chkN n = 0) : (sortN n).1.length = n.1.length := by
  rw [sortN, sortV, List.length_map, gN_len hc]
theorem gN_lt (hc : chkN n = 0) {p : Nat} (hp : p < n.1.length) : (gN n).getD p 0 < n.1.length := by
  have hl := gN_len hc
  rw [List.getD_eq_getElem?_getD, List.getElem?_eq_getElem (by omega)]
  exact val_lt (gN_val n) _ (List.getElem_mem _)
theorem sort_op (hc : chkN n = 0) {p : Nat} (hp : p < n.1.length) : opAtN (sortN n) p = turnO (gN n) (opAtN n ((gN n).getD p 0)) := by
  have hl := gN_len hc
  rw [opAtN, sortN, sortV, List.getD_eq_getElem?_getD, List.getElem?_map, List.getD_eq_getElem?_getD, List.getElem?_eq_getElem (by omega)]
  rfl
theorem idx_at (hc : chkN n = 0) {p : Nat} (hp : p < n.1.length) : (gN n).idxOf ((gN n).getD p 0) = p := by
  have hl := gN_len hc
  rw [List.getD_eq_getElem?_getD, List.getElem?_eq_getElem (by omega)]
  exact idx_nodup (val_nodup (gN_val n)) (by omega)
theorem flds_turn (V : List Nat) (x : Od) : flds (turnO V x) = (flds x).map (toV V) := rfl
theorem used_turn (V : List Nat) (x : Od) : usedN (turnO V x) = (usedN x).map (toV V) := by
  rw [usedN, usedN, flds_turn, List.map_take]; rfl
theorem rest_turn (V : List Nat) (x : Od) : restN (turnO V x) = (restN x).map (toV V) := by
  rw [restN, restN, flds_turn, List.map_drop]; rfl
theorem ops_turn (V : List Nat) (x : Od) : opsN (turnO V x) = (opsN x).map (toV V) := by
  unfold opsN
  rw [used_turn, show (turnO V x).1 = x.1 from rfl]
  split
  · rfl
  · rfl
theorem toV_in (hc : chkN n = 0) {k : Int} (h : 0 ≤ k ∧ k < n.1.length) : 0 ≤ toV (gN n) k ∧ toV (gN n) k < n.1.length := by
  have hl := gN_len hc
  have hm := gN_all hc k.toNat (by omega)
  have := List.idxOf_lt_length_of_mem hm
  rw [toV, if_neg (by omega)]; omega
theorem sort_may (hc : chkN n = 0) : mayN (sortN n) = true := by
  have hm := (chk_may hc).1
  have hlen := sort_len hc
  have hlt := val_lt (gN_val n)
  have hm' := hm
  rw [mayN, Bool.and_eq_true, List.all_eq_true, List.all_eq_true] at hm ⊢
  refine ⟨fun y hy => ?_, fun k hk => ?_⟩
  · obtain ⟨i, hi, rfl⟩ := List.mem_map.1 hy
    have := hm.1 _ (opAtN_mem (hlt i hi))
    rw [mayO, Bool.and_eq_true, Bool.and_eq_true, Bool.and_eq_true, List.all_eq_true, List.all_eq_true] at this ⊢
    refine ⟨this.1, fun k hk => ?_, fun k hk => ?_, this.2.2.2⟩
    · rw [used_turn] at hk
      obtain ⟨j, hj, rfl⟩ := List.mem_map.1 hk
      rw [hlen]
      exact dt (toV_in hc (of_decide_eq_true (this.2.1 j hj)))
    · rw [rest_turn] at hk
      obtain ⟨j, hj, rfl⟩ := List.mem_map.1 hk
      have := of_decide_eq_true (this.2.2.1 j hj)
      rw [this]; rfl
  · obtain ⟨j, hj, rfl⟩ := List.mem_map.1 hk
    have h2 := (may_N hm').root j hj
    have h3 := toV_in hc h2
    rw [toV, if_neg (by omega)] at h3
    rw [hlen]
    exact dt h3
theorem sort_is (hc : chkN n = 0) : ∀ p, p < n.1.length → ∀ k ∈ opsN (opAtN (sortN n) p), k < p := fun p hp k hk => by
  have hm := (chk_may hc).1
  have hN := may_N hm
  rw [sort_op hc hp, ops_turn] at hk
  obtain ⟨j, hj, rfl⟩ := List.mem_map.1 hk
  have hi := gN_lt hc hp
  have hjr := hN.ops _ hi j hj
  have hd : DN n ((gN n).getD p 0) j.toNat = true := dt (List.mem_map.2 ⟨j, hj, rfl⟩)
  have := val_idx (gN_val n) (chk_may hc).2 hi (show j.toNat < n.1.length by omega) hd
  rw [idx_at hc hp] at this
  rw [toV, if_neg (by omega)]; omega
theorem sort_line (hc : chkN n = 0) : gN (sortN n) = List.range n.1.length := by
  rw [gN, sort_len hc]
  refine greedy_line fun i j hi hj hd => ?_
  obtain ⟨k, hk, e⟩ := List.mem_map.1 (of_decide_eq_true hd)
  have h1 := sort_is hc i hi k hk
  have h2 := ((may_N (sort_may hc)).ops i (by rw [sort_len hc]; exact hi) k hk).1
  omega
theorem sort_chk (hc : chkN n = 0) : chkN (sortN n) = 0 := by
  unfold chkN
  rw [if_pos (sort_may hc), show greedy (DN (sortN n)) (sortN n).1.length (sortN n).1.length [] = gN (sortN n) from rfl, sort_line hc, sort_len hc, List.length_range, if_neg (by omega)]
theorem sort_isN (hc : chkN n = 0) : isN (sortN n) = true := by
  rw [isN, dt (sort_chk hc), Bool.true_and, List.all_eq_true]
  intro p hp
  rw [sort_len hc, List.mem_range] at hp
  rw [isB, List.all_eq_true]
  exact fun k hk => dt (sort_is hc p hp k hk)
theorem idx_range {N k : Nat} (h : k < N) : (List.range N).idxOf k = k := by
  have := idx_nodup (List.nodup_range (n := N)) (p := k) (by rw [List.length_range]; exact h)
  rwa [List.getElem_range] at this
theorem toV_range {N : Nat} {k : Int} (h : k = -1 ∨ (0 ≤ k ∧ k < N)) : toV (List.range N) k = k := by
  unfold toV
  split
  · rfl
  · rw [idx_range (by omega)]; omega
theorem sort_again (hc : chkN n = 0) : sortN (sortN n) = sortN n := by
  have hm := sort_may hc
  have hlen := sort_len hc
  rw [sortN, sort_line hc, sortV]
  refine Prod.ext ?_ (Prod.ext ?_ rfl)
  · refine List.ext_getElem? fun i => ?_
    rw [List.getElem?_map]
    by_cases hi : i < n.1.length
    · rw [List.getElem?_range hi, Option.map_some]
      have hf := fld_ok hm (i := i) (by rw [hlen]; exact hi)
      have hi2 : i < (sortN n).1.length := by rw [hlen]; exact hi
      have hop : (sortN n).1[i]? = some (opAtN (sortN n) i) := by rw [← nth_getElem?]; exact opAtN_nth hi2
      rw [hop]
      congr 1
      rw [hlen] at hf
      rw [turnO, toV_range (hf _ (by simp [flds])), toV_range (hf _ (by simp [flds])), toV_range (hf _ (by simp [flds]))]
    · rw [List.getElem?_eq_none (by rw [List.length_range]; omega), List.getElem?_eq_none (by rw [hlen]; omega)]; rfl
  · have hr := (may_N hm).root
    rw [hlen] at hr
    conv => rhs; rw [← List.map_id (sortN n).2.1]
    refine List.map_congr_left fun k hk => ?_
    have := hr k hk
    rw [idx_range (by omega)]
    show ((k.toNat : Nat) : Int) = k
    omega
theorem sort_small (hc : chkN n = 0) : (sortN n).2.1.length = n.2.1.length ∧ (sortN n).2.2.length = n.2.2.length := ⟨List.length_map .., rfl⟩
end

theorem SchedSorts_eq (n : Nt) : c0 T.rf n = some true := or0 (by
  simp only [r0, live_eq, Option.bind_some, SmallN_eq]
  cases hs : smallN n
  · rfl
  obtain ⟨h1, h2, h3⟩ := small_N hs
  rw [Bool.not_true, cond_false, Own_eq (by omega), Option.bind_some, OrderN_eq (by omega) (by omega), Option.bind_some, ref15O_eq (by omega) (by omega), Option.bind_some, SortN_eq (by omega) (by omega) (by omega), Option.bind_some, refSortN_eq (by omega) (by omega) (by omega), Option.bind_some]
  have hol : (ordN n).1.length ≤ 300 := by
    have := val_len (gN_val n)
    unfold ordN; split
    · rw [ints_len]; omega
    · simp
  have hel : (endsN n).length ≤ 300 := by
    unfold endsN; split
    · rw [rowF_len]; exact h1
    · simp
  have hz : (if chkN n = 0 then (sortN n, (0 : Int)) else (([], [], []), chkN n)).1.1.length ≤ 100000 ∧ (if chkN n = 0 then (sortN n, (0 : Int)) else (([], [], []), chkN n)).1.2.1.length ≤ 100000 ∧ (if chkN n = 0 then (sortN n, (0 : Int)) else (([], [], []), chkN n)).1.2.2.length ≤ 100000 := by
    split
    · rename_i hc
      have := sort_len hc
      have h4 := sort_small hc
      exact ⟨by show (sortN n).1.length ≤ _; omega, by show (sortN n).2.1.length ≤ _; omega, by show (sortN n).2.2.length ≤ _; omega⟩
    · exact ⟨by simp, by simp, by simp⟩
  rw [Ints_self (by omega), Option.bind_some, cond_true, bt rfl, cond_true, Told_eq hz.1, Option.bind_some, Same_eq hz.1 hz.2.1 hz.2.2, Option.bind_some, cond_true, bt rfl, cond_true, IsN_eq (by omega) (by omega), Option.bind_some, refIsN_eq (by omega) (by omega), Option.bind_some]
  rw [beq_self_eq_true, cond_true, EndsN_eq (by omega) (by omega), Option.bind_some, refEndsN_eq (by omega) (by omega), Option.bind_some, Ints_self (by omega), Option.bind_some, cond_true])
theorem lawSchedSorts : LawOk T 0 := fun d _ => ⟨true, SchedSorts_eq d, rfl, rfl, rfl⟩

theorem SchedAgain_eq (n : Nt) : c73 T.rf n = some true := or73 (by
  simp only [r73, live_eq, Option.bind_some, SmallN_eq]
  cases hs : smallN n
  · rfl
  obtain ⟨h1, h2, h3⟩ := small_N hs
  rw [Bool.not_true, cond_false, Own_eq (by omega), Option.bind_some, SortN_eq (by omega) (by omega) (by omega), Option.bind_some]
  by_cases hc : chkN n = 0
  · have hl := sort_len hc
    obtain ⟨h4, h5⟩ := sort_small hc
    rw [if_pos hc, nbt rfl, cond_false]
    show (c35 T.rf (sortN n)).bind _ = _
    rw [SortN_eq (by omega) (by omega) (by omega), Option.bind_some, if_pos (sort_chk hc), bt rfl, cond_true, sort_again hc]
    show (c38 T.rf (sortN n)).bind _ = _
    rw [IsN_eq (by omega) (by omega), Option.bind_some, sort_isN hc, cond_true, bt (by show (((sortN n).1.length : Nat) : Int) = _; omega), cond_true]
    show (c58 T.rf (sortN n)).bind _ = _
    rw [Told_eq (by omega), Option.bind_some]
    show (c59 T.rf (sortN n) (sortN n)).bind _ = _
    rw [Same_eq (by omega) (by omega) (by omega), Option.bind_some, cond_true]
  · rw [if_neg hc, nbf hc, cond_true]; rfl)
theorem lawSchedAgain : LawOk T 73 := fun d _ => ⟨true, SchedAgain_eq d, rfl, rfl, rfl⟩

/-! Behind. -/
def posF (A : List Nat) (k : Nat) : Int := if k ∈ A then ((A.idxOf k : Nat) : Int) + 1 else 0
theorem posF_snoc {A : List Nat} {x : Nat} (hx : x ∉ A) (k : Nat) : posF (A ++ [x]) k = if k = x then ((A.length : Nat) : Int) + 1 else posF A k := by
  unfold posF
  rw [List.idxOf_append]
  by_cases e : k = x
  · subst e
    rw [if_pos rfl, if_pos (by simp), if_neg hx]; simp
  · rw [if_neg e]
    by_cases h : k ∈ A
    · rw [if_pos (by simp [h]), if_pos h, if_pos h]
    · rw [if_neg (by simp [h, e]), if_neg h]
theorem place_loop {N : Nat} (hN : N ≤ 1000) : ∀ (suf pre : List Nat), (pre ++ suf).Nodup → (∀ x ∈ suf, x < N) → pre.length + suf.length = N →
    k113 T.rb (ints pre ++ ints suf) (rowF N (posF pre)) ((ints pre).length : Nat) = some (.inr (ints pre ++ ints suf, rowF N (posF (pre ++ suf))))
  | [], pre, hnd, hs, h => ob113 (by
    rw [show ints [] = [] from rfl, List.append_nil pre]
    simp only [b113, lt_end, lt_self, List.append_nil, cond_false])
  | x :: suf, pre, hnd, hs, h => ob113 (by
    have hx := hs x List.mem_cons_self
    simp only [List.length_cons] at h
    have hxp : x ∉ pre := fun hp => by
      rw [List.nodup_append] at hnd
      exact hnd.2.2 x hp x List.mem_cons_self rfl
    have e1 : ints (pre ++ [x]) ++ ints suf = ints pre ++ (x : Int) :: ints suf := by rw [ints_app]; simp [ints]
    have e2 : pre ++ [x] ++ suf = pre ++ x :: suf := by simp
    have e3 : ints pre ++ [(x : Int)] = ints (pre ++ [x]) := by rw [ints_app]; rfl
    have ih := place_loop hN suf (pre ++ [x]) (by rw [e2]; exact hnd) (fun j hj => hs j (List.mem_cons_of_mem _ hj)) (by simp; omega)
    rw [e1, e2] at ih
    have hpl : (ints pre).length < 4611686018427387904 := by rw [ints_len]; omega
    have hg : nth (rowF N (posF pre)) x = some 0 := by rw [rowF_get _ hx, posF, if_neg hxp]
    have hset : setNth (rowF N (posF pre)) x (((ints (pre ++ [x])).length : Nat) : Int) = rowF N (posF (pre ++ [x])) := by
      rw [rowF_set, ints_len, List.length_append, List.length_singleton]
      exact rowF_congr fun j _ => (posF_snoc hxp j).symm
    have hol : (ints pre ++ (x : Int) :: ints suf).length = N := by rw [List.length_append, List.length_cons, ints_len, ints_len]; omega
    rw [ints_cons]
    simp only [b113, lt_mid, inb_mid, nth_mid, cond_true, Option.bind_some, df (show ¬ ((x : Int) < 0) by omega), hol, df (show ¬ ((x : Int) ≥ ((N : Nat) : Int)) by omega), cond_false]
    have hlt2 : decide ((((ints pre).length : Nat) : Int) < ((N : Nat) : Int)) = true := by rw [← hol]; exact lt_mid _ _ _
    have hin2 : inb (((ints pre).length : Nat) : Int) N = true := by rw [← hol]; exact inb_mid _ _ _
    simp only [hlt2, hin2, inb_nat, rowF_len, dt hx, cond_true, Int.toNat_natCast, hg, Option.bind_some, nbt (show (0 : Int) = 0 from rfl), cond_false, blt_t hx, next_mid (ints pre) (x : Int) hpl, e3, hset]
    first
      | exact ih
      | (rw [show decide ((ints pre).length < N) = true from dt (by rw [ints_len]; omega)]; simp only [cond_true]; exact ih))
theorem beh_loop {N : Nat} (P : Nat → Int) (i : Nat) (hi : i < N) : ∀ (suf pre : List Nat), (∀ k ∈ suf, k < N ∧ P k < P i) → pre.length + suf.length ≤ 1000 →
    k115 T.rb (rowF N P) (ints pre ++ ints suf) (i : Nat) ((ints pre).length : Nat) = some (.inr (rowF N P, ints pre ++ ints suf))
  | [], pre, hs, h => ob115 (by
    rw [show ints [] = [] from rfl]
    simp only [b115, lt_end, lt_self, List.append_nil, cond_false])
  | k :: suf, pre, hs, h => ob115 (by
    have hk := hs k List.mem_cons_self
    simp only [List.length_cons] at h
    have e1 : ints (pre ++ [k]) ++ ints suf = ints pre ++ (k : Int) :: ints suf := by rw [ints_app]; simp [ints]
    have e3 : ints pre ++ [(k : Int)] = ints (pre ++ [k]) := by rw [ints_app]; rfl
    have ih := beh_loop P i hi suf (pre ++ [k]) (fun j hj => hs j (List.mem_cons_of_mem _ hj)) (by simp; omega)
    rw [e1] at ih
    have hpl : (ints pre).length < 4611686018427387904 := by rw [ints_len]; omega
    rw [ints_cons]
    simp only [b115, lt_mid, inb_mid, nth_mid, cond_true, Option.bind_some]
    simp only [inb_nat, rowF_len, dt hk.1, dt hi, cond_true, Int.toNat_natCast, rowF_get P hk.1, rowF_get P hi, Option.bind_some, df (show ¬ (P k ≥ P i) by omega), cond_false, next_mid (ints pre) (k : Int) hpl, e3]
    exact ih)
theorem behind_loop {n : Nt} (hN : NetP n) (hl : n.1.length ≤ 1000) (P : Nat → Int) (hP : ∀ i, i < n.1.length → ∀ k ∈ LN n i, P k < P i) (h0 : LN n 0 = [] → 0 < n.1.length → P 0 = 1) : ∀ (m p : Nat), p + m = n.1.length →
    k114 T.rb n (rowF n.1.length P) (p : Nat) = some (.inr (n, rowF n.1.length P))
  | 0, p, h => ob114 (by
    simp only [b114]
    rw [df (by omega), cond_false])
  | m + 1, p, h => ob114 (by
    have hp : p < n.1.length := by omega
    have ih := behind_loop hN hl P hP h0 m (p + 1) (by omega)
    have hLl := LN_len n p
    have h4 := beh_loop P p hp (LN n p) [] (fun k hk => ⟨LN_lt hN hp k hk, hP p hp k hk⟩) (by simp only [List.length_nil]; omega)
    rw [show ints [] = [] from rfl, List.nil_append, List.length_nil, show ((0 : Nat) : Int) = (0 : Int) from rfl, ints_LN hN hp] at h4
    simp only [b114, dt (show ((p : Nat) : Int) < ((n.1.length : Nat) : Int) by omega), cond_true, inb_nat, dt hp, Int.toNat_natCast, opAtN_nth hp, Option.bind_some, refOps_eq (hN.kids p hp), h4, wr_succ (show p < 4611686018427387904 by omega)]
    by_cases hp0 : p = 0
    · subst hp0
      rw [bt (show ((0 : Nat) : Int) = 0 from rfl), cond_true]
      by_cases hL : LN n 0 = []
      · have hop : opsN (opAtN n 0) = [] := by rw [← ints_LN hN hp, hL]; rfl
        have hg : nth (rowF n.1.length P) 0 = some (P 0) := rowF_get P hp
        rw [hop, List.length_nil, bt (show ((0 : Nat) : Int) = 0 from rfl), cond_true, rowF_len, inb_t (by omega) (by omega), cond_true, hg, Option.bind_some, h0 hL hp, nbt rfl, cond_false]
        exact ih
      · have hop : (opsN (opAtN n 0)).length ≠ 0 := by
          rw [← ints_LN hN hp, ints_len]
          have := List.length_pos_iff.2 hL; omega
        rw [bf (by omega), cond_false]
        exact ih
    · rw [bf (by omega), cond_false]
      exact ih)
theorem greedy_ext {D : Nat → Nat → Bool} {n : Nat} : ∀ (f : Nat) (V : List Nat), ∃ W, greedy D n f V = V ++ W
  | 0, V => ⟨[], by rw [greedy, List.append_nil]⟩
  | f + 1, V => by
    rw [greedy]
    cases nextO D n V with
    | none => exact ⟨[], by simp⟩
    | some i =>
      obtain ⟨W, h⟩ := greedy_ext f (V ++ [i])
      exact ⟨i :: W, by show greedy D n f (V ++ [i]) = _; rw [h]; simp⟩
theorem first_first {n : Nt} (hN : NetP n) (hp : 0 < n.1.length) (hL : LN n 0 = []) : (gN n).idxOf 0 = 0 ∧ 0 ∈ gN n := by
  have hr : nextO (DN n) n.1.length [] = some 0 := next_spec.2 ⟨(rdyN_iff hN hp).2 ⟨by simp, by rw [WL_nil, hL]; rfl⟩, hp, fun j hj => by omega⟩
  obtain ⟨m, hm⟩ : ∃ m, n.1.length = m + 1 := ⟨n.1.length - 1, by omega⟩
  have hg : gN n = greedy (DN n) n.1.length m ([] ++ [0]) := by
    rw [gN]
    conv => lhs; arg 3; rw [hm]
    rw [greedy, hr]
  obtain ⟨W, hW⟩ := greedy_ext (D := DN n) (n := n.1.length) m ([] ++ [0])
  rw [hg, hW]
  exact ⟨by simp, by simp⟩
theorem SchedBehind_eq (n : Nt) : c74 T.rf n = some true := or74 (by
  simp only [r74, live_eq, Option.bind_some, SmallN_eq]
  cases hs : smallN n
  · rfl
  obtain ⟨h1, h2, h3⟩ := small_N hs
  rw [Bool.not_true, cond_false, Own_eq (by omega), Option.bind_some, OrderN_eq (by omega) (by omega), Option.bind_some]
  unfold ordN
  by_cases hc : chkN n = 0
  · have hm := (chk_may hc).1
    have hN := may_N hm
    have hlen := gN_len hc
    have hm1 : inb' (((ints (gN n)).length : Nat) : Int) most = true := inb'_t (by omega) (by rw [ints_len, show most = 274877906944 from rfl]; omega)
    have hm2 : inb' (((ints (gN n)).length : Nat) : Int) (ints (gN n)).length = true := inb'_t (by omega) (by omega)
    have h0 := place_loop (N := n.1.length) (by omega) (gN n) [] (by rw [List.nil_append]; exact val_nodup (gN_val n)) (val_lt (gN_val n)) (by simp; omega)
    rw [show ints [] = [] from rfl, List.nil_append, List.nil_append, List.length_nil, show ((0 : Nat) : Int) = (0 : Int) from rfl, show rowF n.1.length (posF []) = List.replicate n.1.length (0 : Int) from by rw [rowF_rep]; exact rowF_congr fun k _ => rfl] at h0
    have hb := behind_loop hN (by omega) (posF (gN n)) (fun i hi k hk => by
      have hk2 := LN_lt hN hi k hk
      have := val_idx (gN_val n) (chk_may hc).2 hi hk2 (dt hk)
      rw [posF, posF, if_pos (gN_all hc i hi), if_pos (gN_all hc k hk2)]; omega) (fun hL hp => by
      obtain ⟨a, b⟩ := first_first hN hp hL
      rw [posF, if_pos b, a]; rfl) n.1.length 0 (by omega)
    rw [show ((0 : Nat) : Int) = (0 : Int) from rfl] at hb
    rw [← hlen, ← ints_len (gN n)] at h0
    rw [if_pos hc]
    simp only [nbt (show (0 : Int) = 0 from rfl), cond_false, hm1, hm2, cond_true]
    rw [nbt (by rw [ints_len]; omega), cond_false, h0, Option.bind_some]
    rw [ints_len, hlen]
    simp only [hb, Option.bind_some]
  · rw [if_neg hc, nbf hc, cond_true]; rfl)
theorem lawSchedBehind : LawOk T 74 := fun d _ => ⟨true, SchedBehind_eq d, rfl, rfl, rfl⟩

/-! Ends. -/
theorem end_ge (n : Nt) (k : Nat) : ∀ (p q : Nat), q < p → k ∈ LN n q → (q : Int) ≤ endF n p k
  | 0, q, h, _ => by omega
  | p + 1, q, h, hk => by
    rw [endF]
    by_cases e : k ∈ LN n p
    · rw [if_pos e]; omega
    · rw [if_neg e]
      have : q ≠ p := fun x => e (x ▸ hk)
      exact end_ge n k p q (by omega) hk
theorem end_is (n : Nt) (k : Nat) : ∀ (p q : Nat), endF n p k = (q : Int) → k ∈ LN n q
  | 0, q, h => by rw [endF] at h; omega
  | p + 1, q, h => by
    rw [endF] at h
    by_cases e : k ∈ LN n p
    · rw [if_pos e] at h
      have : p = q := by omega
      exact this ▸ e
    · rw [if_neg e] at h
      exact end_is n k p q h
theorem nd_loop (i : Int) : ∀ (suf pre : List Int), pre.length + suf.length ≤ 1000000 →
    k118 T.rb (pre ++ suf) i (pre.length : Nat) = some (if i ∈ suf then .inl (pre ++ suf, true) else .inr (pre ++ suf))
  | [], pre, h => ob118 (by simp [b118, lt_self])
  | y :: suf, pre, h => ob118 (by
    simp only [List.length_cons] at h
    have ih := nd_loop i suf (pre ++ [y]) (by simp; omega)
    simp only [List.append_assoc, List.singleton_append] at ih
    simp only [b118, lt_mid, inb_mid, nth_mid, cond_true, Option.bind_some, next_mid pre y (by omega), ih]
    by_cases e : y = i
    · subst e; rw [bt rfl, cond_true]; simp
    · rw [bf e, cond_false]
      simp [Ne.symm e])
theorem nd_eq {n : Nt} (hN : NetP n) {k : Nat} (hk : k < n.1.length) (i : Nat) : c76 T.rf (opAtN n k) ((i : Nat) : Int) = some (decide (i ∈ LN n k)) := or76 (by
  have hl := opsN_len (opAtN n k)
  have h0 := nd_loop ((i : Nat) : Int) (opsN (opAtN n k)) [] (by simp; omega)
  rw [List.nil_append, List.length_nil, show ((0 : Nat) : Int) = (0 : Int) from rfl] at h0
  simp only [r76, refOps_eq (hN.kids k hk), Option.bind_some, h0]
  have hiff : ((i : Nat) : Int) ∈ opsN (opAtN n k) ↔ i ∈ LN n k := by
    rw [← ints_LN hN hk]
    constructor
    · intro h
      obtain ⟨j, hj, e⟩ := List.mem_map.1 h
      have : j = i := by omega
      exact this ▸ hj
    · intro h; exact List.mem_map.2 ⟨i, h, rfl⟩
  by_cases e : i ∈ LN n k
  · rw [if_pos (hiff.2 e), dt e]
  · rw [if_neg (fun x => e (hiff.1 x)), df e])
theorem ends2_loop {n : Nt} (hN : NetP n) (hl : n.1.length ≤ 1000) (i : Nat) (hi : i < n.1.length) : ∀ (m p : Nat), p + m = n.1.length →
    k117 T.rb n (rowF n.1.length (endF n n.1.length)) (i : Nat) (p : Nat) = some (.inr (n, rowF n.1.length (endF n n.1.length)))
  | 0, p, h => ob117 (by
    simp only [b117]
    rw [df (by omega), cond_false])
  | m + 1, p, h => ob117 (by
    have hp : p < n.1.length := by omega
    have ih := ends2_loop hN hl i hi m (p + 1) (by omega)
    have hge := end_ge n i n.1.length p hp
    have his := end_is n i n.1.length p
    simp only [b117, dt (show ((p : Nat) : Int) < ((n.1.length : Nat) : Int) by omega), cond_true, inb_nat, dt hp, dt hi, rowF_len, Int.toNat_natCast, opAtN_nth hp, Option.bind_some, nd_eq hN hp, rowF_get (endF n n.1.length) hi, wr_succ (show p < 4611686018427387904 by omega)]
    by_cases e : i ∈ LN n p
    · have := hge e
      rw [dt e, cond_true, df (show ¬ ((p : Nat) : Int) > endF n n.1.length i by omega), cond_false, Bool.not_true, cond_false]
      cases (((p : Nat) : Int) == endF n n.1.length i) <;> exact ih
    · rw [df e, cond_false, bf (fun x => e (his x.symm)), cond_false]
      exact ih)
theorem ends0_loop {n : Nt} (hN : NetP n) (hl : n.1.length ≤ 1000) : ∀ (m p : Nat), p + m = n.1.length →
    k116 T.rb n (rowF n.1.length (endF n n.1.length)) (p : Nat) = some (.inr (n, rowF n.1.length (endF n n.1.length)))
  | 0, p, h => ob116 (by
    simp only [b116]
    rw [df (by omega), cond_false])
  | m + 1, p, h => ob116 (by
    have ih := ends0_loop hN hl m (p + 1) (by omega)
    have h2 := ends2_loop hN hl p (by omega) n.1.length 0 (by omega)
    rw [show ((0 : Nat) : Int) = (0 : Int) from rfl] at h2
    simp only [b116, dt (show ((p : Nat) : Int) < ((n.1.length : Nat) : Int) by omega), cond_true, h2, Option.bind_some, wr_succ (show p < 4611686018427387904 by omega)]
    exact ih)
theorem SchedEnds_eq (n : Nt) : c75 T.rf n = some true := or75 (by
  simp only [r75, live_eq, Option.bind_some, SmallN_eq]
  cases hs : smallN n
  · rfl
  obtain ⟨h1, h2, h3⟩ := small_N hs
  rw [Bool.not_true, cond_false, Own_eq (by omega), Option.bind_some, SortN_eq (by omega) (by omega) (by omega), Option.bind_some]
  by_cases hc : chkN n = 0
  · have hl := sort_len hc
    obtain ⟨h4, h5⟩ := sort_small hc
    rw [if_pos hc, nbt rfl, cond_false]
    show (c58 T.rf (sortN n)).bind _ = _
    rw [Told_eq (by omega), Option.bind_some]
    show (c42 T.rf (sortN n)).bind _ = _
    rw [EndsN_eq (by omega) (by omega), Option.bind_some, endsN, if_pos (sort_isN hc), rowF_len, nbt rfl, cond_false]
    have h0 := ends0_loop (may_N (sort_may hc)) (by omega) (sortN n).1.length 0 (by omega)
    rw [show ((0 : Nat) : Int) = (0 : Int) from rfl] at h0
    rw [h0, Option.bind_some]
  · rw [if_neg hc, nbf hc, cond_true])
theorem lawSchedEnds : LawOk T 75 := fun d _ => ⟨true, SchedEnds_eq d, rfl, rfl, rfl⟩

end Go.Proofs.Ytcdjidfdjlejdaa.R
