/-
  OUR OWN: the order of a net's operators: the program's walk.
-/
import Derived.Test.YtanomapnincmoaaSchG
namespace Go.Proofs.Ytanomapnincmoaa.R
open Go Go.Bm Go.Proofs
set_option linter.unusedVariables false
set_option linter.unusedSimpArgs false
set_option maxRecDepth 4000

/-! What an operator needs. -/
def posB (k : Int) : Bool := !(decide (k < 0))
theorem neg_eq (k : Int) : c27 T.rf k = some (decide (k < 0)) := or27 rfl
theorem idx_loop : ∀ (suf pre : List Int), pre.length + suf.length ≤ 1000000 →
    ∃ z, k15 T.rb (pre ++ suf) ((pre ++ suf).length : Nat) (pre.length : Nat) = some z ∧ (match z with
      | .inl j => j.1 = pre ++ suf ∧ ∃ A x B, suf = A ++ x :: B ∧ x < 0 ∧ A.all posB = true ∧ j.2 = ((pre.length + A.length : Nat) : Int)
      | .inr j => j = pre ++ suf ∧ suf.all posB = true)
  | [], pre, h => ⟨.inr (pre ++ []), ob15 (by simp only [b15, lt_end, lt_self, List.append_nil, cond_false]), rfl, rfl⟩
  | k :: suf, pre, h => by
    simp only [List.length_cons] at h
    obtain ⟨z, ih, hz⟩ := idx_loop suf (pre ++ [k]) (by simp; omega)
    simp only [List.append_assoc, List.singleton_append] at ih hz
    by_cases hk : k < 0
    · refine ⟨.inl (pre ++ k :: suf, (pre.length : Nat)), ob15 ?_, rfl, [], k, suf, rfl, hk, rfl, rfl⟩
      simp only [b15, lt_mid, inb_mid, nth_mid, cond_true, Option.bind_some, neg_eq, dt hk]
    · refine ⟨z, ob15 ?_, ?_⟩
      · simp only [b15, lt_mid, inb_mid, nth_mid, cond_true, cond_false, Option.bind_some, neg_eq, df hk, next_mid pre k (by omega)]
        exact ih
      · cases z with
        | inl j =>
          obtain ⟨h1, A, x, B, h2, h3, h4, h5⟩ := hz
          refine ⟨h1, k :: A, x, B, by rw [h2]; rfl, h3, ?_, ?_⟩
          · rw [List.all_cons, h4, posB, df hk]; rfl
          · rw [h5, List.length_append, List.length_singleton, List.length_cons]; congr 1; omega
        | inr j => exact ⟨hz.1, by rw [List.all_cons, hz.2, posB, df hk]; rfl⟩
theorem del_loop : ∀ (suf F G : List Int), G ≠ [] → F.length + G.length + suf.length ≤ 1000000 →
    ∃ L, k16 T.rb (F ++ G ++ suf) (F.length : Nat) ((F ++ G).length : Nat) = some (L, (((F ++ suf.filter posB).length : Nat) : Int)) ∧ L.take (F ++ suf.filter posB).length = F ++ suf.filter posB ∧ (F ++ suf.filter posB).length ≤ L.length
  | [], F, G, hG, h => ⟨F ++ G, ob16 (by
      rw [List.filter_nil, List.append_nil F]
      simp only [b16, lt_end, lt_self, List.append_nil, cond_false]), by simp, by simp⟩
  | k :: suf, F, G, hG, h => by
    simp only [List.length_cons] at h
    by_cases hk : k < 0
    · obtain ⟨L, hL, h1, h2⟩ := del_loop suf F (G ++ [k]) (by simp) (by simp; omega)
      have e1 : F ++ (G ++ [k]) ++ suf = F ++ G ++ k :: suf := by simp
      have e2 : (F ++ (G ++ [k])).length = (F ++ G ++ [k]).length := by simp
      rw [e1, e2] at hL
      have hf : (k :: suf).filter posB = suf.filter posB := List.filter_cons_of_neg (by simp [posB, hk])
      rw [hf]
      refine ⟨L, ob16 ?_, h1, h2⟩
      simp only [b16, lt_mid, inb_mid, nth_mid, cond_true, Option.bind_some, neg_eq, dt hk, Bool.not_true, cond_false, next_mid (F ++ G) k (by simp; omega)]
      exact hL
    · obtain ⟨g, G', rfl⟩ := List.exists_cons_of_ne_nil hG
      simp only [List.length_cons] at h
      obtain ⟨L, hL, h1, h2⟩ := del_loop suf (F ++ [k]) (G' ++ [k]) (by simp) (by simp; omega)
      have e1 : (F ++ [k]) ++ (G' ++ [k]) ++ suf = F ++ k :: (G' ++ k :: suf) := by simp
      have e2 : ((F ++ [k]) ++ (G' ++ [k])).length = (F ++ g :: G' ++ [k]).length := by simp <;> omega
      rw [e1, e2] at hL
      have hf : F ++ (k :: suf).filter posB = F ++ [k] ++ suf.filter posB := by
        rw [List.filter_cons_of_pos (by simp [posB, hk])]; simp
      rw [hf]
      refine ⟨L, ob16 ?_, h1, h2⟩
      have hset : setNth (F ++ g :: G' ++ k :: suf) F.length k = F ++ k :: (G' ++ k :: suf) := by
        rw [setNth_set, List.append_assoc]; simp
      have hin : F.length < (F ++ g :: G' ++ k :: suf).length := by simp <;> omega
      simp only [b16, lt_mid, inb_mid, nth_mid, cond_true, Option.bind_some, neg_eq, df hk, Bool.not_false, next_mid (F ++ g :: G') k (by simp; omega)]
      simp only [inb_nat, dt hin, cond_true, Int.toNat_natCast, blt_t hin, hset, wr_succ (show F.length < 4611686018427387904 by omega)]
      rw [show F.length + 1 = (F ++ [k]).length by simp]
      exact hL
def outS : List Int ⊕ List Int → List Int
  | .inl u => u
  | .inr w => w
theorem filter_all {l : List Int} (h : l.all posB = true) : l.filter posB = l := List.filter_eq_self.2 fun a ha => List.all_eq_true.1 h a ha
theorem Delete_eq {l : List Int} (hl : l.length ≤ 1000000) : ∃ z, c25 T.rf l = some z ∧ outS z = l.filter posB := by
  obtain ⟨y, h0, hy⟩ := idx_loop l [] (by simpa using hl)
  rw [List.nil_append, List.length_nil, show ((0 : Nat) : Int) = (0 : Int) from rfl] at h0
  rw [List.nil_append] at hy
  cases y with
  | inr j =>
    obtain ⟨e1, h1⟩ := hy
    have hI : c26 T.rf l = some (l, -1) := or26 (by
      simp only [r26, h0, Option.bind_some, e1])
    exact ⟨.inl l, or25 (by simp only [r25, hI, Option.bind_some]; rfl), (filter_all h1).symm⟩
  | inl j =>
    obtain ⟨e1, A, x, B, e2, hx, hA, e3⟩ := hy
    rw [List.length_nil, Nat.zero_add] at e3
    have hI : c26 T.rf l = some (l, ((A.length : Nat) : Int)) := or26 (by
      simp only [r26, h0, Option.bind_some]
      rw [← e3, ← e1])
    have hll : l.length = A.length + (B.length + 1) := by rw [e2]; simp
    obtain ⟨L, hL, t1, t2⟩ := del_loop B A [x] (by simp) (by simp; omega)
    have hf : l.filter posB = A ++ B.filter posB := by
      rw [e2, List.filter_append, filter_all hA, List.filter_cons_of_neg (by simp [posB, hx])]
    rw [← hf] at hL t1 t2
    rw [show A ++ [x] ++ B = l by rw [e2]; simp, show (A ++ [x]).length = A.length + 1 by simp] at hL
    generalize hP : l.filter posB = P at *
    have hn : ((A.length : Nat) : Int) ≠ -1 := by omega
    refine ⟨.inr P, or25 ?_, rfl⟩
    have hrl : (List.replicate (L.length - P.length) (0 : Int)).length = L.length - P.length := List.length_replicate
    simp only [r25, hI, Option.bind_some, bf hn, cond_false, wr_succ (show A.length < 4611686018427387904 by omega), hL, inb'_nat, dt t2, cond_true, Int.toNat_natCast, hrl, ble_t (show P.length + (L.length - P.length) ≤ L.length by omega), Nat.sub_zero, sub_zero]
    have hlen : (L.take P.length ++ List.replicate (L.length - P.length) (0 : Int) ++ L.drop (P.length + (L.length - P.length))).length = L.length := by simp; omega
    rw [hlen, dt t2, cond_true]
    congr 2
    rw [List.append_assoc, List.take_append_of_le_length (by rw [List.length_take]; omega), List.take_take, Nat.min_self, t1]

theorem flds_split (x : Od) : usedN x ++ restN x = flds x := List.take_append_drop _ _
theorem needsN_eq {n : Nt} (h : mayN n = true) {i : Nat} (hi : i < n.1.length) : c24 T.rf (opAtN n i) = some (ints (LN n i)) := or24 (by
  have hN := may_N h
  rw [ints_LN hN hi]
  simp only [r24]
  unfold opsN
  by_cases hp : (opAtN n i).1 = 21
  · rw [bt hp, cond_true, if_pos hp]
  · rw [bf hp, cond_false, if_neg hp]
    obtain ⟨z, hz, ho⟩ := Delete_eq (l := flds (opAtN n i)) (by simp [flds])
    have hrest : ∀ k ∈ restN (opAtN n i), k = -1 := fun k hk => by
      rw [mayN, Bool.and_eq_true, List.all_eq_true] at h
      have := h.1 _ (opAtN_mem hi)
      rw [mayO, Bool.and_eq_true, Bool.and_eq_true, Bool.and_eq_true, List.all_eq_true, List.all_eq_true] at this
      exact of_decide_eq_true (this.2.2.1 k hk)
    have hused : ∀ k ∈ usedN (opAtN n i), 0 ≤ k := fun k hk => (hN.ops i hi k (by rw [opsN, if_neg hp]; exact hk)).1
    have hf : (flds (opAtN n i)).filter posB = usedN (opAtN n i) := by
      rw [← flds_split, List.filter_append, filter_all (List.all_eq_true.2 fun k hk => by have := hused k hk; rw [posB, df (by omega)]; rfl), List.filter_eq_nil_iff.2 (fun k hk => by rw [hrest k hk]; decide), List.append_nil]
    rw [hf] at ho
    show (c25 T.rf (flds (opAtN n i))).bind _ = _
    rw [hz, Option.bind_some]
    cases z with
    | inl u => exact congrArg some ho
    | inr w => exact congrArg some ho)

/-! For how many an operator waits, and which ones wait for it. -/
def WL (n : Nt) (V : List Nat) (k : Nat) : Nat := ((LN n k).filter fun j => !(decide (j ∈ V))).length
def FRp (n : Nt) (i : Nat) : Nat → List Nat
  | 0 => []
  | p + 1 => FRp n i p ++ List.replicate ((LN n p).count i) p
theorem FRp_lt (n : Nt) (i : Nat) : ∀ (p : Nat), ∀ k ∈ FRp n i p, k < p ∧ i ∈ LN n k
  | 0, k, h => by simp [FRp] at h
  | p + 1, k, h => by
    rcases List.mem_append.1 h with a | a
    · have := FRp_lt n i p k a; exact ⟨by omega, this.2⟩
    · obtain ⟨a, b⟩ := List.mem_replicate.1 a
      subst b
      exact ⟨by omega, List.count_pos_iff.1 (by omega)⟩
theorem FRp_count (n : Nt) (i : Nat) : ∀ (p k : Nat), (FRp n i p).count k = if k < p then (LN n k).count i else 0
  | 0, k => by simp [FRp]
  | p + 1, k => by
    rw [FRp, List.count_append, FRp_count n i p k, List.count_replicate]
    by_cases h : k < p
    · rw [if_pos h, if_neg (by simp; omega), if_pos (by omega)]; rfl
    · rw [if_neg h]
      by_cases e : p = k
      · subst e; rw [if_pos (by simp), if_pos (by omega)]; simp
      · rw [if_neg (by simpa using e), if_neg (by omega)]
theorem FRp_len (n : Nt) (i : Nat) : ∀ (p : Nat), (FRp n i p).length ≤ 3 * p
  | 0 => by simp [FRp]
  | p + 1 => by
    have := FRp_len n i p
    have h2 : (LN n p).count i ≤ (LN n p).length := List.count_le_length
    have h3 := LN_len n p
    rw [FRp, List.length_append, List.length_replicate]; omega
theorem WL_nil (n : Nt) (k : Nat) : WL n [] k = (LN n k).length := by
  rw [WL, List.filter_eq_self.2 (fun a _ => by simp)]
theorem WL_zero {n : Nt} {V : List Nat} {k : Nat} : WL n V k = 0 ↔ ∀ j ∈ LN n k, j ∈ V := by
  rw [WL, List.length_eq_zero_iff, List.filter_eq_nil_iff]
  exact ⟨fun h j hj => by simpa using h j hj, fun h j hj => by simp [h j hj]⟩
theorem WL_step {n : Nt} {V : List Nat} {i : Nat} (h : i ∉ V) (k : Nat) : WL n (V ++ [i]) k + (LN n k).count i = WL n V k := by
  rw [WL, WL]
  induction LN n k with
  | nil => rfl
  | cons j r ih =>
    by_cases e : j = i
    · subst e
      rw [List.filter_cons_of_neg (by simp), List.filter_cons_of_pos (by simp [h]), List.count_cons_self, List.length_cons]; omega
    · rw [List.count_cons_of_ne e]
      by_cases hv : j ∈ V
      · rw [List.filter_cons_of_neg (by simp [hv]), List.filter_cons_of_neg (by simp [hv])]; exact ih
      · rw [List.filter_cons_of_pos (by simp [hv, e]), List.filter_cons_of_pos (by simp [hv]), List.length_cons, List.length_cons]; omega
theorem WL_le (n : Nt) (V : List Nat) (k : Nat) : WL n V k ≤ 3 := Nat.le_trans (List.length_filter_le _ _) (LN_len n k)
theorem rdyN_iff {n : Nt} (hN : NetP n) {V : List Nat} {k : Nat} (hk : k < n.1.length) : rdy (DN n) n.1.length V k = true ↔ k ∉ V ∧ WL n V k = 0 := by
  rw [rdy_iff, WL_zero]
  refine and_congr_right fun _ => ⟨fun h j hj => h j (LN_lt hN hk j hj) (dt hj), fun h j _ hd => h j (of_decide_eq_true hd)⟩

def wG (n : Nt) (V pre : List Nat) (k : Nat) : Int := (WL n V k : Int) - ((pre.count k : Nat) : Int)
theorem free_loop {n : Nt} {V : List Nat} {i : Nat} (hV : Val (DN n) n.1.length V) (hr : rdy (DN n) n.1.length V i = true) (hi : i < n.1.length) (hn : n.1.length ≤ 1000) :
    ∀ (suf pre : List Nat) (h : List Int), (∀ k ∈ suf, k < n.1.length ∧ DN n k i = true) → (∀ k ∈ pre, k < n.1.length) → (∀ k, (pre ++ suf).count k ≤ WL n V k) → pre.length + suf.length ≤ 10000 →
      HeapOf h (fun j => (j < n.1.length ∧ rdy (DN n) n.1.length V j = true ∧ j ≠ i) ∨ (j ∈ pre ∧ WL n V j = pre.count j)) →
      ∃ h', k39 T.rb (rowF n.1.length (wG n V pre)) h (ints pre ++ ints suf) ((ints pre ++ ints suf).length : Nat) ((ints pre).length : Nat) = some (rowF n.1.length (wG n V (pre ++ suf)), h')
        ∧ HeapOf h' (fun j => (j < n.1.length ∧ rdy (DN n) n.1.length V j = true ∧ j ≠ i) ∨ (j ∈ pre ++ suf ∧ WL n V j = (pre ++ suf).count j))
  | [], pre, h, hs, hp, hc, hlen, H => by
    refine ⟨h, ob39 ?_, by rw [List.append_nil]; exact H⟩
    rw [show ints [] = [] from rfl, List.append_nil pre]
    simp only [b39, lt_end, lt_self, List.append_nil, cond_false]
  | k :: suf, pre, h, hs, hp, hc, hlen, H => by
    have hk := hs k List.mem_cons_self
    simp only [List.length_cons] at hlen
    have hvn := val_next hV hr hi k hk.1 hk.2
    have hw3 := WL_le n V k
    have hck := hc k
    rw [List.count_append, List.count_cons_self] at hck
    have hcs : (pre ++ [k]).count k = pre.count k + 1 := by rw [List.count_append]; simp
    have hco : ∀ j, j ≠ k → (pre ++ [k]).count j = pre.count j := fun j e => by rw [List.count_append, List.count_cons_of_ne (Ne.symm e)]; simp
    have hval : IntKind.i64.wrap (wG n V pre k - 1) = wG n V (pre ++ [k]) k := by rw [wG, wG, hcs, wr (by omega)]; omega
    have hset : setNth (rowF n.1.length (wG n V pre)) k (wG n V (pre ++ [k]) k) = rowF n.1.length (wG n V (pre ++ [k])) := by
      rw [rowF_set]
      refine rowF_congr fun j _ => ?_
      by_cases e : j = k
      · rw [if_pos e, e]
      · rw [if_neg e, wG, wG, hco j e]
    have e1 : ints (pre ++ [k]) ++ ints suf = ints pre ++ (k : Int) :: ints suf := by rw [ints_app]; simp [ints]
    have e2 : pre ++ [k] ++ suf = pre ++ k :: suf := by simp
    have e3 : ints pre ++ [(k : Int)] = ints (pre ++ [k]) := by rw [ints_app]; rfl
    have hhl : h.length ≤ n.1.length := heapOf_len H fun j hj => by
      rcases hj with a | a
      · exact a.1
      · exact hp j a.1
    have hpl : (ints pre).length < 4611686018427387904 := by rw [ints_len]; omega
    have hp2 : ∀ j ∈ pre ++ [k], j < n.1.length := fun j hj => by
      rcases List.mem_append.1 hj with a | a
      · exact hp j a
      · rw [List.mem_singleton.1 a]; exact hk.1
    have hnotk : ¬ ((k < n.1.length ∧ rdy (DN n) n.1.length V k = true ∧ k ≠ i) ∨ (k ∈ pre ∧ WL n V k = pre.count k)) := fun x => by
      rcases x with a | a
      · rw [hvn.2.2] at a; exact absurd a.2.1 (by decide)
      · omega
    have go := fun h' H' => free_loop hV hr hi hn suf (pre ++ [k]) h' (fun j hj => hs j (List.mem_cons_of_mem _ hj)) hp2 (by rw [e2]; exact hc) (by simp; omega) H'
    rw [e1, e2] at go
    by_cases hz : WL n V k = (pre ++ [k]).count k
    · obtain ⟨h2, hP, H2⟩ := heapOf_push (k := k) H hnotk (by omega)
      obtain ⟨h3, hrun, H3⟩ := go h2 (heapOf_congr H2 fun j => by
        by_cases e : j = k
        · subst e
          exact ⟨fun _ => Or.inr ⟨by simp, hz⟩, fun _ => Or.inr rfl⟩
        · rw [hco j e]
          constructor
          · rintro (a | a)
            · exact a.imp id (fun b => ⟨List.mem_append_left _ b.1, b.2⟩)
            · exact absurd a e
          · rintro (a | ⟨a, b⟩)
            · exact Or.inl (Or.inl a)
            · rcases List.mem_append.1 a with c | c
              · exact Or.inl (Or.inr ⟨c, b⟩)
              · exact absurd (List.mem_singleton.1 c) e)
      refine ⟨h3, ob39 ?_, H3⟩
      rw [ints_cons]
      simp only [b39, lt_mid, inb_mid, nth_mid, cond_true, Option.bind_some]
      simp only [cond_true, Option.bind_some, inb_nat, rowF_len, dt hk.1, Int.toNat_natCast, rowF_get _ hk.1, blt_t hk.1, hval, hset, bt (show wG n V (pre ++ [k]) k = 0 by rw [wG]; omega), hP, next_mid (ints pre) (k : Int) hpl, e3]
      exact hrun
    · obtain ⟨h3, hrun, H3⟩ := go h (heapOf_congr H fun j => by
        by_cases e : j = k
        · subst e
          exact ⟨fun a => absurd a hnotk, fun a => a.elim (fun b => absurd (Or.inl b) hnotk) (fun b => absurd b.2 hz)⟩
        · rw [hco j e]
          constructor
          · rintro (a | a)
            · exact Or.inl a
            · exact Or.inr ⟨List.mem_append_left _ a.1, a.2⟩
          · rintro (a | ⟨a, b⟩)
            · exact Or.inl a
            · rcases List.mem_append.1 a with c | c
              · exact Or.inr ⟨c, b⟩
              · exact absurd (List.mem_singleton.1 c) e)
      refine ⟨h3, ob39 ?_, H3⟩
      rw [ints_cons]
      simp only [b39, lt_mid, inb_mid, nth_mid, cond_true, Option.bind_some]
      simp only [cond_true, cond_false, Option.bind_some, inb_nat, rowF_len, dt hk.1, Int.toNat_natCast, rowF_get _ hk.1, blt_t hk.1, hval, hset, bf (show wG n V (pre ++ [k]) k ≠ 0 by rw [wG]; omega), next_mid (ints pre) (k : Int) hpl, e3]
      exact hrun

theorem main_loop {n : Nt} (hN : NetP n) (hn : n.1.length ≤ 1000) : ∀ (f : Nat) (V : List Nat) (h : List Int), Val (DN n) n.1.length V → n.1.length ≤ V.length + f → HeapOf h (fun j => j < n.1.length ∧ rdy (DN n) n.1.length V j = true) →
    ∃ w h', k38 T.rb (rowF n.1.length fun k => ((WL n V k : Nat) : Int)) (ints V) h (rowF n.1.length fun k => ints (FRp n k n.1.length)) = some (w, ints (greedy (DN n) n.1.length f V), h') := by
  intro f V h hV hf H
  have hhl : h.length ≤ n.1.length := heapOf_len H fun j hj => hj.1
  have hvl := val_len hV
  have none_stop : nextO (DN n) n.1.length V = none → ∃ w h', k38 T.rb (rowF n.1.length fun k => ((WL n V k : Nat) : Int)) (ints V) h (rowF n.1.length fun k => ints (FRp n k n.1.length)) = some (w, ints V, h') := fun hno => by
    have he : h = [] := List.eq_nil_iff_forall_not_mem.2 fun x hx => by
      obtain ⟨j, _, hj, hr⟩ := (H.2.2 x).1 hx
      rw [next_none.1 hno j hj] at hr; exact absurd hr (by decide)
    subst he
    exact ⟨_, _, ob38 (by simp only [b38]; rfl)⟩
  match f, hf with
  | 0, hf => rw [greedy]; exact none_stop (next_full hV (by omega))
  | f + 1, hf =>
    rw [greedy]
    cases hnx : nextO (DN n) n.1.length V with
    | none => exact none_stop hnx
    | some i =>
      have hs := next_spec.1 hnx
      have hne : h ≠ [] := fun e => by
        have := (H.2.2 ((i : Nat) : Int)).2 ⟨i, rfl, hs.2.1, hs.1⟩
        rw [e] at this; simp at this
      obtain ⟨h1, i', hP, hS, hmin, H1⟩ := heapOf_pop H hne (by omega)
      have hii : i' = i := by
        have a := hmin i ⟨hs.2.1, hs.1⟩
        rcases Nat.lt_or_ge i' i with b | b
        · rw [hs.2.2 i' b] at hS; exact absurd hS.2 (by decide)
        · omega
      subst hii
      have hpos := List.length_pos_iff.2 hne
      have hiV := (rdy_iff.1 hs.1).1
      have hfl := FRp_len n i' n.1.length
      obtain ⟨h2, hrun, H2⟩ := free_loop hV hs.1 hs.2.1 hn (FRp n i' n.1.length) [] h1 (fun k hk => by
        have := FRp_lt n i' _ k hk; exact ⟨this.1, dt this.2⟩) (fun k hk => by simp at hk) (fun k => by
        rw [List.nil_append, FRp_count]
        have := WL_step (n := n) hiV k
        split <;> omega) (by simp only [List.length_nil]; omega) (heapOf_congr H1 fun j => by
          constructor
          · rintro ⟨⟨a, b⟩, c⟩; exact Or.inl ⟨a, b, c⟩
          · rintro (⟨a, b, c⟩ | ⟨a, _⟩)
            · exact ⟨⟨a, b⟩, c⟩
            · simp at a)
      rw [List.nil_append] at hrun H2
      rw [show ints [] = [] from rfl, List.nil_append, List.length_nil, show ((0 : Nat) : Int) = (0 : Int) from rfl] at hrun
      have hw0 : (rowF n.1.length fun k => ((WL n V k : Nat) : Int)) = rowF n.1.length (wG n V []) := rowF_congr fun k _ => by simp [wG]
      have hw1 : rowF n.1.length (wG n V (FRp n i' n.1.length)) = rowF n.1.length fun k => ((WL n (V ++ [i']) k : Nat) : Int) := rowF_congr fun k hk => by
        have := WL_step (n := n) hiV k
        rw [wG, FRp_count, if_pos hk]; omega
      obtain ⟨w, h3, hrun2⟩ := main_loop hN hn f (V ++ [i']) h2 (Val.snoc hV hs.2.1 hs.1) (by simp; omega) (heapOf_congr H2 fun j => by
        have hws := WL_step (n := n) hiV j
        constructor
        · rintro (⟨a, b, c⟩ | ⟨a, b⟩)
          · have b2 := (rdyN_iff hN a).1 b
            exact ⟨a, (rdyN_iff hN a).2 ⟨by simp [b2.1, c], by omega⟩⟩
          · have hj := FRp_lt n i' _ j a
            rw [FRp_count, if_pos hj.1] at b
            have v := val_next hV hs.1 hs.2.1 j hj.1 (dt hj.2)
            exact ⟨hj.1, (rdyN_iff hN hj.1).2 ⟨by simp [v.1, v.2.1], by omega⟩⟩
        · rintro ⟨a, b⟩
          have b2 := (rdyN_iff hN a).1 b
          have b3 : j ∉ V ∧ j ≠ i' := by simpa using b2.1
          by_cases hd : i' ∈ LN n j
          · refine Or.inr ⟨?_, by rw [FRp_count, if_pos a]; omega⟩
            refine List.count_pos_iff.1 ?_
            rw [FRp_count, if_pos a]
            exact List.count_pos_iff.2 hd
          · have hc0 : (LN n j).count i' = 0 := List.count_eq_zero.2 hd
            exact Or.inl ⟨a, (rdyN_iff hN a).2 ⟨b3.1, by omega⟩, b3.2⟩)
      refine ⟨w, h3, ob38 ?_⟩
      have hfr : nth (rowF n.1.length fun k => ints (FRp n k n.1.length)) i' = some (ints (FRp n i' n.1.length)) := rowF_get _ hs.2.1
      simp only [b38, dt (show ((h.length : Nat) : Int) > 0 by omega), cond_true, hP, Option.bind_some, ints_len, ble_most (show V.length + 1 ≤ 274877906944 by omega), Bool.and_true, inb_nat, rowF_len, dt hs.2.1, Int.toNat_natCast, hfr]
      rw [hw0]
      rw [ints_len] at hrun
      rw [hrun, Option.bind_some, hw1, show ints V ++ [((i' : Nat) : Int)] = ints (V ++ [i']) from by rw [ints_app]; rfl]
      exact hrun2

theorem need_loop {N p : Nat} (hp : p < N) (w : Nat → Int) (g : Nat → List Nat) (hg : ∀ k, (g k).length ≤ 1000000) : ∀ (suf pre : List Nat), (∀ k ∈ suf, k < N) → pre.length + suf.length ≤ 1000 →
    k37 T.rb (rowF N fun j => if j = p then ((pre.length : Nat) : Int) else w j) (rowF N fun k => ints (g k ++ List.replicate (pre.count k) p)) (ints pre ++ ints suf) (p : Nat) ((ints pre ++ ints suf).length : Nat) ((ints pre).length : Nat)
      = some (rowF N (fun j => if j = p then (((pre ++ suf).length : Nat) : Int) else w j), rowF N (fun k => ints (g k ++ List.replicate ((pre ++ suf).count k) p)), ints pre ++ ints suf)
  | [], pre, hs, hl => ob37 (by
    rw [show ints [] = [] from rfl, List.append_nil pre]
    simp only [b37, lt_end, lt_self, List.append_nil, cond_false])
  | k :: suf, pre, hs, hl => ob37 (by
    have hk := hs k List.mem_cons_self
    simp only [List.length_cons] at hl
    have e1 : ints (pre ++ [k]) ++ ints suf = ints pre ++ (k : Int) :: ints suf := by rw [ints_app]; simp [ints]
    have e2 : pre ++ [k] ++ suf = pre ++ k :: suf := by simp
    have e3 : ints pre ++ [(k : Int)] = ints (pre ++ [k]) := by rw [ints_app]; rfl
    have ih := need_loop hp w g hg suf (pre ++ [k]) (fun j hj => hs j (List.mem_cons_of_mem _ hj)) (by simp; omega)
    rw [e1, e2] at ih
    have hpl : (ints pre).length < 4611686018427387904 := by rw [ints_len]; omega
    have hcl : pre.count k ≤ pre.length := List.count_le_length
    have hgl := hg k
    have hlen : (ints (g k ++ List.replicate (pre.count k) p)).length + 1 ≤ 274877906944 := by rw [ints_len, List.length_append, List.length_replicate]; omega
    have hgk : nth (rowF N fun k => ints (g k ++ List.replicate (pre.count k) p)) k = some (ints (g k ++ List.replicate (pre.count k) p)) := rowF_get _ hk
    have hgp : nth (rowF N fun j => if j = p then ((pre.length : Nat) : Int) else w j) p = some ((pre.length : Nat) : Int) := by rw [rowF_get _ hp, if_pos rfl]
    have hs1 : setNth (rowF N fun j => if j = p then ((pre.length : Nat) : Int) else w j) p (IntKind.i64.wrap (((pre.length : Nat) : Int) + 1)) = rowF N fun j => if j = p then (((pre ++ [k]).length : Nat) : Int) else w j := by
      rw [rowF_set]
      refine rowF_congr fun j _ => ?_
      by_cases e : j = p
      · rw [if_pos e, if_pos e, wr_succ (by omega)]; simp
      · rw [if_neg e, if_neg e, if_neg e]
    have hs2 : setNth (rowF N fun k => ints (g k ++ List.replicate (pre.count k) p)) k (ints (g k ++ List.replicate (pre.count k) p) ++ [(p : Int)]) = rowF N fun q => ints (g q ++ List.replicate ((pre ++ [k]).count q) p) := by
      rw [rowF_set]
      refine rowF_congr fun j _ => ?_
      by_cases e : j = k
      · subst e
        rw [if_pos rfl, List.count_append, List.count_singleton_self, List.replicate_succ', ← List.append_assoc, ints_app (g j ++ _)]; rfl
      · rw [if_neg e, List.count_append, List.count_cons_of_ne (Ne.symm e)]; simp
    rw [ints_cons]
    simp only [b37, lt_mid, inb_mid, nth_mid, cond_true, Option.bind_some]
    simp only [cond_true, Option.bind_some, inb_nat, rowF_len, dt hk, dt hp, Int.toNat_natCast, hgk, hgp, ble_most hlen, Bool.and_true, blt_t hk, blt_t hp, Nat.beq_refl, Bool.true_and, hs1, hs2, next_mid (ints pre) (k : Int) hpl, e3]
    exact ih)

theorem second_loop {n : Nt} (hm : mayN n = true) (hn : n.1.length ≤ 1000) : ∀ (m p : Nat) (h : List Int), p + m = n.1.length → HeapOf h (fun j => j < p ∧ LN n j = []) →
    ∃ h', k36 T.rb (rowF n.1.length fun j => if j < p then (((LN n j).length : Nat) : Int) else 0) (rowF n.1.length fun k => ints (FRp n k p)) h n.1 (n.1.length : Nat) (p : Nat)
        = some (rowF n.1.length (fun j => (((LN n j).length : Nat) : Int)), rowF n.1.length (fun k => ints (FRp n k n.1.length)), h')
      ∧ HeapOf h' (fun j => j < n.1.length ∧ LN n j = [])
  | 0, p, h, hp, H => by
    have : p = n.1.length := by omega
    subst this
    refine ⟨h, ob36 ?_, H⟩
    simp only [b36, lt_self, cond_false]
    rw [show (rowF n.1.length fun j => if j < n.1.length then (((LN n j).length : Nat) : Int) else 0) = rowF n.1.length (fun j => (((LN n j).length : Nat) : Int)) from rowF_congr fun j hj => if_pos hj]
  | m + 1, p, h, hp, H => by
    have hN := may_N hm
    have hpl : p < n.1.length := by omega
    have hLl := LN_len n p
    have h2 := need_loop hpl (fun j => if j < p then (((LN n j).length : Nat) : Int) else 0) (fun k => FRp n k p) (fun k => by have := FRp_len n k p; omega) (LN n p) [] (LN_lt hN hpl) (by simp only [List.length_nil]; omega)
    rw [show ints [] = [] from rfl, List.nil_append, List.nil_append, List.length_nil, List.length_nil, show ((0 : Nat) : Int) = (0 : Int) from rfl] at h2
    have a1 : (rowF n.1.length fun j => if j = p then (0 : Int) else if j < p then (((LN n j).length : Nat) : Int) else 0) = rowF n.1.length fun j => if j < p then (((LN n j).length : Nat) : Int) else 0 := rowF_congr fun j _ => by
      by_cases e : j = p
      · subst e; rw [if_pos rfl, if_neg (by omega)]
      · rw [if_neg e]
    have a2 : (rowF n.1.length fun k => ints (FRp n k p ++ List.replicate (([] : List Nat).count k) p)) = rowF n.1.length fun k => ints (FRp n k p) := rowF_congr fun k _ => by simp
    have a3 : (rowF n.1.length fun j => if j = p then (((LN n p).length : Nat) : Int) else if j < p then (((LN n j).length : Nat) : Int) else 0) = rowF n.1.length fun j => if j < p + 1 then (((LN n j).length : Nat) : Int) else 0 := rowF_congr fun j _ => by
      by_cases e : j = p
      · subst e; rw [if_pos rfl, if_pos (by omega)]
      · rw [if_neg e]
        by_cases e2 : j < p
        · rw [if_pos e2, if_pos (by omega)]
        · rw [if_neg e2, if_neg (by omega)]
    have a4 : (rowF n.1.length fun k => ints (FRp n k p ++ List.replicate ((LN n p).count k) p)) = rowF n.1.length fun k => ints (FRp n k (p + 1)) := rfl
    rw [a1, a2, a3, a4] at h2
    have hhl : h.length ≤ n.1.length := heapOf_len H fun j hj => by omega
    have hgp : nth (rowF n.1.length fun j => if j < p + 1 then (((LN n j).length : Nat) : Int) else 0) p = some (((LN n p).length : Nat) : Int) := by rw [rowF_get _ hpl, if_pos (by omega)]
    have hlt : decide (((p : Nat) : Int) < ((n.1.length : Nat) : Int)) = true := dt (by omega)
    by_cases hz : LN n p = []
    · obtain ⟨h1, hP, H1⟩ := heapOf_push (k := p) H (fun x => absurd x.1 (by omega)) (by omega)
      obtain ⟨h3, hrun, H3⟩ := second_loop hm hn m (p + 1) h1 (by omega) (heapOf_congr H1 fun j => by
        constructor
        · rintro (a | a)
          · exact ⟨by omega, a.2⟩
          · exact ⟨by omega, a ▸ hz⟩
        · rintro ⟨a, b⟩
          by_cases e : j = p
          · exact Or.inr e
          · exact Or.inl ⟨by omega, b⟩)
      refine ⟨h3, ob36 ?_, H3⟩
      simp only [b36, hlt, cond_true, inb_nat, dt hpl, Int.toNat_natCast, opAtN_nth hpl, Option.bind_some, needsN_eq hm hpl]
      rw [h2]
      simp only [Option.bind_some, inb_nat, dt hpl, cond_true, cond_false, Int.toNat_natCast, rowF_len, hgp, bt (show (((LN n p).length : Nat) : Int) = 0 by rw [hz]; rfl), hP, wr_succ (show p < 4611686018427387904 by omega)]
      exact hrun
    · have hz2 := List.length_pos_iff.2 hz
      obtain ⟨h3, hrun, H3⟩ := second_loop hm hn m (p + 1) h (by omega) (heapOf_congr H fun j => by
        constructor
        · rintro a; exact ⟨by omega, a.2⟩
        · rintro ⟨a, b⟩
          by_cases e : j = p
          · exact absurd (e ▸ b) hz
          · exact ⟨by omega, b⟩)
      refine ⟨h3, ob36 ?_, H3⟩
      simp only [b36, hlt, cond_true, cond_false, inb_nat, dt hpl, Int.toNat_natCast, opAtN_nth hpl, Option.bind_some, needsN_eq hm hpl]
      rw [h2]
      simp only [Option.bind_some, inb_nat, dt hpl, cond_true, cond_false, Int.toNat_natCast, rowF_len, hgp, bf (show (((LN n p).length : Nat) : Int) ≠ 0 by omega), wr_succ (show p < 4611686018427387904 by omega)]
      exact hrun

/-- The order of a net's operators, as numbers. -/
def gN (n : Nt) : List Nat := greedy (DN n) n.1.length n.1.length []
def ordN (n : Nt) : List Int × Int := if chkN n = 0 then (ints (gN n), 0) else ([], chkN n)
theorem chk_may {n : Nt} (h : chkN n = 0) : mayN n = true ∧ n.1.length ≤ (gN n).length := by
  unfold chkN at h
  by_cases hm : mayN n = true
  · rw [if_pos hm] at h
    refine ⟨hm, ?_⟩
    by_cases hg : (greedy (DN n) n.1.length n.1.length []).length < n.1.length
    · rw [if_pos hg] at h; exact absurd h (by decide)
    · rw [gN]; omega
  · rw [if_neg hm] at h; exact absurd h (by decide)
theorem gN_val (n : Nt) : Val (DN n) n.1.length (gN n) := greedy_val _ _ Val.nil
theorem OrderN_eq {n : Nt} (h1 : n.1.length ≤ 1000) (h2 : n.2.1.length ≤ 1000) : c6 T.rf n = some (ordN n) := or6 (by
  simp only [r6, CheckN_eq (n := n) (by omega) (by omega), Option.bind_some]
  unfold ordN
  by_cases hc : chkN n = 0
  · have hm := (chk_may hc).1
    have hN := may_N hm
    obtain ⟨h, ha, H⟩ := second_loop hm h1 n.1.length 0 [] (by omega) (heapOf_nil fun j hj => absurd hj.1 (by omega))
    have e1 : (rowF n.1.length fun j => if j < 0 then (((LN n j).length : Nat) : Int) else 0) = List.replicate n.1.length 0 := by
      rw [rowF_rep]; exact rowF_congr fun j _ => if_neg (by omega)
    have e2 : (rowF n.1.length fun k => ints (FRp n k 0)) = List.replicate n.1.length [] := by
      rw [rowF_rep]; exact rowF_congr fun j _ => rfl
    rw [e1, e2, show ((0 : Nat) : Int) = (0 : Int) from rfl] at ha
    obtain ⟨w, h', hb⟩ := main_loop hN h1 n.1.length [] h Val.nil (by simp) (heapOf_congr H fun j => by
      refine and_congr_right fun hj => ?_
      rw [rdyN_iff hN hj, WL_nil, List.length_eq_zero_iff]; simp)
    have e3 : (rowF n.1.length fun k => ((WL n [] k : Nat) : Int)) = rowF n.1.length fun j => (((LN n j).length : Nat) : Int) := rowF_congr fun k _ => by rw [WL_nil]
    rw [show ints [] = [] from rfl, e3] at hb
    have hm1 : inb' ((n.1.length : Nat) : Int) most = true := inb'_t (by omega) (by rw [show most = 274877906944 from rfl]; omega)
    have hm2 : inb' ((n.1.length : Nat) : Int) n.1.length = true := inb'_t (by omega) (by omega)
    simp only [hc, nbt (show (0 : Int) = 0 from rfl), cond_false, hm1, hm2, cond_true, ha, Option.bind_some, hb]
    rfl
  · rw [nbf hc, cond_true, if_neg hc])

end Go.Proofs.Ytanomapnincmoaa.R
