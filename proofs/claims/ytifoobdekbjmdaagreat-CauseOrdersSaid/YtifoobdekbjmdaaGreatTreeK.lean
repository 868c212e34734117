/-
  OUR OWN: trees in lists that are put together.
-/
import Derived.Test.YtifoobdekbjmdaaGreatTreeI
namespace Go.Proofs.YtifoobdekbjmdaaGreat.R
open Go Go.Bm Go.Proofs
set_option linter.unusedVariables false
set_option linter.unusedSimpArgs false
set_option maxRecDepth 4000

theorem shift_neg (p : Int) : shift p (-1) = -1 := by unfold shift; rw [if_neg (by decide)]
theorem shift_pos {p x : Int} (h : 0 ≤ x) (h2 : x + p ≤ 1000000000) (hp : 0 ≤ p) : shift p x = x + p := by
  unfold shift; rw [if_pos h, wr (by omega)]

/-- A node counted on. -/
theorem mv_aim {b : Nd} (hb : b = blank b) (p : Int) (hp : 0 ≤ p) : ∀ l : List Int, l.length ≤ 3 → (∀ x ∈ l, 0 ≤ x ∧ x + p ≤ 1000000000) → mv p (aim b l) = aim b (l.map fun x => x + p)
  | [], _, _ => by
    rw [hb]; simp [aim, mv, blank, shift_neg]
  | [x], _, h => by
    have hx := h x (by simp)
    rw [hb]; simp [aim, mv, blank, shift_neg, shift_pos hx.1 hx.2 hp]
  | [x, y], _, h => by
    have hx := h x (by simp)
    have hy := h y (by simp)
    rw [hb]
    by_cases h28 : b.1 = 28
    · simp [aim, mv, blank, shift_neg, shift_pos hx.1 hx.2 hp, shift_pos hy.1 hy.2 hp, h28]
    · simp [aim, mv, blank, shift_neg, shift_pos hx.1 hx.2 hp, shift_pos hy.1 hy.2 hp, h28]
  | [x, y, z], _, h => by
    have hx := h x (by simp)
    have hy := h y (by simp)
    have hz := h z (by simp)
    rw [hb]; simp [aim, mv, blank, shift_pos hx.1 hx.2 hp, shift_pos hy.1 hy.2 hp, shift_pos hz.1 hz.2 hp]
  | _ :: _ :: _ :: _ :: _, h, _ => by simp at h

theorem mv_node {n : Nd} (hna : n = aim (blank n) (kids n)) {p : Int} (hp : 0 ≤ p) (hk : ∀ x ∈ kids n, 0 ≤ x ∧ x + p ≤ 1000000000) : mv p n = aim (blank n) ((kids n).map fun x => x + p) ∧ kids (mv p n) = (kids n).map (fun x => x + p) ∧ blank (mv p n) = blank n := by
  have hk3 := kids_len n
  have h1 : mv p n = aim (blank n) ((kids n).map fun x => x + p) := by
    conv => lhs; rw [hna]
    exact mv_aim rfl p hp _ hk3 hk
  have hA := kids_aim n hna (fun x hx => by have := hk x hx; omega)
  refine ⟨h1, ?_, rfl⟩
  rw [h1]
  refine hA _ (by simp) (fun x hx => ?_)
  obtain ⟨y, hy, rfl⟩ := List.mem_map.1 hx
  have := hk y hy; omega

theorem mv_zero {n : Nd} (hna : n = aim (blank n) (kids n)) (hk : ∀ x ∈ kids n, 0 ≤ x ∧ x ≤ 1000000) : mv 0 n = n := by
  have := (mv_node hna (p := 0) (by omega) (fun x hx => by have := hk x hx; omega)).1
  rw [this]
  conv => rhs; rw [hna]
  congr 1
  refine (List.map_congr_left fun x _ => ?_).trans (List.map_id _)
  simp

mutual
/-- A tree in a list, and in a longer one. -/
theorem emb_app {e : List Nd} (suf : List Nd) : ∀ (t : Tr) (i : Nat), Emb e i t → Emb (e ++ suf) i t
  | .mk b ks, i, ⟨n, hn, hb, hna, hks⟩ => by
    have hil : i < e.length := by rw [nth_getElem?] at hn; exact (List.getElem?_eq_some_iff.1 hn).1
    exact ⟨n, by rw [nth_getElem?, List.getElem?_append_left hil, ← nth_getElem?]; exact hn, hb, hna, embs_app suf ks i (kids n) hks⟩
theorem embs_app {e : List Nd} (suf : List Nd) : ∀ (ts : List Tr) (i : Nat) (l : List Int), Embs e i l ts → Embs (e ++ suf) i l ts
  | [], i, l, h => by
    cases l with
    | nil => trivial
    | cons k l => simp [Embs] at h
  | t :: ts, i, l, h => by
    cases l with
    | nil => simp [Embs] at h
    | cons k l => obtain ⟨h1, h2, h3, h4⟩ := h; exact ⟨h1, h2, emb_app suf t _ h3, embs_app suf ts i l h4⟩
end

mutual
/-- A tree in a list that is counted on. -/
theorem emb_mv (pre : List Nd) {e : List Nd} (hl : pre.length + e.length ≤ 1000000) : ∀ (t : Tr) (i : Nat), Emb e i t → Emb (pre ++ e.map (mv pre.length)) (pre.length + i) t
  | .mk b ks, i, ⟨n, hn, hb, hna, hks⟩ => by
    have hil : i < e.length := by rw [nth_getElem?] at hn; exact (List.getElem?_eq_some_iff.1 hn).1
    have hr := embs_range hks
    obtain ⟨h1, h2, h3⟩ := mv_node (n := n) (by rw [← hb]; exact hna) (p := pre.length) (by omega) (fun x hx => by have := hr x hx; omega)
    refine ⟨mv pre.length n, ?_, by rw [h3]; exact hb, by rw [h2, hb]; exact h1, ?_⟩
    · rw [nth_getElem?, List.getElem?_append_right (by omega), List.getElem?_map]
      rw [show pre.length + i - pre.length = i by omega, ← nth_getElem?, hn]; rfl
    · rw [h2]; exact embs_mv pre hl ks i (kids n) hks
theorem embs_mv (pre : List Nd) {e : List Nd} (hl : pre.length + e.length ≤ 1000000) : ∀ (ts : List Tr) (i : Nat) (l : List Int), Embs e i l ts → Embs (pre ++ e.map (mv pre.length)) (pre.length + i) (l.map fun x => x + pre.length) ts
  | [], i, l, h => by
    cases l with
    | nil => trivial
    | cons k l => simp [Embs] at h
  | t :: ts, i, l, h => by
    cases l with
    | nil => simp [Embs] at h
    | cons k l =>
      obtain ⟨h1, h2, h3, h4⟩ := h
      refine ⟨by show (0 : Int) ≤ k + (pre.length : Int); omega, by show k + (pre.length : Int) < ((pre.length + i : Nat) : Int); omega, ?_, embs_mv pre hl ts i l h4⟩
      have := emb_mv pre hl t k.toNat h3
      rw [show (k + (pre.length : Int)).toNat = pre.length + k.toNat by omega]
      exact this
theorem embs_range {e : List Nd} {i : Nat} : ∀ {l : List Int} {ts : List Tr}, Embs e i l ts → ∀ x ∈ l, 0 ≤ x ∧ x < i
  | [], [], _, x, hx => by cases hx
  | k :: l, t :: ts, ⟨h1, h2, _, h4⟩, x, hx => by
    rcases List.mem_cons.1 hx with rfl | hx
    · exact ⟨h1, h2⟩
    · exact embs_range h4 x hx
  | [], _ :: _, h, _, _ => by simp [Embs] at h
  | _ :: _, [], h, _, _ => by simp [Embs] at h
end

theorem may_mv0 {e : List Nd} (h : mayB e = true) : e.map (mv 0) = e := by
  have hM := may_P h
  have hlen := hM.len
  refine (List.map_congr_left fun n hn => ?_).trans (List.map_id _)
  obtain ⟨i, hi⟩ := List.mem_iff_getElem?.1 hn
  rw [← nth_getElem?] at hi
  have hil : i < e.length := by rw [nth_getElem?] at hi; exact (List.getElem?_eq_some_iff.1 hi).1
  exact mv_zero (of_decide_eq_true (hM.node i n hi)).2.2.1 (fun x hx => by have := hM.ahead i n hi x hx; omega)

/-! ### The scan of lists that are put together -/
theorem scanR_pre (x suf : List Nd) : ∀ (l : List Nd) (i : Nat) (V : List Nat), i + l.length ≤ x.length → scanR (x ++ suf) l i V = scanR x l i V
  | [], i, V, h => rfl
  | n :: l, i, V, h => by
    simp only [List.length_cons] at h
    rw [scanR, scanR]
    have ha : rangeB i (kids n) = true → argsB (x ++ suf) n (kids n) 0 = argsB x n (kids n) 0 := by
      intro hr
      have key : ∀ (ks : List Int) (a : Nat), (∀ k ∈ ks, 0 ≤ k ∧ k < i) → argsB (x ++ suf) n ks a = argsB x n ks a := by
        intro ks
        induction ks with
        | nil => intro a _; rfl
        | cons k ks ih =>
          intro a hk
          have hk0 := hk k List.mem_cons_self
          have ho : opAt (x ++ suf) k.toNat = opAt x k.toNat := by
            rw [opAt, opAt, List.getD_eq_getElem?_getD, List.getD_eq_getElem?_getD, List.getElem?_append_left (by omega)]
          rw [argsB, argsB, argB, argB, ho, ih (a + 1) (fun q hq => hk q (List.mem_cons_of_mem _ hq))]
      exact key _ _ (fun k hk => by simpa using List.all_eq_true.1 hr k hk)
    by_cases hr : rangeB i (kids n) = true
    · rw [ha hr]
      split
      · exact scanR_pre x suf l (i + 1) _ (by omega)
      · rfl
    · rw [if_neg (fun hh => hr hh.2.1), if_neg (fun hh => hr hh.2.1)]

theorem scanR_mv (pre x suf : List Nd) (hl : pre.length + x.length ≤ 1000000) (hx : ∀ (i : Nat) (n : Nd), nth x i = some n → nodeB n = true ∧ argsB x n (kids n) 0 = true ∧ ∀ k ∈ kids n, 0 ≤ k ∧ k < i) : ∀ (l px : List Nd) (V W : List Nat), x = px ++ l →
    scanR (pre ++ (x.map (mv pre.length) ++ suf)) (l.map (mv pre.length)) (pre.length + px.length) (V ++ W.map (· + pre.length)) = some (V ++ (W ++ (l.map fun n => (kids n).map Int.toNat).flatten).map (· + pre.length))
  | [], px, V, W, h => by simp [scanR]
  | n :: l, px, V, W, h => by
    have hn : nth x px.length = some n := by rw [h, nth_getElem?]; simp
    obtain ⟨h1, h2, h3⟩ := hx px.length n hn
    have hpl : px.length < x.length := by rw [h]; simp
    have hna := (of_decide_eq_true h1).2.2.1
    obtain ⟨g1, g2, g3⟩ := mv_node hna (p := pre.length) (by omega) (fun q hq => by have := h3 q hq; omega)
    have hno := of_decide_eq_true h1
    have hnode : nodeB (mv pre.length n) = true := by
      rw [g1]
      have hA := kids_aim n hna (fun q hq => by have := h3 q hq; omega)
      refine node_aim rfl (hA _ (by simp) (fun q hq => ?_)) ⟨hno.1, hno.2.1, hno.2.2.2.1, hno.2.2.2.2.1, hno.2.2.2.2.2⟩
      obtain ⟨y, hy, rfl⟩ := List.mem_map.1 hq
      have := h3 y hy; omega
    have hrange : rangeB (pre.length + px.length) (kids (mv pre.length n)) = true := by
      rw [g2]
      refine List.all_eq_true.2 fun q hq => dt ?_
      obtain ⟨y, hy, rfl⟩ := List.mem_map.1 hq
      have := h3 y hy; omega
    have hargs : argsB (pre ++ (x.map (mv pre.length) ++ suf)) (mv pre.length n) (kids (mv pre.length n)) 0 = true := by
      rw [g2]
      have key : ∀ (ks : List Int) (a : Nat), (∀ k ∈ ks, 0 ≤ k ∧ k < x.length) → argsB (pre ++ (x.map (mv pre.length) ++ suf)) (mv pre.length n) (ks.map fun q => q + (pre.length : Int)) a = argsB x n ks a := by
        intro ks
        induction ks with
        | nil => intro a _; rfl
        | cons k ks ih =>
          intro a hk
          have hk0 := hk k List.mem_cons_self
          have ho : opAt (pre ++ (x.map (mv pre.length) ++ suf)) (k + (pre.length : Int)).toNat = opAt x k.toNat := by
            obtain ⟨y, hy⟩ : ∃ y, x[k.toNat]? = some y := ⟨_, List.getElem?_eq_getElem (by omega)⟩
            rw [opAt, opAt, List.getD_eq_getElem?_getD, List.getD_eq_getElem?_getD, List.getElem?_append_right (by omega), List.getElem?_append_left (by simp; omega), List.getElem?_map,
              show (k + (pre.length : Int)).toNat - pre.length = k.toNat by omega, hy]
            rfl
          rw [List.map_cons, argsB, argsB, argB, argB, ho, ih (a + 1) (fun q hq => hk q (List.mem_cons_of_mem _ hq))]
          have hB : (decide ((mv pre.length n).1 = 28) && decide ((mv pre.length n).2.2.1 ≠ -1)) = (decide (n.1 = 28) && decide (n.2.2.1 ≠ -1)) := by
            by_cases h28 : n.1 = 28
            · have e1 := kids28 n h28
              have e2 := kids28 (mv pre.length n) h28
              rw [g2, List.length_map] at e2
              by_cases hb : n.2.2.1 = -1
              · have : (mv pre.length n).2.2.1 = -1 := by
                  refine Classical.byContradiction fun hh => ?_
                  exact (e1.1 (e2.2 hh)) hb
                rw [df (show ¬ (mv pre.length n).2.2.1 ≠ -1 from fun h => h this), df (show ¬ n.2.2.1 ≠ -1 from fun h => h hb)]; simp
              · have : (mv pre.length n).2.2.1 ≠ -1 := e2.1 (e1.2 hb)
                rw [dt this, dt hb]; rfl
            · rw [df (show ¬ (mv pre.length n).1 = 28 from h28), df h28]; rfl
          simp only [← Bool.and_assoc, hB]
          rfl
      rw [key (kids n) 0 (fun k hk => by have := h3 k hk; omega)]; exact h2
    rw [List.map_cons, scanR, if_pos ⟨hnode, hrange, hargs⟩]
    have ih := scanR_mv pre x suf hl hx l (px ++ [n]) V (W ++ (kids n).map Int.toNat) (by rw [h]; simp)
    have e1 : V ++ W.map (· + pre.length) ++ (kids (mv pre.length n)).map Int.toNat = V ++ (W ++ (kids n).map Int.toNat).map (· + pre.length) := by
      rw [g2, List.map_append, List.append_assoc]
      congr 2
      rw [List.map_map, List.map_map]
      refine List.map_congr_left fun q hq => ?_
      have := h3 q hq
      simp only [Function.comp]; omega
    rw [e1]
    rw [List.length_append, List.length_singleton] at ih
    rw [show pre.length + px.length + 1 = pre.length + (px.length + 1) by omega, ih]
    simp

end Go.Proofs.YtifoobdekbjmdaaGreat.R
