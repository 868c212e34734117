/-
  OUR OWN: two expressions joined.
-/
import Derived.Test.YtifoobdekbjmdaaGreatTreeK
namespace Go.Proofs.YtifoobdekbjmdaaGreat.R
open Go Go.Bm Go.Proofs
set_option linter.unusedVariables false
set_option linter.unusedSimpArgs false
set_option maxRecDepth 4000

/-- What the scan of what may be comes to: each node but the last one, once. -/
theorem may_V {e : List Nd} (h : mayB e = true) : ∃ V, scanR e e 0 [] = some V ∧ ∀ x, V.count x = if x + 1 < e.length then 1 else 0 := by
  simp only [mayB, Bool.and_eq_true, decide_eq_true_eq] at h
  obtain ⟨h1, h2, h3, h4⟩ := h
  split at h4
  · cases h4
  rename_i V hs
  simp only [Bool.and_eq_true, decide_eq_true_eq] at h4
  obtain ⟨k1, k2⟩ := (scan_iff e e 0 [] V (by simp)).1 hs
  have hpos := List.length_pos_iff.2 h1
  have hlt := scanR_lt e (e.length - 1) e 0 [] V k1 (by simp) (by omega)
  refine ⟨V, k1, fun x => ?_⟩
  by_cases hx : x + 1 < e.length
  · rw [if_pos hx]
    have hm : x ∈ V := of_decide_eq_true (List.all_eq_true.1 h4.1 x (List.mem_range.2 (by omega)))
    have := (nod_count V).1 k2 x
    have := List.count_pos_iff.2 hm
    omega
  · rw [if_neg hx]
    exact List.count_eq_zero.2 fun hm => by have := hlt x hm; omega

theorem may_of_V {e : List Nd} {V : List Nat} (he : e ≠ []) (hs : scanR e e 0 [] = some V) (hc : ∀ x, V.count x = if x + 1 < e.length then 1 else 0) :
    mayB e = (decide (e.length ≤ 5000) && (decide (opAt e (e.length - 1) ≠ 28) && decide (depth e ≤ 40))) := by
  have hnd : V.Nodup := (nod_count _).2 fun j => by rw [hc j]; split <;> omega
  have hsc := (scan_iff e e 0 [] V (by simp)).2 ⟨hs, hnd⟩
  have hall : ((List.range (e.length - 1)).all fun j => decide (j ∈ V)) = true := List.all_eq_true.2 fun j hj => by
    have h1 := List.mem_range.1 hj
    have := hc j
    rw [if_pos (by omega)] at this
    exact dt (List.count_pos_iff.1 (by omega))
  unfold mayB
  rw [hsc, dt he, Bool.true_and]
  simp only [hall, Bool.true_and]

theorem count_up (p x : Nat) : ∀ V : List Nat, (V.map (· + p)).count x = if p ≤ x then V.count (x - p) else 0
  | [] => by simp
  | y :: V => by
    rw [List.map_cons, List.count_cons, count_up p x V, List.count_cons]
    by_cases h : p ≤ x
    · simp only [if_pos h]
      congr 1
      by_cases e : y + p = x
      · rw [if_pos (beq_iff_eq.2 e), if_pos (beq_iff_eq.2 (by omega))]
      · rw [if_neg (fun hh => e (beq_iff_eq.1 hh)), if_neg (fun hh => e (by have := beq_iff_eq.1 hh; omega))]
    · simp only [if_neg h]
      rw [if_neg (fun hh => h (by have := beq_iff_eq.1 hh; omega))]

theorem join2 {op n : Int} {nm : List UInt8} (hop : 6 ≤ op ∧ op ≤ 20) {a b : List Nd} (ha : mayB a = true) (hb : mayB b = true) :
    join op n nm [a, b] = a ++ (b.map (mv a.length) ++ [(op, (a.length : Int) - 1, ((a.length + b.length : Nat) : Int) - 1, -1, n, nm)]) := by
  have ha0 := (may_P ha).ne
  have hb0 := (may_P hb).ne
  have hk : kids (op, -1, -1, -1, n, nm) = [-1, -1] := by
    simp only [kids]; rw [if_neg (by omega), if_neg (by omega), if_neg (by omega), if_pos hop]
  have h27 : ¬ op = 27 := by omega
  unfold join
  rw [if_neg (by omega), hk, if_neg (by intro hh; exact hh.2 rfl)]
  have e1 : ([] : List Nd) ++ a.map (mv ((([] : List Nd).length : Nat) : Int)) = a := by simpa using may_mv0 ha
  simp only [joinL, if_neg ha0, if_neg hb0, if_neg h27, e1]
  simp only [keptK, if_neg h27, aim, List.nil_append, List.singleton_append, List.append_assoc]
  have h28 : ¬ op = 28 := by omega
  simp only [if_neg h28]
  simp

theorem dep_pos : ∀ t : Tr, 1 ≤ dep t
  | .mk b ks => by
    rw [dep]
    have : ∀ (ks : List Tr) (m : Int), 0 ≤ m → 0 ≤ deps ks m := by
      intro ks
      induction ks with
      | nil => intro m h; exact h
      | cons t r ih =>
        intro m h
        rw [deps]
        exact ih _ (by split <;> omega)
    have := this ks 0 (by omega)
    omega

/-- Two trees joined. -/
theorem join2_tree {op n : Int} {nm : List UInt8} (hop : 6 ≤ op ∧ op ≤ 20) {a b : List Nd} {ta tb : Tr} (ha : Emb a (a.length - 1) ta) (hb : Emb b (b.length - 1) tb) (hla : a.length ≤ 5000) (hlb : b.length ≤ 5000) :
    let e := a ++ (b.map (mv a.length) ++ [(op, (a.length : Int) - 1, ((a.length + b.length : Nat) : Int) - 1, -1, n, nm)])
    Emb e (a.length - 1) ta ∧ Emb e (a.length + b.length - 1) tb ∧ Emb e (e.length - 1) (.mk (op, -1, -1, -1, n, nm) [ta, tb]) := by
  intro e
  have pa := emb_lt ha
  have pb := emb_lt hb
  have h1 : Emb e (a.length - 1) ta := emb_app _ ta _ ha
  have h2 : Emb e (a.length + b.length - 1) tb := by
    have h3 := emb_mv a (by omega) tb _ hb
    have h4 := emb_app [(op, (a.length : Int) - 1, ((a.length + b.length : Nat) : Int) - 1, -1, n, nm)] tb _ h3
    rw [List.append_assoc] at h4
    rw [show a.length + b.length - 1 = a.length + (b.length - 1) by omega]
    exact h4
  have hel : e.length = a.length + b.length + 1 := by simp [e]; omega
  have h28 : ¬ op = 28 := by omega
  have hk : kids (op, (a.length : Int) - 1, ((a.length + b.length : Nat) : Int) - 1, -1, n, nm) = [(a.length : Int) - 1, ((a.length + b.length : Nat) : Int) - 1] := by
    simp only [kids]; rw [if_neg (by omega), if_neg (by omega), if_neg (by omega), if_pos hop]
  refine ⟨h1, h2, (op, (a.length : Int) - 1, ((a.length + b.length : Nat) : Int) - 1, -1, n, nm), ?_, rfl, ?_, ?_⟩
  · rw [hel, nth_getElem?]
    simp only [e]
    rw [List.getElem?_append_right (by omega), List.getElem?_append_right (by rw [List.length_map]; omega)]
    rw [List.length_map, show a.length + b.length + 1 - 1 - a.length - b.length = 0 by omega]; rfl
  · rw [hk]
    show _ = (if op = 28 then _ else _)
    rw [if_neg h28]
  · rw [hk, hel]
    refine ⟨by omega, by omega, ?_, by omega, by omega, ?_, trivial⟩
    · rw [show ((a.length : Int) - 1).toNat = a.length - 1 by omega]; exact h1
    · rw [show (((a.length + b.length : Nat) : Int) - 1).toNat = a.length + b.length - 1 by omega]; exact h2

/-- **What two expressions are joined to may be, if it is not too long or too deep.** -/
theorem join2_may {op : Int} (hop : 6 ≤ op ∧ op ≤ 20) {a b : List Nd} (ha : mayB a = true) (hb : mayB b = true) :
    mayB (a ++ (b.map (mv a.length) ++ [(op, (a.length : Int) - 1, ((a.length + b.length : Nat) : Int) - 1, -1, 0, [])])) = (decide (a.length + b.length + 1 ≤ 5000) && decide (depth (a ++ (b.map (mv a.length) ++ [(op, (a.length : Int) - 1, ((a.length + b.length : Nat) : Int) - 1, -1, 0, [])])) ≤ 40)) := by
  have hMa := may_P ha
  have hMb := may_P hb
  have la := hMa.len
  have lb := hMb.len
  have pa := List.length_pos_iff.2 hMa.ne
  have pb := List.length_pos_iff.2 hMb.ne
  obtain ⟨Va, sa, ca⟩ := may_V ha
  obtain ⟨Vb, sb, cb⟩ := may_V hb
  let r : Nd := (op, (a.length : Int) - 1, ((a.length + b.length : Nat) : Int) - 1, -1, 0, [])
  have hk : kids r = [(a.length : Int) - 1, ((a.length + b.length : Nat) : Int) - 1] := by
    show kids (op, _, _, _, _, _) = _
    simp only [kids]; rw [if_neg (by omega), if_neg (by omega), if_neg (by omega), if_pos hop]
  have hVb : Vb = (b.map fun n => (kids n).map Int.toNat).flatten := by
    have h0 := scanR_mv [] b [] (by simp; omega) (fun i n hn => ⟨hMb.node i n hn, hMb.args i n hn, hMb.ahead i n hn⟩) b [] [] [] rfl
    simp only [List.nil_append, List.append_nil, List.length_nil, List.map_nil, Nat.add_zero] at h0
    rw [show ((0 : Nat) : Int) = (0 : Int) from rfl, may_mv0 hb, sb] at h0
    have h1 := Option.some.inj h0
    rw [h1]
    exact (List.map_congr_left fun x _ => by simp).trans (List.map_id _)
  have h1 : scanR (a ++ (b.map (mv a.length) ++ [r])) a 0 [] = some Va := by
    rw [scanR_pre a _ a 0 [] (by omega)]; exact sa
  have h2 := scanR_mv a b [r] (by omega) (fun i n hn => ⟨hMb.node i n hn, hMb.args i n hn, hMb.ahead i n hn⟩) b [] Va [] rfl
  simp only [List.map_nil, List.append_nil, List.length_nil, Nat.add_zero, List.nil_append, ← hVb] at h2
  have hlast : ∀ V, scanR (a ++ (b.map (mv a.length) ++ [r])) [r] (a.length + b.length) V = some (V ++ [a.length - 1, a.length + b.length - 1]) := by
    intro V
    have hop1 : ∀ (i : Nat) (n : Nd), nth (a ++ (b.map (mv a.length) ++ [r])) i = some n → opAt (a ++ (b.map (mv a.length) ++ [r])) i = n.1 := fun i n hn => opAt_of hn
    have oa : opAt (a ++ (b.map (mv a.length) ++ [r])) (a.length - 1) ≠ 28 := by
      rw [opAt, List.getD_eq_getElem?_getD, List.getElem?_append_left (by omega), ← List.getD_eq_getElem?_getD]
      exact hMa.last
    have ob : opAt (a ++ (b.map (mv a.length) ++ [r])) (a.length + b.length - 1) ≠ 28 := by
      obtain ⟨y, hy⟩ : ∃ y, b[b.length - 1]? = some y := ⟨_, List.getElem?_eq_getElem (by omega)⟩
      have hl := hMb.last
      rw [opAt, List.getD_eq_getElem?_getD, hy] at hl
      rw [opAt, List.getD_eq_getElem?_getD, List.getElem?_append_right (by omega), List.getElem?_append_left (by simp; omega), List.getElem?_map, show a.length + b.length - 1 - a.length = b.length - 1 by omega, hy]
      exact hl
    have hnode : nodeB r = true := by
      have h3 : ¬ op = 3 := by omega
      have h27 : ¬ op = 27 := by omega
      have h28 : ¬ op = 28 := by omega
      unfold nodeB
      rw [hk]
      refine dt ⟨by show 1 ≤ op; omega, by show op ≤ 28; omega, ?_, by show (0 : Int) ≤ 0; omega, ?_, ?_⟩
      · show _ = (if op = 28 then _ else _)
        rw [if_neg h28]
      · show (0 : Int) ≤ mostN op
        unfold mostN; repeat' split
        all_goals omega
      · show (([] : List UInt8) ≠ [] ↔ (op = 3 ∨ op = 27))
        constructor
        · intro h; exact absurd rfl h
        · intro h; omega
    have hargs : argsB (a ++ (b.map (mv a.length) ++ [r])) r (kids r) 0 = true := by
      have h27 : ¬ r.1 = 27 := by show ¬ op = 27; omega
      have h28 : ¬ r.1 = 28 := by show ¬ op = 28; omega
      rw [hk]
      simp only [argsB, argB, df h27, df h28, Bool.false_or, Bool.false_and, Bool.and_true]
      rw [show ((a.length : Int) - 1).toNat = a.length - 1 by omega, show (((a.length + b.length : Nat) : Int) - 1).toNat = a.length + b.length - 1 by omega, df oa, df ob]; rfl
    have hrange : rangeB (a.length + b.length) (kids r) = true := by
      rw [hk]; simp [rangeB]; omega
    rw [scanR, if_pos ⟨hnode, hrange, hargs⟩, hk, scanR]
    simp only [List.map_cons, List.map_nil]
    rw [show ((a.length : Int) - 1).toNat = a.length - 1 by omega, show (((a.length + b.length : Nat) : Int) - 1).toNat = a.length + b.length - 1 by omega]
  have hS : scanR (a ++ (b.map (mv a.length) ++ [r])) (a ++ (b.map (mv a.length) ++ [r])) 0 [] = some (Va ++ Vb.map (· + a.length) ++ [a.length - 1, a.length + b.length - 1]) := by
    rw [scanR_app, h1, Option.bind_some, scanR_app, Nat.zero_add, h2, Option.bind_some, List.length_map, hlast]
  have hel : (a ++ (b.map (mv a.length) ++ [r])).length = a.length + b.length + 1 := by simp; omega
  have hne : a ++ (b.map (mv a.length) ++ [r]) ≠ [] := fun h => by rw [h] at hel; simp at hel
  have hm := may_of_V hne hS (fun x => by
    rw [hel, List.count_append, List.count_append, ca x, count_up, cb (x - a.length), List.count_cons, List.count_cons, List.count_nil]
    have e1 : (if (a.length + b.length - 1 == x) = true then 1 else 0) = if a.length + b.length - 1 = x then 1 else 0 := by
      by_cases e : a.length + b.length - 1 = x <;> simp [e]
    have e2 : (if (a.length - 1 == x) = true then 1 else 0) = if a.length - 1 = x then 1 else 0 := by
      by_cases e : a.length - 1 = x <;> simp [e]
    rw [e1, e2]
    repeat' split
    all_goals omega)
  have hlastop : opAt (a ++ (b.map (mv a.length) ++ [r])) ((a ++ (b.map (mv a.length) ++ [r])).length - 1) ≠ 28 := by
    rw [hel, opAt, List.getD_eq_getElem?_getD, List.getElem?_append_right (by omega), List.getElem?_append_right (by rw [List.length_map]; omega), List.length_map, show a.length + b.length + 1 - 1 - a.length - b.length = 0 by omega]
    show op ≠ 28
    omega
  rw [dt hlastop, Bool.true_and, hel] at hm
  exact hm

end Go.Proofs.YtifoobdekbjmdaaGreat.R
