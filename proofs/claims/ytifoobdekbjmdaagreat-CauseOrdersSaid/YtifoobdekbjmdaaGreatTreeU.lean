/-
  OUR OWN: what holds of a node goes up to the last one; one operand put under an operator.
-/
import Derived.Test.YtifoobdekbjmdaaGreatTreeL
namespace Go.Proofs.YtifoobdekbjmdaaGreat.R
open Go Go.Bm Go.Proofs
set_option linter.unusedVariables false
set_option linter.unusedSimpArgs false
set_option maxRecDepth 4000

theorem scanR_mem (e : List Nd) : ∀ (suf pre : List Nd) (V V' : List Nat), e = pre ++ suf → scanR e suf pre.length V = some V' → ∀ x ∈ V', x ∈ V ∨ ∃ i n k, nth e i = some n ∧ k ∈ kids n ∧ x = k.toNat
  | [], pre, V, V', h, hs, x, hx => by cases hs; exact .inl hx
  | n :: suf, pre, V, V', h, hs, x, hx => by
    rw [scanR] at hs
    split at hs
    case isFalse => cases hs
    have hpl : (pre ++ [n]).length = pre.length + 1 := by simp
    rcases scanR_mem e suf (pre ++ [n]) _ _ (by rw [h]; simp) (by rw [hpl]; exact hs) x hx with hx | hx
    · rcases List.mem_append.1 hx with hx | hx
      · exact .inl hx
      · obtain ⟨k, hk, rfl⟩ := List.mem_map.1 hx
        exact .inr ⟨pre.length, n, k, by rw [h, nth_getElem?]; simp, hk, rfl⟩
    · exact .inr hx

/-- Each node but the last one is an operand. -/
theorem may_used {e : List Nd} (h : mayB e = true) (j : Nat) (hj : j + 1 < e.length) : ∃ i n k, nth e i = some n ∧ k ∈ kids n ∧ k.toNat = j := by
  obtain ⟨V, hs, hc⟩ := may_V h
  have hm : j ∈ V := List.count_pos_iff.1 (by rw [hc, if_pos hj]; omega)
  rcases scanR_mem e e [] [] V rfl hs j hm with hx | ⟨i, n, k, h1, h2, h3⟩
  · cases hx
  · exact ⟨i, n, k, h1, h2, h3.symm⟩

/-- **What goes from an operand to its operator, and is somewhere, is at the last node.** -/
theorem may_up {e : List Nd} (h : mayB e = true) (P : Nat → Prop) (hP : ∀ i n k, nth e i = some n → k ∈ kids n → P k.toNat → P i) : ∀ (m j : Nat), j + m = e.length - 1 → j < e.length → P j → P (e.length - 1)
  | 0, j, hm, hj, hp => by rw [← hm]; exact hp
  | m + 1, j, hm, hj, hp => by
    obtain ⟨i, n, k, h1, h2, h3⟩ := may_used h j (by omega)
    have hil : i < e.length := by rw [nth_getElem?] at h1; exact (List.getElem?_eq_some_iff.1 h1).1
    have := (may_P h).ahead i n h1 k h2
    have hji : j < i := by omega
    exact may_up h P hP (e.length - 1 - i) i (by omega) hil (hP i n k h1 h2 (by rw [h3]; exact hp))
termination_by m => m
decreasing_by omega

mutual
theorem emb_one {e : List Nd} : ∀ (t u : Tr) (i : Nat), Emb e i t → Emb e i u → t = u
  | .mk b ks, .mk c ls, i, ⟨n, h1, h2, h3, h4⟩, ⟨m, g1, g2, g3, g4⟩ => by
    rw [h1] at g1
    obtain rfl := Option.some.inj g1
    rw [h2, g2, embs_one ks ls i _ h4 g4]
theorem embs_one {e : List Nd} : ∀ (ts us : List Tr) (i : Nat) (l : List Int), Embs e i l ts → Embs e i l us → ts = us
  | [], [], i, l, _, _ => rfl
  | t :: ts, u :: us, i, k :: l, ⟨_, _, h3, h4⟩, ⟨_, _, g3, g4⟩ => by
    rw [emb_one t u _ h3 g3, embs_one ts us i l h4 g4]
  | [], _ :: _, i, [], h, g => by simp [Embs] at g
  | [], _ :: _, i, _ :: _, h, g => by simp [Embs] at h
  | _ :: _, [], i, [], h, g => by simp [Embs] at h
  | _ :: _, [], i, _ :: _, h, g => by simp [Embs] at g
  | _ :: _, _ :: _, i, [], h, g => by simp [Embs] at h
end

theorem kids1 {op : Int} (hop : op = 4 ∨ op = 5 ∨ (21 ≤ op ∧ op ≤ 25)) (a n : Int) (nm : List UInt8) : kids (op, a, -1, -1, n, nm) = [a] := by
  simp only [kids]
  rw [if_neg (by omega), if_neg (by omega), if_neg (by omega), if_neg (by omega), if_pos (by omega)]

theorem join1 {op n : Int} {nm : List UInt8} (hop : op = 4 ∨ op = 5 ∨ (21 ≤ op ∧ op ≤ 25)) {a : List Nd} (ha : mayB a = true) :
    join op n nm [a] = a ++ [(op, (a.length : Int) - 1, -1, -1, n, nm)] := by
  have ha0 := (may_P ha).ne
  have h27 : ¬ op = 27 := by omega
  unfold join
  rw [if_neg (by omega), kids1 hop, if_neg (by intro hh; exact hh.2 rfl)]
  have e1 : ([] : List Nd) ++ a.map (mv ((([] : List Nd).length : Nat) : Int)) = a := by simpa using may_mv0 ha
  simp only [joinL, if_neg ha0, if_neg h27, e1]
  simp only [keptK, if_neg h27, aim, List.nil_append, List.singleton_append, List.append_assoc]

theorem join1_tree {op n : Int} {nm : List UInt8} (hop : op = 4 ∨ op = 5 ∨ (21 ≤ op ∧ op ≤ 25)) {a : List Nd} {ta : Tr} (ha : Emb a (a.length - 1) ta) :
    Emb (a ++ [(op, (a.length : Int) - 1, -1, -1, n, nm)]) ((a ++ [(op, (a.length : Int) - 1, -1, -1, n, nm)]).length - 1) (.mk (op, -1, -1, -1, n, nm) [ta]) := by
  have pa := emb_lt ha
  have h1 : Emb (a ++ [(op, (a.length : Int) - 1, -1, -1, n, nm)]) (a.length - 1) ta := emb_app _ ta _ ha
  have hel : (a ++ [(op, (a.length : Int) - 1, -1, -1, n, nm)]).length = a.length + 1 := by simp
  refine ⟨(op, (a.length : Int) - 1, -1, -1, n, nm), ?_, rfl, ?_, ?_⟩
  · rw [hel, nth_getElem?, List.getElem?_append_right (by omega)]
    rw [show a.length + 1 - 1 - a.length = 0 by omega]; rfl
  · rw [kids1 hop]; rfl
  · rw [kids1 hop, hel]
    refine ⟨by omega, by omega, ?_, trivial⟩
    rw [show ((a.length : Int) - 1).toNat = a.length - 1 by omega]; exact h1

/-- **What an expression is put under may be, if it is not too long or too deep.** -/
theorem join1_may {op n : Int} (hop : op = 4 ∨ op = 5 ∨ (21 ≤ op ∧ op ≤ 25)) (hn : 0 ≤ n ∧ n ≤ mostN op) {a : List Nd} (ha : mayB a = true) :
    mayB (a ++ [(op, (a.length : Int) - 1, -1, -1, n, [])]) = (decide (a.length + 1 ≤ 5000) && decide (depth (a ++ [(op, (a.length : Int) - 1, -1, -1, n, [])]) ≤ 40)) := by
  have hMa := may_P ha
  have la := hMa.len
  have pa := List.length_pos_iff.2 hMa.ne
  obtain ⟨Va, sa, ca⟩ := may_V ha
  let r : Nd := (op, (a.length : Int) - 1, -1, -1, n, [])
  have hk : kids r = [(a.length : Int) - 1] := kids1 hop _ _ _
  have h1 : scanR (a ++ [r]) a 0 [] = some Va := by
    rw [scanR_pre a _ a 0 [] (by omega)]; exact sa
  have hlast : ∀ V, scanR (a ++ [r]) [r] a.length V = some (V ++ [a.length - 1]) := by
    intro V
    have oa : opAt (a ++ [r]) (a.length - 1) ≠ 28 := by
      rw [opAt, List.getD_eq_getElem?_getD, List.getElem?_append_left (by omega), ← List.getD_eq_getElem?_getD]
      exact hMa.last
    have hnode : nodeB r = true := by
      unfold nodeB
      rw [hk]
      refine dt ⟨by show 1 ≤ op; omega, by show op ≤ 28; omega, rfl, hn.1, hn.2, ?_⟩
      show (([] : List UInt8) ≠ [] ↔ (op = 3 ∨ op = 27))
      constructor
      · intro h; exact absurd rfl h
      · intro h; omega
    have hargs : argsB (a ++ [r]) r (kids r) 0 = true := by
      have h27 : ¬ r.1 = 27 := by show ¬ op = 27; omega
      have h28 : ¬ r.1 = 28 := by show ¬ op = 28; omega
      rw [hk]
      simp only [argsB, argB, df h27, df h28, Bool.false_or, Bool.false_and, Bool.and_true]
      rw [show ((a.length : Int) - 1).toNat = a.length - 1 by omega, df oa]; rfl
    have hrange : rangeB a.length (kids r) = true := by
      rw [hk]; simp [rangeB]; omega
    rw [scanR, if_pos ⟨hnode, hrange, hargs⟩, hk, scanR]
    simp only [List.map_cons, List.map_nil]
    rw [show ((a.length : Int) - 1).toNat = a.length - 1 by omega]
  have hS : scanR (a ++ [r]) (a ++ [r]) 0 [] = some (Va ++ [a.length - 1]) := by
    rw [scanR_app, h1, Option.bind_some, Nat.zero_add, hlast]
  have hel : (a ++ [r]).length = a.length + 1 := by simp
  have hne : a ++ [r] ≠ [] := fun h => by rw [h] at hel; simp at hel
  have hm := may_of_V hne hS (fun x => by
    rw [hel, List.count_append, ca x, List.count_cons, List.count_nil]
    have e2 : (if (a.length - 1 == x) = true then 1 else 0) = if a.length - 1 = x then 1 else 0 := by
      by_cases e : a.length - 1 = x <;> simp [e]
    rw [e2]
    repeat' split
    all_goals omega)
  have hlastop : opAt (a ++ [r]) ((a ++ [r]).length - 1) ≠ 28 := by
    rw [hel, opAt, List.getD_eq_getElem?_getD, List.getElem?_append_right (by omega), show a.length + 1 - 1 - a.length = 0 by omega]
    show op ≠ 28
    omega
  rw [dt hlastop, Bool.true_and, hel] at hm
  exact hm

end Go.Proofs.YtifoobdekbjmdaaGreat.R
