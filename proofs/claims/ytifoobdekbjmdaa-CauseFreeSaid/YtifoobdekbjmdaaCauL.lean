/-
  OUR OWN: the laws of the order of equations (without the document's answer) come to true.
-/
import Derived.Test.YtifoobdekbjmdaaCauO
import Derived.Test.YtifoobdekbjmdaaResOk
namespace Go.Proofs.Ytifoobdekbjmdaa.R
open Go Go.Bm Go.Proofs
set_option linter.unusedVariables false
set_option linter.unusedSimpArgs false
set_option maxRecDepth 4000

theorem live_eq : c2 T.rf = some true := live_run

def fewQ (q : Eqn) : Bool := decide (q.2.length ≤ 100) && decide (q.1.length ≤ 100)
def fewB (l : List Eqn) : Bool := decide (l.length ≤ 40) && l.all fewQ
theorem fewE_loop : ∀ (suf pre : List Eqn), pre.length + suf.length ≤ 1000000 → k0 T.rb (pre ++ suf) (pre.length : Nat) = some (if suf.all fewQ = true then .inr () else .inl false)
  | [], pre, h => ob0 (by simp only [b0, lt_end, lt_self, List.append_nil, cond_false]; rfl)
  | q :: suf, pre, h => ob0 (by
    simp only [List.length_cons] at h
    have ih := fewE_loop suf (pre ++ [q]) (by simp; omega)
    simp only [List.append_assoc, List.singleton_append] at ih
    simp only [b0, lt_mid, inb_mid, nth_mid, cond_true, Option.bind_some, next_mid pre q (by omega), ih]
    rw [List.all_cons]
    by_cases h1 : q.2.length ≤ 100
    · rw [df (show ¬ ((q.2.length : Nat) : Int) > 100 by omega), cond_false]
      by_cases h2 : q.1.length ≤ 100
      · rw [df (show ¬ ((q.1.length : Nat) : Int) > 100 by omega), cond_false, show fewQ q = true from by rw [fewQ, dt h1, dt h2]; rfl, Bool.true_and]
      · rw [dt (show ((q.1.length : Nat) : Int) > 100 by omega), cond_true, show fewQ q = false from by rw [fewQ, df h2, Bool.and_false], Bool.false_and]; rfl
    · rw [dt (show ((q.2.length : Nat) : Int) > 100 by omega), cond_true, show fewQ q = false from by rw [fewQ, df h1]; rfl, Bool.false_and]; rfl)
theorem fewE_eq (l : List Eqn) : c1 T.rf l = some (fewB l) := or1 (by
  simp only [r1]
  by_cases h : l.length ≤ 40
  · have hl := fewE_loop l [] (by simp; omega)
    rw [List.nil_append, List.length_nil, show ((0 : Nat) : Int) = (0 : Int) from rfl] at hl
    rw [df (by omega), cond_false, hl, Option.bind_some, fewB, dt h, Bool.true_and]
    cases l.all fewQ <;> rfl
  · rw [dt (by omega), cond_true, fewB, df h]; rfl)
theorem few_P {l : List Eqn} (h : fewB l = true) : l.length ≤ 40 ∧ ∀ q ∈ l, q.2.length ≤ 100 := by
  rw [fewB, Bool.and_eq_true, decide_eq_true_iff, List.all_eq_true] at h
  refine ⟨h.1, fun q hq => ?_⟩
  have := h.2 q hq
  rw [fewQ, Bool.and_eq_true, decide_eq_true_iff] at this
  exact this.1

/-! Turned. -/
theorem turn_loop (l : List Eqn) (hl : l.length ≤ 1000) : ∀ (m : Nat) (out : List Eqn), m ≤ l.length → out.length + m ≤ 1000 → k140 T.rb out l ((m : Int) - 1) = some (out ++ (l.take m).reverse)
  | 0, out, hm, ho => ob140 (by
    simp only [b140]
    rw [df (by omega), cond_false]; simp)
  | m + 1, out, hm, ho => ob140 (by
    have ih := turn_loop l hl m (out ++ [l[m]]) (by omega) (by simp; omega)
    rw [show ((m + 1 : Nat) : Int) - 1 = ((m : Nat) : Int) by omega]
    simp only [b140]
    rw [dt (show ((m : Nat) : Int) ≥ 0 by omega), cond_true, inb_nat, dt (by omega), cond_true, Int.toNat_natCast, nth_t (show m < l.length by omega), Option.bind_some, ble_most (by omega), Bool.and_true, cond_true, wr_pred (by omega), ih, ← List.take_append_getElem (show m < l.length by omega), List.reverse_append]
    simp)
theorem eqAt_mem {l : List Eqn} {i : Nat} (h : i < l.length) : eqAt l i ∈ l := by
  rw [eqAt, List.getD_eq_getElem?_getD, List.getElem?_eq_getElem h]; exact List.getElem_mem h
theorem eqAt_turned {l : List Eqn} {i : Nat} (h : i < l.length) : eqAt l.reverse i = eqAt l (l.length - 1 - i) := by
  rw [eqAt, eqAt, List.getD_eq_getElem?_getD, List.getD_eq_getElem?_getD, List.getElem?_reverse h]
theorem eqAt_take {l : List Eqn} {m i : Nat} (h : i < m) : eqAt (l.take m) i = eqAt l i := by
  rw [eqAt, eqAt, List.getD_eq_getElem?_getD, List.getD_eq_getElem?_getD, List.getElem?_take, if_pos h]

noncomputable def D0 (p q : Eqn) : Bool := decide (q.1 ∈ needs p.2)
theorem DL_congr {l l' : List Eqn} {i j i' j' : Nat} (hi : eqAt l' i' = eqAt l i) (hj : eqAt l' j' = eqAt l j) : DL l' i' j' = DL l i j := by
  show D0 (eqAt l' i') (eqAt l' j') = D0 (eqAt l i) (eqAt l j)
  rw [hi, hj]

theorem CauseTurned_eq (l : List Eqn) (m : Int) : c95 T.rf l m = some true := or95 (by
  simp only [r95, live_eq, Option.bind_some, fewE_eq]
  cases hf : fewB l
  · rfl
  obtain ⟨h40, h100⟩ := few_P hf
  rw [Bool.not_true, cond_false]
  by_cases h1 : m < 0
  · rw [dt h1, cond_true]
  rw [df h1, cond_false]
  by_cases h2 : m ≤ l.length
  case neg => rw [dt (by omega), cond_true]
  rw [df (by omega), cond_false]
  obtain ⟨k, rfl⟩ : ∃ k : Nat, m = k := ⟨m.toNat, by omega⟩
  have ht := turn_loop l (by omega) l.length [] (Nat.le_refl _) (by simp; omega)
  rw [List.nil_append, List.take_length] at ht
  rw [Order_eq (by omega) (fun q hq => by have := h100 q hq; omega), Option.bind_some, pred_i (by omega), ht, Option.bind_some, Order_eq (by simp; omega) (fun q hq => by have := h100 q (List.mem_reverse.1 hq); omega), Option.bind_some, inb'_nat, dt (by omega), cond_true, Int.toNat_natCast, Nat.sub_zero, sub_zero,
    Order_eq (by simp; omega) (fun q hq => by have := h100 q (List.mem_of_mem_take hq); omega), Option.bind_some]
  have e1 : (orderL l).2 = (orderL l.reverse).2 := by
    rw [orderL, orderL, List.length_reverse]
    refine ordO_turned (ρ := fun i => l.length - 1 - i) (fun i hi => ⟨by show l.length - 1 - i < l.length; omega, by show l.length - 1 - (l.length - 1 - i) = i; omega⟩) (fun i j hi hj => ?_)
    exact DL_congr (eqAt_turned hi) (eqAt_turned hj)
  rw [bt e1, cond_true]
  by_cases h0 : (orderL l).2 = 0
  · have e2 : (orderL (l.take k)).2 = 0 := by
      rw [orderL, List.length_take, Nat.min_eq_left (by omega)]
      refine ordO_fewer (by omega) (fun i j hi hj => ?_) h0
      exact DL_congr (eqAt_take hi) (eqAt_take hj)
    rw [nbt h0, cond_false, bt e2, cond_true]
  · rw [nbf h0, cond_true])
theorem lawCauseTurned : LawOk T 95 := fun d _ => ⟨true, CauseTurned_eq d.1 d.2, rfl, rfl, rfl⟩

/-! Free. -/
theorem free4_loop (l : List Eqn) (x : List UInt8) (ps ss : List (List UInt8)) : ∀ (suf pre : List Eqn), pre.length + suf.length ≤ 1000000 →
    ∃ z, k147 T.rb (pre ++ suf) (ps ++ x :: ss) (ps.length : Nat) (pre.length : Nat) = some z ∧ (match z with
      | .inl b => b = true
      | .inr _ => ∀ q ∈ suf, q.1 ≠ x)
  | [], pre, h => ⟨.inr (), ob147 (by simp only [b147, lt_end, lt_self, List.append_nil, cond_false]), by simp⟩
  | q :: suf, pre, h => by
    simp only [List.length_cons] at h
    obtain ⟨z, ih, hz⟩ := free4_loop l x ps ss suf (pre ++ [q]) (by simp; omega)
    simp only [List.append_assoc, List.singleton_append] at ih
    by_cases e : q.1 = x
    · refine ⟨.inl true, ob147 ?_, rfl⟩
      simp only [b147, lt_mid, inb_mid, nth_mid, cond_true, Option.bind_some, beq_iff_eq.2 e, live_eq]
    · refine ⟨z, ob147 ?_, ?_⟩
      · simp only [b147, lt_mid, inb_mid, nth_mid, cond_true, Option.bind_some, beq_eq_false_iff_ne.2 e, cond_false, next_mid pre q (by omega)]
        exact ih
      · cases z with
        | inl b => exact hz
        | inr u => intro q' hq'; rcases List.mem_cons.1 hq' with a | a
                   · exact a ▸ e
                   · exact hz q' a
theorem free2_loop (l : List Eqn) (hl : l.length ≤ 1000000) : ∀ (suf pre : List (List UInt8)), pre.length + suf.length ≤ 1000000 →
    ∃ z, k146 T.rb l (pre ++ suf) (pre.length : Nat) = some z ∧ (match z with
      | .inl b => b = true
      | .inr _ => ∀ x ∈ suf, ∀ q ∈ l, q.1 ≠ x)
  | [], pre, h => ⟨.inr (), ob146 (by simp only [b146, lt_end, lt_self, List.append_nil, cond_false]), by simp⟩
  | x :: suf, pre, h => by
    simp only [List.length_cons] at h
    obtain ⟨z, ih, hz⟩ := free2_loop l hl suf (pre ++ [x]) (by simp; omega)
    simp only [List.append_assoc, List.singleton_append] at ih
    obtain ⟨y, h4, hy⟩ := free4_loop l x pre suf l [] (by simpa using hl)
    rw [List.nil_append, List.length_nil, show ((0 : Nat) : Int) = (0 : Int) from rfl] at h4
    cases y with
    | inl b =>
      refine ⟨.inl b, ob146 ?_, hy⟩
      simp only [b146, lt_mid, cond_true, h4, Option.bind_some]
    | inr u =>
      refine ⟨z, ob146 ?_, ?_⟩
      · simp only [b146, lt_mid, cond_true, h4, Option.bind_some, next_mid pre x (by omega)]
        exact ih
      · cases z with
        | inl b => exact hz
        | inr u => intro x' hx'; rcases List.mem_cons.1 hx' with a | a
                   · exact a ▸ hy
                   · exact hz x' a
theorem free0_loop (l : List Eqn) (hl : l.length ≤ 1000) (hq : ∀ q ∈ l, q.2.length ≤ 1000000) : ∀ (suf pre : List Eqn), l = pre ++ suf →
    ∃ z, k145 T.rb (pre ++ suf) (pre.length : Nat) = some z ∧ (match z with
      | .inl b => b = true
      | .inr _ => ∀ p ∈ suf, ∀ x ∈ needs p.2, ∀ q ∈ l, q.1 ≠ x)
  | [], pre, h => ⟨.inr (), ob145 (by simp only [b145, lt_end, lt_self, List.append_nil, cond_false]), by simp⟩
  | p :: suf, pre, h => by
    have hll : l.length = pre.length + (suf.length + 1) := by rw [h]; simp
    obtain ⟨z, ih, hz⟩ := free0_loop l hl hq suf (pre ++ [p]) (by simp [h])
    simp only [List.append_assoc, List.singleton_append] at ih
    have hn := needs_len p.2
    obtain ⟨y, h4, hy⟩ := free2_loop l (by omega) (needs p.2) [] (by simp; omega)
    rw [List.nil_append, List.length_nil, show ((0 : Nat) : Int) = (0 : Int) from rfl, h] at h4
    have hN := Needs_eq (hq p (by rw [h]; simp))
    cases y with
    | inl b =>
      refine ⟨.inl b, ob145 ?_, hy⟩
      simp only [b145, lt_mid, inb_mid, nth_mid, cond_true, hN, h4, Option.bind_some]
    | inr u =>
      refine ⟨z, ob145 ?_, ?_⟩
      · simp only [b145, lt_mid, inb_mid, nth_mid, cond_true, hN, h4, Option.bind_some, next_mid pre p (by omega)]
        exact ih
      · cases z with
        | inl b => exact hz
        | inr u => intro x' hx'; rcases List.mem_cons.1 hx' with a | a
                   · exact a ▸ hy
                   · exact hz x' a
theorem free6_loop (n : Nat) (hn : n ≤ 1000) : ∀ (m p : Nat), p + m = n → k148 T.rb (ints (List.range n)) (p : Nat) = some (.inr (ints (List.range n)))
  | 0, p, h => ob148 (by
    simp only [b148, ints_len, List.length_range]
    rw [df (by omega), cond_false])
  | m + 1, p, h => ob148 (by
    have ih := free6_loop n hn m (p + 1) (by omega)
    have hg : nth (ints (List.range n)) p = some (p : Int) := by
      rw [nth_getElem?, ints, List.getElem?_map, List.getElem?_range (by omega)]; rfl
    simp only [b148, ints_len, List.length_range]
    rw [dt (by omega), cond_true, inb_nat, dt (by omega), cond_true, Int.toNat_natCast, hg, Option.bind_some, nbt rfl, cond_false, wr_succ (by omega)]
    exact ih)
theorem CauseFree_eq (l : List Eqn) : c101 T.rf l = some true := or101 (by
  simp only [r101, live_eq, Option.bind_some, fewE_eq]
  cases hf : fewB l
  · rfl
  obtain ⟨h40, h100⟩ := few_P hf
  rw [Bool.not_true, cond_false]
  obtain ⟨z, h0, hz⟩ := free0_loop l (by omega) (fun q hq => by have := h100 q hq; omega) l [] rfl
  rw [List.nil_append, List.length_nil, show ((0 : Nat) : Int) = (0 : Int) from rfl] at h0
  rw [h0, Option.bind_some]
  cases z with
  | inl b => exact congrArg some hz
  | inr u =>
    have ho : orderL l = (ints (List.range l.length), 0) := ordO_free fun i j hi hj => decide_eq_false fun hm => hz _ (eqAt_mem hi) _ hm _ (eqAt_mem hj) rfl
    have h6 := free6_loop l.length (by omega) l.length 0 (by omega)
    rw [show ((0 : Nat) : Int) = (0 : Int) from rfl] at h6
    simp only [Order_eq (l := l) (by omega) (fun q hq => by have := h100 q hq; omega), Option.bind_some, ho, h6, bt rfl, cond_true, ints_len, List.length_range, beq_self_eq_true])
theorem lawCauseFree : LawOk T 101 := fun d _ => ⟨true, CauseFree_eq d, rfl, rfl, rfl⟩

/-! Later. -/
theorem addV_more {l l' : List (List UInt8)} (x : List UInt8) (h : ∀ y ∈ l, y ∈ l') : (addV l' x).length + l.length ≤ (addV l x).length + l'.length ∧ ∀ y ∈ addV l x, y ∈ addV l' x := by
  unfold addV
  by_cases h1 : x ∈ l
  · rw [if_pos h1, if_pos (h x h1)]; exact ⟨by omega, h⟩
  · rw [if_neg h1]
    by_cases h2 : x ∈ l'
    · rw [if_pos h2]
      refine ⟨by simp; omega, fun y hy => ?_⟩
      rcases List.mem_append.1 hy with a | a
      · exact h y a
      · rw [List.mem_singleton.1 a]; exact h2
    · rw [if_neg h2]
      refine ⟨by simp; omega, fun y hy => ?_⟩
      rcases List.mem_append.1 hy with a | a
      · exact List.mem_append_left _ (h y a)
      · exact List.mem_append_right _ a
mutual
theorem nowT_more : ∀ (t : Tr) (l l' : List (List UInt8)), (∀ y ∈ l, y ∈ l') → (nowT t l').length + l.length ≤ (nowT t l).length + l'.length ∧ ∀ y ∈ nowT t l, y ∈ nowT t l'
  | .mk b ks, l, l', h => by
    have h2 := nowTs_more ks l l' h
    rw [nowT, nowT]
    by_cases h1 : b.1 = 21 ∨ b.1 = 24
    · rw [if_pos h1, if_pos h1]; exact ⟨by omega, h⟩
    · rw [if_neg h1, if_neg h1]
      by_cases h3 : b.1 = 3
      · rw [if_pos h3, if_pos h3]; exact addV_more _ h
      · rw [if_neg h3, if_neg h3]; exact h2
theorem nowTs_more : ∀ (ts : List Tr) (l l' : List (List UInt8)), (∀ y ∈ l, y ∈ l') → (nowTs ts l').length + l.length ≤ (nowTs ts l).length + l'.length ∧ ∀ y ∈ nowTs ts l, y ∈ nowTs ts l'
  | [], l, l', h => by rw [nowTs, nowTs]; exact ⟨by omega, h⟩
  | t :: r, l, l', h => by
    have h1 := nowT_more t l l' h
    have h2 := nowTs_more r _ _ h1.2
    rw [nowTs, nowTs]; exact ⟨by omega, h2.2⟩
end
mutual
theorem nowT_ext : ∀ (t : Tr) (l : List (List UInt8)), ∃ m, nowT t l = l ++ m
  | .mk b ks, l => by
    obtain ⟨m, h2⟩ := nowTs_ext ks l
    rw [nowT]
    split
    · exact ⟨[], by simp⟩
    · split
      · unfold addV; split
        · exact ⟨[], by simp⟩
        · exact ⟨_, rfl⟩
      · exact ⟨m, h2⟩
theorem nowTs_ext : ∀ (ts : List Tr) (l : List (List UInt8)), ∃ m, nowTs ts l = l ++ m
  | [], l => ⟨[], by simp [nowTs]⟩
  | t :: r, l => by
    obtain ⟨m, h1⟩ := nowT_ext t l
    obtain ⟨m2, h2⟩ := nowTs_ext r (nowT t l)
    exact ⟨m ++ m2, by rw [nowTs, h2, h1, List.append_assoc]⟩
end

theorem CauseLater_eq (a b : List Nd) : c96 T.rf a b = some true := or96 (by
  simp only [r96, live_eq, Option.bind_some]
  by_cases la : a.length ≤ 100
  case neg => rw [dt (by omega), cond_true]
  by_cases lb : b.length ≤ 100
  case neg => rw [df (by omega), cond_false, dt (by omega), cond_true]
  have l1 : (join 21 0 [] [a]).length ≤ 1000000 := by
    have := joinl (op := 21) (n := 0) (nm := []) (ps := [a])
    simp [total] at this; omega
  have l2 : (join 15 0 [] [a, b]).length ≤ 1000000 := by
    have := joinl (op := 15) (n := 0) (nm := []) (ps := [a, b])
    rw [total2] at this; omega
  rw [df (by omega), cond_false, df (by omega), cond_false, refMay_eq (by omega), Option.bind_some]
  cases ha : mayB a
  · rfl
  rw [Bool.not_true, cond_false, refMay_eq (by omega), Option.bind_some]
  cases hb : mayB b
  · rfl
  rw [Bool.not_true, cond_false, refJoin_eq (by simp [total]; omega) (by simp), Option.bind_some, refJoin_eq (by rw [total2]; omega) (by simp), Option.bind_some, refMay_eq l1, Option.bind_some]
  cases hm1 : mayB (join 21 0 [] [a])
  · rfl
  rw [Bool.not_true, cond_false, refMay_eq l2, Option.bind_some]
  cases hm2 : mayB (join 15 0 [] [a, b])
  · rfl
  obtain ⟨ta, hta, _⟩ := may_tree ha
  obtain ⟨tb, htb, _⟩ := may_tree hb
  have t1 := join1_tree (op := 21) (n := 0) (nm := []) (by omega) hta
  have t2 := (join2_tree (op := 15) (n := 0) (nm := []) (by omega) hta htb (by omega) (by omega)).2.2
  rw [← join1 (op := 21) (n := 0) (nm := []) (by omega) ha] at t1
  rw [← join2 (op := 15) (n := 0) (nm := []) (by omega) ha hb] at t2
  have n1 : needs (join 21 0 [] [a]) = [] := by rw [needs_of hm1 t1, nowT, if_pos (Or.inl rfl)]
  have n2 : needs (join 15 0 [] [a, b]) = nowT tb (needs a) := by
    rw [needs_of hm2 t2, needs_of ha hta, nowT, if_neg (by decide), if_neg (by decide), nowTs, nowTs, nowTs]
  have hl := nowT_len tb (needs a)
  have hmore := (nowT_more tb [] (needs a) (fun y hy => by simp at hy)).1
  have nla := needs_len a
  have nlb := needs_len b
  obtain ⟨m, hext⟩ := nowT_ext tb (needs a)
  rw [Bool.not_true, cond_false, Needs_eq (by omega), Option.bind_some, Needs_eq l2, Option.bind_some, Needs_eq l1, Option.bind_some, n1, n2, List.length_nil, bt (show ((0 : Nat) : Int) = 0 from rfl), cond_true, dt (by omega), cond_true, inb'_nat, dt hl.1, cond_true, Nat.sub_zero, sub_zero]
  rw [show (nowT tb (needs a)).take (needs a).length = needs a from by rw [hext]; simp, Texts_eq (by omega), Option.bind_some, dt rfl, cond_true, Needs_eq (by omega), Option.bind_some]
  rw [needs_of hb htb] at nlb ⊢
  rw [List.length_nil] at hmore
  rw [wr (by omega), dt (by omega), cond_true])
theorem lawCauseLater : LawOk T 96 := fun d _ => ⟨true, CauseLater_eq d.1 d.2, rfl, rfl, rfl⟩

/-! Behind. -/
/-- The place at which each one stands. -/
def posF (A : List Nat) (k : Nat) : Int := if k ∈ A then ((A.idxOf k : Nat) : Int) + 1 else 0
theorem posF_snoc {A : List Nat} {x : Nat} (hx : x ∉ A) (k : Nat) : posF (A ++ [x]) k = if k = x then ((A.length : Nat) : Int) + 1 else posF A k := by
  unfold posF
  rw [List.idxOf_append]
  by_cases e : k = x
  · subst e
    rw [if_pos rfl, if_pos (by simp), if_neg hx]; simp
  · rw [if_neg e]
    by_cases h : k ∈ A
    · rw [if_pos (by simp [h]), if_pos h, if_pos h]
    · rw [if_neg (by simp [h, e]), if_neg h]
theorem place_loop (l : List Eqn) (hl : l.length ≤ 1000) : ∀ (suf pre : List Nat), (pre ++ suf).Nodup → (∀ x ∈ suf, x < l.length) → pre.length + suf.length ≤ 1000 →
    k135 T.rb (ints pre ++ ints suf) (rowF l.length (posF pre)) l ((ints pre).length : Nat) = some (.inr (ints pre ++ ints suf, rowF l.length (posF (pre ++ suf))))
  | [], pre, hnd, hs, h => ob135 (by
    rw [show ints [] = [] from rfl, List.append_nil pre]
    simp only [b135, lt_end, lt_self, List.append_nil, cond_false])
  | x :: suf, pre, hnd, hs, h => ob135 (by
    have hx := hs x List.mem_cons_self
    simp only [List.length_cons] at h
    have hxp : x ∉ pre := fun hp => by
      rw [List.nodup_append] at hnd
      exact hnd.2.2 x hp x List.mem_cons_self rfl
    have e1 : ints (pre ++ [x]) ++ ints suf = ints pre ++ (x : Int) :: ints suf := by rw [ints_app]; simp [ints]
    have e2 : pre ++ [x] ++ suf = pre ++ x :: suf := by simp
    have e3 : ints pre ++ [(x : Int)] = ints (pre ++ [x]) := by rw [ints_app]; rfl
    have ih := place_loop l hl suf (pre ++ [x]) (by rw [e2]; exact hnd) (fun j hj => hs j (List.mem_cons_of_mem _ hj)) (by simp; omega)
    rw [e1, e2] at ih
    have hpl : (ints pre).length < 4611686018427387904 := by rw [ints_len]; omega
    have hg : nth (rowF l.length (posF pre)) x = some 0 := by rw [rowF_get _ hx, posF, if_neg hxp]
    have hset : setNth (rowF l.length (posF pre)) x (((ints (pre ++ [x])).length : Nat) : Int) = rowF l.length (posF (pre ++ [x])) := by
      rw [rowF_set, ints_len, List.length_append, List.length_singleton]
      exact rowF_congr fun j _ => (posF_snoc hxp j).symm
    rw [ints_cons]
    simp only [b135, lt_mid, inb_mid, nth_mid, cond_true, Option.bind_some, df (show ¬ ((x : Int) < 0) by omega), df (show ¬ ((x : Int) ≥ ((l.length : Nat) : Int)) by omega), cond_false]
    simp only [inb_nat, rowF_len, dt hx, cond_true, Int.toNat_natCast, hg, Option.bind_some, nbt (show (0 : Int) = 0 from rfl), cond_false, blt_t hx, hset, next_mid (ints pre) (x : Int) hpl, e3]
    exact ih)

theorem behind6_loop (l : List Eqn) (hl : l.length ≤ 1000) (i : Nat) (hi : i < l.length) (P : Nat → Int) (x : List UInt8) (ps ss : List (List UInt8)) (hP : ∀ j, j < l.length → nmL l j = x → P j < P i) : ∀ (suf pre : List Eqn), l = pre ++ suf →
    k138 T.rb (rowF l.length P) (pre ++ suf) (i : Nat) (ps ++ x :: ss) (ps.length : Nat) (pre.length : Nat) = some (.inr (rowF l.length P))
  | [], pre, he => ob138 (by simp only [b138, lt_end, lt_self, List.append_nil, cond_false])
  | q :: suf, pre, he => ob138 (by
    have hll : l.length = pre.length + (suf.length + 1) := by rw [he]; simp
    have hqa : nmL l pre.length = q.1 := by rw [nmL, he, eqAt_mid]
    have ih := behind6_loop l hl i hi P x ps ss hP suf (pre ++ [q]) (by simp [he])
    simp only [List.append_assoc, List.singleton_append] at ih
    by_cases e : q.1 = x
    · have hp := hP pre.length (by omega) (hqa.trans e)
      simp only [b138, lt_mid, inb_mid, nth_mid, cond_true, Option.bind_some, beq_iff_eq.2 e]
      simp only [inb_nat, rowF_len, dt (show pre.length < l.length by omega), dt hi, cond_true, Int.toNat_natCast, rowF_get P (show pre.length < l.length by omega), rowF_get P hi, Option.bind_some, df (show ¬ (P pre.length ≥ P i) by omega), cond_false, next_mid pre q (by omega)]
      exact ih
    · simp only [b138, lt_mid, inb_mid, nth_mid, cond_true, Option.bind_some, beq_eq_false_iff_ne.2 e, cond_false, next_mid pre q (by omega)]
      exact ih)
theorem behind4_loop (l : List Eqn) (hl : l.length ≤ 1000) (i : Nat) (hi : i < l.length) (P : Nat → Int) : ∀ (suf pre : List (List UInt8)), pre.length + suf.length ≤ 1000000 → (∀ x ∈ suf, ∀ j, j < l.length → nmL l j = x → P j < P i) →
    k137 T.rb (rowF l.length P) l (i : Nat) (pre ++ suf) (pre.length : Nat) = some (.inr (rowF l.length P))
  | [], pre, h, hP => ob137 (by simp only [b137, lt_end, lt_self, List.append_nil, cond_false])
  | x :: suf, pre, h, hP => ob137 (by
    simp only [List.length_cons] at h
    have ih := behind4_loop l hl i hi P suf (pre ++ [x]) (by simp; omega) (fun y hy => hP y (List.mem_cons_of_mem _ hy))
    simp only [List.append_assoc, List.singleton_append] at ih
    have h6 := behind6_loop l hl i hi P x pre suf (hP x List.mem_cons_self) l [] rfl
    rw [List.nil_append, List.length_nil, show ((0 : Nat) : Int) = (0 : Int) from rfl] at h6
    simp only [b137, lt_mid, cond_true, h6, Option.bind_some, next_mid pre x (by omega)]
    exact ih)
theorem behind2_loop (l : List Eqn) (hl : l.length ≤ 1000) (hq : ∀ q ∈ l, q.2.length ≤ 1000000) (P : Nat → Int) (hP : ∀ i j, i < l.length → j < l.length → DL l i j = true → P j < P i) : ∀ (suf pre : List Eqn), l = pre ++ suf →
    k136 T.rb (rowF l.length P) (pre ++ suf) (pre.length : Nat) = some (.inr (rowF l.length P))
  | [], pre, he => ob136 (by simp only [b136, lt_end, lt_self, List.append_nil, cond_false])
  | q :: suf, pre, he => ob136 (by
    have hll : l.length = pre.length + (suf.length + 1) := by rw [he]; simp
    have hqa : nsL l pre.length = needs q.2 := by rw [nsL, he, eqAt_mid]
    have ih := behind2_loop l hl hq P hP suf (pre ++ [q]) (by simp [he])
    simp only [List.append_assoc, List.singleton_append] at ih
    have hn := needs_len q.2
    have h4 := behind4_loop l hl pre.length (by omega) P (needs q.2) [] (by simp; omega) (fun x hx j hj e => hP _ _ (by omega) hj (by rw [DL, hqa, e]; exact dt hx))
    rw [List.nil_append, List.length_nil, show ((0 : Nat) : Int) = (0 : Int) from rfl] at h4
    have hN := Needs_eq (hq q (by rw [he]; simp))
    have hle : k137 T.rb (rowF l.length P) (pre ++ q :: suf) (pre.length : Nat) (needs q.2) 0 = some (.inr (rowF l.length P)) := by rw [← he]; exact h4
    simp only [b136, lt_mid, inb_mid, nth_mid, cond_true, Option.bind_some, hN, hle, next_mid pre q (by omega)]
    exact ih)

theorem CauseBehind_eq (l : List Eqn) : c0 T.rf l = some true := or0 (by
  simp only [r0, live_eq, Option.bind_some, fewE_eq]
  cases hf : fewB l
  · rfl
  obtain ⟨h40, h100⟩ := few_P hf
  have hq : ∀ q ∈ l, q.2.length ≤ 1000000 := fun q hq => by have := h100 q hq; omega
  rw [Bool.not_true, cond_false, Order_eq (by omega) hq, Option.bind_some, orderL]
  have hv := greedy_val l.length [] (Val.nil (D := DL l) (n := l.length))
  have hvl := val_len hv
  rw [ordO]
  generalize hg : greedy (DL l) l.length l.length [] = V at *
  by_cases hlt : V.length < l.length
  · rw [if_pos hlt]; rfl
  rw [if_neg hlt, nbt rfl, cond_false, ints_len, nbt (by omega), cond_false]
  have hm : inb' ((l.length : Nat) : Int) most = true := inb'_t (by omega) (by rw [show most = 274877906944 from rfl]; omega)
  have hm2 : inb' ((l.length : Nat) : Int) l.length = true := inb'_t (by omega) (by omega)
  have h0 := place_loop l (by omega) V [] (by rw [List.nil_append]; exact val_nodup hv) (val_lt hv) (by simp; omega)
  rw [show ints [] = [] from rfl, List.nil_append, List.nil_append, List.length_nil, show ((0 : Nat) : Int) = (0 : Int) from rfl, show rowF l.length (posF []) = List.replicate l.length 0 from by rw [rowF_rep]; exact rowF_congr fun k _ => rfl] at h0
  have h2 := behind2_loop l (by omega) hq (posF V) (fun i j hi hj hd => by
    have hiV := val_all hv (by omega) i hi
    obtain ⟨A, B, e⟩ := List.append_of_mem hiV
    have hjA := val_behind hv A B i e j hj hd
    have hnd := val_nodup hv
    have hiA : i ∉ A := fun hA => by
      rw [e, List.nodup_append] at hnd
      exact hnd.2.2 i hA i List.mem_cons_self rfl
    have hjV := val_all hv (by omega) j hj
    rw [posF, posF, if_pos hiV, if_pos hjV, e, List.idxOf_append, List.idxOf_append, if_pos hjA, if_neg hiA, List.idxOf_cons_self]
    have := List.idxOf_lt_length_of_mem hjA
    omega) l [] rfl
  rw [List.nil_append, List.length_nil, show ((0 : Nat) : Int) = (0 : Int) from rfl] at h2
  simp only [hm, hm2, cond_true, h0, Option.bind_some, h2])
theorem lawCauseBehind : LawOk T 0 := fun d _ => ⟨true, CauseBehind_eq d, rfl, rfl, rfl⟩

end Go.Proofs.Ytifoobdekbjmdaa.R
