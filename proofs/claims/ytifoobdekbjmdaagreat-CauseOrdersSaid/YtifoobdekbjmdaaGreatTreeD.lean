/-
  OUR OWN: what the functions of package tree and of its document come to, in plain Lean: the document's May.
-/
import Derived.Test.YtifoobdekbjmdaaGreatTreeC
namespace Go.Proofs.YtifoobdekbjmdaaGreat.R
open Go Go.Bm Go.Proofs
set_option linter.unusedVariables false
set_option linter.unusedSimpArgs false
set_option maxRecDepth 4000

theorem eqm (x y : Int) : (x == y) = decide (x = y) := by
  by_cases e : x = y
  · rw [dt e, bt e]
  · rw [df e, bf e]

theorem bare_eq (n : Nd) : c98 T.rf n = some (decide (n = aim (n.1, -1, -1, -1, n.2.2.2.2) (kids n))) := or98 (by
  obtain ⟨op, a, b, c, k, nm⟩ := n
  simp only [r98, refKids_eq, Option.bind_some]
  by_cases h26 : op = 26
  · subst h26
    simp [kids, aim]
  by_cases h28 : op = 28
  · subst h28
    by_cases hb : b = -1
    · subst hb
      simp [kids, aim, eqm]
    · simp [kids, aim, hb, eqm]
  by_cases h27 : op = 27
  · subst h27
    by_cases ha : a = -1
    · subst ha
      by_cases hb : b = -1
      · subst hb; simp [kids, aim, eqm]
      · simp [kids, aim, eqm, hb]
    · by_cases hb : b = -1
      · subst hb; simp [kids, aim, eqm, ha]
      · simp [kids, aim, eqm, hb, ha]
  simp only [bf h27, bf h28, cond_false]
  by_cases h6 : 6 ≤ op ∧ op ≤ 20
  · have hk : kids (op, a, b, c, k, nm) = [a, b] := by
      simp only [kids]; rw [if_neg h26, if_neg (fun h => h28 h.1), if_neg (fun h => h27 h.1), if_pos h6]
    rw [hk]
    simp [aim, h28, eqm]
  by_cases h4 : op = 4 ∨ op = 5 ∨ (21 ≤ op ∧ op ≤ 28)
  · have hk : kids (op, a, b, c, k, nm) = [a] := by
      simp only [kids]; rw [if_neg h26, if_neg (fun h => h28 h.1), if_neg (fun h => h27 h.1), if_neg h6, if_pos h4]
    rw [hk]
    by_cases hb : b = -1
    · subst hb; simp [aim, eqm]
    · simp [aim, hb, eqm]
  · have hk : kids (op, a, b, c, k, nm) = [] := by
      simp only [kids]; rw [if_neg h26, if_neg (fun h => h28 h.1), if_neg (fun h => h27 h.1), if_neg h6, if_neg h4]
    rw [hk]
    by_cases ha : a = -1
    · by_cases hb : b = -1
      · subst hb; subst ha; simp [aim, eqm]
      · subst ha; simp [aim, hb, eqm]
    · simp [aim, ha, eqm])

theorem plain_eq (n : Nd) : c99 T.rf n = some (decide (0 ≤ n.2.2.2.2.1 ∧ n.2.2.2.2.1 ≤ mostN n.1 ∧ (n.2.2.2.2.2 ≠ [] ↔ (n.1 = 3 ∨ n.1 = 27)))) := or99 (by
  obtain ⟨op, a, b, c, k, nm⟩ := n
  have e : ∀ c : Bool, ((!(nm == ([] : List UInt8))) == c) = decide (nm ≠ [] ↔ c = true) := fun c => by cases nm <;> cases c <;> simp
  simp only [r99, e, mostN, eqm]
  have key : ∀ (Q : Prop) [Decidable Q] (P : Prop) [Decidable P] (M : Int), (P ↔ (0 ≤ k ∧ k ≤ M)) → (Q ↔ (nm ≠ [] ↔ (op = 3 ∨ op = 27))) → ∀ x : Option Bool, x = some (decide P) → (bif !decide Q then some false else x) = some (decide (0 ≤ k ∧ k ≤ M ∧ (nm ≠ [] ↔ (op = 3 ∨ op = 27)))) := by
    intro Q _ P _ M h1 h2 x hx
    by_cases hq : Q
    · rw [dt hq, Bool.not_true, cond_false, hx]
      by_cases hp : P
      · rw [dt hp, dt ⟨(h1.1 hp).1, (h1.1 hp).2, h2.1 hq⟩]
      · rw [df hp, df (fun hh => hp (h1.2 ⟨hh.1, hh.2.1⟩))]
    · rw [df hq, Bool.not_false, cond_true, df (fun hh => hq (h2.2 hh.2.2))]
  have two : ∀ M : Int, (bif decide (k ≥ 0) then some (decide (k ≤ M)) else some false) = some (decide (0 ≤ k ∧ k ≤ M)) := fun M => by
    by_cases h0 : 0 ≤ k
    · rw [dt (show k ≥ 0 from h0), cond_true]; simp [h0]
    · rw [df (show ¬ k ≥ 0 from h0), cond_false]; simp [h0]
  by_cases h3 : op = 3
  · subst h3
    exact key _ (k = 0) 0 (by omega) (by simp) _ rfl
  by_cases h27 : op = 27
  · subst h27
    exact key _ (k = 0) 0 (by omega) (by simp) _ rfl
  rw [df h3, cond_false, df h27]
  by_cases h1 : op = 1
  · subst h1
    exact key _ (0 ≤ k ∧ k ≤ 2147483647) 2147483647 Iff.rfl (by simp) _ (two _)
  by_cases h2 : op = 2
  · subst h2
    refine key _ (0 ≤ k ∧ k ≤ 1) 1 Iff.rfl (by simp) _ ?_
    by_cases h0 : k = 0
    · subst h0; rfl
    · rw [df (show ¬ (2 : Int) = 1 by decide), cond_false, dt rfl, cond_true, df h0, cond_false]
      by_cases h1 : k = 1
      · subst h1; rfl
      · rw [df h1, df (by omega)]
  by_cases h25 : op = 25
  · subst h25
    exact key _ (0 ≤ k ∧ k ≤ 1000) 1000 Iff.rfl (by simp) _ (two _)
  rw [df h1, df h2, df h25, if_neg h1, if_neg h2, if_neg h25]
  exact key _ (k = 0) 0 (by omega) (by simp [h3, h27]) _ rfl)

def argsB (e : List Nd) (n : Nd) : List Int → Nat → Bool
  | [], _ => true
  | k :: ks, a => argB e n a k && argsB e n ks (a + 1)

theorem args_loop (e : List Nd) (n : Nd) (h28 : n.1 = 28 → ((kids n).length = 2 ↔ n.2.2.1 ≠ -1)) : ∀ (suf pre : List Int), kids n = pre ++ suf → (∀ k ∈ suf, 0 ≤ k ∧ k < e.length) →
    (argsB e n suf pre.length = true ∧ k136 T.rb n (kids n) e (pre.length : Nat) = some (.inr (n, kids n))) ∨
    (argsB e n suf pre.length = false ∧ k136 T.rb n (kids n) e (pre.length : Nat) = some (.inl (n, kids n, false)))
  | [], pre, h, hk => .inl ⟨rfl, ob136 (by
    rw [h]; simp only [b136, lt_end, lt_self, List.append_nil, cond_false])⟩
  | k :: suf, pre, h, hk => by
    have hkk := hk k List.mem_cons_self
    have ih := args_loop e n h28 suf (pre ++ [k]) (by rw [h]; simp) (fun q hq => hk q (List.mem_cons_of_mem _ hq))
    have hpl : (pre ++ [k]).length = pre.length + 1 := by simp
    have hk3 := kids_len n
    rw [hpl] at ih
    have hk' : k.toNat < e.length := by omega
    obtain ⟨x, hx, hxo⟩ := opAt_nth hk'
    have a1 : decide (((pre.length : Nat) : Int) < (((kids n).length : Nat) : Int)) = true := by rw [h]; exact lt_mid pre k suf
    have a2 : inb ((pre.length : Nat) : Int) (kids n).length = true := by rw [h]; exact inb_mid pre k suf
    have a3 : nth (kids n) ((pre.length : Nat) : Int).toNat = some k := by rw [h]; exact nth_mid pre k suf
    have a4 : IntKind.i64.wrap (((pre.length : Nat) : Int) + 1) = ((pre.length + 1 : Nat) : Int) := wr_succ (by rw [h] at hk3; simp at hk3; omega)
    have hine : inb k e.length = true := inb_t hkk.1 hkk.2
    have hp0 : (((pre.length : Nat) : Int) == 0) = decide (pre.length = 0) := by
      by_cases e : pre.length = 0
      · rw [dt e, bt (by omega)]
      · rw [df e, bf (by omega)]
    have hbody : b136 T.rf T.rb n (kids n) e (pre.length : Nat) = if argB e n pre.length k = true then k136 T.rb n (kids n) e ((pre.length + 1 : Nat) : Int) else some (.inl (n, kids n, false)) := by
      simp only [b136, a1, a2, a3, a4, cond_true, Option.bind_some, hine, hx, argB, ← hxo, hp0, eqm x.1 28]
      by_cases e27 : n.1 = 27
      · simp only [bt e27, cond_true, dt e27, Bool.true_or]
        cases decide (x.1 = 28) <;> simp
      · by_cases e28 : n.1 = 28
        · have := h28 e28
          by_cases eb : n.2.2.1 = -1
          · have hl : (kids n).length ≠ 2 := fun hh => (this.1 hh) eb
            simp only [bf e27, bt e28, cond_true, cond_false, bf (show (((kids n).length : Nat) : Int) ≠ 2 by omega), dt e28, df e27, df (show ¬ (n.2.2.1 ≠ -1) from fun h => h eb), Bool.false_or, Bool.true_and, Bool.false_and]
            cases decide (x.1 = 28) <;> simp
          · have hl : (kids n).length = 2 := this.2 eb
            simp only [bf e27, bt e28, cond_true, cond_false, bt (show (((kids n).length : Nat) : Int) = 2 by omega), dt e28, df e27, dt (show n.2.2.1 ≠ -1 from eb), Bool.false_or, Bool.true_and]
            cases decide (x.1 = 28) <;> cases decide (pre.length = 0) <;> simp
        · simp only [bf e27, bf e28, cond_false, df e28, df e27, Bool.false_or, Bool.false_and]
          cases decide (x.1 = 28) <;> simp
    cases hA : argB e n pre.length k with
    | false =>
      rw [hA, if_neg (by decide)] at hbody
      exact .inr ⟨by simp [argsB, hA], ob136 hbody⟩
    | true =>
      rw [hA, if_pos rfl] at hbody
      rcases ih with ⟨h1, h2⟩ | ⟨h1, h2⟩
      · exact .inl ⟨by simp [argsB, hA, h1], ob136 (hbody.trans h2)⟩
      · exact .inr ⟨by simp [argsB, hA, h1], ob136 (hbody.trans h2)⟩

theorem kids28 (n : Nd) (h : n.1 = 28) : (kids n).length = 2 ↔ n.2.2.1 ≠ -1 := by
  obtain ⟨op, a, b, c, k, nm⟩ := n
  simp only at h
  subst h
  by_cases hb : b = -1
  · subst hb; simp [kids]
  · simp [kids, hb]

theorem args_eq {e : List Nd} {i : Nat} {n : Nd} (hi : nth e i = some n) (hil : i < e.length) (hk : ∀ k ∈ kids n, 0 ≤ k ∧ k < e.length) : c100 T.rf e (i : Nat) = some (argsB e n (kids n) 0) := or100 (by
  have := args_loop e n (kids28 n) (kids n) [] rfl hk
  simp only [List.length_nil] at this
  rw [show ((0 : Nat) : Int) = (0 : Int) from rfl] at this
  simp only [r100, inb_nat, dt hil, cond_true, Int.toNat_natCast, hi, Option.bind_some, refKids_eq]
  rcases this with ⟨h1, h2⟩ | ⟨h1, h2⟩ <;> rw [h1, h2] <;> rfl)

/-! ### What the document counts -/
def cnt (N : Nat) (V : List Nat) : List Int := (List.range N).map fun j => ((V.count j : Nat) : Int)
theorem cnt_len (N : Nat) (V : List Nat) : (cnt N V).length = N := by simp [cnt]
theorem cnt_get {N : Nat} {V : List Nat} {k : Nat} (h : k < N) : nth (cnt N V) k = some ((V.count k : Nat) : Int) := by
  rw [nth_getElem?, cnt, List.getElem?_map, List.getElem?_range h]; rfl
theorem cnt_set {N : Nat} {V : List Nat} {k : Nat} (h : k < N) : setNth (cnt N V) k (((V.count k + 1 : Nat) : Int)) = cnt N (V ++ [k]) := by
  rw [setNth_set]
  apply List.ext_getElem?
  intro j
  rw [List.getElem?_set]
  by_cases hj : j < N
  · simp only [cnt, List.getElem?_map, List.getElem?_range hj, List.length_map, List.length_range]
    by_cases e : k = j
    · subst e; simp [h, List.count_append]
    · simp [e, List.count_append, List.count_singleton]
  · have hne : k ≠ j := by omega
    rw [if_neg hne, List.getElem?_eq_none (by rw [cnt_len]; omega), List.getElem?_eq_none (by rw [cnt_len]; omega)]

def rangeB (i : Nat) (ks : List Int) : Bool := ks.all fun k => decide (0 ≤ k ∧ k < i)

theorem refMay_loop2 (N i : Nat) (hi : i < N) (ks : List Int) (hks : ks.length ≤ 3) : ∀ (suf pre : List Int) (V : List Nat), ks = pre ++ suf → V.length + suf.length ≤ 1000000000 →
    (rangeB i suf = true ∧ k135 T.rb (cnt N V) ks (i : Nat) (pre.length : Nat) = some (.inr (cnt N (V ++ suf.map Int.toNat), ks))) ∨
    (rangeB i suf = false ∧ ∃ u, k135 T.rb (cnt N V) ks (i : Nat) (pre.length : Nat) = some (.inl (u, ks, false)))
  | [], pre, V, h, hV => .inl ⟨rfl, ob135 (by
    rw [h]; simp only [b135, lt_end, lt_self, List.append_nil, cond_false, List.map_nil])⟩
  | k :: suf, pre, V, h, hV => by
    simp only [List.length_cons] at hV
    have ih := refMay_loop2 N i hi ks hks suf (pre ++ [k]) (V ++ [k.toNat]) (by rw [h]; simp) (by simp; omega)
    have hpl : (pre ++ [k]).length = pre.length + 1 := by simp
    rw [hpl] at ih
    have a1 : decide (((pre.length : Nat) : Int) < ((ks.length : Nat) : Int)) = true := by rw [h]; exact lt_mid pre k suf
    have a2 : inb ((pre.length : Nat) : Int) ks.length = true := by rw [h]; exact inb_mid pre k suf
    have a3 : nth ks ((pre.length : Nat) : Int).toNat = some k := by rw [h]; exact nth_mid pre k suf
    have a4 : IntKind.i64.wrap (((pre.length : Nat) : Int) + 1) = ((pre.length + 1 : Nat) : Int) := wr_succ (by rw [h] at hks; simp at hks; omega)
    by_cases h1 : 0 ≤ k
    case neg => exact .inr ⟨by simp [rangeB, h1], _, ob135 (by
      simp only [b135, a1, a2, a3, cond_true, Option.bind_some, dt (show k < 0 by omega)]; rfl)⟩
    by_cases h2 : k < i
    case neg => exact .inr ⟨by simp [rangeB, h2], _, ob135 (by
      simp only [b135, a1, a2, a3, cond_true, Option.bind_some, df (show ¬ k < 0 by omega), cond_false, dt (show k ≥ i by omega)]; rfl)⟩
    have hkN : k.toNat < N := by omega
    have hin : inb k (cnt N V).length = true := inb_t h1 (by rw [cnt_len]; omega)
    have hbl : Nat.blt k.toNat (cnt N V).length = true := blt_t (by rw [cnt_len]; exact hkN)
    have hcl : V.count k.toNat ≤ V.length := List.count_le_length
    have hbody : b135 T.rf T.rb (cnt N V) ks (i : Nat) (pre.length : Nat) = k135 T.rb (cnt N (V ++ [k.toNat])) ks (i : Nat) ((pre.length + 1 : Nat) : Int) := by
      simp only [b135, a1, a2, a3, a4, cond_true, Option.bind_some, df (show ¬ k < 0 by omega), cond_false, df (show ¬ k ≥ i by omega), hin, cnt_get hkN, hbl, wr_succ (show V.count k.toNat < 4611686018427387904 by omega), cnt_set hkN]
    have hr : rangeB i (k :: suf) = rangeB i suf := by simp [rangeB, h1, h2]
    rw [hr]
    rcases ih with ⟨g1, g2⟩ | ⟨g1, u, g2⟩
    · refine .inl ⟨g1, ob135 (hbody.trans ?_)⟩
      rw [g2]; simp
    · exact .inr ⟨g1, u, ob135 (hbody.trans g2)⟩

def scanR (e : List Nd) : List Nd → Nat → List Nat → Option (List Nat)
  | [], _, V => some V
  | n :: r, i, V => if nodeB n = true ∧ rangeB i (kids n) = true ∧ argsB e n (kids n) 0 = true then scanR e r (i + 1) (V ++ (kids n).map Int.toNat) else none

theorem nodeB_split (n : Nd) : nodeB n = (decide (1 ≤ n.1) && (decide (n.1 ≤ 28) && (decide (n = aim (n.1, -1, -1, -1, n.2.2.2.2) (kids n)) && decide (0 ≤ n.2.2.2.2.1 ∧ n.2.2.2.2.1 ≤ mostN n.1 ∧ (n.2.2.2.2.2 ≠ [] ↔ (n.1 = 3 ∨ n.1 = 27)))))) := by
  unfold nodeB
  rw [Bool.eq_iff_iff]
  simp only [decide_eq_true_eq, Bool.and_eq_true]

theorem refMay_loop0 (e : List Nd) (hN : e.length ≤ 1000000) : ∀ (suf pre : List Nd) (V : List Nat), e = pre ++ suf → V.length ≤ 3 * pre.length →
    match scanR e suf pre.length V with
    | some V' => k134 T.rb (cnt e.length V) e (pre.length : Nat) = some (.inr (cnt e.length V'))
    | none => ∃ u, k134 T.rb (cnt e.length V) e (pre.length : Nat) = some (.inl (u, false))
  | [], pre, V, h, hV => ob134 (by
    subst h
    simp only [b134, lt_end, lt_self, List.append_nil, cond_false])
  | n :: suf, pre, V, h, hV => by
    have hk3 := kids_len n
    have ih := refMay_loop0 e hN suf (pre ++ [n]) (V ++ (kids n).map Int.toNat) (by rw [h]; simp) (by simp; omega)
    have hpl : (pre ++ [n]).length = pre.length + 1 := by simp
    rw [hpl] at ih
    have hlt : pre.length < e.length := by rw [h]; simp
    have hl2 := refMay_loop2 e.length pre.length hlt (kids n) hk3 (kids n) [] V rfl (by omega)
    simp only [List.length_nil] at hl2
    rw [show ((0 : Nat) : Int) = (0 : Int) from rfl] at hl2
    have a1 : decide (((pre.length : Nat) : Int) < ((e.length : Nat) : Int)) = true := dt (by omega)
    have a2 : inb ((pre.length : Nat) : Int) e.length = true := inb_t (by omega) (by omega)
    have a3' : nth e pre.length = some n := by rw [h, nth_getElem?]; simp
    have a3 : nth e ((pre.length : Nat) : Int).toNat = some n := by rw [Int.toNat_natCast]; exact a3'
    have a4 : IntKind.i64.wrap (((pre.length : Nat) : Int) + 1) = ((pre.length + 1 : Nat) : Int) := wr_succ (by omega)
    rw [scanR]
    have out : ∀ {u}, b134 T.rf T.rb (cnt e.length V) e (pre.length : Nat) = some (.inl (u, false)) → ∃ u, k134 T.rb (cnt e.length V) e (pre.length : Nat) = some (.inl (u, false)) := fun h => ⟨_, ob134 h⟩
    have hsp := nodeB_split n
    by_cases h1 : 1 ≤ n.1
    case neg =>
      rw [df h1, Bool.false_and] at hsp
      rw [if_neg (by rw [hsp]; intro hh; cases hh.1)]
      exact out (u := cnt e.length V) (by simp only [b134, a1, a2, a3, cond_true, Option.bind_some, dt (show n.1 < 1 by omega)])
    by_cases h2 : n.1 ≤ 28
    case neg =>
      rw [df h2, Bool.false_and, Bool.and_false] at hsp
      rw [if_neg (by rw [hsp]; intro hh; cases hh.1)]
      exact out (u := cnt e.length V) (by simp only [b134, a1, a2, a3, cond_true, Option.bind_some, df (show ¬ n.1 < 1 by omega), cond_false, dt (show n.1 > 28 by omega)])
    rw [dt h1, dt h2, Bool.true_and, Bool.true_and] at hsp
    cases hb : decide (n = aim (n.1, -1, -1, -1, n.2.2.2.2) (kids n))
    · rw [hb, Bool.false_and] at hsp
      rw [if_neg (by rw [hsp]; intro hh; cases hh.1)]
      exact out (u := cnt e.length V) (by simp only [b134, a1, a2, a3, cond_true, Option.bind_some, df (show ¬ n.1 < 1 by omega), cond_false, df (show ¬ n.1 > 28 by omega), bare_eq, hb, Bool.not_false])
    rw [hb, Bool.true_and] at hsp
    cases hp : decide (0 ≤ n.2.2.2.2.1 ∧ n.2.2.2.2.1 ≤ mostN n.1 ∧ (n.2.2.2.2.2 ≠ [] ↔ (n.1 = 3 ∨ n.1 = 27)))
    · rw [hp] at hsp
      rw [if_neg (by rw [hsp]; intro hh; cases hh.1)]
      exact out (u := cnt e.length V) (by simp only [b134, a1, a2, a3, cond_true, Option.bind_some, df (show ¬ n.1 < 1 by omega), cond_false, df (show ¬ n.1 > 28 by omega), bare_eq, hb, Bool.not_true, plain_eq, hp, Bool.not_false])
    rw [hp] at hsp
    have hbody : b134 T.rf T.rb (cnt e.length V) e (pre.length : Nat) = (k135 T.rb (cnt e.length V) (kids n) (pre.length : Nat) 0).bind fun z => match z with
        | .inl u => some (.inl (u.1, u.2.2))
        | .inr w => (c100 T.rf e (pre.length : Nat)).bind fun y => bif !y then some (.inl (w.1, false)) else k134 T.rb w.1 e ((pre.length + 1 : Nat) : Int) := by
      simp only [b134, a1, a2, a3, cond_true, cond_false, Option.bind_some, df (show ¬ n.1 < 1 by omega), df (show ¬ n.1 > 28 by omega), bare_eq, hb, Bool.not_true, plain_eq, hp, refKids_eq, a4]
      rfl
    rcases hl2 with ⟨g1, g2⟩ | ⟨g1, u, g2⟩
    · have hkr : ∀ k ∈ kids n, 0 ≤ k ∧ k < e.length := fun k hk => by
        have := List.all_eq_true.1 g1 k hk
        simp only [decide_eq_true_eq] at this
        omega
      rw [g2, Option.bind_some] at hbody
      simp only [args_eq a3' hlt hkr, Option.bind_some] at hbody
      cases ha : argsB e n (kids n) 0
      · rw [ha] at hbody
        rw [if_neg (by intro hh; cases hh.2.2)]
        exact out hbody
      · rw [ha] at hbody
        rw [if_pos ⟨hsp, g1, rfl⟩]
        cases hs : scanR e suf (pre.length + 1) (V ++ (kids n).map Int.toNat) with
        | none =>
          rw [hs] at ih
          obtain ⟨u, ih⟩ := ih
          exact out (hbody.trans ih)
        | some V' =>
          rw [hs] at ih
          exact ob134 (hbody.trans ih)
    · rw [if_neg (by rw [g1]; intro hh; cases hh.2.1)]
      rw [g2] at hbody
      exact out hbody

theorem refMay_loop4 (e : List Nd) (he : e ≠ []) (hN : e.length ≤ 1000000) (V : List Nat) : ∀ (m j : Nat), j + m = e.length - 1 →
    ((∀ q, j ≤ q → q < e.length - 1 → V.count q = 1) ∧ k137 T.rb (cnt e.length V) e (j : Nat) = some (.inr (cnt e.length V))) ∨
    ((∃ q, j ≤ q ∧ q < e.length - 1 ∧ V.count q ≠ 1) ∧ k137 T.rb (cnt e.length V) e (j : Nat) = some (.inl (cnt e.length V, false)))
  | 0, j, h => .inl ⟨fun q h1 h2 => by omega, ob137 (by
    simp only [b137, last_i he (by omega), df (show ¬ ((j : Int) < ((e.length - 1 : Nat) : Int)) by omega), cond_false])⟩
  | m + 1, j, h => by
    have ih := refMay_loop4 e he hN V m (j + 1) (by omega)
    have hj : j < e.length := by omega
    have hin : inb (j : Int) (cnt e.length V).length = true := inb_t (by omega) (by rw [cnt_len]; omega)
    by_cases hc : V.count j = 1
    · have hbody : b137 T.rf T.rb (cnt e.length V) e (j : Nat) = k137 T.rb (cnt e.length V) e ((j + 1 : Nat) : Int) := by
        simp only [b137, last_i he (by omega), dt (show ((j : Int) < ((e.length - 1 : Nat) : Int)) by omega), cond_true, hin, Int.toNat_natCast, cnt_get hj, Option.bind_some, hc, wr_succ (show j < 4611686018427387904 by omega)]
        rfl
      rcases ih with ⟨g1, g2⟩ | ⟨⟨q, g1, g3, g4⟩, g2⟩
      · refine .inl ⟨fun q h1 h2 => ?_, ob137 (hbody.trans g2)⟩
        rcases Nat.lt_or_eq_of_le h1 with h3 | h3
        · exact g1 q h3 h2
        · subst h3; exact hc
      · exact .inr ⟨⟨q, by omega, g3, g4⟩, ob137 (hbody.trans g2)⟩
    · refine .inr ⟨⟨j, Nat.le_refl _, by omega, hc⟩, ob137 ?_⟩
      simp only [b137, last_i he (by omega), dt (show ((j : Int) < ((e.length - 1 : Nat) : Int)) by omega), cond_true, hin, Int.toNat_natCast, cnt_get hj, Option.bind_some, nbf (show ((V.count j : Nat) : Int) ≠ 1 by omega)]

/-! ### Both count the same -/
theorem nod_count : ∀ l : List Nat, l.Nodup ↔ ∀ j, l.count j ≤ 1
  | [] => by simp
  | a :: l => by
    rw [List.nodup_cons, nod_count l]
    constructor
    · rintro ⟨h1, h2⟩ j
      rw [List.count_cons]
      by_cases e : a = j
      · subst e; rw [List.count_eq_zero.2 h1]; simp
      · simp [e, h2 j]
    · intro h
      refine ⟨fun hm => ?_, fun j => ?_⟩
      · have := h a
        rw [List.count_cons_self] at this
        have := List.count_pos_iff.2 hm
        omega
      · have := h j
        rw [List.count_cons] at this
        omega

theorem scanK_iff (e : List Nd) (n : Nd) (i : Nat) : ∀ (ks : List Int) (a : Nat) (V V' : List Nat), V.Nodup → (scanK e n i ks a V = some V' ↔ rangeB i ks = true ∧ argsB e n ks a = true ∧ V' = V ++ ks.map Int.toNat ∧ V'.Nodup)
  | [], a, V, V', hV => by
    simp only [scanK, rangeB, argsB, List.all_nil, List.map_nil, List.append_nil, true_and, Option.some.injEq]
    constructor
    · rintro rfl; exact ⟨rfl, hV⟩
    · rintro ⟨rfl, _⟩; rfl
  | k :: ks, a, V, V', hV => by
    rw [scanK]
    split
    · rename_i h
      have hV2 : (V ++ [k.toNat]).Nodup := List.nodup_append.2 ⟨hV, by simp, fun x hx y hy => by simp at hy; subst hy; intro e; subst e; exact h.2.2.1 hx⟩
      rw [scanK_iff e n i ks (a + 1) (V ++ [k.toNat]) V' hV2]
      simp [rangeB, argsB, h.1, h.2.1, h.2.2.2]
    · rename_i h
      constructor
      · intro hh; cases hh
      · rintro ⟨h1, h2, h3, h4⟩
        exfalso
        simp only [rangeB, List.all_cons, Bool.and_eq_true, decide_eq_true_eq] at h1
        simp only [argsB, Bool.and_eq_true] at h2
        refine h ⟨h1.1.1, h1.1.2, fun hm => ?_, h2.1⟩
        rw [h3] at h4
        exact (List.nodup_append.1 h4).2.2 _ hm _ (by simp) rfl

theorem scanR_ext (e : List Nd) : ∀ (r : List Nd) (i : Nat) (V V' : List Nat), scanR e r i V = some V' → ∃ W, V' = V ++ W
  | [], i, V, V', h => by cases h; exact ⟨[], by simp⟩
  | n :: r, i, V, V', h => by
    rw [scanR] at h
    split at h
    · obtain ⟨W, rfl⟩ := scanR_ext e r _ _ _ h
      exact ⟨(kids n).map Int.toNat ++ W, by simp⟩
    · cases h

theorem scan_iff (e : List Nd) : ∀ (r : List Nd) (i : Nat) (V V' : List Nat), V.Nodup → (scan e r i V = some V' ↔ scanR e r i V = some V' ∧ V'.Nodup)
  | [], i, V, V', hV => by
    simp only [scan, scanR, Option.some.injEq]
    constructor
    · rintro rfl; exact ⟨rfl, hV⟩
    · exact fun h => h.1
  | n :: r, i, V, V', hV => by
    rw [scan, scanR]
    by_cases hn : nodeB n = true
    case neg => rw [if_neg hn, if_neg (fun h => hn h.1)]; simp
    rw [if_pos hn]
    cases hs : scanK e n i (kids n) 0 V with
    | some V1 =>
      obtain ⟨g1, g2, g3, g4⟩ := (scanK_iff e n i (kids n) 0 V V1 hV).1 hs
      rw [if_pos ⟨hn, g1, g2⟩]
      subst g3
      exact scan_iff e r (i + 1) _ V' g4
    | none =>
      constructor
      · intro h; cases h
      · rintro ⟨h, hd⟩
        split at h
        · rename_i hc
          obtain ⟨W, rfl⟩ := scanR_ext e r _ _ _ h
          have := (scanK_iff e n i (kids n) 0 V (V ++ (kids n).map Int.toNat) hV).2 ⟨hc.2.1, hc.2.2, rfl, (List.nodup_append.1 hd).1⟩
          rw [hs] at this; cases this
        · cases h

theorem scanR_lt (e : List Nd) (m : Nat) : ∀ (r : List Nd) (i : Nat) (V V' : List Nat), scanR e r i V = some V' → (∀ x ∈ V, x < m) → i + r.length ≤ m + 1 → ∀ x ∈ V', x < m
  | [], i, V, V', h, hV, hm => by cases h; exact hV
  | n :: r, i, V, V', h, hV, hm => by
    rw [scanR] at h
    simp only [List.length_cons] at hm
    split at h
    · rename_i hc
      refine scanR_lt e m r (i + 1) _ V' h (fun x hx => ?_) (by omega)
      rcases List.mem_append.1 hx with hx | hx
      · exact hV x hx
      · obtain ⟨k, hk, rfl⟩ := List.mem_map.1 hx
        have := List.all_eq_true.1 hc.2.1 k hk
        simp only [decide_eq_true_eq] at this
        omega
    · cases h

theorem refMay_eq {e : List Nd} (h : e.length ≤ 1000000) : c97 T.rf e = some (mayB e) := or97 (by
  simp only [r97, mayB]
  by_cases he : e = []
  · subst he; rfl
  have hpos := List.length_pos_iff.2 he
  rw [df (show ¬ ((e.length : Nat) : Int) < 1 by omega), cond_false, dt he, Bool.true_and]
  by_cases hl : e.length ≤ 5000
  case neg => rw [dt (show ((e.length : Nat) : Int) > 5000 by omega), cond_true, df hl, Bool.false_and]
  rw [df (show ¬ ((e.length : Nat) : Int) > 5000 by omega), cond_false, dt hl, Bool.true_and]
  rw [inb'_nat, dt (show e.length ≤ most by unfold most; omega), cond_true, inb'_nat, dt (Nat.le_refl _), cond_true]
  have h0 := refMay_loop0 e (by omega) e [] [] rfl (by simp)
  have hu : cnt e.length [] = List.replicate e.length 0 := by
    apply List.ext_getElem?
    intro j
    simp only [cnt, List.getElem?_map, List.getElem?_replicate]
    by_cases hj : j < e.length
    · rw [List.getElem?_range hj, if_pos hj]; simp
    · rw [List.getElem?_eq_none (by simp; omega), if_neg hj]; rfl
  rw [hu] at h0
  simp only [List.length_nil] at h0
  rw [show ((0 : Nat) : Int) = (0 : Int) from rfl] at h0
  have hiff := fun V => scan_iff e e 0 [] V (by simp)
  cases hs : scanR e e 0 [] with
  | none =>
    rw [hs] at h0
    obtain ⟨u, h0⟩ := h0
    have hn : scan e e 0 [] = none := by
      cases hsc : scan e e 0 [] with
      | none => rfl
      | some V => have := ((hiff V).1 hsc).1; rw [hs] at this; cases this
    rw [h0, hn, Bool.and_false]; rfl
  | some V =>
    rw [hs] at h0
    rw [h0]
    simp only [Option.bind_some]
    have hlt := scanR_lt e (e.length - 1) e 0 [] V hs (by simp) (by omega)
    have h4 := refMay_loop4 e he (by omega) V (e.length - 1) 0 (by omega)
    rw [show ((0 : Nat) : Int) = (0 : Int) from rfl] at h4
    obtain ⟨x, hx, hxo⟩ := opAt_nth (e := e) (k := e.length - 1) (by omega)
    rcases h4 with ⟨g1, g2⟩ | ⟨⟨q, _, g3, g4⟩, g2⟩
    · have hnd : V.Nodup := (nod_count V).2 fun j => by
        by_cases hj : j < e.length - 1
        · rw [g1 j (by omega) hj]; omega
        · rw [List.count_eq_zero.2 (fun hm => hj (hlt j hm))]; omega
      have hsc := (hiff V).2 ⟨hs, hnd⟩
      have hall : ((List.range (e.length - 1)).all fun j => decide (j ∈ V)) = true := List.all_eq_true.2 fun j hj => by
        have := g1 j (by omega) (List.mem_range.1 hj)
        exact dt (List.count_pos_iff.1 (by omega))
      rw [g2, hsc]
      simp only [Option.bind_some, hall, Bool.true_and]
      rw [last_i he (by omega), inb_nat, dt (show e.length - 1 < e.length by omega), cond_true, Int.toNat_natCast, hx, Option.bind_some]
      by_cases h28 : x.1 = 28
      · rw [nbt h28, cond_false, df (show ¬ (opAt e (e.length - 1) ≠ 28) from fun g => g (hxo ▸ h28)), Bool.false_and]
      · rw [nbf h28, cond_true, dt (show opAt e (e.length - 1) ≠ 28 from hxo ▸ h28), Bool.true_and, refDepth_eq (by omega), Option.bind_some]
    · rw [g2]
      have : (match scan e e 0 [] with
          | none => false
          | some V => (List.range (e.length - 1)).all (fun j => decide (j ∈ V)) && decide (depth e ≤ 40)) = false := by
        cases hsc : scan e e 0 [] with
        | none => rfl
        | some V1 =>
          obtain ⟨k1, k2⟩ := (hiff V1).1 hsc
          rw [hs] at k1
          cases k1
          have hq : q ∉ V := fun hm => g4 (by
            have := (nod_count V).1 k2 q
            have := List.count_pos_iff.2 hm
            omega)
          have : ((List.range (e.length - 1)).all fun j => decide (j ∈ V)) = false := List.all_eq_false.2 ⟨q, List.mem_range.2 g3, by simpa using hq⟩
          simp only [this, Bool.false_and]
      rw [show ∀ (A B : Bool), B = false → some (A && B) = some false from fun A B hb => by rw [hb, Bool.and_false]]
      · rfl
      · exact this)

end Go.Proofs.YtifoobdekbjmdaaGreat.R
