/-
  OUR OWN: code's bytes: both ways walked; the law ImageWrites.
-/
import Derived.Test.YteifekbmmhpadaaImgA
namespace Go.Proofs.Yteifekbmmhpadaa.R
open Go Go.Bm Go.Proofs
set_option linter.unusedVariables false
set_option linter.unusedSimpArgs false
set_option maxRecDepth 4000

/-! Which fields. -/
abbrev Xb : Type := Ic × Bool
def shapeV (x : Ic) : Xb ⊕ Xb ⊕ Xb ⊕ Xb ⊕ Xb ⊕ Xb ⊕ Xb ⊕ Xb ⊕ Xb :=
  if x.1 = 30 then .inl (x, true) else
  if x.1 = 3 ∨ x.1 = 1 ∨ x.1 = 2 ∨ x.1 = 21 then .inr (.inl (x, true)) else
  if x.1 = 19 then .inr (.inr (.inl (x, false))) else
  if rdN x.1 = 3 then .inr (.inr (.inr (.inr (.inl (x, false))))) else
  if rdN x.1 = 2 then .inr (.inr (.inr (.inr (.inr (.inl (x, false)))))) else
  if rdN x.1 = 1 then .inr (.inr (.inr (.inr (.inr (.inr (.inl (x, false))))))) else
  .inr (.inr (.inr (.inl (x, false))))
theorem shape_eq (x : Ic) : c13 T.rf x = some (shapeV x) := or13 (by
  obtain ⟨op, d, a, b, c, m⟩ := x
  simp only [r13, numOperands_eq, Option.bind_some, shapeV]
  rcases rdN_cases op with h | ⟨h, hr⟩
  · rcases h with h | h | h | h | h | h | h <;> subst h <;> rfl
  · rw [hr]
    simp only [bf h.1, bf h.2.1, bf h.2.2.1, bf h.2.2.2.1, bf h.2.2.2.2.1, bf h.2.2.2.2.2.1, cond_false, if_neg h.2.2.2.2.2.2, if_neg h.2.2.2.2.1, if_neg h.2.2.2.2.2.1]
    rw [if_neg (show ¬ (op = 3 ∨ op = 1 ∨ op = 2 ∨ op = 21) by omega)]
    by_cases h1 : op = 4 ∨ op = 5
    · simp only [if_pos h1]; rfl
    · simp only [if_neg h1]
      by_cases h2 : 6 ≤ op ∧ op ≤ 18
      · simp only [if_pos h2]; rfl
      · simp only [if_neg h2]; rfl)

/-! The program's way. -/
theorem inp_loop : ∀ (suf pre : List Int), pre.length + suf.length ≤ 1000000 → k11 T.rb (pre ++ suf) ((pre ++ suf).length : Nat) (pre.length : Nat) = some (if (suf.all fun t => decide (0 ≤ t ∧ t ≤ 4294967295)) = true then .inr () else .inl ([], 1))
  | [], pre, h => ob11 (by simp only [b11, lt_end, lt_self, List.append_nil, cond_false]; rfl)
  | x :: suf, pre, h => ob11 (by
    simp only [List.length_cons] at h
    have ih := inp_loop suf (pre ++ [x]) (by simp; omega)
    simp only [List.append_assoc, List.singleton_append] at ih
    simp only [b11, lt_mid, inb_mid, nth_mid, cond_true, Option.bind_some, next_mid pre x (by omega), ih]
    rw [List.all_cons]
    by_cases h1 : x < 0
    · rw [dt h1, cond_true, df (by omega)]; rfl
    rw [df h1, cond_false]
    by_cases h2 : x > 4294967295
    · rw [dt h2, cond_true, df (by omega)]; rfl
    rw [df h2, cond_false, dt (by omega), Bool.true_and])
theorem sgn_neg {n : Int} (h : n < 0) (h2 : -2147483648 ≤ n) : IntKind.i64.wrap (IntKind.i64.wrap (-2 * n) - 1) = sgnI n := by
  rw [wr (x := -2 * n) (by omega), wr (by omega), sgnI, if_neg (by omega)]
theorem sgn_pos {n : Int} (h : ¬ n < 0) (h2 : n ≤ 2147483647) : IntKind.i64.wrap (2 * n) = sgnI n := by
  rw [wr (by omega), sgnI, if_pos (by omega)]
theorem words_nil (x : Ic) (h : x.1 = 30) : wordsI x = [x.1, x.2.2.1, sgnI x.2.2.2.2.2] := by
  unfold wordsI rdL hasNI; rw [h]; rfl
theorem words_named (x : Ic) (h : x.1 = 3 ∨ x.1 = 1 ∨ x.1 = 2 ∨ x.1 = 21) : wordsI x = [x.1, x.2.1, sgnI x.2.2.2.2.2] := by
  unfold wordsI rdL hasNI
  rcases h with h | h | h | h <;> rw [h] <;> rfl
theorem words_plain (x : Ic) (h : hasNI x.1 = false) : wordsI x = x.1 :: x.2.1 :: rdL x := by
  unfold wordsI
  rw [h, if_neg (fun e => by rw [e] at h; exact absurd h (by decide)), if_neg (by decide), List.append_nil]; rfl
theorem encL1 (x : Int) : encL [x] = encZ x.toNat := by rw [encL_cons, encL_nil, List.append_nil]
theorem ins_loop {c : Cd} (hR : c.2.1 ≤ 100000) (hS : c.2.2.1 ≤ 100000) (hi : c.2.2.2.2.length ≤ 1000000) : ∀ (suf pre : List Ic) (b : List Int), (∀ x ∈ suf, InstP c x) → pre.length + suf.length ≤ 1000000 → b.length + 30 * suf.length ≤ 800000000 →
    k12 T.rb b (pre ++ suf) ((pre ++ suf).length : Nat) (pre.length : Nat) = some (b ++ suf.flatMap fun x => encL (wordsI x))
  | [], pre, b, hx, h, hb => ob12 (by simp only [b12, lt_end, lt_self, List.append_nil, cond_false, List.flatMap_nil])
  | x :: suf, pre, b, hx, h, hb => ob12 (by
    simp only [List.length_cons] at h hb
    obtain ⟨hw, hrd⟩ := words_ok hR hS hi (hx x List.mem_cons_self)
    have hwl := words_len x
    have hel := encL_len _ hw
    have hok := (hx x List.mem_cons_self).1
    rw [okI_iff] at hok
    have hk := of_decide_eq_true hok
    have ih := ins_loop hR hS hi suf (pre ++ [x]) (b ++ encL (wordsI x)) (fun y hy => hx y (List.mem_cons_of_mem _ hy)) (by simp; omega) (by rw [List.length_append]; omega)
    simp only [List.append_assoc, List.singleton_append] at ih
    rw [List.flatMap_cons]
    have hop := hw x.1 (by unfold wordsI; exact List.mem_cons_self)
    have p1 := put1_eq (b := b) hop (by omega)
    have l1 := encZ5 (n := x.1.toNat) (by omega)
    simp only [b12, lt_mid, inb_mid, nth_mid, cond_true, Option.bind_some, p1, shape_eq, next_mid pre x (by omega)]
    have hnrange : hasNI x.1 = true → -2147483648 ≤ x.2.2.2.2.2 ∧ x.2.2.2.2.2 ≤ 2147483647 := fun hn => by
      have hn' := of_decide_eq_true hn
      have g := hk.2.2
      omega
    unfold shapeV
    by_cases h30 : x.1 = 30
    · have hn : hasNI x.1 = true := dt (by omega)
      have hwe := words_nil x h30
      rw [hwe] at hw ih ⊢
      have hA := hw x.2.2.1 (by simp)
      have hN := hw (sgnI x.2.2.2.2.2) (by simp)
      have p2 := put1_eq (b := b ++ encZ x.1.toNat) hA (by rw [List.length_append]; omega)
      have l2 := encZ5 (n := x.2.2.1.toNat) (by omega)
      have p3 := put1_eq (b := b ++ encZ x.1.toNat ++ encZ x.2.2.1.toNat) hN (by rw [List.length_append, List.length_append]; omega)
      have hr := hnrange hn
      rw [encL_cons, encL_cons, encL1] at ih ⊢
      rw [if_pos h30]
      simp only [p2, Option.bind_some, cond_true]
      by_cases hneg : x.2.2.2.2.2 < 0
      · simp only [dt hneg, cond_true, sgn_neg hneg hr.1, p3, Option.bind_some]
        simp only [List.append_assoc] at ih ⊢; exact ih
      · simp only [df hneg, cond_false, sgn_pos hneg hr.2, p3, Option.bind_some]
        simp only [List.append_assoc] at ih ⊢; exact ih
    rw [if_neg h30]
    by_cases hnm : x.1 = 3 ∨ x.1 = 1 ∨ x.1 = 2 ∨ x.1 = 21
    · have hn : hasNI x.1 = true := dt (by omega)
      have hwe := words_named x hnm
      rw [hwe] at hw ih ⊢
      have hA := hw x.2.1 (by simp)
      have hN := hw (sgnI x.2.2.2.2.2) (by simp)
      have p2 := put1_eq (b := b ++ encZ x.1.toNat) hA (by rw [List.length_append]; omega)
      have l2 := encZ5 (n := x.2.1.toNat) (by omega)
      have p3 := put1_eq (b := b ++ encZ x.1.toNat ++ encZ x.2.1.toNat) hN (by rw [List.length_append, List.length_append]; omega)
      have hr := hnrange hn
      rw [encL_cons, encL_cons, encL1] at ih ⊢
      rw [if_pos hnm]
      simp only [p2, Option.bind_some, cond_true]
      by_cases hneg : x.2.2.2.2.2 < 0
      · simp only [dt hneg, cond_true, sgn_neg hneg hr.1, p3, Option.bind_some]
        simp only [List.append_assoc] at ih ⊢; exact ih
      · simp only [df hneg, cond_false, sgn_pos hneg hr.2, p3, Option.bind_some]
        simp only [List.append_assoc] at ih ⊢; exact ih
    rw [if_neg hnm]
    have hn : hasNI x.1 = false := df (by omega)
    have hwe := words_plain x hn
    rw [hwe] at hw ih ⊢
    have hD := hw x.2.1 (by simp)
    have p2 := put1_eq (b := b ++ encZ x.1.toNat) hD (by rw [List.length_append]; omega)
    have l2 := encZ5 (n := x.2.1.toNat) (by omega)
    have two : rdN x.1 = 2 → rdL x = [x.2.2.1, x.2.2.2.1] := fun e => by rw [rdL, e]; rfl
    by_cases h19 : x.1 = 19
    · have he := two (by rw [h19]; rfl)
      rw [he] at hw ih ⊢
      have hA := hw x.2.2.1 (by simp)
      have hB := hw x.2.2.2.1 (by simp)
      have p3 := put1_eq (b := b ++ encZ x.1.toNat ++ encZ x.2.1.toNat) hA (by rw [List.length_append, List.length_append]; omega)
      have l3 := encZ5 (n := x.2.2.1.toNat) (by omega)
      have p4 := put1_eq (b := b ++ encZ x.1.toNat ++ encZ x.2.1.toNat ++ encZ x.2.2.1.toNat) hB (by rw [List.length_append, List.length_append, List.length_append]; omega)
      rw [encL_cons, encL_cons, encL_cons, encL1] at ih ⊢
      rw [if_pos h19]
      simp only [p2, p3, p4, Option.bind_some, cond_false]
      simp only [List.append_assoc] at ih ⊢; exact ih
    rw [if_neg h19]
    by_cases h3 : rdN x.1 = 3
    · have he : rdL x = [x.2.2.1, x.2.2.2.1, x.2.2.2.2.1] := by rw [rdL, h3]; rfl
      rw [he] at hw ih ⊢
      have hA := hw x.2.2.1 (by simp)
      have hB := hw x.2.2.2.1 (by simp)
      have hC := hw x.2.2.2.2.1 (by simp)
      have p3 := put1_eq (b := b ++ encZ x.1.toNat ++ encZ x.2.1.toNat) hA (by rw [List.length_append, List.length_append]; omega)
      have l3 := encZ5 (n := x.2.2.1.toNat) (by omega)
      have p4 := put1_eq (b := b ++ encZ x.1.toNat ++ encZ x.2.1.toNat ++ encZ x.2.2.1.toNat) hB (by rw [List.length_append, List.length_append, List.length_append]; omega)
      have l4 := encZ5 (n := x.2.2.2.1.toNat) (by omega)
      have p5 := put1_eq (b := b ++ encZ x.1.toNat ++ encZ x.2.1.toNat ++ encZ x.2.2.1.toNat ++ encZ x.2.2.2.1.toNat) hC (by rw [List.length_append, List.length_append, List.length_append, List.length_append]; omega)
      rw [encL_cons, encL_cons, encL_cons, encL_cons, encL1] at ih ⊢
      rw [if_pos h3]
      simp only [p2, p3, p4, p5, Option.bind_some, cond_false]
      simp only [List.append_assoc] at ih ⊢; exact ih
    rw [if_neg h3]
    by_cases h2 : rdN x.1 = 2
    · have he := two h2
      rw [he] at hw ih ⊢
      have hA := hw x.2.2.1 (by simp)
      have hB := hw x.2.2.2.1 (by simp)
      have p3 := put1_eq (b := b ++ encZ x.1.toNat ++ encZ x.2.1.toNat) hA (by rw [List.length_append, List.length_append]; omega)
      have l3 := encZ5 (n := x.2.2.1.toNat) (by omega)
      have p4 := put1_eq (b := b ++ encZ x.1.toNat ++ encZ x.2.1.toNat ++ encZ x.2.2.1.toNat) hB (by rw [List.length_append, List.length_append, List.length_append]; omega)
      rw [encL_cons, encL_cons, encL_cons, encL1] at ih ⊢
      rw [if_pos h2]
      simp only [p2, p3, p4, Option.bind_some, cond_false]
      simp only [List.append_assoc] at ih ⊢; exact ih
    rw [if_neg h2]
    by_cases h1 : rdN x.1 = 1
    · have he : rdL x = [x.2.2.1] := by rw [rdL, h1]; rfl
      rw [he] at hw ih ⊢
      have hA := hw x.2.2.1 (by simp)
      have p3 := put1_eq (b := b ++ encZ x.1.toNat ++ encZ x.2.1.toNat) hA (by rw [List.length_append, List.length_append]; omega)
      rw [encL_cons, encL_cons, encL1] at ih ⊢
      rw [if_pos h1]
      simp only [p2, p3, Option.bind_some, cond_false]
      simp only [List.append_assoc] at ih ⊢; exact ih
    exfalso
    rcases rdN_cases x.1 with e | ⟨e, er⟩
    · rcases e with e | e | e | e | e | e | e
      all_goals first
        | omega
        | (rw [e] at h3; exact absurd rfl h3)
    · rw [er] at h1 h2 hrd
      by_cases e1 : x.1 = 4 ∨ x.1 = 5
      · rw [if_pos e1] at h1; omega
      · rw [if_neg e1] at h2 hrd
        by_cases e2 : 6 ≤ x.1 ∧ x.1 ≤ 18
        · rw [if_pos e2] at h2; omega
        · rw [if_neg e2] at hrd; omega)
theorem flat_len {c : Cd} (hR : c.2.1 ≤ 100000) (hS : c.2.2.1 ≤ 100000) (hi : c.2.2.2.2.length ≤ 1000000) : ∀ (l : List Ic), (∀ x ∈ l, InstP c x) → (l.flatMap fun x => encL (wordsI x)).length ≤ 30 * l.length
  | [], _ => Nat.le_refl _
  | x :: l, h => by
    have h1 := words_len x
    have h2 := encL_len _ (words_ok hR hS hi (h x List.mem_cons_self)).1
    have h3 := flat_len hR hS hi l (fun y hy => h y (List.mem_cons_of_mem _ hy))
    rw [List.flatMap_cons, List.length_append, List.length_cons]; omega
theorem Encode_eq {c : Cd} (ho : c.2.2.2.1.length ≤ 1000000) (hi : c.2.2.2.2.length ≤ 1000000) : c3 T.rf c = some (encS c) := or3 (by
  simp only [r3, CheckC_eq ho hi, Option.bind_some]
  unfold encS
  by_cases hc : chkC c = 0
  case neg => rw [nbf hc, cond_true, if_neg (fun h => hc h.1)]
  have hQ := code_Q hc
  have hR := hQ.regs
  have hS := hQ.slots
  have hl := hQ.len
  have h0 := inp_loop c.2.2.2.2 [] (by simpa using hi)
  rw [List.nil_append, List.length_nil, show ((0 : Nat) : Int) = (0 : Int) from rfl] at h0
  rw [nbt hc, cond_false, h0, Option.bind_some]
  by_cases hin : inpB c = true
  case neg =>
    have hin' := hin
    rw [inpB] at hin'
    rw [if_neg hin', if_neg (fun h => hin h.2)]
  have hin' := hin
  rw [inpB] at hin'
  rw [if_pos hin', if_pos ⟨hc, hin⟩]
  have s1 : small5 [c.2.1, c.2.2.1, ((c.2.2.2.2.length : Nat) : Int)] := fun y hy => by
    simp only [List.mem_cons, List.not_mem_nil, or_false] at hy
    rcases hy with e | e | e <;> subst e <;> omega
  have s2 : small5 c.2.2.2.2 := fun y hy => by
    have := of_decide_eq_true (List.all_eq_true.1 hin' y hy); omega
  have s5 : small5 c.2.2.2.1 := fun y hy => by have := hQ.outs y hy; omega
  have e1 := encL_len _ s1
  have e2 := encL_len _ s2
  have e3 := encZ5 (n := ((((c.1.length : Nat) : Int)).toNat)) (by omega)
  have e4 := flat_len hR.2 hS.2 hi c.1 hQ.inst
  have e5 := encZ5 (n := ((((c.2.2.2.1.length : Nat) : Int)).toNat)) (by omega)
  simp only [List.length_cons, List.length_nil] at e1
  have p1 := put_eq (b := [66, 65, 73, 76]) s1 (by simp) (by simp)
  have p2 := put_eq (b := [66, 65, 73, 76] ++ encL [c.2.1, c.2.2.1, ((c.2.2.2.2.length : Nat) : Int)]) s2 (by omega) (by simp only [List.length_append, List.length_cons, List.length_nil]; omega)
  have p3 := put1_eq (b := [66, 65, 73, 76] ++ encL [c.2.1, c.2.2.1, ((c.2.2.2.2.length : Nat) : Int)] ++ encL c.2.2.2.2) (x := ((c.1.length : Nat) : Int)) (by omega) (by simp only [List.length_append, List.length_cons, List.length_nil]; omega)
  have p4 := ins_loop hR.2 hS.2 hi c.1 [] ([66, 65, 73, 76] ++ encL [c.2.1, c.2.2.1, ((c.2.2.2.2.length : Nat) : Int)] ++ encL c.2.2.2.2 ++ encZ ((((c.1.length : Nat) : Int)).toNat)) hQ.inst (by simp; omega) (by simp only [List.length_append, List.length_cons, List.length_nil]; omega)
  rw [List.nil_append, List.length_nil, show ((0 : Nat) : Int) = (0 : Int) from rfl] at p4
  have p5 := put1_eq (b := [66, 65, 73, 76] ++ encL [c.2.1, c.2.2.1, ((c.2.2.2.2.length : Nat) : Int)] ++ encL c.2.2.2.2 ++ encZ ((((c.1.length : Nat) : Int)).toNat) ++ c.1.flatMap fun x => encL (wordsI x)) (x := ((c.2.2.2.1.length : Nat) : Int)) (by omega) (by simp only [List.length_append, List.length_cons, List.length_nil]; omega)
  have p6 := put_eq (b := [66, 65, 73, 76] ++ encL [c.2.1, c.2.2.1, ((c.2.2.2.2.length : Nat) : Int)] ++ encL c.2.2.2.2 ++ encZ ((((c.1.length : Nat) : Int)).toNat) ++ (c.1.flatMap fun x => encL (wordsI x)) ++ encZ ((((c.2.2.2.1.length : Nat) : Int)).toNat)) s5 (by omega) (by simp only [List.length_append, List.length_cons, List.length_nil]; omega)
  simp only [p1, p2, p3, p4, p5, p6, Option.bind_some]
  rw [encF, encL1, encL1]
  simp only [List.append_assoc])

/-! The document's way. -/
theorem hasN_eq (op : Int) : c36 T.rf op = some (hasNI op) := or36 (by
  simp only [r36, hasNI, eqn]
  repeat' refine opt_bif (fun _ => ?_) (fun _ => ?_)
  all_goals
    refine congrArg some ?_
    simp only [decide_eq_true_eq, decide_eq_false_iff_not] at *
    first
      | (refine (decide_eq_true ?_).symm; omega)
      | (refine decide_eq_decide.2 ?_; constructor <;> intro hh <;> omega))
theorem signed_eq {n : Int} (h : -2147483648 ≤ n ∧ n ≤ 2147483647) : c37 T.rf n = some (sgnI n) := or37 (by
  simp only [r37]
  by_cases h0 : n < 0
  · rw [df (show ¬ n ≥ 0 by omega), cond_false, sgn_neg h0 h.1]
  · rw [dt (show n ≥ 0 by omega), cond_true, sgn_pos h0 h.2])
theorem rlist_loop : ∀ (suf pre : List Int) (s : List UInt8), small5 suf → pre.length + suf.length ≤ 1000000 → s.length + 5 * suf.length ≤ 1000000000 → k32 T.rb (pre ++ suf) s (pre.length : Nat) = some (s ++ strOf (encL suf))
  | [], pre, s, hs, h, hb => ob32 (by simp only [b32, lt_end, lt_self, List.append_nil, cond_false, encL_nil]; simp [strOf])
  | x :: suf, pre, s, hs, h, hb => ob32 (by
    simp only [List.length_cons] at h hb
    have hx := hs x List.mem_cons_self
    have h5 := encZ5 (n := x.toNat) (by omega)
    have ih := rlist_loop suf (pre ++ [x]) (s ++ strOf (encZ x.toNat)) (fun y hy => hs y (List.mem_cons_of_mem _ hy)) (by simp; omega) (by rw [List.length_append, strOf_len]; omega)
    simp only [List.append_assoc, List.singleton_append] at ih
    simp only [b32, lt_mid, inb_mid, nth_mid, cond_true, Option.bind_some, NumberI_eq hx, strOf_len, ble_most (a := s.length + (encZ x.toNat).length) (by omega), next_mid pre x (by omega), encL_cons, strOf_app]
    exact ih)
theorem rlist_eq {l : List Int} (hs : small5 l) (hl : l.length ≤ 1000000) : c35 T.rf l = some (strOf (encZ l.length ++ encL l)) := or35 (by
  have h5 := encZ5 (n := l.length) (by omega)
  have h := rlist_loop l [] (strOf (encZ l.length)) hs (by simp; omega) (by rw [strOf_len]; omega)
  rw [List.nil_append, List.length_nil, show ((0 : Nat) : Int) = (0 : Int) from rfl] at h
  simp only [r35, Number_eq l.length (by omega), h, Option.bind_some, strOf_app])
theorem rread_loop : ∀ (suf pre : List Int) (s : List UInt8), small5 suf → pre.length + suf.length ≤ 1000000 → s.length + 5 * suf.length ≤ 1000000000 → k35 T.rb (pre ++ suf) s (pre.length : Nat) = some (pre ++ suf, s ++ strOf (encL suf))
  | [], pre, s, hs, h, hb => ob35 (by simp only [b35, lt_end, lt_self, List.append_nil, cond_false, encL_nil]; simp [strOf])
  | x :: suf, pre, s, hs, h, hb => ob35 (by
    simp only [List.length_cons] at h hb
    have hx := hs x List.mem_cons_self
    have h5 := encZ5 (n := x.toNat) (by omega)
    have ih := rread_loop suf (pre ++ [x]) (s ++ strOf (encZ x.toNat)) (fun y hy => hs y (List.mem_cons_of_mem _ hy)) (by simp; omega) (by rw [List.length_append, strOf_len]; omega)
    simp only [List.append_assoc, List.singleton_append] at ih
    simp only [b35, lt_mid, inb_mid, nth_mid, cond_true, Option.bind_some, NumberI_eq hx, strOf_len, ble_most (a := s.length + (encZ x.toNat).length) (by omega), next_mid pre x (by omega), encL_cons, strOf_app]
    exact ih)
theorem rdL_len3 (x : Ic) : (rdL x).length ≤ 3 := by rw [rdL, List.length_take]; simp; omega
theorem rtail_eq {x : Ic} (hw : small5 (wordsI x)) (hrd : 0 ≤ rdN x.1) (hn : hasNI x.1 = true → -2147483648 ≤ x.2.2.2.2.2 ∧ x.2.2.2.2.2 ≤ 2147483647) {s : List UInt8} (hs : s.length ≤ 900000000) :
    k34 T.rb x s = some (x, s ++ strOf (encL (rdL x ++ if hasNI x.1 = true then [sgnI x.2.2.2.2.2] else []))) := ob34 (by
  have h3 := rdL_len3 x
  have hsm : small5 (rdL x) := fun y hy => hw y (by unfold wordsI; exact List.mem_cons_of_mem _ (List.mem_append_right _ (List.mem_append_left _ hy)))
  have hl := rread_loop (rdL x) [] s hsm (by simp; omega) (by omega)
  have e1 := encL_len _ hsm
  rw [List.nil_append, List.length_nil, show ((0 : Nat) : Int) = (0 : Int) from rfl] at hl
  simp only [b34, refReads_eq, if_pos hrd, Option.bind_some, hl, hasN_eq]
  cases hc : hasNI x.1
  · rw [cond_false, if_neg (by decide), List.append_nil]
  · have hN := hw (sgnI x.2.2.2.2.2) (by unfold wordsI; rw [hc]; simp)
    have h5 := encZ5 (n := (sgnI x.2.2.2.2.2).toNat) (by omega)
    rw [cond_true, if_pos rfl]
    simp only [signed_eq (hn hc), Option.bind_some, NumberI_eq hN]
    rw [ble_most (by rw [List.length_append, strOf_len, strOf_len]; omega), cond_true, encL_app, encL1, strOf_app, List.append_assoc])
theorem rins_loop {c : Cd} (hR : c.2.1 ≤ 100000) (hS : c.2.2.1 ≤ 100000) (hi : c.2.2.2.2.length ≤ 1000000) : ∀ (suf pre : List Ic) (s : List UInt8), c.1 = pre ++ suf → (∀ x ∈ suf, InstP c x) → c.1.length ≤ 1000000 → s.length + 30 * suf.length ≤ 800000000 →
    k33 T.rb c s (pre.length : Nat) = some (c, s ++ strOf (suf.flatMap fun x => encL (wordsI x)))
  | [], pre, s, he, hx, hl, hb => ob33 (by
    rw [List.append_nil] at he
    simp only [b33, he, lt_self, cond_false, List.flatMap_nil]; simp [strOf])
  | x :: suf, pre, s, he, hx, hl, hb => ob33 (by
    simp only [List.length_cons] at hb
    have hll : c.1.length = pre.length + (suf.length + 1) := by rw [he]; simp
    obtain ⟨hw, hrd⟩ := words_ok hR hS hi (hx x List.mem_cons_self)
    have hwl := words_len x
    have hel := encL_len _ hw
    have hok := (hx x List.mem_cons_self).1
    rw [okI_iff] at hok
    have hk := of_decide_eq_true hok
    have hn : hasNI x.1 = true → -2147483648 ≤ x.2.2.2.2.2 ∧ x.2.2.2.2.2 ≤ 2147483647 := fun hn => by
      have hn' := of_decide_eq_true hn
      have g := hk.2.2
      omega
    have hop := hw x.1 (by unfold wordsI; exact List.mem_cons_self)
    have l1 := encZ5 (n := x.1.toNat) (by omega)
    have ih := rins_loop hR hS hi suf (pre ++ [x]) (s ++ strOf (encL (wordsI x))) (by simp [he]) (fun y hy => hx y (List.mem_cons_of_mem _ hy)) hl (by rw [List.length_append, strOf_len]; omega)
    have hlt : decide (((pre.length : Nat) : Int) < ((c.1.length : Nat) : Int)) = true := dt (by omega)
    have hin : inb ((pre.length : Nat) : Int) c.1.length = true := inb_t (by omega) (by omega)
    have hnt : nth c.1 ((pre.length : Nat) : Int).toNat = some x := by rw [he]; exact nth_mid pre x suf
    rw [List.flatMap_cons, strOf_app]
    simp only [b33, hlt, hin, hnt, cond_true, Option.bind_some, NumberI_eq hop, strOf_len, ble_most (a := s.length + (encZ x.1.toNat).length) (by omega), next_mid pre x (by omega)]
    by_cases h30 : x.1 = 30
    · have ht := rtail_eq hw hrd hn (s := s ++ strOf (encZ x.1.toNat)) (by rw [List.length_append, strOf_len]; omega)
      rw [nbt h30, cond_false, ht, Option.bind_some]
      have e : wordsI x = x.1 :: (rdL x ++ if hasNI x.1 = true then [sgnI x.2.2.2.2.2] else []) := by unfold wordsI; rw [if_pos h30]; rfl
      rw [e, encL_cons, strOf_app] at ih ⊢
      simp only [List.append_assoc] at ih ⊢
      exact ih
    · have hD := hw x.2.1 (by unfold wordsI; rw [if_neg h30]; simp)
      have l2 := encZ5 (n := x.2.1.toNat) (by omega)
      have ht := rtail_eq hw hrd hn (s := s ++ strOf (encZ x.1.toNat) ++ strOf (encZ x.2.1.toNat)) (by rw [List.length_append, List.length_append, strOf_len, strOf_len]; omega)
      rw [nbf h30, cond_true, NumberI_eq hD, Option.bind_some, ble_most (by rw [List.length_append, strOf_len, strOf_len]; omega), cond_true, ht, Option.bind_some]
      have e : wordsI x = x.1 :: x.2.1 :: (rdL x ++ if hasNI x.1 = true then [sgnI x.2.2.2.2.2] else []) := by unfold wordsI; rw [if_neg h30]; rfl
      rw [e, encL_cons, encL_cons, strOf_app, strOf_app] at ih ⊢
      simp only [List.append_assoc] at ih ⊢
      exact ih)
theorem rinp_loop {c : Cd} (hi : c.2.2.2.2.length ≤ 1000000) : ∀ (suf pre : List Int), c.2.2.2.2 = pre ++ suf → k31 T.rb c (pre.length : Nat) = some (if (suf.all fun t => decide (0 ≤ t ∧ t ≤ 4294967295)) = true then .inr c else .inl (c, [], 1))
  | [], pre, he => ob31 (by
    rw [List.append_nil] at he
    simp only [b31, he, lt_self, cond_false]; rfl)
  | x :: suf, pre, he => ob31 (by
    have hll : c.2.2.2.2.length = pre.length + (suf.length + 1) := by rw [he]; simp
    have ih := rinp_loop hi suf (pre ++ [x]) (by simp [he])
    have hlt : decide (((pre.length : Nat) : Int) < ((c.2.2.2.2.length : Nat) : Int)) = true := dt (by omega)
    have hin : inb ((pre.length : Nat) : Int) c.2.2.2.2.length = true := inb_t (by omega) (by omega)
    have hnt : nth c.2.2.2.2 ((pre.length : Nat) : Int).toNat = some x := by rw [he]; exact nth_mid pre x suf
    simp only [b31, hlt, hin, hnt, cond_true, Option.bind_some, next_mid pre x (by omega), ih]
    rw [List.all_cons]
    by_cases h1 : x < 0
    · rw [dt h1, cond_true, df (by omega)]; rfl
    rw [df h1, cond_false]
    by_cases h2 : x > 4294967295
    · rw [dt h2, cond_true, df (by omega)]; rfl
    rw [df h2, cond_false, dt (by omega), Bool.true_and])
theorem refEncode_eq {c : Cd} (hl0 : c.1.length ≤ 1000000) (ho : c.2.2.2.1.length ≤ 1000000) (hi : c.2.2.2.2.length ≤ 1000000) : c26 T.rf c = some (encS c) := or26 (by
  simp only [r26, refCheckC_eq hl0 ho, Option.bind_some]
  unfold encS
  by_cases hc : chkC c = 0
  case neg => rw [nbf hc, cond_true, if_neg (fun h => hc h.1)]
  have hQ := code_Q hc
  have hR := hQ.regs
  have hS := hQ.slots
  have hl := hQ.len
  have h0 := rinp_loop hi c.2.2.2.2 [] rfl
  rw [List.length_nil, show ((0 : Nat) : Int) = (0 : Int) from rfl] at h0
  rw [nbt hc, cond_false, h0, Option.bind_some]
  by_cases hin : inpB c = true
  case neg =>
    have hin' := hin
    rw [inpB] at hin'
    rw [if_neg hin', if_neg (fun h => hin h.2)]
  have hin' := hin
  rw [inpB] at hin'
  rw [if_pos hin', if_pos ⟨hc, hin⟩]
  have s2 : small5 c.2.2.2.2 := fun y hy => by
    have := of_decide_eq_true (List.all_eq_true.1 hin' y hy); omega
  have s5 : small5 c.2.2.2.1 := fun y hy => by have := hQ.outs y hy; omega
  have a1 := encZ5 (n := c.2.1.toNat) (by omega)
  have a2 := encZ5 (n := c.2.2.1.toNat) (by omega)
  have a3 := encZ5 (n := c.2.2.2.2.length) (by omega)
  have e2 := encL_len _ s2
  have e3 := encZ5 (n := c.1.length) (by omega)
  have e4 := flat_len hR.2 hS.2 hi c.1 hQ.inst
  have e5 := encZ5 (n := c.2.2.2.1.length) (by omega)
  have e6 := encL_len _ s5
  have p4 := rins_loop hR.2 hS.2 hi c.1 [] (strOf ([66, 65, 73, 76] ++ (encZ c.2.1.toNat ++ (encZ c.2.2.1.toNat ++ ((encZ c.2.2.2.2.length ++ encL c.2.2.2.2) ++ encZ c.1.length))))) rfl hQ.inst hl0 (by simp only [strOf_len, List.length_append, List.length_cons, List.length_nil]; omega)
  rw [List.length_nil, show ((0 : Nat) : Int) = (0 : Int) from rfl] at p4
  have hm : ([66, 65, 73, 76] : List UInt8) = strOf [66, 65, 73, 76] := rfl
  simp only [NumberI_eq (x := c.2.1) (by omega), NumberI_eq (x := c.2.2.1) (by omega), rlist_eq s2 hi, rlist_eq s5 ho, Number_eq c.1.length (by omega), Option.bind_some, hm, ← strOf_app, strOf_len, List.length_append, List.length_cons, List.length_nil, List.append_assoc]
  rw [ble_most (by omega), cond_true, ble_most (by omega), cond_true, ble_most (by omega), cond_true, ble_most (by omega), cond_true]
  simp only [List.append_assoc] at p4
  rw [p4, Option.bind_some]
  simp only [rlist_eq s5 ho, Option.bind_some, ← strOf_app, strOf_len, List.length_append, List.length_cons, List.length_nil, List.append_assoc]
  rw [ble_most (by omega), cond_true, encF, encL1, encL1, encL_cons, encL_cons, encL1]
  simp only [List.append_assoc, Int.toNat_natCast])

theorem ImageWrites_eq (c : Cd) : c0 T.rf c = some true := or0 (by
  simp only [r0, smallC_eq, live17_eq, Option.bind_some]
  by_cases hs : smallC c
  · have hs' := hs
    unfold smallC at hs'
    rw [dt hs]
    simp only [Bool.not_true, cond_false, ownC_eq (c := c) (by omega), Encode_eq (c := c) (by omega) (by omega), refEncode_eq (c := c) (by omega) (by omega) (by omega), Option.bind_some, beq_self_eq_true, cond_true]
  · rw [df hs]; rfl)
theorem lawImageWrites : LawOk T 0 := fun d _ => ⟨true, ImageWrites_eq d, rfl, rfl, rfl⟩

end Go.Proofs.Yteifekbmmhpadaa.R
