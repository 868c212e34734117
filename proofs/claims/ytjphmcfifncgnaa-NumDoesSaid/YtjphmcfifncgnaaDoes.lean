/-
  OUR OWN: what num.Do and the document's Do come to, in plain Lean: they come to the same.
-/
import Derived.Test.YtjphmcfifncgnaaResOk
import Derived.IntWalk
namespace Go.Proofs.Ytjphmcfifncgnaa.R
open Go Go.Bm Go.Proofs
set_option linter.unusedVariables false
set_option linter.unusedSimpArgs false

def fits (x : Int) : Bool := IntKind.i64.wrap (IntKind.i32.wrap x) == x
def opn (op : Int) : Int := if op = 4 ∨ op = 5 then 1 else if 6 ≤ op ∧ op ≤ 18 then 2 else if op = 26 then 3 else -1
def tr (b : Bool) : Int × Int := (if b then 1 else 0, 0)
def fit (x : Int) : Int × Int := if fits x then (x, 0) else (0, 2)
def w (x : Int) : Int := IntKind.i64.wrap x
def core (op a b c : Int) : Int × Int :=
  if op = 4 then tr (a == 0) else if op = 6 then tr (a != 0 && b != 0) else if op = 9 then tr (a == 0 || b != 0) else if op = 7 then tr (a != 0 || b != 0) else
  if op = 8 then tr (!((a != 0) == (b != 0))) else if op = 10 then tr (a == b) else if op = 11 then tr (a != b) else if op = 12 then tr (decide (a < b)) else if op = 13 then tr (decide (a ≤ b)) else
  if op = 5 then fit (w (0 - a)) else if op = 15 then fit (w (a + w (0 - b))) else if op = 14 then fit (w (a + b)) else if op = 16 then fit (w (a * b)) else
  if op = 17 then (if b = 0 then (0, 3) else fit (w (Int.tdiv a b))) else if op = 18 then (if b = 0 then (0, 3) else (Int.tmod a b, 0)) else
  if op = 26 then (if a ≠ 0 then (b, 0) else (c, 0)) else (0, 1)
def does (op a b c : Int) : Int × Int :=
  if fits a = false ∨ (opn op > 1 ∧ fits b = false) ∨ (opn op > 2 ∧ fits c = false) then (0, 1) else core op a b c

theorem c3_eq (d : Int) : c3 T.rf d = some (fits d) := or3 (by rfl)
theorem c2_eq (d : Int) : c2 T.rf d = some (opn d) := or2 (by
  simp only [r2, opn, cond_eq_ite, beq_iff_eq, decide_eq_true_eq]
  repeat' split
  all_goals first | rfl | (exfalso; omega))
theorem c4_eq (d : Bool) : c4 T.rf d = some (tr d) := or4 (by cases d <;> rfl)
theorem c5_eq (d : Int) : c5 T.rf d = some (fit d) := or5 (by
  simp only [r5, c3_eq, Option.bind_some, fit]
  cases fits d <;> rfl)
theorem k0_eq (op a b c : Int) : k0 T.rb op a b c = some (core op a b c) := ob0 (by
  by_cases h4 : op = 4
  · subst h4
    simp only [b0, core, c4_eq, c5_eq, Option.bind_some, Int.reduceBEq, Int.reduceEq, cond_true, cond_false, ↓reduceIte, w]
    cases h : a == 0 <;> simp [bne, h, c4_eq] <;> rfl
  by_cases h6 : op = 6
  · subst h6
    simp only [b0, core, c4_eq, c5_eq, Option.bind_some, Int.reduceBEq, Int.reduceEq, cond_true, cond_false, ↓reduceIte, w]
    cases h : a == 0 <;> simp [bne, h, c4_eq] <;> rfl
  by_cases h9 : op = 9
  · subst h9
    simp only [b0, core, c4_eq, c5_eq, Option.bind_some, Int.reduceBEq, Int.reduceEq, cond_true, cond_false, ↓reduceIte, w]
    cases h : a == 0 <;> simp [bne, h, c4_eq] <;> rfl
  by_cases h7 : op = 7
  · subst h7
    simp only [b0, core, c4_eq, c5_eq, Option.bind_some, Int.reduceBEq, Int.reduceEq, cond_true, cond_false, ↓reduceIte, w]
    cases h : a == 0 <;> simp [bne, h, c4_eq] <;> rfl
  by_cases h8 : op = 8
  · subst h8
    simp only [b0, core, c4_eq, c5_eq, Option.bind_some, Int.reduceBEq, Int.reduceEq, cond_true, cond_false, ↓reduceIte, w]
    try rfl
  by_cases h10 : op = 10
  · subst h10
    simp only [b0, core, c4_eq, c5_eq, Option.bind_some, Int.reduceBEq, Int.reduceEq, cond_true, cond_false, ↓reduceIte, w]
    try rfl
  by_cases h11 : op = 11
  · subst h11
    simp only [b0, core, c4_eq, c5_eq, Option.bind_some, Int.reduceBEq, Int.reduceEq, cond_true, cond_false, ↓reduceIte, w]
    try rfl
  by_cases h12 : op = 12
  · subst h12
    simp only [b0, core, c4_eq, c5_eq, Option.bind_some, Int.reduceBEq, Int.reduceEq, cond_true, cond_false, ↓reduceIte, w]
    try rfl
  by_cases h13 : op = 13
  · subst h13
    simp only [b0, core, c4_eq, c5_eq, Option.bind_some, Int.reduceBEq, Int.reduceEq, cond_true, cond_false, ↓reduceIte, w]
    try rfl
  by_cases h5 : op = 5
  · subst h5
    simp only [b0, core, c4_eq, c5_eq, Option.bind_some, Int.reduceBEq, Int.reduceEq, cond_true, cond_false, ↓reduceIte, w]
    try rfl
  by_cases h15 : op = 15
  · subst h15
    simp only [b0, core, c4_eq, c5_eq, Option.bind_some, Int.reduceBEq, Int.reduceEq, cond_true, cond_false, ↓reduceIte, w]
    try rfl
  by_cases h14 : op = 14
  · subst h14
    simp only [b0, core, c4_eq, c5_eq, Option.bind_some, Int.reduceBEq, Int.reduceEq, cond_true, cond_false, ↓reduceIte, w]
    try rfl
  by_cases h16 : op = 16
  · subst h16
    simp only [b0, core, c4_eq, c5_eq, Option.bind_some, Int.reduceBEq, Int.reduceEq, cond_true, cond_false, ↓reduceIte, w]
    try rfl
  by_cases h17 : op = 17
  · subst h17
    simp only [b0, core, c4_eq, c5_eq, Option.bind_some, Int.reduceBEq, Int.reduceEq, cond_true, cond_false, ↓reduceIte, w]
    by_cases h : b = 0
    · have e : (b == 0) = true := beq_iff_eq.2 h
      simp only [bne, e, h, cond_true, cond_false, Bool.not_true, Bool.not_false, ↓reduceIte, ne_eq, not_true_eq_false, not_false_eq_true]
      try rfl
    · have e : (b == 0) = false := beq_eq_false_iff_ne.2 h
      simp only [bne, e, h, cond_true, cond_false, Bool.not_true, Bool.not_false, ↓reduceIte, ne_eq, not_true_eq_false, not_false_eq_true]
      try rfl
  by_cases h18 : op = 18
  · subst h18
    simp only [b0, core, c4_eq, c5_eq, Option.bind_some, Int.reduceBEq, Int.reduceEq, cond_true, cond_false, ↓reduceIte, w]
    by_cases h : b = 0
    · have e : (b == 0) = true := beq_iff_eq.2 h
      simp only [bne, e, h, cond_true, cond_false, Bool.not_true, Bool.not_false, ↓reduceIte, ne_eq, not_true_eq_false, not_false_eq_true]
      try rfl
    · have e : (b == 0) = false := beq_eq_false_iff_ne.2 h
      simp only [bne, e, h, cond_true, cond_false, Bool.not_true, Bool.not_false, ↓reduceIte, ne_eq, not_true_eq_false, not_false_eq_true]
      try rfl
  by_cases h26 : op = 26
  · subst h26
    simp only [b0, core, c4_eq, c5_eq, Option.bind_some, Int.reduceBEq, Int.reduceEq, cond_true, cond_false, ↓reduceIte, w]
    by_cases h : a = 0
    · have e : (a == 0) = true := beq_iff_eq.2 h
      simp only [bne, e, h, cond_true, cond_false, Bool.not_true, Bool.not_false, ↓reduceIte, ne_eq, not_true_eq_false, not_false_eq_true]
      try rfl
    · have e : (a == 0) = false := beq_eq_false_iff_ne.2 h
      simp only [bne, e, h, cond_true, cond_false, Bool.not_true, Bool.not_false, ↓reduceIte, ne_eq, not_true_eq_false, not_false_eq_true]
      try rfl
  have e4 : (op == 4) = false := beq_eq_false_iff_ne.2 h4
  have e6 : (op == 6) = false := beq_eq_false_iff_ne.2 h6
  have e9 : (op == 9) = false := beq_eq_false_iff_ne.2 h9
  have e7 : (op == 7) = false := beq_eq_false_iff_ne.2 h7
  have e8 : (op == 8) = false := beq_eq_false_iff_ne.2 h8
  have e10 : (op == 10) = false := beq_eq_false_iff_ne.2 h10
  have e11 : (op == 11) = false := beq_eq_false_iff_ne.2 h11
  have e12 : (op == 12) = false := beq_eq_false_iff_ne.2 h12
  have e13 : (op == 13) = false := beq_eq_false_iff_ne.2 h13
  have e5 : (op == 5) = false := beq_eq_false_iff_ne.2 h5
  have e15 : (op == 15) = false := beq_eq_false_iff_ne.2 h15
  have e14 : (op == 14) = false := beq_eq_false_iff_ne.2 h14
  have e16 : (op == 16) = false := beq_eq_false_iff_ne.2 h16
  have e17 : (op == 17) = false := beq_eq_false_iff_ne.2 h17
  have e18 : (op == 18) = false := beq_eq_false_iff_ne.2 h18
  have e26 : (op == 26) = false := beq_eq_false_iff_ne.2 h26
  simp only [b0, core, e4, e6, e9, e7, e8, e10, e11, e12, e13, e5, e15, e14, e16, e17, e18, e26, cond_false, if_neg h4, if_neg h6, if_neg h9, if_neg h7, if_neg h8, if_neg h10, if_neg h11, if_neg h12, if_neg h13, if_neg h5, if_neg h15, if_neg h14, if_neg h16, if_neg h17, if_neg h18, if_neg h26])

theorem opn_le (op : Int) : opn op ≤ 3 := by
  unfold opn
  repeat' split
  all_goals decide

theorem c1_eq (op a b c : Int) : c1 T.rf op a b c = some (does op a b c) := or1 (by
  simp only [r1, c2_eq, c3_eq, k0_eq, Option.bind_some, does]
  have hm : ∀ n : Int, n < (if 1 > opn op then 1 else opn op) ↔ (n < 1 ∨ n < opn op) := fun n => by split <;> omega
  simp only [hm, cond_eq_ite, decide_eq_true_eq, Bool.not_eq_true']
  have hle := opn_le op
  cases h1 : fits a <;> cases h2 : fits b <;> cases h3 : fits c <;> simp
  all_goals (repeat' split) <;> first | rfl | (exfalso; omega))

theorem fits_iff (x : Int) : fits x = true ↔ -2147483648 ≤ x ∧ x ≤ 2147483647 := by
  have h := IntKind.wrap_i32 x
  have h2 := IntWalk.i64_in (IntKind.i32.wrap x) (by rw [h]; omega)
  unfold fits
  rw [h2, h, beq_iff_eq]
  omega

theorem c8_eq (d : Int) : c8 T.rf d = some (fits d) := or8 (by
  have h := fits_iff d
  simp only [r8]
  cases h1 : decide (d ≥ -2147483648)
  · have : ¬ d ≥ -2147483648 := of_decide_eq_false h1
    cases hf : fits d
    · rfl
    · have := h.1 hf; omega
  · have := of_decide_eq_true h1
    simp only [cond_true, Option.some.injEq]
    cases hf : fits d
    · have : ¬ (d ≤ 2147483647) := fun h2 => by rw [hf] at h; exact absurd (h.2 ⟨this, h2⟩) (by simp)
      simp [this]
    · have := h.1 hf; simp [this.2])
theorem c7_eq (d : Int) : c7 T.rf d = some (opn d) := or7 (by
  simp only [r7, opn, cond_eq_ite, beq_iff_eq, decide_eq_true_eq]
  repeat' split
  all_goals first | rfl | (exfalso; omega))
theorem c9_eq (d : Bool) : c9 T.rf d = some (if d then 1 else 0) := or9 (by cases d <;> rfl)
theorem c10_eq (d : Int) : c10 T.rf d = some (fit d) := or10 (by
  simp only [r10, c8_eq, Option.bind_some, fit]
  cases fits d <;> rfl)
theorem c12_eq {d : Int} (h : fits d = true) : c12 T.rf d = some (d.natAbs : Int) := or12 (by
  have hf := (fits_iff d).1 h
  simp only [r12]
  cases h1 : decide (d < 0)
  · have := of_decide_eq_false h1
    simp only [cond_false, Option.some.injEq]; omega
  · have := of_decide_eq_true h1
    simp only [cond_true, Option.some.injEq]
    rw [IntWalk.i64_in _ (by omega)]; omega)
theorem c11_eq {a b : Int} (ha : fits a = true) (hb : fits b = true) (h0 : b ≠ 0) : c11 T.rf a b = some (((a.natAbs / b.natAbs : Nat) : Int), ((a.natAbs % b.natAbs : Nat) : Int)) := or11 (by
  have hf := (fits_iff a).1 ha
  have hz : ((b.natAbs : Int) == 0) = false := beq_eq_false_iff_ne.2 (by omega)
  have hd : a.natAbs / b.natAbs ≤ a.natAbs := Nat.div_le_self _ _
  simp only [r11, c12_eq ha, c12_eq hb, Option.bind_some, hz, cond_false]
  have e1 : Int.tdiv (a.natAbs : Int) (b.natAbs : Int) = ((a.natAbs / b.natAbs : Nat) : Int) := Int.ofNat_tdiv _ _
  have e2 : Int.tmod (a.natAbs : Int) (b.natAbs : Int) = ((a.natAbs % b.natAbs : Nat) : Int) := (Int.ofNat_tmod _ _).symm
  have hw2 : IntKind.i64.wrap (((a.natAbs / b.natAbs : Nat) : Int)) = ((a.natAbs / b.natAbs : Nat) : Int) := IntWalk.i64_in _ (by
    revert hd
    generalize a.natAbs / b.natAbs = q
    intro hd
    omega)
  rw [e1, e2, hw2])

theorem w_in {x : Int} (h : -9223372036854775808 ≤ x ∧ x ≤ 9223372036854775807) : w x = x := IntWalk.i64_in x (by omega)

theorem k1_eq {op a b c : Int} (ho : opn op ≥ 0) (ha : fits a = true) (hb : opn op > 1 → fits b = true) : k1 T.rb op a b c = some (core op a b c) := ob1 (by
  have ga := (fits_iff a).1 ha
  by_cases h4 : op = 4
  · subst h4
    simp only [b1, core, c9_eq, Option.bind_some, Int.reduceBEq, Int.reduceEq, cond_true, cond_false, ↓reduceIte]
    rfl
  by_cases h5 : op = 5
  · subst h5
    simp only [b1, core, c10_eq, Option.bind_some, Int.reduceBEq, Int.reduceEq, cond_true, cond_false, ↓reduceIte]
    rfl
  by_cases h26 : op = 26
  · subst h26
    simp only [b1, core, Option.bind_some, Int.reduceBEq, Int.reduceEq, cond_true, cond_false, ↓reduceIte]
    by_cases h : a = 0
    · subst h; rfl
    · have e : (a == 0) = false := beq_eq_false_iff_ne.2 h
      simp [bne, e, h]
  have hr : 6 ≤ op ∧ op ≤ 18 := by
    unfold opn at ho
    repeat' split at ho
    all_goals first | omega | (exfalso; revert ho; decide)
  have hn : opn op = 2 := by unfold opn; rw [if_neg (by omega), if_pos hr]
  have gb := (fits_iff b).1 (hb (by rw [hn]; decide))
  have hb' := hb (by rw [hn]; decide)
  by_cases h6 : op = 6
  · subst h6
    simp only [b1, core, c9_eq, Option.bind_some, Int.reduceBEq, Int.reduceEq, cond_true, cond_false, ↓reduceIte]
    cases h : a == 0 <;> cases h' : b == 0 <;> simp only [bne, h, h', c9_eq, Bool.not_true, Bool.not_false, cond_true, cond_false, Option.bind_some] <;> rfl
  by_cases h9 : op = 9
  · subst h9
    simp only [b1, core, c9_eq, Option.bind_some, Int.reduceBEq, Int.reduceEq, cond_true, cond_false, ↓reduceIte]
    cases h : a == 0 <;> cases h' : b == 0 <;> simp only [bne, h, h', c9_eq, Bool.not_true, Bool.not_false, cond_true, cond_false, Option.bind_some] <;> rfl
  by_cases h7 : op = 7
  · subst h7
    simp only [b1, core, c9_eq, Option.bind_some, Int.reduceBEq, Int.reduceEq, cond_true, cond_false, ↓reduceIte]
    cases h : a == 0 <;> cases h' : b == 0 <;> simp only [bne, h, h', c9_eq, Bool.not_true, Bool.not_false, cond_true, cond_false, Option.bind_some] <;> rfl
  by_cases h8 : op = 8
  · subst h8
    simp only [b1, core, c9_eq, Option.bind_some, Int.reduceBEq, Int.reduceEq, cond_true, cond_false, ↓reduceIte]
    rfl
  by_cases h10 : op = 10
  · subst h10
    simp only [b1, core, c9_eq, Option.bind_some, Int.reduceBEq, Int.reduceEq, cond_true, cond_false, ↓reduceIte]
    rfl
  by_cases h11 : op = 11
  · subst h11
    simp only [b1, core, c9_eq, Option.bind_some, Int.reduceBEq, Int.reduceEq, cond_true, cond_false, ↓reduceIte]
    rfl
  by_cases h12 : op = 12
  · subst h12
    simp only [b1, core, c9_eq, Option.bind_some, Int.reduceBEq, Int.reduceEq, cond_true, cond_false, ↓reduceIte]
    rfl
  by_cases h13 : op = 13
  · subst h13
    simp only [b1, core, c9_eq, Option.bind_some, Int.reduceBEq, Int.reduceEq, cond_true, cond_false, ↓reduceIte]
    rfl
  by_cases h14 : op = 14
  · subst h14
    simp only [b1, core, c10_eq, Option.bind_some, Int.reduceBEq, Int.reduceEq, cond_true, cond_false, ↓reduceIte]
    rfl
  by_cases h15 : op = 15
  · subst h15
    simp only [b1, core, c10_eq, Option.bind_some, Int.reduceBEq, Int.reduceEq, cond_true, cond_false, ↓reduceIte]
    rw [w_in (x := 0 - b) (by omega), show a + (0 - b) = a - b by omega]
    rfl
  by_cases h16 : op = 16
  · subst h16
    simp only [b1, core, c10_eq, Option.bind_some, Int.reduceBEq, Int.reduceEq, cond_true, cond_false, ↓reduceIte]
    rfl
  have e4 : (op == 4) = false := beq_eq_false_iff_ne.2 h4
  have e6 : (op == 6) = false := beq_eq_false_iff_ne.2 h6
  have e9 : (op == 9) = false := beq_eq_false_iff_ne.2 h9
  have e7 : (op == 7) = false := beq_eq_false_iff_ne.2 h7
  have e8 : (op == 8) = false := beq_eq_false_iff_ne.2 h8
  have e10 : (op == 10) = false := beq_eq_false_iff_ne.2 h10
  have e11 : (op == 11) = false := beq_eq_false_iff_ne.2 h11
  have e12 : (op == 12) = false := beq_eq_false_iff_ne.2 h12
  have e13 : (op == 13) = false := beq_eq_false_iff_ne.2 h13
  have e5 : (op == 5) = false := beq_eq_false_iff_ne.2 h5
  have e15 : (op == 15) = false := beq_eq_false_iff_ne.2 h15
  have e14 : (op == 14) = false := beq_eq_false_iff_ne.2 h14
  have e16 : (op == 16) = false := beq_eq_false_iff_ne.2 h16
  have e26 : (op == 26) = false := beq_eq_false_iff_ne.2 h26
  simp only [b1, core, e4, e6, e9, e7, e8, e10, e11, e12, e13, e5, e15, e14, e16, e26, cond_false, if_neg h4, if_neg h6, if_neg h9, if_neg h7, if_neg h8, if_neg h10, if_neg h11, if_neg h12, if_neg h13, if_neg h5, if_neg h15, if_neg h14, if_neg h16, if_neg h26]
  by_cases h0 : b = 0
  · have e : (b == 0) = true := beq_iff_eq.2 h0
    rw [e, cond_true]
    by_cases h17 : op = 17
    · rw [if_pos h17, if_pos h0]
    · rw [if_neg h17, if_pos (by omega), if_pos h0]
  have e : (b == 0) = false := beq_eq_false_iff_ne.2 h0
  have hd : a.natAbs / b.natAbs ≤ a.natAbs := Nat.div_le_self _ _
  have hm : a.natAbs % b.natAbs ≤ a.natAbs := Nat.mod_le _ _
  have md := Int.natAbs_tdiv a b
  rw [e, cond_false, c11_eq ha hb' h0, Option.bind_some]
  by_cases h18 : op = 18
  · subst h18
    simp only [Int.reduceBEq, cond_true, Int.reduceEq, ↓reduceIte, h0]
    by_cases hs : a < 0
    · rw [decide_eq_true hs, cond_true]
      show some (w (0 - ((a.natAbs % b.natAbs : Nat) : Int)), (0 : Int)) = some (a.tmod b, 0)
      rw [w_in (by omega)]
      have : a.tmod b = - ((a.natAbs % b.natAbs : Nat) : Int) := by
        have e1 : a = -(a.natAbs : Int) := by omega
        have e2 : a.tmod b = a.tmod (b.natAbs : Int) := by
          rcases Int.natAbs_eq b with h | h
          · rw [← h]
          · conv => lhs; rw [h]
            rw [Int.tmod_neg]
        rw [e2]
        conv => lhs; rw [e1]
        rw [Int.neg_tmod, ← Int.ofNat_tmod]
      rw [this, show (0 : Int) - ((a.natAbs % b.natAbs : Nat) : Int) = -((a.natAbs % b.natAbs : Nat) : Int) by omega]
    · rw [decide_eq_false hs, cond_false]
      have : a.tmod b = ((a.natAbs % b.natAbs : Nat) : Int) := by
        have e1 : a = (a.natAbs : Int) := by omega
        have e2 : a.tmod b = a.tmod (b.natAbs : Int) := by
          rcases Int.natAbs_eq b with h | h
          · rw [← h]
          · conv => lhs; rw [h]
            rw [Int.tmod_neg]
        rw [e2]
        conv => lhs; rw [e1]
        rw [← Int.ofNat_tmod]
      rw [this]
  · have h17 : op = 17 := by omega
    subst h17
    simp only [Int.reduceBEq, cond_false, Int.reduceEq, ↓reduceIte, h0, c10_eq, Option.bind_some]
    have hq : a.tdiv b = if (a < 0) ↔ (b < 0) then ((a.natAbs / b.natAbs : Nat) : Int) else -((a.natAbs / b.natAbs : Nat) : Int) := by
      rcases Int.natAbs_eq a with h1 | h1 <;> rcases Int.natAbs_eq b with h2 | h2
      · rw [if_pos (by omega)]; conv => lhs; rw [h1, h2]
        exact Int.ofNat_tdiv _ _
      · conv => lhs; rw [h1, h2, Int.tdiv_neg, ← Int.ofNat_tdiv]
        split
        · rename_i h
          have : a.natAbs = 0 := by omega
          rw [this, Nat.zero_div]; rfl
        · rfl
      · conv => lhs; rw [h1, h2, Int.neg_tdiv, ← Int.ofNat_tdiv]
        split
        · rename_i h
          have : a.natAbs = 0 := by omega
          rw [this, Nat.zero_div]; rfl
        · rfl
      · conv => lhs; rw [h1, h2, Int.neg_tdiv, Int.tdiv_neg, ← Int.ofNat_tdiv, Int.neg_neg]
        split
        · rfl
        · rename_i h
          have : a.natAbs = 0 := by omega
          rw [this, Nat.zero_div]; rfl
    have hw : IntKind.i64.wrap (a.tdiv b) = a.tdiv b := w_in (by
      have : (a.tdiv b).natAbs ≤ a.natAbs := by rw [md]; exact hd
      omega)
    have hw2 : IntKind.i64.wrap (0 - ((a.natAbs / b.natAbs : Nat) : Int)) = 0 - ((a.natAbs / b.natAbs : Nat) : Int) := w_in (by
      revert hd
      generalize a.natAbs / b.natAbs = q
      intro hd
      omega)
    show _ = some (fit (w (a.tdiv b)))
    rw [w, hw, hq]
    by_cases h1 : a < 0 <;> by_cases h2 : b < 0
    · simp [h1, h2]
    · simp only [h1, h2, decide_true, decide_false, Bool.true_beq, Bool.not_false, cond_true, iff_false, not_true_eq_false, ↓reduceIte]
      rw [hw2, show (0 : Int) - ((a.natAbs / b.natAbs : Nat) : Int) = -((a.natAbs / b.natAbs : Nat) : Int) by omega]
    · simp only [h1, h2, decide_true, decide_false, Bool.false_beq, Bool.not_true, Bool.not_false, cond_true, false_iff, not_true_eq_false, ↓reduceIte]
      rw [hw2, show (0 : Int) - ((a.natAbs / b.natAbs : Nat) : Int) = -((a.natAbs / b.natAbs : Nat) : Int) by omega]
    · simp [h1, h2])

theorem c6_eq (op a b c : Int) : c6 T.rf op a b c = some (does op a b c) := or6 (by
  simp only [r6, c7_eq, c8_eq, Option.bind_some, does]
  by_cases hn : opn op < 0
  · have hd : decide (opn op < 0) = true := decide_eq_true hn
    rw [hd, cond_true]
    have : core op a b c = (0, 1) := by
      unfold opn at hn
      split at hn
      · omega
      split at hn
      · omega
      split at hn
      · omega
      rename_i h1 h2 h3
      unfold core
      rw [if_neg (by omega), if_neg (by omega), if_neg (by omega), if_neg (by omega), if_neg (by omega), if_neg (by omega), if_neg (by omega), if_neg (by omega), if_neg (by omega), if_neg (by omega), if_neg (by omega), if_neg (by omega), if_neg (by omega), if_neg (by omega), if_neg (by omega), if_neg (by omega)]
    rw [this]
    split <;> rfl
  · have hd : decide (opn op < 0) = false := decide_eq_false hn
    rw [hd, cond_false]
    cases ha : fits a
    · simp
    have kk : (opn op > 1 → fits b = true) → k1 T.rb op a b c = some (core op a b c) := fun hb => k1_eq (by omega) ha hb
    simp only [Bool.not_true, cond_false, Bool.true_eq_false, false_or]
    by_cases h1 : opn op > 1
    · rw [decide_eq_true h1, cond_true]
      cases hb : fits b
      · simp [h1]
      rw [kk fun _ => hb]
      by_cases h2 : opn op > 2
      · rw [decide_eq_true h2]
        cases hc : fits c <;> simp [h1, h2]
      · rw [decide_eq_false h2]
        simp [h1, h2]
    · rw [decide_eq_false h1, cond_false, decide_eq_false (show ¬ opn op > 2 by omega), cond_false]
      rw [kk fun h => absurd h h1]
      rw [if_neg (by omega)]
      rfl)

theorem live_eq : c13 T.rf = some true := or13 (by
  simp only [r13, c1_eq, c3_eq, c2_eq, Option.bind_some]
  decide +kernel)

theorem law_eq (d : Int × Int × Int × Int) : c0 T.rf d = some true := or0 (by
  simp only [r0, c1_eq, c6_eq, c3_eq, c8_eq, c2_eq, c7_eq, live_eq, Option.bind_some, beq_self_eq_true, cond_true])

theorem lawNumDoes : LawOk T 0 := fun d _ => ⟨true, law_eq d, rfl, rfl, rfl⟩

end Go.Proofs.Ytjphmcfifncgnaa.R
