/-
  OUR OWN: what the functions of package num and of its laws come to, in plain Lean: each of five laws comes to true at whatever input.
-/
import Derived.Test.YtjphmcfifncgnaaRes
import Derived.Test.YtjphmcfifncgnaaRows
import Derived.Test.YtjphmcfifncgnaaBmLaw
import Derived.IntWalk
namespace Go.Proofs.Ytjphmcfifncgnaa.R
open Go Go.Bm Go.Proofs
set_option linter.unusedVariables false

theorem tabOk : TabOk Try.prog tab := by
  intro t td h
  unfold tab at h
  split at h
  case h_7 => cases h
  all_goals (cases h)
  · exact ⟨⟨_, _, rfl, rfl, rfl, _, _, rfl, rfl, rfl⟩, _, rfl, rfl, fun k x h => by cases h; rfl, fun x h => (by cases h), fun x h => (by cases h)⟩
  · exact ⟨⟨_, _, rfl, rfl, rfl, _, _, rfl, rfl, rfl⟩, _, rfl, rfl, fun k x h => (by cases h), fun x h => (by cases h), fun x h => by cases h; rfl⟩
  · exact ⟨⟨_, _, rfl, rfl, rfl, _, _, rfl, rfl, rfl⟩, _, rfl, rfl, fun k x h => by cases h; rfl, fun x h => (by cases h), fun x h => (by cases h)⟩
  · exact ⟨⟨_, _, rfl, rfl, rfl, _, _, rfl, rfl, _, _, rfl, rfl, _, _, rfl, rfl, _, _, rfl, rfl, rfl⟩, _, rfl, rfl, by decide⟩
  · exact ⟨⟨_, _, rfl, rfl, rfl, _, _, rfl, rfl, rfl⟩, _, rfl, rfl, fun k x h => by cases h; rfl, fun x h => (by cases h), fun x h => (by cases h)⟩
  · exact ⟨⟨_, _, rfl, rfl, rfl, _, _, rfl, rfl, rfl⟩, rfl, _, _, rfl, rfl, by decide, fun h => (by cases h), fun _ => ⟨rfl, rfl, by decide, ⟨_, _, rfl, rfl, rfl⟩, rfl⟩⟩

end Go.Proofs.Ytjphmcfifncgnaa.R
namespace Go.Proofs.Ytjphmcfifncgnaa.R
open Go Go.Bm Go.Proofs
set_option maxRecDepth 100000 in
theorem ok : T.Ok Try.prog := {
  tab := tabOk
  eqt := fun t h => by cases h
  fn := fun f fn h => by
    change R.fn f = some fn at h
    unfold R.fn at h
    split at h
    case h_13 => cases h
    all_goals (cases h; exact fn_ok rfl (by kernel_rfl))
  blk := Tbl.ok_blk 1 (fun κ h => by show place κ = none; unfold place; split <;> first | rfl | omega) (by kernel_rfl)
  ext := fun f d y _ h => by cases h }

end Go.Proofs.Ytjphmcfifncgnaa.R
namespace Go.Proofs.Ytjphmcfifncgnaa.R
open Go Go.Bm Go.Proofs
set_option linter.unusedVariables false
set_option linter.unusedSimpArgs false

def fits (x : Int) : Bool := IntKind.i64.wrap (IntKind.i32.wrap x) == x
def opn (op : Int) : Int := if op = 4 ∨ op = 5 then 1 else if 6 ≤ op ∧ op ≤ 18 then 2 else if op = 26 then 3 else -1
def tr (b : Bool) : Int × Int := (if b then 1 else 0, 0)
def fit (x : Int) : Int × Int := if fits x then (x, 0) else (0, 2)
def w (x : Int) : Int := IntKind.i64.wrap x
def core (op a b c : Int) : Int × Int :=
  if op = 4 then tr (a == 0) else if op = 6 then tr (a != 0 && b != 0) else if op = 9 then tr (a == 0 || b != 0) else if op = 7 then tr (a != 0 || b != 0) else
  if op = 8 then tr (!((a != 0) == (b != 0))) else if op = 10 then tr (a == b) else if op = 11 then tr (a != b) else if op = 12 then tr (decide (a < b)) else if op = 13 then tr (decide (a ≤ b)) else
  if op = 5 then fit (w (0 - a)) else if op = 15 then fit (w (a + w (0 - b))) else if op = 14 then fit (w (a + b)) else if op = 16 then fit (w (a * b)) else
  if op = 17 then (if b = 0 then (0, 3) else fit (w (Int.tdiv a b))) else if op = 18 then (if b = 0 then (0, 3) else (Int.tmod a b, 0)) else
  if op = 26 then (if a ≠ 0 then (b, 0) else (c, 0)) else (0, 1)
def does (op a b c : Int) : Int × Int :=
  if fits a = false ∨ (opn op > 1 ∧ fits b = false) ∨ (opn op > 2 ∧ fits c = false) then (0, 1) else core op a b c

theorem c11_eq (d : Int) : c11 T.rf d = some (fits d) := o11 (by rfl)
theorem c13_eq (d : Int) : c13 T.rf d = some (opn d) := o13 (by
  simp only [r13, opn, cond_eq_ite, beq_iff_eq, decide_eq_true_eq]
  repeat' split
  all_goals first | rfl | (exfalso; omega))
theorem c17_eq (d : Bool) : c17 T.rf d = some (tr d) := o17 (by cases d <;> rfl)
theorem c18_eq (d : Int) : c18 T.rf d = some (fit d) := o18 (by
  simp only [r18, c11_eq, Option.bind_some, fit]
  cases fits d <;> rfl)
theorem k0_eq (op a b c : Int) : k0 T.rb (op, a, b, c) = some (core op a b c) := p0 (by
  by_cases h4 : op = 4
  · subst h4
    simp only [b0, core, c17_eq, c18_eq, Option.bind_some, Int.reduceBEq, Int.reduceEq, cond_true, cond_false, ↓reduceIte, w]
    cases h : a == 0 <;> simp [bne, h, c17_eq] <;> rfl
  by_cases h6 : op = 6
  · subst h6
    simp only [b0, core, c17_eq, c18_eq, Option.bind_some, Int.reduceBEq, Int.reduceEq, cond_true, cond_false, ↓reduceIte, w]
    cases h : a == 0 <;> simp [bne, h, c17_eq] <;> rfl
  by_cases h9 : op = 9
  · subst h9
    simp only [b0, core, c17_eq, c18_eq, Option.bind_some, Int.reduceBEq, Int.reduceEq, cond_true, cond_false, ↓reduceIte, w]
    cases h : a == 0 <;> simp [bne, h, c17_eq] <;> rfl
  by_cases h7 : op = 7
  · subst h7
    simp only [b0, core, c17_eq, c18_eq, Option.bind_some, Int.reduceBEq, Int.reduceEq, cond_true, cond_false, ↓reduceIte, w]
    cases h : a == 0 <;> simp [bne, h, c17_eq] <;> rfl
  by_cases h8 : op = 8
  · subst h8
    simp only [b0, core, c17_eq, c18_eq, Option.bind_some, Int.reduceBEq, Int.reduceEq, cond_true, cond_false, ↓reduceIte, w]
    try rfl
  by_cases h10 : op = 10
  · subst h10
    simp only [b0, core, c17_eq, c18_eq, Option.bind_some, Int.reduceBEq, Int.reduceEq, cond_true, cond_false, ↓reduceIte, w]
    try rfl
  by_cases h11 : op = 11
  · subst h11
    simp only [b0, core, c17_eq, c18_eq, Option.bind_some, Int.reduceBEq, Int.reduceEq, cond_true, cond_false, ↓reduceIte, w]
    try rfl
  by_cases h12 : op = 12
  · subst h12
    simp only [b0, core, c17_eq, c18_eq, Option.bind_some, Int.reduceBEq, Int.reduceEq, cond_true, cond_false, ↓reduceIte, w]
    try rfl
  by_cases h13 : op = 13
  · subst h13
    simp only [b0, core, c17_eq, c18_eq, Option.bind_some, Int.reduceBEq, Int.reduceEq, cond_true, cond_false, ↓reduceIte, w]
    try rfl
  by_cases h5 : op = 5
  · subst h5
    simp only [b0, core, c17_eq, c18_eq, Option.bind_some, Int.reduceBEq, Int.reduceEq, cond_true, cond_false, ↓reduceIte, w]
    try rfl
  by_cases h15 : op = 15
  · subst h15
    simp only [b0, core, c17_eq, c18_eq, Option.bind_some, Int.reduceBEq, Int.reduceEq, cond_true, cond_false, ↓reduceIte, w]
    try rfl
  by_cases h14 : op = 14
  · subst h14
    simp only [b0, core, c17_eq, c18_eq, Option.bind_some, Int.reduceBEq, Int.reduceEq, cond_true, cond_false, ↓reduceIte, w]
    try rfl
  by_cases h16 : op = 16
  · subst h16
    simp only [b0, core, c17_eq, c18_eq, Option.bind_some, Int.reduceBEq, Int.reduceEq, cond_true, cond_false, ↓reduceIte, w]
    try rfl
  by_cases h17 : op = 17
  · subst h17
    simp only [b0, core, c17_eq, c18_eq, Option.bind_some, Int.reduceBEq, Int.reduceEq, cond_true, cond_false, ↓reduceIte, w]
    by_cases h : b = 0
    · have e : (b == 0) = true := beq_iff_eq.2 h
      simp only [bne, e, h, cond_true, cond_false, Bool.not_true, Bool.not_false, ↓reduceIte, ne_eq, not_true_eq_false, not_false_eq_true]
      try rfl
    · have e : (b == 0) = false := beq_eq_false_iff_ne.2 h
      simp only [bne, e, h, cond_true, cond_false, Bool.not_true, Bool.not_false, ↓reduceIte, ne_eq, not_true_eq_false, not_false_eq_true]
      try rfl
  by_cases h18 : op = 18
  · subst h18
    simp only [b0, core, c17_eq, c18_eq, Option.bind_some, Int.reduceBEq, Int.reduceEq, cond_true, cond_false, ↓reduceIte, w]
    by_cases h : b = 0
    · have e : (b == 0) = true := beq_iff_eq.2 h
      simp only [bne, e, h, cond_true, cond_false, Bool.not_true, Bool.not_false, ↓reduceIte, ne_eq, not_true_eq_false, not_false_eq_true]
      try rfl
    · have e : (b == 0) = false := beq_eq_false_iff_ne.2 h
      simp only [bne, e, h, cond_true, cond_false, Bool.not_true, Bool.not_false, ↓reduceIte, ne_eq, not_true_eq_false, not_false_eq_true]
      try rfl
  by_cases h26 : op = 26
  · subst h26
    simp only [b0, core, c17_eq, c18_eq, Option.bind_some, Int.reduceBEq, Int.reduceEq, cond_true, cond_false, ↓reduceIte, w]
    by_cases h : a = 0
    · have e : (a == 0) = true := beq_iff_eq.2 h
      simp only [bne, e, h, cond_true, cond_false, Bool.not_true, Bool.not_false, ↓reduceIte, ne_eq, not_true_eq_false, not_false_eq_true]
      try rfl
    · have e : (a == 0) = false := beq_eq_false_iff_ne.2 h
      simp only [bne, e, h, cond_true, cond_false, Bool.not_true, Bool.not_false, ↓reduceIte, ne_eq, not_true_eq_false, not_false_eq_true]
      try rfl
  have e4 : (op == 4) = false := beq_eq_false_iff_ne.2 h4
  have e6 : (op == 6) = false := beq_eq_false_iff_ne.2 h6
  have e9 : (op == 9) = false := beq_eq_false_iff_ne.2 h9
  have e7 : (op == 7) = false := beq_eq_false_iff_ne.2 h7
  have e8 : (op == 8) = false := beq_eq_false_iff_ne.2 h8
  have e10 : (op == 10) = false := beq_eq_false_iff_ne.2 h10
  have e11 : (op == 11) = false := beq_eq_false_iff_ne.2 h11
  have e12 : (op == 12) = false := beq_eq_false_iff_ne.2 h12
  have e13 : (op == 13) = false := beq_eq_false_iff_ne.2 h13
  have e5 : (op == 5) = false := beq_eq_false_iff_ne.2 h5
  have e15 : (op == 15) = false := beq_eq_false_iff_ne.2 h15
  have e14 : (op == 14) = false := beq_eq_false_iff_ne.2 h14
  have e16 : (op == 16) = false := beq_eq_false_iff_ne.2 h16
  have e17 : (op == 17) = false := beq_eq_false_iff_ne.2 h17
  have e18 : (op == 18) = false := beq_eq_false_iff_ne.2 h18
  have e26 : (op == 26) = false := beq_eq_false_iff_ne.2 h26
  simp only [b0, core, e4, e6, e9, e7, e8, e10, e11, e12, e13, e5, e15, e14, e16, e17, e18, e26, cond_false, if_neg h4, if_neg h6, if_neg h9, if_neg h7, if_neg h8, if_neg h10, if_neg h11, if_neg h12, if_neg h13, if_neg h5, if_neg h15, if_neg h14, if_neg h16, if_neg h17, if_neg h18, if_neg h26])

theorem opn_le (op : Int) : opn op ≤ 3 := by
  unfold opn
  repeat' split
  all_goals decide

theorem c9_eq (op a b c : Int) : c9 T.rf (op, a, b, c) = some (does op a b c) := o9 (by
  simp only [r9, c13_eq, c11_eq, k0_eq, Option.bind_some, does]
  have hm : ∀ n : Int, n < (if 1 > opn op then 1 else opn op) ↔ (n < 1 ∨ n < opn op) := fun n => by split <;> omega
  simp only [hm, cond_eq_ite, decide_eq_true_eq, Bool.not_eq_true']
  have hle := opn_le op
  cases h1 : fits a <;> cases h2 : fits b <;> cases h3 : fits c <;> simp
  all_goals (repeat' split) <;> first | rfl | (exfalso; omega))

end Go.Proofs.Ytjphmcfifncgnaa.R
namespace Go.Proofs.Ytjphmcfifncgnaa.R
open Go Go.Bm Go.Proofs
set_option linter.unusedVariables false
set_option linter.unusedSimpArgs false

theorem c16_eq (d : Int) : c16 T.rf d = some (if d = 0 then 0 else 1) := o16 (by
  simp only [r16, cond_eq_ite, bne_iff_ne, ne_eq]
  split <;> simp_all)

theorem live_eq : c15 T.rf () = some true := o15 (by
  simp only [r15, c9_eq, c11_eq, c13_eq, Option.bind_some]
  decide +kernel)

theorem fits_iff (x : Int) : fits x = true ↔ -2147483648 ≤ x ∧ x ≤ 2147483647 := by
  have h := IntKind.wrap_i32 x
  have h2 := IntWalk.i64_in (IntKind.i32.wrap x) (by rw [h]; omega)
  unfold fits
  rw [h2, h, beq_iff_eq]
  omega

theorem does1 {op a b c : Int} (ho : opn op = 1) (ha : fits a = true) : does op a b c = core op a b c := by
  unfold does; rw [if_neg (by rw [ho, ha]; simp)]
theorem does2 {op a b c : Int} (ho : opn op = 2) (ha : fits a = true) (hb : fits b = true) : does op a b c = core op a b c := by
  unfold does; rw [if_neg (by rw [ho, ha, hb]; simp)]
theorem does3 {op a b c : Int} (ho : opn op = 3) (ha : fits a = true) (hb : fits b = true) (hc : fits c = true) : does op a b c = core op a b c := by
  unfold does; rw [if_neg (by rw [ha, hb, hc]; simp)]
theorem doesNot {op a b c : Int} (h : fits a = false ∨ (opn op = 2 ∧ fits b = false)) : does op a b c = (0, 1) := by
  unfold does
  rw [if_pos]
  rcases h with h | ⟨h1, h2⟩
  · exact .inl h
  · exact .inr (.inl ⟨by rw [h1]; decide, h2⟩)

theorem l7 (a b : Int) : c7 T.rf (a, b) = some true := o7 (by
  simp only [r7, c11_eq, c16_eq, c9_eq, live_eq, Option.bind_some]
  cases ha : fits a
  · rfl
  cases hb : fits b
  · rfl
  rw [does2 (op := 6) rfl ha hb, does2 (op := 7) rfl ha hb, does2 (op := 8) rfl ha hb, does1 (op := 4) rfl ha, does3 (op := 26) rfl ha (by decide +kernel) (by decide +kernel)]
  simp only [core, Int.reduceEq, ↓reduceIte]
  cases h1 : a == 0 <;> cases h2 : b == 0
  · have g1 := beq_eq_false_iff_ne.1 h1
    have g2 := beq_eq_false_iff_ne.1 h2
    simp only [bne, h1, h2, ne_eq, ite_not, if_neg g1, if_neg g2, tr]; decide +kernel
  · have g1 := beq_eq_false_iff_ne.1 h1
    have g2 := beq_iff_eq.1 h2
    simp only [bne, h1, h2, ne_eq, ite_not, if_neg g1, if_pos g2, tr]; decide +kernel
  · have g1 := beq_iff_eq.1 h1
    have g2 := beq_eq_false_iff_ne.1 h2
    simp only [bne, h1, h2, ne_eq, ite_not, if_pos g1, if_neg g2, tr]; decide +kernel
  · have g1 := beq_iff_eq.1 h1
    have g2 := beq_iff_eq.1 h2
    simp only [bne, h1, h2, ne_eq, ite_not, if_pos g1, if_pos g2, tr]; decide +kernel)

theorem l8 (a b c : Int) : c8 T.rf (a, b, c) = some true := o8 (by
  simp only [r8, c11_eq, c9_eq, live_eq, Option.bind_some]
  cases ha : fits a
  · rfl
  cases hb : fits b
  · rfl
  cases hc : fits c
  · rfl
  rw [does2 (op := 12) rfl ha hb, does2 (op := 12) rfl hb ha, does2 (op := 10) rfl ha hb, does2 (op := 12) rfl hb hc, does2 (op := 12) rfl ha hc]
  simp only [core, Int.reduceEq, ↓reduceIte]
  have e : (a == b) = decide (a = b) := rfl
  rw [e]
  cases h1 : decide (a < b) <;> cases h2 : decide (b < a) <;> cases h3 : decide (a = b) <;> cases h4 : decide (b < c) <;> cases h5 : decide (a < c)
  all_goals first
    | decide +kernel
    | (exfalso; simp only [decide_eq_true_eq, decide_eq_false_iff_not] at h1 h2 h3 h4 h5; omega))

theorem fitw {x : Int} (h : fits x = true) : fit (w x) = (x, 0) := by
  have h1 := (fits_iff x).1 h
  unfold w
  rw [IntWalk.i64_in x (by omega)]
  unfold fit
  rw [h]; rfl

theorem l6 (a b : Int) : c6 T.rf (a, b) = some true := o6 (by
  simp only [r6, c11_eq, c9_eq, live_eq, Option.bind_some]
  cases ha : fits a
  · rw [doesNot (op := 14) (.inl ha)]; rfl
  cases hb : fits b
  · rw [doesNot (op := 14) (.inr ⟨rfl, hb⟩)]; rfl
  have ga := (fits_iff a).1 ha
  have gb := (fits_iff b).1 hb
  have f0 : fits 0 = true := by decide +kernel
  have wn : ∀ x, -2147483648 ≤ x → x ≤ 2147483647 → w (0 - x) = 0 - x := fun x h1 h2 => IntWalk.i64_in _ (by omega)
  rw [does2 (op := 14) rfl ha hb, does1 (op := 5) rfl ha, does2 (op := 15) rfl f0 ha, does2 (op := 12) rfl ha hb, does2 (op := 13) rfl hb ha, does2 (op := 10) rfl ha hb, does2 (op := 11) rfl ha hb,
    does1 (op := 4) rfl ha, does2 (op := 9) rfl ha hb]
  have f4 : fits (core 4 a 0 0).1 = true := by
    show fits (tr (a == 0)).1 = true
    cases a == 0 <;> decide +kernel
  rw [does2 (op := 7) rfl f4 hb]
  have e5 : core 5 a 0 0 = core 15 0 a 0 := by
    show fit (w (0 - a)) = fit (w (0 + w (0 - a)))
    rw [wn a ga.1 ga.2, Int.zero_add, wn a ga.1 ga.2]
  have e12 : ((core 12 a b 0).1 != (core 13 b a 0).1) = true := by
    show ((tr (decide (a < b))).1 != (tr (decide (b ≤ a))).1) = true
    by_cases h : a < b
    · rw [decide_eq_true h, decide_eq_false (by omega)]; rfl
    · rw [decide_eq_false h, decide_eq_true (by omega)]; rfl
  have e10 : ((core 10 a b 0).1 != (core 11 a b 0).1) = true := by
    show ((tr (a == b)).1 != (tr (a != b)).1) = true
    unfold bne
    cases a == b <;> rfl
  have e7 : ((core 7 (core 4 a 0 0).1 b 0).1 == (core 9 a b 0).1) = true := by
    show ((tr ((tr (a == 0)).1 != 0 || b != 0)).1 == (tr (a == 0 || b != 0)).1) = true
    cases a == 0 <;> cases b != 0 <;> rfl
  rw [e5, e12, e10, e7]
  simp only [beq_self_eq_true, cond_true]
  cases hs : fits (a + b)
  · have : core 14 a b 0 = (0, 2) := by
      show fit (w (a + b)) = _
      have : w (a + b) = a + b := IntWalk.i64_in _ (by omega)
      rw [this]; unfold fit; rw [hs]; rfl
    rw [this]; rfl
  · have h14 : core 14 a b 0 = (a + b, 0) := fitw hs
    rw [h14]
    simp only
    rw [does2 (op := 15) rfl hs hb]
    have : core 15 (a + b) b 0 = (a, 0) := by
      show fit (w (a + b + w (0 - b))) = _
      rw [wn b gb.1 gb.2, show a + b + (0 - b) = a by omega]
      exact fitw ha
    rw [this]
    simp only [beq_self_eq_true, cond_true]
    rfl)

theorem mod_abs (a b : Int) (hb : b ≠ 0) : (a.tmod b).natAbs < b.natAbs := by
  rw [Int.natAbs_tmod]
  exact Nat.mod_lt _ (by omega)
theorem mod_le (a b : Int) : (a.tmod b).natAbs ≤ a.natAbs := by
  rw [Int.natAbs_tmod]
  exact Nat.mod_le _ _
theorem div_abs (a b : Int) : (a.tdiv b).natAbs = a.natAbs / b.natAbs := Int.natAbs_tdiv a b
theorem mod_sign (a b : Int) : (0 ≤ a → 0 ≤ a.tmod b) ∧ (a ≤ 0 → a.tmod b ≤ 0) := by
  refine ⟨Int.tmod_nonneg b, fun h => ?_⟩
  have := Int.tmod_nonneg (a := -a) b (by omega)
  rw [Int.neg_tmod] at this
  omega

theorem c17_val {a b : Int} (hb : b ≠ 0) (ha : fits a = true) : core 17 a b 0 = fit (a.tdiv b) := by
  have ga := (fits_iff a).1 ha
  have h := div_abs a b
  have h2 : a.natAbs / b.natAbs ≤ a.natAbs := Nat.div_le_self _ _
  show (if b = 0 then (0, 3) else fit (w (a.tdiv b))) = _
  rw [if_neg hb]
  unfold w
  rw [IntWalk.i64_in _ (by omega)]

theorem l5 (a b : Int) : c5 T.rf (a, b) = some true := o5 (by
  simp only [r5, c9_eq, live_eq, Option.bind_some]
  cases ha : fits a
  · rw [doesNot (op := 17) (.inl ha), doesNot (op := 18) (.inl ha)]; rfl
  cases hb : fits b
  · rw [doesNot (op := 17) (.inr ⟨rfl, hb⟩), doesNot (op := 18) (.inr ⟨rfl, hb⟩)]; rfl
  rw [does2 (op := 17) rfl ha hb, does2 (op := 18) rfl ha hb]
  have ga := (fits_iff a).1 ha
  have gb := (fits_iff b).1 hb
  by_cases h0 : b = 0
  · subst h0; rfl
  have e18 : core 18 a b 0 = (a.tmod b, 0) := by
    show (if b = 0 then (0, 3) else (a.tmod b, 0)) = _
    rw [if_neg h0]
  rw [e18, c17_val h0 ha]
  have hm := mod_abs a b h0
  have hl := mod_le a b
  have hd := div_abs a b
  have hdl : a.natAbs / b.natAbs ≤ a.natAbs := Nat.div_le_self _ _
  have hs := mod_sign a b
  have he := Int.mul_tdiv_add_tmod a b
  cases hq : fits (a.tdiv b)
  · have hf : ¬ (-2147483648 ≤ a.tdiv b ∧ a.tdiv b ≤ 2147483647) := fun h => by rw [(fits_iff _).2 h] at hq; cases hq
    have hq2 : a.tdiv b = 2147483648 := by omega
    have ha2 : a = -2147483648 := by omega
    have hb1 : b.natAbs = 1 := by
      have h1 : b.natAbs ≠ 0 := by omega
      rcases Nat.lt_or_ge b.natAbs 2 with h | h
      · omega
      · exfalso
        have : a.natAbs / b.natAbs ≤ a.natAbs / 2 := Nat.div_le_div_left h (by omega)
        omega
    have hb2 : b = -1 := by
      rcases Int.natAbs_eq b with h | h
      · have hb3 : b = 1 := by omega
        rw [hb3, Int.tdiv_one] at hq2
        omega
      · omega
    subst ha2; subst hb2
    decide +kernel
  · have e17 : fit (a.tdiv b) = (a.tdiv b, 0) := by unfold fit; rw [hq]; rfl
    rw [e17]
    have gq := (fits_iff _).1 hq
    have hmul : a.tdiv b * b = a - a.tmod b := by rw [Int.mul_comm]; omega
    have w1 : IntKind.i64.wrap (a.tdiv b * b) = a - a.tmod b := by rw [hmul]; exact IntWalk.i64_in _ (by omega)
    have w2 : IntKind.i64.wrap (a - a.tmod b + a.tmod b) = a := by rw [show a - a.tmod b + a.tmod b = a by omega]; exact IntWalk.i64_in _ (by omega)
    have w3 : IntKind.i64.wrap (0 - a.tmod b) = - a.tmod b := by rw [IntWalk.i64_in _ (by omega)]; omega
    have w4 : IntKind.i64.wrap (0 - b) = - b := by rw [IntWalk.i64_in _ (by omega)]; omega
    simp only [w1, w2, w3, w4]
    cases h1 : decide (a.tmod b < 0) <;> cases h2 : decide (b < 0) <;> cases h3 : decide (-a.tmod b < -b) <;> cases h4 : decide (-a.tmod b < b) <;> cases h5 : decide (a.tmod b < -b) <;> cases h6 : decide (a.tmod b < b) <;>
      cases h7 : a.tmod b == 0 <;> cases h8 : decide (a < 0)
    all_goals first
      | (simp only [beq_self_eq_true, cond_true, cond_false, bne_self_eq_false]; (try rfl); done)
      | (exfalso; simp only [decide_eq_true_eq, decide_eq_false_iff_not, beq_iff_eq, beq_eq_false_iff_ne, ne_eq] at h1 h2 h3 h4 h5 h6 h7 h8; omega))

/-- What every answer of 'Do' is like. -/
def Good (op : Int) (y : Int × Int) : Prop := (y.2 ≠ 0 → y.1 = 0) ∧ ((op = 4 ∨ (6 ≤ op ∧ op ≤ 13)) → y.1 = 0 ∨ y.1 = 1) ∧ fits y.1 = true

theorem good_tr (op : Int) (b : Bool) : Good op (tr b) := by cases b <;> exact ⟨fun h => absurd rfl h, fun _ => by decide, by decide +kernel⟩
theorem good_fit {op : Int} (x : Int) (h : op ≠ 4 ∧ ¬ (6 ≤ op ∧ op ≤ 13)) : Good op (fit x) := by
  unfold fit
  split
  · rename_i hx; exact ⟨fun h => absurd rfl h, fun h' => by omega, hx⟩
  · exact ⟨fun _ => rfl, fun _ => .inl rfl, by decide +kernel⟩
theorem good_zero (op n : Int) : Good op (0, n) := ⟨fun _ => rfl, fun _ => .inl rfl, by show fits 0 = true; decide +kernel⟩

theorem good_core {op a b c : Int} (ha : fits a = true) (hb : opn op > 1 → fits b = true) (hc : opn op > 2 → fits c = true) : Good op (core op a b c) := by
  unfold core
  by_cases k4 : op = 4
  · rw [if_pos k4]; exact good_tr _ _
  rw [if_neg k4]
  by_cases k6 : op = 6
  · rw [if_pos k6]; exact good_tr _ _
  rw [if_neg k6]
  by_cases k9 : op = 9
  · rw [if_pos k9]; exact good_tr _ _
  rw [if_neg k9]
  by_cases k7 : op = 7
  · rw [if_pos k7]; exact good_tr _ _
  rw [if_neg k7]
  by_cases k8 : op = 8
  · rw [if_pos k8]; exact good_tr _ _
  rw [if_neg k8]
  by_cases k10 : op = 10
  · rw [if_pos k10]; exact good_tr _ _
  rw [if_neg k10]
  by_cases k11 : op = 11
  · rw [if_pos k11]; exact good_tr _ _
  rw [if_neg k11]
  by_cases k12 : op = 12
  · rw [if_pos k12]; exact good_tr _ _
  rw [if_neg k12]
  by_cases k13 : op = 13
  · rw [if_pos k13]; exact good_tr _ _
  rw [if_neg k13]
  by_cases k5 : op = 5
  · rw [if_pos k5]; exact good_fit _ (by omega)
  rw [if_neg k5]
  by_cases k15 : op = 15
  · rw [if_pos k15]; exact good_fit _ (by omega)
  rw [if_neg k15]
  by_cases k14 : op = 14
  · rw [if_pos k14]; exact good_fit _ (by omega)
  rw [if_neg k14]
  by_cases k16 : op = 16
  · rw [if_pos k16]; exact good_fit _ (by omega)
  rw [if_neg k16]
  by_cases k17 : op = 17
  · rw [if_pos k17]
    by_cases h : b = 0
    · rw [if_pos h]; exact good_zero _ _
    · rw [if_neg h]; exact good_fit _ (by omega)
  rw [if_neg k17]
  by_cases k18 : op = 18
  · rw [if_pos k18]
    by_cases h : b = 0
    · rw [if_pos h]; exact good_zero _ _
    · rw [if_neg h]
      refine ⟨fun h => absurd rfl h, fun h => by omega, ?_⟩
      have := mod_le a b
      have := mod_sign a b
      have := (fits_iff a).1 ha
      exact (fits_iff _).2 (by dsimp only; omega)
  rw [if_neg k18]
  by_cases k26 : op = 26
  · rw [if_pos k26]
    subst k26
    by_cases h : a ≠ 0
    · rw [if_pos h]; exact ⟨fun h => absurd rfl h, fun h => by omega, hb (by decide +kernel)⟩
    · rw [if_neg h]; exact ⟨fun h => absurd rfl h, fun h => by omega, hc (by decide +kernel)⟩
  rw [if_neg k26]
  exact good_zero _ _

theorem good_does (op a b c : Int) : Good op (does op a b c) := by
  unfold does
  split
  · exact good_zero _ _
  · rename_i h
    refine good_core ?_ (fun h1 => ?_) (fun h1 => ?_)
    · cases hf : fits a
      · exact absurd (.inl hf) h
      · rfl
    · cases hf : fits b
      · exact absurd (.inr (.inl ⟨h1, hf⟩)) h
      · rfl
    · cases hf : fits c
      · exact absurd (.inr (.inr ⟨h1, hf⟩)) h
      · rfl

theorem l4 (op a b c : Int) : c4 T.rf (op, a, b, c) = some true := o4 (by
  simp only [r4, c11_eq, c9_eq, live_eq, Option.bind_some]
  obtain ⟨h1, h2, h3⟩ := good_does op a b c
  generalize does op a b c = y at *
  rw [h3]
  by_cases g : y.2 = 0
  · have e : (y.2 != 0) = false := by rw [g]; rfl
    rw [e]
    simp only [cond_false, cond_true]
    cases k4 : op == 4
    · cases k6 : decide (op ≥ 6)
      · rfl
      · cases k13 : decide (op ≤ 13)
        · rfl
        · simp only [decide_eq_true_eq] at k6 k13
          rcases h2 (.inr ⟨k6, k13⟩) with h | h <;> rw [h] <;> rfl
    · rcases h2 (.inl (beq_iff_eq.1 k4)) with h | h <;> rw [h] <;> rfl
  · have e : (y.2 != 0) = true := bne_iff_ne.2 g
    rw [e, h1 g]; rfl)

end Go.Proofs.Ytjphmcfifncgnaa.R
