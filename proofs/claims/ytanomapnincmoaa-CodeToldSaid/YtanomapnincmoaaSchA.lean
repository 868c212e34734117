/-
  OUR OWN: nets: operators' operands, and whether a net may be (the program's way and the document's).
-/
import Derived.Test.YtanomapnincmoaaResRun
import Derived.Test.YtanomapnincmoaaBmPl
namespace Go.Proofs.Ytanomapnincmoaa.R
open Go Go.Bm Go.Proofs
set_option linter.unusedVariables false
set_option linter.unusedSimpArgs false
set_option maxRecDepth 4000

abbrev Od : Type := Int × Int × Int × Int × Int
abbrev Nt : Type := List Od × List Int × List Int
/-- How many operands an operator has. -/
def kidsN (op : Int) : Int :=
  if op = 3 ∨ op = 1 ∨ op = 2 then 0 else if op = 21 then 1 else if op = 19 then 2 else if op = 4 ∨ op = 5 then 1 else if 6 ≤ op ∧ op ≤ 18 then 2 else if op = 26 then 3 else -1
def flds (x : Od) : List Int := [x.2.1, x.2.2.1, x.2.2.2.1]
def manyN (x : Od) : Nat := (kidsN x.1).toNat
def usedN (x : Od) : List Int := (flds x).take (manyN x)
def restN (x : Od) : List Int := (flds x).drop (manyN x)
def inN (m : Nat) (k : Int) : Bool := decide (0 ≤ k ∧ k < m)
def plainN (n : Nt) (x : Od) : Bool :=
  if x.1 = 3 then decide (0 ≤ x.2.2.2.2 ∧ x.2.2.2.2 < n.2.2.length) else if x.1 = 1 then decide (-2147483648 ≤ x.2.2.2.2 ∧ x.2.2.2.2 ≤ 2147483647) else if x.1 = 2 then decide (x.2.2.2.2 = 0 ∨ x.2.2.2.2 = 1) else decide (x.2.2.2.2 = 0)
def mayO (n : Nt) (x : Od) : Bool := decide (0 ≤ kidsN x.1) && ((usedN x).all (inN n.1.length) && ((restN x).all (fun k => decide (k = -1)) && plainN n x))
def mayN (n : Nt) : Bool := n.1.all (mayO n) && n.2.1.all (inN n.1.length)
/-- The operators that one needs. -/
def opsN (x : Od) : List Int := if x.1 = 21 then [] else usedN x

theorem kidsN_le (op : Int) : -1 ≤ kidsN op ∧ kidsN op ≤ 3 := by
  unfold kidsN; repeat' split
  all_goals omega
theorem manyN_le (x : Od) : manyN x ≤ 3 := by have := kidsN_le x.1; unfold manyN; omega

theorem numOperands_eq (op : Int) : c14 T.rf op = some (if op = 4 ∨ op = 5 then 1 else if 6 ≤ op ∧ op ≤ 18 then 2 else if op = 26 then 3 else -1) := or14 (by
  simp only [r14]
  by_cases h4 : op = 4
  · subst h4; rfl
  by_cases h5 : op = 5
  · subst h5; rfl
  rw [bf h4, cond_false, bf h5, cond_false, if_neg (by omega)]
  by_cases h6 : 6 ≤ op
  · rw [dt h6, cond_true]
    by_cases h18 : op ≤ 18
    · rw [dt h18, cond_true, if_pos ⟨h6, h18⟩]
    · rw [df h18, cond_false, if_neg (by omega)]
      by_cases h26 : op = 26
      · rw [bt h26, if_pos h26]; rfl
      · rw [bf h26, if_neg h26]; rfl
  · rw [df h6, cond_false, if_neg (by omega)]
    by_cases h26 : op = 26
    · omega
    · rw [bf h26, if_neg h26]; rfl)
theorem operands_eq (op : Int) : c13 T.rf op = some (kidsN op) := or13 (by
  simp only [r13, numOperands_eq, Option.bind_some]
  unfold kidsN
  by_cases h3 : op = 3
  · subst h3; rfl
  by_cases h1 : op = 1
  · subst h1; rfl
  by_cases h2 : op = 2
  · subst h2; rfl
  by_cases h21 : op = 21
  · subst h21; rfl
  by_cases h19 : op = 19
  · subst h19; rfl
  simp only [bf h3, bf h1, bf h2, bf h21, bf h19, cond_false, if_neg h21, if_neg h19, if_neg (show ¬ (op = 3 ∨ op = 1 ∨ op = 2) by omega)])
theorem refOperands_eq (op : Int) : c53 T.rf op = some (if op = 4 ∨ op = 5 then 1 else if 6 ≤ op ∧ op ≤ 18 then 2 else if op = 26 then 3 else -1) := or53 (by
  simp only [r53]
  by_cases h4 : op = 4
  · subst h4; rfl
  by_cases h5 : op = 5
  · subst h5; rfl
  rw [bf h4, cond_false, bf h5, cond_false, if_neg (by omega)]
  by_cases h26 : op = 26
  · subst h26; rfl
  rw [bf h26, cond_false, if_neg h26]
  by_cases h6 : 6 ≤ op
  · rw [dt h6, cond_true]
    by_cases h18 : op ≤ 18
    · rw [dt h18, cond_true, if_pos ⟨h6, h18⟩]
    · rw [df h18, cond_false, if_neg (by omega)]
  · rw [df h6, cond_false, if_neg (by omega)])
theorem refKidsN_eq (op : Int) : c80 T.rf op = some (kidsN op) := or80 (by
  simp only [r80, refOperands_eq, Option.bind_some]
  unfold kidsN
  by_cases h3 : op = 3
  · subst h3; rfl
  by_cases h1 : op = 1
  · subst h1; rfl
  by_cases h2 : op = 2
  · subst h2; rfl
  by_cases h21 : op = 21
  · subst h21; rfl
  by_cases h19 : op = 19
  · subst h19; rfl
  simp only [bf h3, bf h1, bf h2, bf h21, bf h19, cond_false, if_neg h21, if_neg h19, if_neg (show ¬ (op = 3 ∨ op = 1 ∨ op = 2) by omega)])

theorem fields_eq (x : Od) : c12 T.rf x = some (usedN x, restN x) := or12 (by
  have hk := kidsN_le x.1
  have hm : (if 0 > kidsN x.1 then 0 else kidsN x.1) = ((manyN x : Nat) : Int) := by unfold manyN; split <;> omega
  have h3 := manyN_le x
  simp only [r12, operands_eq, Option.bind_some, hm, Int.toNat_natCast, Nat.sub_zero, sub_zero]
  rw [inb'_nat, dt h3, cond_true, cond_true]
  have : sub [x.2.1, x.2.2.1, x.2.2.2.1] (some (manyN x, 3 - manyN x)) = restN x := by
    show ((flds x).drop (manyN x)).take (3 - manyN x) = _
    rw [List.take_of_length_le (by simp [flds])]; rfl
  rw [this]; rfl)
theorem refOps_eq {x : Od} (h : 0 ≤ kidsN x.1) : c84 T.rf x = some (opsN x) := or84 (by
  have hk := kidsN_le x.1
  have h3 := manyN_le x
  simp only [r84, refKidsN_eq, Option.bind_some]
  unfold opsN
  by_cases h21 : x.1 = 21
  · rw [bt h21, cond_true, if_pos h21]
  · rw [bf h21, cond_false, if_neg h21, show kidsN x.1 = ((manyN x : Nat) : Int) from by unfold manyN; omega, inb'_t (by omega) (by omega), cond_true, Int.toNat_natCast, Nat.sub_zero, sub_zero]; rfl)

/-! May a net be: the program's way. -/
def ixO {α : Type} : (α × Int) ⊕ α → α × Int
  | .inl j => j
  | .inr m => (m, -1)
def ixP {α : Type} (n : α) (b : Bool) : (α × Int) ⊕ α → Prop
  | .inl j => j.1 = n ∧ 0 ≤ j.2 ∧ b = false
  | .inr m => m = n ∧ b = true
theorem ixP_fin {α : Type} {n : α} {b : Bool} {z : (α × Int) ⊕ α} (h : ixP n b z) : ((ixO z).1, decide ((ixO z).2 ≥ 0)) = (n, !b) := by
  cases z with
  | inl j => obtain ⟨h1, h2, h3⟩ := h; rw [h3]; show (j.1, decide (j.2 ≥ 0)) = _; rw [h1, dt h2]; rfl
  | inr m => obtain ⟨h1, h2⟩ := h; rw [h1, h2]; rfl
theorem i32_in {x : Int} : ((IntKind.i64.wrap (IntKind.i32.wrap x)) == x) = decide (-2147483648 ≤ x ∧ x ≤ 2147483647) := by
  have hr : -2147483648 ≤ IntKind.i32.wrap x ∧ IntKind.i32.wrap x ≤ 2147483647 := by
    rw [IntKind.wrap_i32]; omega
  rw [wr (by omega)]
  by_cases h : -2147483648 ≤ x ∧ x ≤ 2147483647
  · rw [dt h]
    exact bt (IntWalk.i32_in x h)
  · rw [df h]
    exact bf (fun e => h (e ▸ hr))
theorem fits_eq (x : Int) : c19 T.rf x = some (decide (-2147483648 ≤ x ∧ x ≤ 2147483647)) := or19 (by
  simp only [r19, i32_in])
theorem refFits_eq (x : Int) : c56 T.rf x = some (decide (-2147483648 ≤ x ∧ x ≤ 2147483647)) := or56 (by
  simp only [r56]
  by_cases h : -2147483648 ≤ x
  · rw [dt h, cond_true]; congr 1; by_cases h2 : x ≤ 2147483647
    · rw [dt h2, dt ⟨h, h2⟩]
    · rw [df h2, df (fun a => h2 a.2)]
  · rw [df h, cond_false, df (fun a => h a.1)])
theorem may1_eq (n : Nt) (k : Int) : c15 T.rf n k = some (n, inN n.1.length k) := or15 (by
  simp only [r15]
  unfold inN
  by_cases h : 0 ≤ k
  · rw [dt h, cond_true]; congr 2; by_cases h2 : k < n.1.length
    · rw [dt h2, dt ⟨h, h2⟩]
    · rw [df h2, df (fun a => h2 a.2)]
  · rw [df h, cond_false, df (fun a => h a.1)])
theorem may_loop (n : Nt) : ∀ (suf pre : List Int), pre.length + suf.length ≤ 1000000 →
    k3 T.rb n (pre ++ suf) ((pre ++ suf).length : Nat) (pre.length : Nat) = some (if suf.all (inN n.1.length) = true then .inr n else .inl (n, false))
  | [], pre, h => ob3 (by simp only [b3, lt_end, lt_self, List.append_nil, cond_false]; rfl)
  | k :: suf, pre, h => ob3 (by
    simp only [List.length_cons] at h
    have ih := may_loop n suf (pre ++ [k]) (by simp; omega)
    simp only [List.append_assoc, List.singleton_append] at ih
    simp only [b3, lt_mid, inb_mid, nth_mid, cond_true, Option.bind_some, may1_eq, next_mid pre k (by omega), ih]
    rw [List.all_cons]
    cases inN n.1.length k <;> rfl)
theorem rest_loop : ∀ (suf pre : List Int), pre.length + suf.length ≤ 1000000 →
    k4 T.rb (pre ++ suf) ((pre ++ suf).length : Nat) (pre.length : Nat) = some (if suf.all (fun k => decide (k = -1)) = true then .inr () else .inl ((pre.length + (suf.findIdx fun k => decide (k ≠ -1)) : Nat) : Int))
  | [], pre, h => ob4 (by simp only [b4, lt_end, lt_self, List.append_nil, cond_false]; rfl)
  | k :: suf, pre, h => ob4 (by
    simp only [List.length_cons] at h
    have ih := rest_loop suf (pre ++ [k]) (by simp; omega)
    simp only [List.append_assoc, List.singleton_append] at ih
    have h2 : c18 T.rf k = some (k != -1) := or18 rfl
    simp only [b4, lt_mid, inb_mid, nth_mid, cond_true, Option.bind_some, h2, next_mid pre k (by omega), ih]
    rw [List.all_cons, List.findIdx_cons]
    by_cases e : k = -1
    · rw [nbt e, cond_false, dt e, Bool.true_and, List.length_append, List.length_singleton, df (by simpa using e), cond_false, show pre.length + 1 + (suf.findIdx fun k => decide (k ≠ -1)) = pre.length + ((suf.findIdx fun k => decide (k ≠ -1)) + 1) by omega]
    · rw [nbf e, cond_true, df e, Bool.false_and, if_neg (by decide), dt (show k ≠ -1 from e), cond_true, Nat.add_zero])
theorem rest_eq {l : List Int} (h : l.length ≤ 1000000) : c16 T.rf l = some (!l.all fun k => decide (k = -1)) := or16 (by
  have h0 := rest_loop l [] (by simpa using h)
  rw [List.nil_append, List.length_nil, show ((0 : Nat) : Int) = (0 : Int) from rfl] at h0
  have hI : c17 T.rf l = some (if (l.all fun k => decide (k = -1)) = true then -1 else ((0 + (l.findIdx fun k => decide (k ≠ -1)) : Nat) : Int)) := or17 (by
    simp only [r17, h0, Option.bind_some]
    cases (l.all fun k => decide (k = -1)) <;> rfl)
  simp only [r16, hI, Option.bind_some]
  cases hl : l.all fun k => decide (k = -1)
  · rw [if_neg (by decide), dt (by omega)]; rfl
  · rw [if_pos rfl]; rfl)
theorem mayO_eq (n : Nt) (x : Od) : c11 T.rf n x = some (mayO n x) := or11 (by
  have hu : (usedN x).length ≤ 3 := by simp [usedN, flds]; omega
  have hr : (restN x).length ≤ 3 := by simp [restN, flds]
  have h0 := may_loop n (usedN x) [] (by simp; omega)
  rw [List.nil_append, List.length_nil, show ((0 : Nat) : Int) = (0 : Int) from rfl] at h0
  simp only [r11, fields_eq, Option.bind_some, h0, operands_eq, rest_eq (l := restN x) (by omega), fits_eq]
  unfold mayO
  cases h1 : (usedN x).all (inN n.1.length)
  · rw [if_neg (by decide), Bool.false_and, Bool.and_false]
  rw [if_pos rfl, Bool.true_and]
  by_cases h2 : 0 ≤ kidsN x.1
  case neg => rw [df h2, Bool.false_and]; show (bif decide (kidsN x.1 < 0) then _ else _) = _; rw [dt (by omega), cond_true]
  rw [dt h2, Bool.true_and]
  show (bif decide (kidsN x.1 < 0) then _ else _) = _
  rw [df (by omega), cond_false]
  cases h3 : (restN x).all fun k => decide (k = -1)
  · rfl
  rw [Bool.not_true, cond_false, Bool.true_and]
  unfold plainN
  by_cases a3 : x.1 = 3
  · rw [bt a3, cond_true, if_pos a3]
    by_cases b : 0 ≤ x.2.2.2.2
    · rw [dt b, cond_true]; congr 1; by_cases c : x.2.2.2.2 < n.2.2.length
      · rw [dt c, dt ⟨b, c⟩]
      · rw [df c, df (fun a => c a.2)]
    · rw [df b, cond_false, df (fun a => b a.1)]
  rw [bf a3, cond_false, if_neg a3]
  by_cases a1 : x.1 = 1
  · rw [bt a1, cond_true, if_pos a1]
  rw [bf a1, cond_false, if_neg a1]
  by_cases a2 : x.1 = 2
  · rw [bt a2, cond_true, if_pos a2]
    by_cases b : x.2.2.2.2 = 0
    · rw [bt b, cond_true, dt (Or.inl b)]
    · rw [bf b, cond_false]; congr 1; by_cases c : x.2.2.2.2 = 1
      · rw [bt c, dt (Or.inr c)]
      · rw [bf c, df (fun a => a.elim b c)]
  rw [bf a2, cond_false, if_neg a2]
  congr 1)

theorem ops_loop (n : Nt) : ∀ (suf pre : List Od), pre.length + suf.length ≤ 1000000 →
    ∃ z, k2 T.rb n (pre ++ suf) ((pre ++ suf).length : Nat) (pre.length : Nat) = some z ∧ ixP n (suf.all (mayO n)) z
  | [], pre, h => ⟨.inr n, ob2 (by simp only [b2, lt_end, lt_self, List.append_nil, cond_false]), rfl, rfl⟩
  | x :: suf, pre, h => by
    simp only [List.length_cons] at h
    obtain ⟨z, ih, hz⟩ := ops_loop n suf (pre ++ [x]) (by simp; omega)
    simp only [List.append_assoc, List.singleton_append] at ih
    have h1 : c10 T.rf n x = some (n, !mayO n x) := or10 (by simp only [r10, mayO_eq, Option.bind_some])
    cases hx : mayO n x
    · refine ⟨.inl (n, (pre.length : Nat)), ob2 ?_, rfl, by omega, by rw [List.all_cons, hx]; rfl⟩
      simp only [b2, lt_mid, inb_mid, nth_mid, cond_true, Option.bind_some, h1, hx, Bool.not_false]
    · refine ⟨z, ob2 ?_, ?_⟩
      · simp only [b2, lt_mid, inb_mid, nth_mid, cond_true, Option.bind_some, h1, hx, Bool.not_true, cond_false, next_mid pre x (by omega)]
        exact ih
      · rw [List.all_cons, hx, Bool.true_and]; exact hz
theorem opsC_eq (n : Nt) {l : List Od} (h : l.length ≤ 1000000) : c8 T.rf n l = some (n, !l.all (mayO n)) := or8 (by
  obtain ⟨z, h0, hz⟩ := ops_loop n l [] (by simpa using h)
  rw [List.nil_append, List.length_nil, show ((0 : Nat) : Int) = (0 : Int) from rfl] at h0
  have hI : c9 T.rf n l = some (ixO z) := or9 (by
    simp only [r9, h0, Option.bind_some]
    cases z <;> rfl)
  simp only [r8, hI, Option.bind_some, ixP_fin hz])
theorem roots_loop (n : Nt) : ∀ (suf pre : List Int), pre.length + suf.length ≤ 1000000 →
    ∃ z, k5 T.rb n (pre ++ suf) ((pre ++ suf).length : Nat) (pre.length : Nat) = some z ∧ ixP n (suf.all (inN n.1.length)) z
  | [], pre, h => ⟨.inr n, ob5 (by simp only [b5, lt_end, lt_self, List.append_nil, cond_false]), rfl, rfl⟩
  | x :: suf, pre, h => by
    simp only [List.length_cons] at h
    obtain ⟨z, ih, hz⟩ := roots_loop n suf (pre ++ [x]) (by simp; omega)
    simp only [List.append_assoc, List.singleton_append] at ih
    have h1 : c22 T.rf n x = some (n, !inN n.1.length x) := or22 (by
      simp only [r22]
      unfold inN
      by_cases a : x < 0
      · rw [dt a, cond_true, df (by omega)]; rfl
      · rw [df a, cond_false]
        by_cases b : x < n.1.length
        · rw [df (by omega), dt (by omega)]; rfl
        · rw [dt (by omega), df (by omega)]; rfl)
    cases hx : inN n.1.length x
    · refine ⟨.inl (n, (pre.length : Nat)), ob5 ?_, rfl, by omega, by rw [List.all_cons, hx]; rfl⟩
      simp only [b5, lt_mid, inb_mid, nth_mid, cond_true, Option.bind_some, h1, hx, Bool.not_false]
    · refine ⟨z, ob5 ?_, ?_⟩
      · simp only [b5, lt_mid, inb_mid, nth_mid, cond_true, Option.bind_some, h1, hx, Bool.not_true, cond_false, next_mid pre x (by omega)]
        exact ih
      · rw [List.all_cons, hx, Bool.true_and]; exact hz
theorem rootsC_eq (n : Nt) {l : List Int} (h : l.length ≤ 1000000) : c20 T.rf n l = some (n, !l.all (inN n.1.length)) := or20 (by
  obtain ⟨z, h0, hz⟩ := roots_loop n l [] (by simpa using h)
  rw [List.nil_append, List.length_nil, show ((0 : Nat) : Int) = (0 : Int) from rfl] at h0
  have hI : c21 T.rf n l = some (ixO z) := or21 (by
    simp only [r21, h0, Option.bind_some]
    cases z <;> rfl)
  simp only [r20, hI, Option.bind_some, ixP_fin hz])

/-! The document's way. -/
theorem operand_eq (n : Nt) (k many at_ : Int) : c82 T.rf n k many at_ = some (if at_ ≥ many then decide (k = -1) else inN n.1.length k) := or82 (by
  simp only [r82]
  unfold inN
  by_cases h : at_ ≥ many
  · rw [dt h, cond_true, if_pos h]; congr 1
  · rw [df h, cond_false, if_neg h]
    by_cases a : 0 ≤ k
    · rw [dt a, cond_true]; congr 1; by_cases h2 : k < n.1.length
      · rw [dt h2, dt ⟨a, h2⟩]
      · rw [df h2, df (fun x => h2 x.2)]
    · rw [df a, cond_false, df (fun x => a x.1)])
theorem plain14_eq (n : Nt) (x : Od) : c81 T.rf n x = some (plainN n x) := or81 (by
  simp only [r81, refFits_eq, Option.bind_some]
  unfold plainN
  by_cases a3 : x.1 = 3
  · rw [bt a3, cond_true, if_pos a3]
    by_cases b : 0 ≤ x.2.2.2.2
    · rw [dt b, cond_true]; congr 1; by_cases c : x.2.2.2.2 < n.2.2.length
      · rw [dt c, dt ⟨b, c⟩]
      · rw [df c, df (fun a => c a.2)]
    · rw [df b, cond_false, df (fun a => b a.1)]
  rw [bf a3, cond_false, if_neg a3]
  by_cases a1 : x.1 = 1
  · rw [bt a1, cond_true, if_pos a1]
  rw [bf a1, cond_false, if_neg a1]
  by_cases a2 : x.1 = 2
  · rw [bt a2, cond_true, if_pos a2]
    by_cases b : x.2.2.2.2 = 0
    · rw [bt b, cond_true, dt (Or.inl b)]
    · rw [bf b, cond_false]; congr 1; by_cases c : x.2.2.2.2 = 1
      · rw [bt c, dt (Or.inr c)]
      · rw [bf c, df (fun a => a.elim b c)]
  rw [bf a2, cond_false, if_neg a2]
  congr 1)
/-- The three places of operands. -/
def opB (n : Nt) (x : Od) (at_ : Int) (k : Int) : Bool := if at_ ≥ kidsN x.1 then decide (k = -1) else inN n.1.length k
theorem mayO_ref (n : Nt) (x : Od) : mayO n x = (decide (0 ≤ kidsN x.1) && (plainN n x && (opB n x 0 x.2.1 && (opB n x 1 x.2.2.1 && opB n x 2 x.2.2.2.1)))) := by
  have hk := kidsN_le x.1
  unfold mayO opB usedN restN manyN flds
  by_cases h0 : 0 ≤ kidsN x.1
  case neg => rw [df h0]; rfl
  rw [dt h0, Bool.true_and, Bool.true_and]
  rcases (show kidsN x.1 = 0 ∨ kidsN x.1 = 1 ∨ kidsN x.1 = 2 ∨ kidsN x.1 = 3 by omega) with e | e | e | e <;> rw [e] <;> simp [Bool.and_comm, Bool.and_assoc, Bool.and_left_comm]
theorem refMay0_loop (n : Nt) (hl : n.1.length ≤ 1000000) : ∀ (suf pre : List Od), n.1 = pre ++ suf →
    k233 T.rb n (pre.length : Nat) = some (if suf.all (mayO n) = true then .inr n else .inl (n, false))
  | [], pre, h => ob233 (by
    rw [List.append_nil] at h
    simp only [b233, h, lt_self, cond_false]; rfl)
  | x :: suf, pre, h => ob233 (by
    have hll : n.1.length = pre.length + (suf.length + 1) := by rw [h]; simp
    have ih := refMay0_loop n hl suf (pre ++ [x]) (by simp [h])
    have hlt : decide (((pre.length : Nat) : Int) < ((n.1.length : Nat) : Int)) = true := dt (by omega)
    have hin : inb ((pre.length : Nat) : Int) n.1.length = true := inb_t (by omega) (by omega)
    have hnt : nth n.1 ((pre.length : Nat) : Int).toNat = some x := by rw [h]; exact nth_mid pre x suf
    simp only [b233, hlt, hin, hnt, cond_true, Option.bind_some, refKidsN_eq, plain14_eq, operand_eq, next_mid pre x (by omega), ih]
    rw [List.all_cons, mayO_ref]
    by_cases h0 : 0 ≤ kidsN x.1
    · rw [df (show ¬ kidsN x.1 < 0 by omega), cond_false, dt h0, Bool.true_and]
      show (bif !plainN n x then _ else bif !opB n x 0 x.2.1 then _ else bif !opB n x 1 x.2.2.1 then _ else bif !opB n x 2 x.2.2.2.1 then _ else _) = _
      cases plainN n x
      · rfl
      cases opB n x 0 x.2.1
      · rfl
      cases opB n x 1 x.2.2.1
      · rfl
      cases opB n x 2 x.2.2.2.1
      · rfl
      rfl
    · rw [dt (show kidsN x.1 < 0 by omega), cond_true, df h0]; rfl)
theorem refMay2_loop (n : Nt) (hl : n.2.1.length ≤ 1000000) : ∀ (suf pre : List Int), n.2.1 = pre ++ suf →
    k234 T.rb n (pre.length : Nat) = some (if suf.all (inN n.1.length) = true then .inr n else .inl (n, false))
  | [], pre, h => ob234 (by
    rw [List.append_nil] at h
    simp only [b234, h, lt_self, cond_false]; rfl)
  | x :: suf, pre, h => ob234 (by
    have hll : n.2.1.length = pre.length + (suf.length + 1) := by rw [h]; simp
    have ih := refMay2_loop n hl suf (pre ++ [x]) (by simp [h])
    have hlt : decide (((pre.length : Nat) : Int) < ((n.2.1.length : Nat) : Int)) = true := dt (by omega)
    have hin : inb ((pre.length : Nat) : Int) n.2.1.length = true := inb_t (by omega) (by omega)
    have hnt : nth n.2.1 ((pre.length : Nat) : Int).toNat = some x := by rw [h]; exact nth_mid pre x suf
    simp only [b234, hlt, hin, hnt, cond_true, Option.bind_some, next_mid pre x (by omega), ih]
    rw [List.all_cons]
    by_cases a : x < 0
    · rw [dt a, cond_true, show inN n.1.length x = false from df (by omega)]; rfl
    · rw [df a, cond_false]
      by_cases b : x < n.1.length
      · rw [df (by omega), cond_false, show inN n.1.length x = true from dt (by omega), Bool.true_and]
      · rw [dt (by omega), cond_true, show inN n.1.length x = false from df (by omega)]; rfl)
theorem refMayN_eq {n : Nt} (h1 : n.1.length ≤ 100000) (h2 : n.2.1.length ≤ 1000000) : c79 T.rf n = some (mayN n) := or79 (by
  have a := refMay0_loop n (by omega) n.1 [] rfl
  have b := refMay2_loop n h2 n.2.1 [] rfl
  rw [List.length_nil, show ((0 : Nat) : Int) = (0 : Int) from rfl] at a b
  simp only [r79, df (show ¬ ((n.1.length : Nat) : Int) > 100000 by omega), cond_false, a, Option.bind_some]
  unfold mayN
  cases n.1.all (mayO n)
  · rfl
  rw [if_pos rfl, Bool.true_and]
  show (k234 T.rb n 0).bind _ = _
  rw [b]
  cases n.2.1.all (inN n.1.length) <;> rfl)

end Go.Proofs.Ytanomapnincmoaa.R
