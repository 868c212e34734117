/-
  OUR OWN: bytes that are read: there is an answer, and what is read is what was written; the law ImageTurned.
-/
import Derived.Test.YteifekbmmhpadaaImgC
namespace Go.Proofs.Yteifekbmmhpadaa.R
open Go Go.Bm Go.Proofs
set_option linter.unusedVariables false
set_option linter.unusedSimpArgs false
set_option maxRecDepth 4000

/-! A number that is read. -/
abbrev Rd : Type := List UInt8 × Int
theorem num_err (s : List UInt8) {e : Int} (he : e ≠ 0) (n i : Int) : k13 T.rb (s, e) n i = some (.inr (s, e)) := ob13 (by
  simp only [b13, bf he, cond_false])
theorem shl_ok {i : Nat} (hi : i ≤ 5) {a : Int} (h0 : 0 ≤ a) (h1 : a < 128) : (decide (IntKind.i64.wrap (7 * ((i : Nat) : Int)) < 0) = false) ∧ ∃ v, shlI .i64 a (IntKind.i64.wrap (7 * ((i : Nat) : Int))) = v ∧ 0 ≤ v ∧ v ≤ 4398046511104 := by
  rw [wr (by omega)]
  refine ⟨df (by omega), _, rfl, ?_⟩
  unfold shlI
  have hp : ∃ q : Int, (2 : Int) ^ (min (7 * ((i : Nat) : Int)).toNat IntKind.i64.bits) = q ∧ 1 ≤ q ∧ q ≤ 34359738368 := by
    rcases (show i = 0 ∨ i = 1 ∨ i = 2 ∨ i = 3 ∨ i = 4 ∨ i = 5 by omega) with e | e | e | e | e | e <;> subst e <;> exact ⟨_, rfl, by decide, by decide⟩
  obtain ⟨q, hq, q1, q2⟩ := hp
  rw [hq]
  have hm : 0 ≤ a * q := Int.mul_nonneg h0 (by omega)
  have hm2 : a * q ≤ 128 * 34359738368 := Int.mul_le_mul (by omega) q2 (by omega) (by omega)
  rw [wr (by omega)]
  omega
theorem sub_tail (b : UInt8) (t : List UInt8) : sub (b :: t) (some (1, (b :: t).length - 1)) = t := by
  show ((b :: t).drop 1).take ((b :: t).length - 1) = t
  simp
theorem num_loop : ∀ (m i : Nat) (s : List UInt8) (n : Int), i + m = 5 → 0 ≤ n → n ≤ 4294967295 → ∃ z, k13 T.rb (s, 0) n ((i : Nat) : Int) = some z ∧ (match z with
      | .inl u => u.1.1.length < s.length ∧ u.1.2 = 0 ∧ 0 ≤ u.2 ∧ u.2 ≤ 4294967295
      | .inr w => w.1.length ≤ s.length ∧ w.2 ≠ 0) := by
  intro m
  induction m with
  | zero =>
    intro i s n hi h0 h1
    cases s with
    | nil =>
      refine ⟨.inr ([], 16), ob13 ?_, Nat.le_refl _, by decide⟩
      simp only [b13, bt rfl, cond_true, beq_self_eq_true]
      exact num_err [] (by decide) _ _
    | cons b t =>
      have hb : b.toNat < 256 := b.toNat_lt
      have w1 : IntKind.i64.wrap ((b.toNat : Nat) : Int) = ((b.toNat : Nat) : Int) := wr (by omega)
      have w2 : Int.tmod ((b.toNat : Nat) : Int) 128 = ((b.toNat % 128 : Nat) : Int) := by rw [Int.tmod_eq_emod_of_nonneg (by omega)]; omega
      obtain ⟨s1, v, hv, v0, v1⟩ := shl_ok (i := i) (by omega) (a := ((b.toNat % 128 : Nat) : Int)) (by omega) (by omega)
      have w3 : IntKind.i64.wrap (n + v) = n + v := wr (by omega)
      have hne : ((b :: t : List UInt8) == []) = false := rfl
      have head : ∀ {z}, (bif decide (n + v > 4294967295) then k13 T.rb (t, 15) (n + v) (IntKind.i64.wrap (((i : Nat) : Int) + 1)) else
          bif decide (((b.toNat : Nat) : Int) < 128) then some (.inl ((t, 0), n + v)) else
          bif ((i : Nat) : Int) == 5 then k13 T.rb (t, 15) (n + v) (IntKind.i64.wrap (((i : Nat) : Int) + 1)) else
          k13 T.rb (t, 0) (n + v) (IntKind.i64.wrap (((i : Nat) : Int) + 1))) = some z → k13 T.rb (b :: t, 0) n ((i : Nat) : Int) = some z := fun {z} hz => ob13 (by
        simp only [b13, bt rfl, cond_true, hne, cond_false, inb_t (x := 0) (n := (b :: t).length) (by decide) (by simp), show nth (b :: t) 0 = some b from rfl, Option.bind_some, inb'_t (x := 1) (n := (b :: t).length) (by decide) (by rw [List.length_cons]; omega), w1, w2, s1, hv, w3, sub_tail]
        exact hz)
      by_cases hbig : n + v > 4294967295
      · exact ⟨.inr (t, 15), head (by rw [dt hbig, cond_true, num_err t (by decide)]), by simp, show (15 : Int) ≠ 0 by decide⟩
      rw [df hbig, cond_false] at head
      by_cases hsm : ((b.toNat : Nat) : Int) < 128
      · exact ⟨.inl ((t, 0), n + v), head (by rw [dt hsm, cond_true]), by simp, rfl, by show 0 ≤ n + v; omega, by show n + v ≤ 4294967295; omega⟩
      rw [df hsm, cond_false, bt (show ((i : Nat) : Int) = 5 by omega), cond_true] at head
      exact ⟨.inr (t, 15), head (num_err t (by decide) _ _), by simp, show (15 : Int) ≠ 0 by decide⟩
  | succ m ih =>
    intro i s n hi h0 h1
    cases s with
    | nil =>
      refine ⟨.inr ([], 16), ob13 ?_, Nat.le_refl _, by decide⟩
      simp only [b13, bt rfl, cond_true, beq_self_eq_true]
      exact num_err [] (by decide) _ _
    | cons b t =>
      have hb : b.toNat < 256 := b.toNat_lt
      have w1 : IntKind.i64.wrap ((b.toNat : Nat) : Int) = ((b.toNat : Nat) : Int) := wr (by omega)
      have w2 : Int.tmod ((b.toNat : Nat) : Int) 128 = ((b.toNat % 128 : Nat) : Int) := by rw [Int.tmod_eq_emod_of_nonneg (by omega)]; omega
      obtain ⟨s1, v, hv, v0, v1⟩ := shl_ok (i := i) (by omega) (a := ((b.toNat % 128 : Nat) : Int)) (by omega) (by omega)
      have w3 : IntKind.i64.wrap (n + v) = n + v := wr (by omega)
      have hne : ((b :: t : List UInt8) == []) = false := rfl
      have head : ∀ {z}, (bif decide (n + v > 4294967295) then k13 T.rb (t, 15) (n + v) (IntKind.i64.wrap (((i : Nat) : Int) + 1)) else
          bif decide (((b.toNat : Nat) : Int) < 128) then some (.inl ((t, 0), n + v)) else
          bif ((i : Nat) : Int) == 5 then k13 T.rb (t, 15) (n + v) (IntKind.i64.wrap (((i : Nat) : Int) + 1)) else
          k13 T.rb (t, 0) (n + v) (IntKind.i64.wrap (((i : Nat) : Int) + 1))) = some z → k13 T.rb (b :: t, 0) n ((i : Nat) : Int) = some z := fun {z} hz => ob13 (by
        simp only [b13, bt rfl, cond_true, hne, cond_false, inb_t (x := 0) (n := (b :: t).length) (by decide) (by simp), show nth (b :: t) 0 = some b from rfl, Option.bind_some, inb'_t (x := 1) (n := (b :: t).length) (by decide) (by rw [List.length_cons]; omega), w1, w2, s1, hv, w3, sub_tail]
        exact hz)
      by_cases hbig : n + v > 4294967295
      · exact ⟨.inr (t, 15), head (by rw [dt hbig, cond_true, num_err t (by decide)]), by simp, show (15 : Int) ≠ 0 by decide⟩
      rw [df hbig, cond_false] at head
      by_cases hsm : ((b.toNat : Nat) : Int) < 128
      · exact ⟨.inl ((t, 0), n + v), head (by rw [dt hsm, cond_true]), by simp, rfl, by show 0 ≤ n + v; omega, by show n + v ≤ 4294967295; omega⟩
      rw [df hsm, cond_false, bf (show ((i : Nat) : Int) ≠ 5 by omega), cond_false, wr_succ (show i < 4611686018427387904 by omega)] at head
      obtain ⟨z, hz, hz2⟩ := ih (i + 1) t (n + v) (by omega) (by omega) (by omega)
      refine ⟨z, head hz, ?_⟩
      cases z with
      | inl u => exact ⟨by have := hz2.1; simp only [List.length_cons]; omega, hz2.2⟩
      | inr w => exact ⟨by have := hz2.1; simp only [List.length_cons]; omega, hz2.2⟩
/-- How a reader may go on. -/
def Go1 (p q : Rd) : Prop := q.1.length ≤ p.1.length ∧ (p.2 ≠ 0 → q.2 ≠ 0)
def Go2 (p q : Rd) : Prop := Go1 p q ∧ (q.2 = 0 → q.1.length < p.1.length)
theorem Go1.trans {p q r : Rd} (h : Go1 p q) (k : Go1 q r) : Go1 p r := ⟨Nat.le_trans k.1 h.1, fun e => k.2 (h.2 e)⟩
theorem Go2.then {p q r : Rd} (h : Go2 p q) (k : Go1 q r) : Go2 p r := ⟨h.1.trans k, fun e => by
  have hq : q.2 = 0 := by
    by_cases e2 : q.2 = 0
    · exact e2
    · exact absurd e (k.2 e2)
  have := h.2 hq
  have := k.1
  omega⟩
theorem Go1.refl (p : Rd) : Go1 p p := ⟨Nat.le_refl _, fun h => h⟩
theorem number_ok (p : Rd) : ∃ q n, c19 T.rf p = some (q, n) ∧ Go2 p q ∧ 0 ≤ n ∧ n ≤ 4294967295 := by
  obtain ⟨s, e⟩ := p
  by_cases he : e = 0
  · subst he
    obtain ⟨z, hz, hz2⟩ := num_loop 5 0 s 0 rfl (Int.le_refl _) (by decide)
    rw [show ((0 : Nat) : Int) = (0 : Int) from rfl] at hz
    cases z with
    | inl u =>
      obtain ⟨q, n⟩ := u
      refine ⟨q, n, or19 (by simp only [r19, hz, Option.bind_some]), ⟨⟨Nat.le_of_lt hz2.1, fun h => absurd rfl h⟩, fun _ => hz2.1⟩, hz2.2.2⟩
    | inr w =>
      refine ⟨w, 0, or19 (by simp only [r19, hz, Option.bind_some]), ⟨⟨hz2.1, fun h => absurd rfl h⟩, fun h => absurd h hz2.2⟩, Int.le_refl _, by decide⟩
  · refine ⟨(s, e), 0, or19 (by simp only [r19, num_err s he, Option.bind_some]), ⟨⟨Nat.le_refl _, fun h => h⟩, fun h => absurd h he⟩, Int.le_refl _, by decide⟩
theorem num_bind {α : Type} (p : Rd) {g : Rd × Int → Option α} {Q : α → Prop} (h : ∀ q n, Go2 p q → 0 ≤ n → n ≤ 4294967295 → ∃ y, g (q, n) = some y ∧ Q y) : ∃ y, (c19 T.rf p).bind g = some y ∧ Q y := by
  obtain ⟨q, n, e, h1, h2, h3⟩ := number_ok p
  rw [e, Option.bind_some]
  exact h q n h1 h2 h3
theorem num_then {α : Type} {p0 p : Rd} (hp : Go2 p0 p) {g : Rd × Int → Option α} {Q : α → Prop} (h : ∀ q n, Go2 p0 q → ∃ y, g (q, n) = some y ∧ Q y) : ∃ y, (c19 T.rf p).bind g = some y ∧ Q y :=
  num_bind p fun q n h1 _ _ => h q n (hp.then h1.1)
theorem bif_ex {α : Type} {c : Bool} {x y : Option α} {Q : α → Prop} (h1 : c = true → ∃ v, x = some v ∧ Q v) (h2 : c = false → ∃ v, y = some v ∧ Q v) : ∃ v, (bif c then x else y) = some v ∧ Q v := by
  cases c
  · exact h2 rfl
  · exact h1 rfl

/-! Lists, instructions. -/
theorem rlist17_loop : ∀ (k : Nat) (p : Rd) (l : List Int) (n : Int), p.1.length ≤ k → 0 ≤ n → n ≤ 4294967295 → l.length + p.1.length ≤ 100000000 → ∃ q l', k15 T.rb p l n = some (q, l') ∧ Go1 p q ∧ l'.length + q.1.length ≤ l.length + p.1.length + 1 := by
  intro k
  induction k with
  | zero =>
    intro p l n hk h0 h1 hb
    by_cases hn : n > 0
    · by_cases he : p.2 = 0
      · obtain ⟨q, m, e, g, m0, m1⟩ := number_ok p
        have hq : q.2 ≠ 0 := fun h => by have := g.2 h; omega
        have g1 := g.1.1
        refine ⟨q, l ++ [m], ob15 ?_, g.1, by rw [List.length_append, List.length_singleton]; omega⟩
        have hnext : ∀ j, k15 T.rb q (l ++ [m]) j = some (q, l ++ [m]) := fun j => ob15 (by
          simp only [b15, bf hq, cond_false]
          cases decide (j > 0) <;> rfl)
        simp only [b15, dt hn, bt he, cond_true, e, Option.bind_some, ble_most (a := l.length + 1) (by omega), Bool.and_true, hnext]
      · refine ⟨p, l, ob15 (by simp only [b15, dt hn, bf he, cond_true, cond_false]), Go1.refl p, by omega⟩
    · refine ⟨p, l, ob15 (by simp only [b15, df hn, cond_false]), Go1.refl p, by omega⟩
  | succ k ih =>
    intro p l n hk h0 h1 hb
    by_cases hn : n > 0
    · by_cases he : p.2 = 0
      · obtain ⟨q, m, e, g, m0, m1⟩ := number_ok p
        have g1 := g.1.1
        by_cases hq : q.2 = 0
        · have g2 := g.2 hq
          obtain ⟨q', l', i1, i2, i3⟩ := ih q (l ++ [m]) (n - 1) (by omega) (by omega) (by omega) (by rw [List.length_append, List.length_singleton]; omega)
          rw [List.length_append, List.length_singleton] at i3
          refine ⟨q', l', ob15 ?_, g.1.trans i2, by omega⟩
          simp only [b15, dt hn, bt he, cond_true, e, Option.bind_some, ble_most (a := l.length + 1) (by omega), Bool.and_true, wr (x := n - 1) (by omega), i1]
        · refine ⟨q, l ++ [m], ob15 ?_, g.1, by rw [List.length_append, List.length_singleton]; omega⟩
          have hnext : ∀ j, k15 T.rb q (l ++ [m]) j = some (q, l ++ [m]) := fun j => ob15 (by
            simp only [b15, bf hq, cond_false]
            cases decide (j > 0) <;> rfl)
          simp only [b15, dt hn, bt he, cond_true, e, Option.bind_some, ble_most (a := l.length + 1) (by omega), Bool.and_true, hnext]
      · refine ⟨p, l, ob15 (by simp only [b15, dt hn, bf he, cond_true, cond_false]), Go1.refl p, by omega⟩
    · refine ⟨p, l, ob15 (by simp only [b15, df hn, cond_false]), Go1.refl p, by omega⟩
theorem rlist17_ok (p : Rd) (hp : p.1.length ≤ 10000000) : ∃ q l, c20 T.rf p = some (q, l) ∧ Go1 p q ∧ l.length ≤ p.1.length + 1 := by
  obtain ⟨q, n, e, h1, h2, h3⟩ := number_ok p
  have := h1.1.1
  obtain ⟨q', l, i1, i2, i3⟩ := rlist17_loop q.1.length q [] n (Nat.le_refl _) h2 h3 (by simp; omega)
  rw [List.length_nil] at i3
  exact ⟨q', l, or20 (by simp only [r20, e, Option.bind_some, i1]), h1.1.trans i2, by omega⟩
theorem rins17_ok (p : Rd) : ∃ y, c21 T.rf p = some y ∧ Go2 p y.1 := by
  have key : ∃ y, r21 T.rf T.rb p = some y ∧ Go2 p y.1 := by
    simp only [r21, shape_eq]
    refine num_bind p fun q0 n0 h0 a0 b0 => ?_
    simp only [Option.bind_some]
    have h15 : Go2 p (q0.1, 15) := ⟨⟨h0.1.1, fun _ => show (15 : Int) ≠ 0 by decide⟩, fun h => absurd (show (15 : Int) = 0 from h) (by decide)⟩
    unfold shapeV
    simp only
    repeat' split
    all_goals try simp only [cond_true, cond_false]
    all_goals
      repeat' first
        | refine num_then (p0 := p) (by assumption) fun q1 n1 g1 => ?_
        | refine bif_ex (fun _ => ?_) (fun _ => ?_)
    all_goals exact ⟨_, rfl, by assumption⟩
  obtain ⟨y, e, h⟩ := key
  exact ⟨y, or21 e, h⟩


/-! Code that is read. -/
theorem dec_loop (R Sl : Int) (O In : List Int) : ∀ (k : Nat) (p : Rd) (l : List Ic) (n : Int), p.1.length ≤ k → 0 ≤ n → n ≤ 4294967295 → l.length + p.1.length ≤ 100000000 → ∃ q l', k21 T.rb p R Sl O l In n = some (q, R, Sl, O, In, l') ∧ Go1 p q ∧ l'.length + q.1.length ≤ l.length + p.1.length + 1 := by
  intro k
  induction k with
  | zero =>
    intro p l n hk h0 h1 hb
    by_cases hn : n > 0
    · by_cases he : p.2 = 0
      · obtain ⟨⟨q, x⟩, e, g⟩ := rins17_ok p
        have hq : q.2 ≠ 0 := fun h => by have : q.1.length < p.1.length := g.2 h; omega
        have g1 : q.1.length ≤ p.1.length := g.1.1
        refine ⟨q, l ++ [x], ob21 ?_, g.1, by rw [List.length_append, List.length_singleton]; omega⟩
        have hnext : ∀ j, k21 T.rb q R Sl O (l ++ [x]) In j = some (q, R, Sl, O, In, l ++ [x]) := fun j => ob21 (by
          simp only [b21, bf hq, cond_false]
          cases decide (j > 0) <;> rfl)
        simp only [b21, dt hn, bt he, cond_true, e, Option.bind_some, ble_most (a := l.length + 1) (by omega), Bool.and_true, hnext]
      · refine ⟨p, l, ob21 (by simp only [b21, dt hn, bf he, cond_true, cond_false]), Go1.refl p, by omega⟩
    · refine ⟨p, l, ob21 (by simp only [b21, df hn, cond_false]), Go1.refl p, by omega⟩
  | succ k ih =>
    intro p l n hk h0 h1 hb
    by_cases hn : n > 0
    · by_cases he : p.2 = 0
      · obtain ⟨⟨q, x⟩, e, g⟩ := rins17_ok p
        have g1 : q.1.length ≤ p.1.length := g.1.1
        by_cases hq : q.2 = 0
        · have g2 : q.1.length < p.1.length := g.2 hq
          obtain ⟨q', l', i1, i2, i3⟩ := ih q (l ++ [x]) (n - 1) (by omega) (by omega) (by omega) (by rw [List.length_append, List.length_singleton]; omega)
          rw [List.length_append, List.length_singleton] at i3
          refine ⟨q', l', ob21 ?_, g.1.trans i2, by omega⟩
          simp only [b21, dt hn, bt he, cond_true, e, Option.bind_some, ble_most (a := l.length + 1) (by omega), Bool.and_true, wr (x := n - 1) (by omega), i1]
        · refine ⟨q, l ++ [x], ob21 ?_, g.1, by rw [List.length_append, List.length_singleton]; omega⟩
          have hnext : ∀ j, k21 T.rb q R Sl O (l ++ [x]) In j = some (q, R, Sl, O, In, l ++ [x]) := fun j => ob21 (by
            simp only [b21, bf hq, cond_false]
            cases decide (j > 0) <;> rfl)
          simp only [b21, dt hn, bt he, cond_true, e, Option.bind_some, ble_most (a := l.length + 1) (by omega), Bool.and_true, hnext]
      · refine ⟨p, l, ob21 (by simp only [b21, dt hn, bf he, cond_true, cond_false]), Go1.refl p, by omega⟩
    · refine ⟨p, l, ob21 (by simp only [b21, df hn, cond_false]), Go1.refl p, by omega⟩
theorem hasP_ok (p s : List UInt8) : ∃ b, c16 T.rf p s = some b ∧ (b = true → s.length ≤ p.length) := by
  by_cases h : s.length ≤ p.length
  · exact ⟨_, or16 (by simp only [r16, dt (show ((p.length : Nat) : Int) ≥ ((s.length : Nat) : Int) by omega), cond_true, inb'_nat, dt h]; rfl), fun _ => h⟩
  · exact ⟨false, or16 (by simp only [r16, df (show ¬ ((p.length : Nat) : Int) ≥ ((s.length : Nat) : Int) by omega), cond_false]), fun e => absurd e (by decide)⟩
theorem cutP_ok (p s : List UInt8) : ∃ y, c17 T.rf p s = some y ∧ y.1.length ≤ p.length := by
  obtain ⟨b, h, hb⟩ := hasP_ok p s
  have key : ∃ y, c18 T.rf p s = some y ∧ y.1.length ≤ p.length := by
    cases b with
    | false => exact ⟨(p, false), or18 (by simp only [r18, h, Option.bind_some, Bool.not_false, cond_true]), Nat.le_refl _⟩
    | true =>
      refine ⟨(sub p (some (s.length, p.length - s.length)), true), or18 (by simp only [r18, h, Option.bind_some, Bool.not_true, cond_false, inb'_nat, dt (hb rfl), cond_true]), ?_⟩
      show ((p.drop s.length).take (p.length - s.length)).length ≤ _
      rw [List.length_take, List.length_drop]; omega
  obtain ⟨y, e, hy⟩ := key
  exact ⟨y, or17 (by simp only [r17, e, Option.bind_some]), hy⟩
/-- What is said of what is read. -/
def ReadP (s : List UInt8) (y : Cd × Int) : Prop := y.2 = 0 → encS y.1 = (s, 0) ∧ y.1.1.length ≤ 200000 ∧ y.1.2.2.2.1.length ≤ 1000000 ∧ y.1.2.2.2.2.length ≤ 1000000
theorem readP_err (s : List UInt8) (c : Cd) {e : Int} (he : e ≠ 0) : ReadP s (c, e) := fun h => absurd h he
theorem cut_bind (s p : List UInt8) {α : Type} {g : List UInt8 × Bool → Option α} {Q : α → Prop} (h : ∀ y : List UInt8 × Bool, y.1.length ≤ s.length → ∃ v, g y = some v ∧ Q v) : ∃ v, (c17 T.rf s p).bind g = some v ∧ Q v := by
  obtain ⟨y, e, hy⟩ := cutP_ok s p
  rw [e, Option.bind_some]
  exact h y hy
theorem list_bind (p : Rd) (hp : p.1.length ≤ 10000000) {α : Type} {g : Rd × List Int → Option α} {Q : α → Prop} (h : ∀ q l, Go1 p q → l.length ≤ p.1.length + 1 → ∃ v, g (q, l) = some v ∧ Q v) : ∃ v, (c20 T.rf p).bind g = some v ∧ Q v := by
  obtain ⟨q, l, e, h1, h2⟩ := rlist17_ok p hp
  rw [e, Option.bind_some]
  exact h q l h1 h2
theorem Decode_ok (s : List UInt8) (hs : s.length ≤ 900000) : ∃ y, c14 T.rf s = some y ∧ ReadP s y := by
  have key : ∃ y, r14 T.rf T.rb s = some y ∧ ReadP s y := by
    have rest : ∃ y, ((c17 T.rf s ([66, 65, 73, 76] : List UInt8)).bind fun (y10 : List UInt8 × Bool) =>
        bif !y10.2 then some (([], 0, 0, [], []), 15)
        else
          (c19 T.rf (y10.1, 0)).bind fun (y11 : (List UInt8 × Int) × Int) =>
          (c19 T.rf y11.1).bind fun (y12 : (List UInt8 × Int) × Int) =>
          (c20 T.rf y12.1).bind fun (y13 : (List UInt8 × Int) × List Int) =>
          (c19 T.rf y13.1).bind fun (y14 : (List UInt8 × Int) × Int) =>
          (k21 T.rb y14.1 y11.2 y12.2 [] [] y13.2 y14.2).bind fun (z15 : (List UInt8 × Int) × Int × Int × List Int × List Int × List Ic) =>
          (c20 T.rf z15.1).bind fun (y16 : (List UInt8 × Int) × List Int) =>
          bif y16.1.2 != 0 then some (([], 0, 0, [], []), y16.1.2)
          else
            (c3 T.rf (z15.2.2.2.2.2, z15.2.1, z15.2.2.1, y16.2, z15.2.2.2.2.1)).bind fun (y17 : List UInt8 × Int) =>
            bif y17.2 != 0 then some (([], 0, 0, [], []), 15)
            else
            bif !(y17.1 == s) then some (([], 0, 0, [], []), 15)
            else some ((z15.2.2.2.2.2, z15.2.1, z15.2.2.1, y16.2, z15.2.2.2.2.1), (0 : Int))) = some y ∧ ReadP s y := by
      refine cut_bind s _ fun y10 h10 => ?_
      refine bif_ex (fun _ => ⟨_, rfl, readP_err s _ (by decide)⟩) (fun _ => ?_)
      refine num_bind _ fun q1 R g1 R0 R1 => ?_
      have l1 : q1.1.length ≤ y10.1.length := g1.1.1
      refine num_bind _ fun q2 Sl g2 S0 S1 => ?_
      have l2 : q2.1.length ≤ q1.1.length := g2.1.1
      refine list_bind _ (by show q2.1.length ≤ _; omega) fun q3 In g3 i3 => ?_
      have l3 : q3.1.length ≤ q2.1.length := g3.1
      have i3' : In.length ≤ q2.1.length + 1 := i3
      refine num_bind _ fun q4 n g4 n0 n1 => ?_
      have l4 : q4.1.length ≤ q3.1.length := g4.1.1
      obtain ⟨q5, l, e5, g5, i5⟩ := dec_loop R Sl [] In q4.1.length q4 [] n (Nat.le_refl _) n0 n1 (by simp; omega)
      have l5 : q5.1.length ≤ q4.1.length := g5.1
      rw [e5, Option.bind_some]
      refine list_bind _ (by show q5.1.length ≤ _; omega) fun q6 Out g6 i6 => ?_
      have i6' : Out.length ≤ q5.1.length + 1 := i6
      refine bif_ex (fun h => ⟨_, rfl, readP_err s _ (fun e => by
        have h' : (q6.2 != 0) = true := h
        rw [nbt e] at h'; exact absurd h' (by decide))⟩) (fun _ => ?_)
      have hE := Encode_eq (c := (l, R, Sl, Out, In)) (by show Out.length ≤ _; omega) (by show In.length ≤ _; omega)
      show ∃ v, (c3 T.rf (l, R, Sl, Out, In)).bind _ = some v ∧ ReadP s v
      rw [hE, Option.bind_some]
      refine bif_ex (fun _ => ⟨_, rfl, readP_err s _ (by decide)⟩) (fun h0 => ?_)
      have h0' : (encS (l, R, Sl, Out, In)).2 = 0 := by
        by_cases e : (encS (l, R, Sl, Out, In)).2 = 0
        · exact e
        · rw [nbf e] at h0; exact absurd h0 (by decide)
      refine bif_ex (fun _ => ⟨_, rfl, readP_err s _ (by decide)⟩) (fun h1 => ⟨_, rfl, fun _ => ⟨?_, ?_, ?_, ?_⟩⟩)
      · rw [Bool.not_eq_false', beq_iff_eq] at h1
        exact Prod.ext h1 h0'
      · exact (code_Q (encS_zero.1 h0').1).len
      · show Out.length ≤ _; omega
      · show In.length ≤ _; omega
    obtain ⟨b, hb, _⟩ := hasP_ok [66, 65, 73, 76] s
    have hH : c15 T.rf ([66, 65, 73, 76] : List UInt8) s = some b := or15 (by simp only [r15, hb, Option.bind_some])
    simp only [r14, hH, Option.bind_some]
    refine bif_ex (fun _ => ?_) (fun _ => rest)
    exact bif_ex (fun _ => ⟨_, rfl, readP_err s _ (by decide)⟩) (fun _ => rest)
  obtain ⟨y, e, h⟩ := key
  exact ⟨y, or14 e, h⟩

/-! The law. -/
theorem told17_loop {c : Cd} (hl : c.1.length ≤ 1000000) (a b : Int) (o i_ : List Int) : ∀ (suf pre : List Ic), c.1 = pre ++ suf → k23 T.rb c a b o i_ pre (pre.length : Nat) = some (c, a, b, o, i_, c.1)
  | [], pre, he => ob23 (by
    rw [List.append_nil] at he
    simp only [b23, he, lt_self, cond_false])
  | k :: suf, pre, he => ob23 (by
    have hll : c.1.length = pre.length + (suf.length + 1) := by rw [he]; simp
    have ih := told17_loop hl a b o i_ suf (pre ++ [k]) (by simp [he])
    have hlt : decide (((pre.length : Nat) : Int) < ((c.1.length : Nat) : Int)) = true := dt (by omega)
    have hin : inb ((pre.length : Nat) : Int) c.1.length = true := inb_t (by omega) (by omega)
    have hnt : nth c.1 ((pre.length : Nat) : Int).toNat = some k := by rw [he]; exact nth_mid pre k suf
    simp only [b23, hlt, hin, hnt, cond_true, Option.bind_some, ble_most (a := pre.length + 1) (by omega), Bool.and_true, next_mid pre k (by omega), ih])
theorem told17_eq {c : Cd} (hl : c.1.length ≤ 1000000) : c22 T.rf c = some c := or22 (by
  have h := told17_loop hl c.2.1 c.2.2.1 c.2.2.2.1 c.2.2.2.2 c.1 [] rfl
  rw [List.length_nil, show ((0 : Nat) : Int) = (0 : Int) from rfl] at h
  simp only [r22, h, Option.bind_some])
theorem xor_ne : ∀ x y : Fin 256, y ≠ 0 → xorI .u8 ((x.val : Nat) : Int) ((y.val : Nat) : Int) ≠ ((x.val : Nat) : Int) := by decide +kernel
theorem xor_byte : ∀ x y : Fin 256, 0 ≤ xorI .u8 ((x.val : Nat) : Int) ((y.val : Nat) : Int) ∧ xorI .u8 ((x.val : Nat) : Int) ((y.val : Nat) : Int) < 256 := by decide +kernel
theorem encF_len {c : Cd} (hs : smallC c) (h : (encS c).2 = 0) : (encS c).1.length ≤ 20000 := by
  obtain ⟨hc, hin⟩ := encS_zero.1 h
  have hQ := code_Q hc
  have hR := hQ.regs
  have hS := hQ.slots
  unfold smallC at hs
  rw [encS_text h, strOf_len, encF]
  have s1 : small5 [c.2.1, c.2.2.1, ((c.2.2.2.2.length : Nat) : Int)] := fun y hy => by
    simp only [List.mem_cons, List.not_mem_nil, or_false] at hy
    rcases hy with e | e | e <;> subst e <;> omega
  have s2 : small5 c.2.2.2.2 := fun y hy => by
    have := of_decide_eq_true (List.all_eq_true.1 hin y hy); omega
  have s5 : small5 c.2.2.2.1 := fun y hy => by have := hQ.outs y hy; omega
  have e1 := encL_len _ s1
  have e2 := encL_len _ s2
  have e3 := encL_len [((c.1.length : Nat) : Int)] (fun y hy => by rw [List.mem_singleton.1 hy]; omega)
  have e4 := flat_len hR.2 hS.2 (by omega) c.1 hQ.inst
  have e5 := encL_len [((c.2.2.2.1.length : Nat) : Int)] (fun y hy => by rw [List.mem_singleton.1 hy]; omega)
  have e6 := encL_len _ s5
  simp only [List.length_append, List.length_cons, List.length_nil] at *
  omega
theorem ImageTurned_eq (c : Cd) (a : Int) {b : Int} (hb : 0 ≤ b ∧ b ≤ 255) : c39 T.rf c a b = some true := or39 (by
  simp only [r39, smallC_eq, live17_eq, Option.bind_some]
  by_cases hs : smallC c
  case neg => rw [df hs]; rfl
  have hs' := hs
  unfold smallC at hs'
  rw [dt hs, Bool.not_true, cond_false]
  by_cases b0 : b = 0
  · rw [bt b0]; rfl
  rw [bf b0, cond_false, ownC_eq (c := c) (by omega), Option.bind_some, Encode_eq (c := c) (by omega) (by omega), Option.bind_some]
  by_cases hz : (encS c).2 = 0
  case neg => rw [nbf hz]; rfl
  rw [nbt hz, cond_false]
  by_cases a0 : a < 0
  · rw [dt a0]; rfl
  rw [df a0, cond_false]
  by_cases a1 : a ≥ (((encS c).1.length : Nat) : Int)
  · rw [dt a1]; rfl
  rw [df a1, cond_false]
  have hlen := encF_len hs hz
  have hal : a.toNat < (bytesOf (encS c).1).length := by rw [bytesOf_len]; omega
  have hx := bytesOf_byte (encS c).1 _ (List.getElem_mem hal)
  have hnt := nth_t hal
  generalize hxx : (bytesOf (encS c).1)[a.toNat] = x at *
  have hX := xor_ne ⟨x.toNat, by omega⟩ ⟨b.toNat, by omega⟩ (fun e => by
    have := congrArg Fin.val e
    have e2 : b.toNat = 0 := this
    omega)
  have hB := xor_byte ⟨x.toNat, by omega⟩ ⟨b.toNat, by omega⟩
  simp only [show ((x.toNat : Nat) : Int) = x by omega, show ((b.toNat : Nat) : Int) = b by omega] at hX hB
  have hsl : (strOf (setNth (bytesOf (encS c).1) a.toNat (xorI .u8 x b))).length ≤ 900000 := by
    rw [strOf_len, setNth_set, List.length_set, bytesOf_len]; omega
  obtain ⟨y, hy, hP⟩ := Decode_ok _ hsl
  rw [inb_t (by omega) (by omega), cond_true, hnt, Option.bind_some, cond_true, blt_t hal, cond_true, hy, Option.bind_some]
  by_cases y0 : y.2 = 0
  case neg => rw [nbf y0, cond_true]
  rw [nbt y0, cond_false]
  obtain ⟨p1, p2, p3, p4⟩ := hP y0
  rw [told17_eq (by omega), Option.bind_some, refSame_eq (by omega) p3 p4, Option.bind_some]
  have hne : y.1 ≠ c := fun e => by
    rw [e] at p1
    have q1 : strOf (setNth (bytesOf (encS c).1) a.toNat (xorI .u8 x b)) = strOf (bytesOf (encS c).1) := by
      rw [strOf_bytesOf]; exact (congrArg Prod.fst p1).symm
    have q2 := strOf_inj _ _ (fun z hz => by
      rw [setNth_set] at hz
      rcases List.mem_or_eq_of_mem_set hz with g | g
      · exact bytesOf_byte _ z g
      · rw [g]; exact hB) (bytesOf_byte _) q1
    have q3 := congrArg (fun l => l[a.toNat]?) q2
    simp only [setNth_set] at q3
    rw [List.getElem?_set_self hal, List.getElem?_eq_getElem hal, hxx] at q3
    exact hX (Option.some.inj q3)
  rw [df hne]; rfl)
theorem lawImageTurned : LawOk T 39 := fun d hd => ⟨true, ImageTurned_eq d.1 d.2.1 (b := d.2.2) (show LE.le (α := Int) 0 d.2.2 ∧ LE.le (α := Int) d.2.2 255 from hd.2.2.1), rfl, rfl, rfl⟩

end Go.Proofs.Yteifekbmmhpadaa.R
