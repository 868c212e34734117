/-
  OUR OWN: the document's reader of expressions: what each of its steps comes to.
-/
import Derived.Test.YtoippcahbninnaaGreatDoorShwX
namespace Go.Proofs.YtoippcahbninnaaGreatDoor.R
open Go Go.Bm Go.Proofs
set_option linter.unusedVariables false
set_option linter.unusedSimpArgs false
set_option maxRecDepth 4000

abbrev RS : Type := List Tok3 × Int × Int × Int × Int
abbrev RV : Type := RS × List Nd

def isB (L : List Tok3) (i : Nat) (s : Str) : Bool := match nth L i with
  | some x => (x.1 == 4 || x.1 == 3) && (x.2.1 == s)
  | none => false

theorem z0 : ((0 : Int) != 0) = false := rfl

theorem is_eq (L : List Tok3) (i : Nat) (o : Int) (s : Str) : c35 T.rf ((L, ((i : Nat) : Int), o, (0 : Int), (0 : Int)) : RS) s = some (((L, ((i : Nat) : Int), o, (0 : Int), (0 : Int)) : RS), isB L i s) := or35 (by
  by_cases h : i < L.length
  · have hx := nth_t h
    simp only [r35, z0, cond_false, df (show ¬ ((i : Nat) : Int) ≥ ((L.length : Nat) : Int) by omega), inb_t (show (0 : Int) ≤ ((i : Nat) : Int) by omega) (show ((i : Nat) : Int) < ((L.length : Nat) : Int) by omega), cond_true, Int.toNat_natCast, hx, Option.bind_some, isB]
    generalize L[i] = x
    cases x.1 == 4 <;> cases x.1 == 3 <;> rfl
  · have hx : nth L i = none := by rw [nth_getElem?]; exact List.getElem?_eq_none (by omega)
    simp only [r35, z0, cond_false, dt (show ((i : Nat) : Int) ≥ ((L.length : Nat) : Int) by omega), cond_true, isB, hx])
theorem is_bad {r : RS} (h : r.2.2.2.1 ≠ 0) (s : Str) : c35 T.rf r s = some (r, false) := or35 (by
  simp only [r35, nbf h, cond_true])
theorem take_eq (L : List Tok3) {i : Nat} (hi : i ≤ 2000000) (o : Int) (s : Str) : c34 T.rf ((L, ((i : Nat) : Int), o, (0 : Int), (0 : Int)) : RS) s = some (bif isB L i s then (((L, ((i + 1 : Nat) : Int), o, (0 : Int), (0 : Int)) : RS), true) else (((L, ((i : Nat) : Int), o, (0 : Int), (0 : Int)) : RS), false)) := or34 (by
  simp only [r34, is_eq, Option.bind_some, wr_succ (show i < 4611686018427387904 by omega)]
  cases isB L i s <;> rfl)
theorem take_bad {r : RS} (h : r.2.2.2.1 ≠ 0) (s : Str) : c34 T.rf r s = some (r, false) := or34 (by
  simp only [r34, is_bad h, Option.bind_some]; rfl)
theorem at_eq (L : List Tok3) (i : Int) : ∃ a, c25 T.rf L i = some a := by
  by_cases h1 : i < 0
  · exact ⟨_, or25 (by simp only [r25, dt h1, cond_true]; rfl)⟩
  by_cases h2 : i ≥ ((L.length : Nat) : Int)
  · exact ⟨_, or25 (by simp only [r25, df h1, dt h2, cond_true, cond_false]; rfl)⟩
  · have hx := nth_t (l := L) (i := i.toNat) (by omega)
    exact ⟨_, or25 (by simp only [r25, df h1, df h2, cond_true, cond_false, inb_t (show 0 ≤ i by omega) (show i < ((L.length : Nat) : Int) by omega), hx, Option.bind_some]; rfl)⟩
theorem fail_bad {r : RS} (h : r.2.2.2.1 ≠ 0) (e : Int) : c24 T.rf r e = some (r, []) := or24 (by
  simp only [r24, bf h, cond_false])
theorem fail_any (r : RS) {e : Int} (he : e ≠ 0) : ∃ r', c24 T.rf r e = some (r', []) ∧ r'.2.2.2.1 ≠ 0 := by
  by_cases h : r.2.2.2.1 = 0
  · obtain ⟨a, ha⟩ := at_eq r.1 r.2.1
    exact ⟨_, or24 (by simp only [r24, bt h, cond_true, ha, Option.bind_some]; rfl), he⟩
  · exact ⟨_, fail_bad h e, h⟩
theorem need_eq {L : List Tok3} {i : Nat} (hi : i ≤ 2000000) (o : Int) {s : Str} (h : isB L i s = true) : c37 T.rf ((L, ((i : Nat) : Int), o, (0 : Int), (0 : Int)) : RS) s = some ((L, ((i + 1 : Nat) : Int), o, (0 : Int), (0 : Int)) : RS) := or37 (by
  simp only [r37, take_eq L hi, h, cond_true, Option.bind_some, Bool.not_true, cond_false])
theorem need_not {L : List Tok3} {i : Nat} (hi : i ≤ 2000000) (o : Int) {s : Str} (h : isB L i s = false) : ∃ r', c37 T.rf ((L, ((i : Nat) : Int), o, (0 : Int), (0 : Int)) : RS) s = some r' ∧ r'.2.2.2.1 ≠ 0 := by
  obtain ⟨r', h1, h2⟩ := fail_any ((L, ((i : Nat) : Int), o, (0 : Int), (0 : Int)) : RS) (e := 5) (by decide)
  exact ⟨r', or37 (by simp only [r37, take_eq L hi, h, cond_false, Option.bind_some, Bool.not_false, cond_true, h1]), h2⟩
theorem need_bad {r : RS} (h : r.2.2.2.1 ≠ 0) (s : Str) : c37 T.rf r s = some r := or37 (by
  simp only [r37, take_bad h, fail_bad h, Option.bind_some]; rfl)

theorem join_eq (L : List Tok3) (i : Nat) (o op : Int) {a b : List Nd} (ha : a.length ≤ 1000000) (hb : b.length ≤ 1000000) :
    c41 T.rf ((L, ((i : Nat) : Int), o, (0 : Int), (0 : Int)) : RS) op a b = some (((L, ((i : Nat) : Int), o, (0 : Int), (0 : Int)) : RS), join op 0 [] [a, b]) := or41 (by
  simp only [r41, z0, cond_false, refJoin_eq (op := op) (n := 0) (nm := []) (ps := [a, b]) (by simp only [total]; omega) (by simp), Option.bind_some])
theorem join_bad {r : RS} (h : r.2.2.2.1 ≠ 0) (op : Int) (a b : List Nd) : c41 T.rf r op a b = some (r, []) := or41 (by
  simp only [r41, nbf h, cond_true])

/-! ### The levels -/
noncomputable def rd (p : Nat) (r : RS) : Option RV := match p with
  | 1 => c15 T.rf r
  | 2 => c16 T.rf r
  | 3 => c17 T.rf r
  | 4 => c18 T.rf r
  | 5 => c19 T.rf r
  | 6 => c20 T.rf r
  | 7 => c21 T.rf r
  | 8 => c22 T.rf r
  | _ => c23 T.rf r
noncomputable def lp (l : Nat) (r : RS) (v : List Nd) : Option RV := match l with
  | 3 => k26 T.rb r v
  | 4 => k24 T.rb r v
  | 5 => k22 T.rb r v
  | 7 => k20 T.rb r v
  | _ => k18 T.rb r v
/-- The operator of a level that is put together from the left, if one stands here. -/
def opq (l : Nat) (L : List Tok3) (i : Nat) : Option Int := match l with
  | 3 => bif isB L i [115, 105, 110, 99, 101] then some 20 else none
  | 4 => bif isB L i [120, 111, 114] then some 8 else bif isB L i [111, 114] then some 7 else none
  | 5 => bif isB L i [97, 110, 100] then some 6 else none
  | 7 => bif isB L i [45] then some 15 else bif isB L i [43] then some 14 else none
  | _ => bif isB L i [109, 111, 100] then some 18 else bif isB L i [100, 105, 118] then some 17 else bif isB L i [42] then some 16 else none
def opq6 (L : List Tok3) (i : Nat) : Option (Int × Bool) :=
  bif isB L i [61] then some (10, false) else bif isB L i [60, 62] then some (11, false) else bif isB L i [60] then some (12, false) else
  bif isB L i [60, 61] then some (13, false) else bif isB L i [62] then some (12, true) else bif isB L i [62, 61] then some (13, true) else none
def opq1 (p : Nat) (L : List Tok3) (i : Nat) : Option Int := match p with
  | 1 => bif isB L i [45, 62] then some 19 else none
  | _ => bif isB L i [61, 62] then some 9 else none
def LA (l : Nat) : Prop := l = 3 ∨ l = 4 ∨ l = 5 ∨ l = 7 ∨ l = 8

theorem bsome {α : Type} (x : Option α) : (x.bind fun y => some y) = x := by cases x <;> rfl

theorem lp_step {l : Nat} (hl : LA l) {L : List Tok3} {i : Nat} (hi : i ≤ 2000000) {o : Int} {v : List Nd} {y : RV} (h : (match opq l L i with
    | none => some (((L, ((i : Nat) : Int), o, (0 : Int), (0 : Int)) : RS), v)
    | some op => (rd (l + 1) ((L, ((i + 1 : Nat) : Int), o, (0 : Int), (0 : Int)) : RS)).bind fun y => (c41 T.rf y.1 op v y.2).bind fun z => lp l z.1 z.2) = some y) : lp l ((L, ((i : Nat) : Int), o, (0 : Int), (0 : Int)) : RS) v = some y := by
  have hw := wr_succ (show i < 4611686018427387904 by omega)
  rcases hl with rfl | rfl | rfl | rfl | rfl
  · refine ob26 ?_
    rw [← h]
    simp only [b26, take_eq L hi, Option.bind_some, opq, rd, lp]
    cases isB L i [115, 105, 110, 99, 101] <;> rfl
  · refine ob24 ?_
    rw [← h]
    simp only [b24, is_eq, Option.bind_some, opq, rd, lp, hw]
    cases isB L i [111, 114] <;> cases isB L i [120, 111, 114] <;> rfl
  · refine ob22 ?_
    rw [← h]
    simp only [b22, take_eq L hi, Option.bind_some, opq, rd, lp]
    cases isB L i [97, 110, 100] <;> rfl
  · refine ob20 ?_
    rw [← h]
    simp only [b20, is_eq, Option.bind_some, opq, rd, lp, hw]
    cases isB L i [43] <;> cases isB L i [45] <;> rfl
  · refine ob18 ?_
    rw [← h]
    simp only [b18, is_eq, Option.bind_some, opq, rd, lp, hw]
    cases isB L i [42] <;> cases isB L i [100, 105, 118] <;> cases isB L i [109, 111, 100] <;> rfl
theorem lp_bad {l : Nat} (hl : LA l) {r : RS} (h : r.2.2.2.1 ≠ 0) (v : List Nd) : lp l r v = some (r, v) := by
  rcases hl with rfl | rfl | rfl | rfl | rfl
  · exact ob26 (by simp only [b26, take_bad h, Option.bind_some, cond_false])
  · exact ob24 (by simp only [b24, is_bad h, Option.bind_some, cond_false])
  · exact ob22 (by simp only [b22, take_bad h, Option.bind_some, cond_false])
  · exact ob20 (by simp only [b20, is_bad h, Option.bind_some, cond_false])
  · exact ob18 (by simp only [b18, is_bad h, Option.bind_some, cond_false])
theorem rd_lp {l : Nat} (hl : LA l) {r : RS} {z y : RV} (h1 : rd (l + 1) r = some z) (h2 : lp l z.1 z.2 = some y) : rd l r = some y := by
  rcases hl with rfl | rfl | rfl | rfl | rfl
  · simp only [rd, lp] at h1 h2
    exact or17 (by simp only [r17, h1, h2, Option.bind_some])
  · simp only [rd, lp] at h1 h2
    exact or18 (by simp only [r18, h1, h2, Option.bind_some])
  · simp only [rd, lp] at h1 h2
    exact or19 (by simp only [r19, h1, h2, Option.bind_some])
  · simp only [rd, lp] at h1 h2
    exact or21 (by simp only [r21, h1, h2, Option.bind_some])
  · simp only [rd, lp] at h1 h2
    exact or22 (by simp only [r22, h1, h2, Option.bind_some])

theorem rd12 {p : Nat} (hp : p = 1 ∨ p = 2) {r : RS} {L : List Tok3} {j : Nat} (hj : j ≤ 2000000) {o : Int} {v : List Nd} {y : RV} (h1 : rd (p + 1) r = some (((L, ((j : Nat) : Int), o, (0 : Int), (0 : Int)) : RS), v)) (h2 : (match opq1 p L j with
    | none => some (((L, ((j : Nat) : Int), o, (0 : Int), (0 : Int)) : RS), v)
    | some op => (rd p ((L, ((j + 1 : Nat) : Int), o, (0 : Int), (0 : Int)) : RS)).bind fun y => c41 T.rf y.1 op v y.2) = some y) : rd p r = some y := by
  rcases hp with rfl | rfl
  · simp only [rd] at h1
    refine or15 ?_
    rw [← h2]
    simp only [r15, h1, Option.bind_some, take_eq L hj, opq1, rd]
    cases isB L j [45, 62]
    · rfl
    · simp only [cond_true, bsome]
  · simp only [rd] at h1
    refine or16 ?_
    rw [← h2]
    simp only [r16, h1, Option.bind_some, take_eq L hj, opq1, rd]
    cases isB L j [61, 62]
    · rfl
    · simp only [cond_true, bsome]

theorem rd6 {r : RS} {L : List Tok3} {j : Nat} (hj : j ≤ 2000000) {o : Int} {v : List Nd} {y : RV} (h1 : rd 7 r = some (((L, ((j : Nat) : Int), o, (0 : Int), (0 : Int)) : RS), v)) (h2 : (match opq6 L j with
    | none => some (((L, ((j : Nat) : Int), o, (0 : Int), (0 : Int)) : RS), v)
    | some (op, sw) => (rd 7 ((L, ((j + 1 : Nat) : Int), o, (0 : Int), (0 : Int)) : RS)).bind fun y => c41 T.rf y.1 op (bif sw then y.2 else v) (bif sw then v else y.2)) = some y) : rd 6 r = some y := by
  simp only [rd] at h1
  refine or20 ?_
  rw [← h2]
  simp only [r20, h1, Option.bind_some, take_eq L hj, opq6, rd]
  cases isB L j [61]
  case true => simp only [cond_true, bsome, cond_false]
  simp only [cond_false, Option.bind_some, take_eq L hj]
  cases isB L j [60, 62]
  case true => simp only [cond_true, bsome, cond_false]
  simp only [cond_false, Option.bind_some, take_eq L hj]
  cases isB L j [60]
  case true => simp only [cond_true, bsome, cond_false]
  simp only [cond_false, Option.bind_some, take_eq L hj]
  cases isB L j [60, 61]
  case true => simp only [cond_true, bsome, cond_false]
  simp only [cond_false, Option.bind_some, take_eq L hj]
  cases isB L j [62]
  case true => simp only [cond_true, bsome, cond_false]
  simp only [cond_false, Option.bind_some, take_eq L hj]
  cases isB L j [62, 61]
  case true => simp only [cond_true, bsome, cond_false]
  rfl

/-! ### A reader that has failed -/
theorem rd9_bad {r : RS} (h : r.2.2.2.1 ≠ 0) : rd 9 r = some (r, []) := or23 (by
  simp only [r23, nbf h, cond_true])
theorem rd_bad {r : RS} (h : r.2.2.2.1 ≠ 0) : ∀ p, 1 ≤ p → p ≤ 9 → rd p r = some (r, []) := by
  have h9 := rd9_bad h
  have h8 := rd_lp (l := 8) (by unfold LA; omega) h9 (lp_bad (by unfold LA; omega) h [])
  have h7 := rd_lp (l := 7) (by unfold LA; omega) h8 (lp_bad (by unfold LA; omega) h [])
  have h6 : rd 6 r = some (r, []) := or20 (by
    have h7' := h7
    simp only [rd] at h7'
    simp only [r20, h7', Option.bind_some, take_bad h, cond_false])
  have h5 := rd_lp (l := 5) (by unfold LA; omega) h6 (lp_bad (by unfold LA; omega) h [])
  have h4 := rd_lp (l := 4) (by unfold LA; omega) h5 (lp_bad (by unfold LA; omega) h [])
  have h3 := rd_lp (l := 3) (by unfold LA; omega) h4 (lp_bad (by unfold LA; omega) h [])
  have h2 : rd 2 r = some (r, []) := or16 (by
    have h7' := h3
    simp only [rd] at h7'
    simp only [r16, h7', Option.bind_some, take_bad h, cond_false])
  have h1 : rd 1 r = some (r, []) := or15 (by
    have h7' := h2
    simp only [rd] at h7'
    simp only [r15, h7', Option.bind_some, take_bad h, cond_false])
  intro p hp1 hp9
  have : p = 1 ∨ p = 2 ∨ p = 3 ∨ p = 4 ∨ p = 5 ∨ p = 6 ∨ p = 7 ∨ p = 8 ∨ p = 9 := by omega
  rcases this with rfl | rfl | rfl | rfl | rfl | rfl | rfl | rfl | rfl
  · exact h1
  · exact h2
  · exact h3
  · exact h4
  · exact h5
  · exact h6
  · exact h7
  · exact h8
  · exact h9

/-! ### An operand that begins with a word or a sign -/
noncomputable def begW (L : List Tok3) (i : Nat) (o : Int) (u : Str) : Option RV :=
  (c38 T.rf u).bind fun (y5 : Int) =>
      bif y5 == 25 then
        c39 T.rf ((L, ((i : Nat) : Int), o, (0 : Int), (0 : Int)) : RS)
      else
      bif decide (y5 > 0) then
        (c23 T.rf ((L, ((i + 1 : Nat) : Int), o, (0 : Int), (0 : Int)) : RS)).bind fun (y7 : RV) =>
        bif y7.1.2.2.2.1 != 0 then
          some (y7.1, [])
        else
          (c27 T.rf y5 0 ([] : Str) [y7.2]).bind fun (y8 : List Nd) =>
          some (y7.1, y8)
      else
      bif isB L i [116, 114, 117, 101] then some (((L, ((i + 1 : Nat) : Int), o, (0 : Int), (0 : Int)) : RS), join 2 1 [] []) else
      bif isB L i [102, 97, 108, 115, 101] then some (((L, ((i + 1 : Nat) : Int), o, (0 : Int), (0 : Int)) : RS), join 2 0 [] []) else
      bif isB L i [40] then
        (c15 T.rf ((L, ((i + 1 : Nat) : Int), o, (0 : Int), (0 : Int)) : RS)).bind fun (y14 : RV) =>
        (c37 T.rf y14.1 ([41] : Str)).bind fun (y15 : RS) =>
        some (y15, y14.2)
      else
      bif isB L i [105, 102] then c40 T.rf ((L, ((i + 1 : Nat) : Int), o, (0 : Int), (0 : Int)) : RS) else
      c24 T.rf ((L, ((i : Nat) : Int), o, (0 : Int), (0 : Int)) : RS) 5

theorem jn2 (n : Int) : c27 T.rf 2 n ([] : Str) [] = some (join 2 n [] []) := refJoin_eq (by simp [total]) (by simp)

theorem begun_word {L : List Tok3} {i : Nat} (hi : i ≤ 2000000) {o : Int} {x : Tok3} (hk : x.1 = 4 ∨ x.1 = 3) {y : RV} (h : begW L i o x.2.1 = some y) :
    c26 T.rf ((L, ((i : Nat) : Int), o, (0 : Int), (0 : Int)) : RS) x = some y := or26 (by
  rw [← h]
  have hw := wr_succ (show i < 4611686018427387904 by omega)
  have fin : ∀ z : Int, (bif z == 25 then
        (c39 T.rf ((L, ((i : Nat) : Int), o, (0 : Int), (0 : Int)) : RS)).bind fun (y6 : RV) => some y6
      else
      bif decide (z > 0) then
        (c23 T.rf ((L, ((i + 1 : Nat) : Int), o, (0 : Int), (0 : Int)) : RS)).bind fun (y7 : RV) =>
        bif y7.1.2.2.2.1 != 0 then
          some (y7.1, [])
        else
          (c27 T.rf z 0 ([] : Str) [y7.2]).bind fun (y8 : List Nd) =>
          some (y7.1, y8)
      else
        (c34 T.rf ((L, ((i : Nat) : Int), o, (0 : Int), (0 : Int)) : RS) ([116, 114, 117, 101] : Str)).bind fun (y9 : RS × Bool) =>
        bif y9.2 then
          (c27 T.rf 2 1 ([] : Str) []).bind fun (y10 : List Nd) =>
          some (y9.1, y10)
        else
          (c34 T.rf y9.1 ([102, 97, 108, 115, 101] : Str)).bind fun (y11 : RS × Bool) =>
          bif y11.2 then
            (c27 T.rf 2 0 ([] : Str) []).bind fun (y12 : List Nd) =>
            some (y11.1, y12)
          else
            (c34 T.rf y11.1 ([40] : Str)).bind fun (y13 : RS × Bool) =>
            bif y13.2 then
              (c15 T.rf y13.1).bind fun (y14 : RV) =>
              (c37 T.rf y14.1 ([41] : Str)).bind fun (y15 : RS) =>
              some (y15, y14.2)
            else
              (c34 T.rf y13.1 ([105, 102] : Str)).bind fun (y16 : RS × Bool) =>
              bif y16.2 then
                (c40 T.rf y16.1).bind fun (y17 : RV) =>
                some y17
              else
                (c24 T.rf y16.1 5).bind fun (y18 : RV) =>
                some y18) = (bif z == 25 then
        c39 T.rf ((L, ((i : Nat) : Int), o, (0 : Int), (0 : Int)) : RS)
      else
      bif decide (z > 0) then
        (c23 T.rf ((L, ((i + 1 : Nat) : Int), o, (0 : Int), (0 : Int)) : RS)).bind fun (y7 : RV) =>
        bif y7.1.2.2.2.1 != 0 then
          some (y7.1, [])
        else
          (c27 T.rf z 0 ([] : Str) [y7.2]).bind fun (y8 : List Nd) =>
          some (y7.1, y8)
      else
      bif isB L i [116, 114, 117, 101] then some (((L, ((i + 1 : Nat) : Int), o, (0 : Int), (0 : Int)) : RS), join 2 1 [] []) else
      bif isB L i [102, 97, 108, 115, 101] then some (((L, ((i + 1 : Nat) : Int), o, (0 : Int), (0 : Int)) : RS), join 2 0 [] []) else
      bif isB L i [40] then
        (c15 T.rf ((L, ((i + 1 : Nat) : Int), o, (0 : Int), (0 : Int)) : RS)).bind fun (y14 : RV) =>
        (c37 T.rf y14.1 ([41] : Str)).bind fun (y15 : RS) =>
        some (y15, y14.2)
      else
      bif isB L i [105, 102] then c40 T.rf ((L, ((i + 1 : Nat) : Int), o, (0 : Int), (0 : Int)) : RS) else
      c24 T.rf ((L, ((i : Nat) : Int), o, (0 : Int), (0 : Int)) : RS) 5) := by
    intro z
    simp only [bsome, take_eq L hi, Option.bind_some, jn2]
    cases isB L i [116, 114, 117, 101]
    case true => rfl
    simp only [cond_false, take_eq L hi, Option.bind_some]
    cases isB L i [102, 97, 108, 115, 101]
    case true => rfl
    simp only [cond_false, take_eq L hi, Option.bind_some]
    cases isB L i [40]
    case true => rfl
    simp only [cond_false, take_eq L hi, Option.bind_some]
    cases isB L i [105, 102] <;> rfl
  rcases hk with hk | hk
  · simp only [r26, bf (show x.1 ≠ 2 by omega), bf (show x.1 ≠ 1 by omega), nbt hk, cond_false, hw, fin]
    rfl
  · simp only [r26, bf (show x.1 ≠ 2 by omega), bf (show x.1 ≠ 1 by omega), nbf (show x.1 ≠ 4 by omega), nbt hk, cond_false, cond_true, hw, fin]
    rfl)

end Go.Proofs.YtoippcahbninnaaGreatDoor.R
