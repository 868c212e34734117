import Derived.Test.YtlobhcgbmpcdlaaGreatDoorShwX
open Option (bind_some)
namespace Go.Proofs.YtlobhcgbmpcdlaaGreatDoor.R
open Go Go.Bm Go.Proofs
set_option linter.unusedVariables false
set_option linter.unusedSimpArgs false
set_option maxRecDepth 4000
abbrev RS : Type := List m7 × Int × Int × Int × Int
abbrev RV : Type := RS × List Nd
def isB (L : List m7) (i : Nat) (s : Str) : Bool := match nth L i with
 | some x => (x.1 == 4 || x.1 == 3) && (x.2.1 == s)
 | none => false
theorem z0 : ((0 : Int) != 0) = false := rfl
theorem b5h (L : List m7) (i : Nat) (o : Int) (s : Str) : c55 T.rf ((L, ((i : Nat) : Int), o, (0 : Int), (0 : Int)) : RS) s = some (((L, ((i : Nat) : Int), o, (0 : Int), (0 : Int)) : RS), isB L i s) := d2H (by
 by_cases h : i < L.length
 · have hx := a3u h
   simp only [r55, z0, cond_false, df (show ¬ ((i : Nat) : Int) ≥ ((L.length : Nat) : Int) by omega), D2 (show (0 : Int) ≤ ((i : Nat) : Int) by omega) (show ((i : Nat) : Int) < ((L.length : Nat) : Int) by omega), cond_true, Int.toNat_natCast, hx, bind_some, isB]
   generalize L[i] = x
   cases x.1 == 4 <;> cases x.1 == 3 <;> rfl
 · have hx : nth L i = none := by rw [nth_getElem?]; exact List.getElem?_eq_none (by omega)
   simp only [r55, z0, cond_false, dt (show ((i : Nat) : Int) ≥ ((L.length : Nat) : Int) by omega), cond_true, isB, hx])
theorem b0W {r : RS} (h : r.2.2.2.1 ≠ 0) (s : Str) : c55 T.rf r s = some (r, false) := d2H (by
 simp only [r55, nbf h, cond_true])
theorem s7 (L : List m7) {i : Nat} (hi : i ≤ 2000000000) (o : Int) (s : Str) : c54 T.rf ((L, ((i : Nat) : Int), o, (0 : Int), (0 : Int)) : RS) s = some (bif isB L i s then (((L, ((i + 1 : Nat) : Int), o, (0 : Int), (0 : Int)) : RS), true) else (((L, ((i : Nat) : Int), o, (0 : Int), (0 : Int)) : RS), false)) := d2G (by
 simp only [r54, b5h, bind_some, C6 (show i < 4611686018427387904 by omega)]
 cases isB L i s <;> rfl)
theorem K4 {r : RS} (h : r.2.2.2.1 ≠ 0) (s : Str) : c54 T.rf r s = some (r, false) := d2G (by
 simp only [r54, b0W h, bind_some]; rfl)
theorem b7z (L : List m7) (i : Int) : ∃ a, c19 T.rf L i = some a := by
 by_cases h1 : i < 0
 · exact ⟨_, c5R (by simp only [r19, dt h1, cond_true]; rfl)⟩
 by_cases h2 : i ≥ ((L.length : Nat) : Int)
 · exact ⟨_, c5R (by simp only [r19, df h1, dt h2, cond_true, cond_false]; rfl)⟩
 · have hx := a3u (l := L) (i := i.toNat) (by omega)
   exact ⟨_, c5R (by simp only [r19, df h1, df h2, cond_true, cond_false, D2 (show 0 ≤ i by omega) (show i < ((L.length : Nat) : Int) by omega), hx, bind_some]; rfl)⟩
theorem b2o {r : RS} (h : r.2.2.2.1 ≠ 0) (e : Int) : c45 T.rf r e = some (r, []) := d2F (by
 simp only [r45, bf h, cond_false])
theorem a1W (r : RS) {e : Int} (he : e ≠ 0) : ∃ r', c45 T.rf r e = some (r', []) ∧ r'.2.2.2.1 ≠ 0 := by
 by_cases h : r.2.2.2.1 = 0
 · obtain ⟨a, ha⟩ := b7z r.1 r.2.1
   exact ⟨_, d2F (by simp only [r45, bt h, cond_true, ha, bind_some]; rfl), he⟩
 · exact ⟨_, b2o h e, h⟩
theorem a4G {L : List m7} {i : Nat} (hi : i ≤ 2000000000) (o : Int) {s : Str} (h : isB L i s = true) : c57 T.rf ((L, ((i : Nat) : Int), o, (0 : Int), (0 : Int)) : RS) s = some ((L, ((i + 1 : Nat) : Int), o, (0 : Int), (0 : Int)) : RS) := c5Y (by
 simp only [r57, s7 L hi, h, cond_true, bind_some, Bool.not_true, cond_false])
theorem b8W {L : List m7} {i : Nat} (hi : i ≤ 2000000000) (o : Int) {s : Str} (h : isB L i s = false) : ∃ r', c57 T.rf ((L, ((i : Nat) : Int), o, (0 : Int), (0 : Int)) : RS) s = some r' ∧ r'.2.2.2.1 ≠ 0 := by
 obtain ⟨r', h1, h2⟩ := a1W ((L, ((i : Nat) : Int), o, (0 : Int), (0 : Int)) : RS) (e := 5) (by decide)
 exact ⟨r', c5Y (by simp only [r57, s7 L hi, h, cond_false, bind_some, Bool.not_false, cond_true, h1]), h2⟩
theorem a0K {r : RS} (h : r.2.2.2.1 ≠ 0) (s : Str) : c57 T.rf r s = some r := c5Y (by
 simp only [r57, K4 h, b2o h, bind_some]; rfl)
theorem join_eq (L : List m7) (i : Nat) (o op : Int) {a b : List Nd} (ha : a.length ≤ 1000000) (hb : b.length ≤ 1000000) :
  c61 T.rf ((L, ((i : Nat) : Int), o, (0 : Int), (0 : Int)) : RS) op a b = some (((L, ((i : Nat) : Int), o, (0 : Int), (0 : Int)) : RS), join op 0 [] [a, b]) := d2I (by
 simp only [r61, z0, cond_false, R5 (op := op) (n := 0) (nm := []) (ps := [a, b]) (by simp only [total]; omega) (by simp), bind_some])
theorem a8b {r : RS} (h : r.2.2.2.1 ≠ 0) (op : Int) (a b : List Nd) : c61 T.rf r op a b = some (r, []) := d2I (by
 simp only [r61, nbf h, cond_true])
noncomputable def rd (p : Nat) (r : RS) : Option RV := match p with
 | 1 => c36 T.rf r
 | 2 => c37 T.rf r
 | 3 => c38 T.rf r
 | 4 => c39 T.rf r
 | 5 => c40 T.rf r
 | 6 => c41 T.rf r
 | 7 => c42 T.rf r
 | 8 => c43 T.rf r
 | _ => c44 T.rf r
noncomputable def lp (l : Nat) (r : RS) (v : List Nd) : Option RV := match l with
 | 3 => k35 T.rb r v
 | 4 => k33 T.rb r v
 | 5 => k31 T.rb r v
 | 7 => k29 T.rb r v
 | _ => k27 T.rb r v
def opq (l : Nat) (L : List m7) (i : Nat) : Option Int := match l with
 | 3 => bif isB L i [115, 105, 110, 99, 101] then some 20 else none
 | 4 => bif isB L i [120, 111, 114] then some 8 else bif isB L i [111, 114] then some 7 else none
 | 5 => bif isB L i [97, 110, 100] then some 6 else none
 | 7 => bif isB L i [45] then some 15 else bif isB L i [43] then some 14 else none
 | _ => bif isB L i [109, 111, 100] then some 18 else bif isB L i [100, 105, 118] then some 17 else bif isB L i [42] then some 16 else none
def a6H (L : List m7) (i : Nat) : Option (Int × Bool) :=
 bif isB L i [61] then some (10, false) else bif isB L i [60, 62] then some (11, false) else bif isB L i [60] then some (12, false) else
 bif isB L i [60, 61] then some (13, false) else bif isB L i [62] then some (12, true) else bif isB L i [62, 61] then some (13, true) else none
def a6G (p : Nat) (L : List m7) (i : Nat) : Option Int := match p with
 | 1 => bif isB L i [45, 62] then some 19 else none
 | _ => bif isB L i [61, 62] then some 9 else none
def LA (l : Nat) : Prop := l = 3 ∨ l = 4 ∨ l = 5 ∨ l = 7 ∨ l = 8
theorem a4f {α : Type} (x : Option α) : (x.bind fun y => some y) = x := by cases x <;> rfl
theorem a1j {l : Nat} (hl : LA l) {L : List m7} {i : Nat} (hi : i ≤ 2000000000) {o : Int} {v : List Nd} {y : RV} (h : (match opq l L i with
  | none => some (((L, ((i : Nat) : Int), o, (0 : Int), (0 : Int)) : RS), v)
  | some op => (rd (l + 1) ((L, ((i + 1 : Nat) : Int), o, (0 : Int), (0 : Int)) : RS)).bind fun y => (c61 T.rf y.1 op v y.2).bind fun z => lp l z.1 z.2) = some y) : lp l ((L, ((i : Nat) : Int), o, (0 : Int), (0 : Int)) : RS) v = some y := by
 have hw := C6 (show i < 4611686018427387904 by omega)
 rcases hl with rfl | rfl | rfl | rfl | rfl
 · refine d1O ?_
   rw [← h]
   simp only [b35, s7 L hi, bind_some, opq, rd, lp]
   cases isB L i [115, 105, 110, 99, 101] <;> rfl
 · refine d1N ?_
   rw [← h]
   simp only [b33, b5h, bind_some, opq, rd, lp, hw]
   cases isB L i [111, 114] <;> cases isB L i [120, 111, 114] <;> rfl
 · refine d1M ?_
   rw [← h]
   simp only [b31, s7 L hi, bind_some, opq, rd, lp]
   cases isB L i [97, 110, 100] <;> rfl
 · refine d1L ?_
   rw [← h]
   simp only [b29, b5h, bind_some, opq, rd, lp, hw]
   cases isB L i [43] <;> cases isB L i [45] <;> rfl
 · refine d1K ?_
   rw [← h]
   simp only [b27, b5h, bind_some, opq, rd, lp, hw]
   cases isB L i [42] <;> cases isB L i [100, 105, 118] <;> cases isB L i [109, 111, 100] <;> rfl
theorem a3P {l : Nat} (hl : LA l) {r : RS} (h : r.2.2.2.1 ≠ 0) (v : List Nd) : lp l r v = some (r, v) := by
 rcases hl with rfl | rfl | rfl | rfl | rfl
 · exact d1O (by simp only [b35, K4 h, bind_some, cond_false])
 · exact d1N (by simp only [b33, b0W h, bind_some, cond_false])
 · exact d1M (by simp only [b31, K4 h, bind_some, cond_false])
 · exact d1L (by simp only [b29, b0W h, bind_some, cond_false])
 · exact d1K (by simp only [b27, b0W h, bind_some, cond_false])
theorem a4N {l : Nat} (hl : LA l) {r : RS} {z y : RV} (h1 : rd (l + 1) r = some z) (h2 : lp l z.1 z.2 = some y) : rd l r = some y := by
 rcases hl with rfl | rfl | rfl | rfl | rfl
 · simp only [rd, lp] at h1 h2
   exact d5C (by simp only [r38, h1, h2, bind_some])
 · simp only [rd, lp] at h1 h2
   exact d5D (by simp only [r39, h1, h2, bind_some])
 · simp only [rd, lp] at h1 h2
   exact d5E (by simp only [r40, h1, h2, bind_some])
 · simp only [rd, lp] at h1 h2
   exact d5F (by simp only [r42, h1, h2, bind_some])
 · simp only [rd, lp] at h1 h2
   exact d5G (by simp only [r43, h1, h2, bind_some])
theorem b9D {p : Nat} (hp : p = 1 ∨ p = 2) {r : RS} {L : List m7} {j : Nat} (hj : j ≤ 2000000000) {o : Int} {v : List Nd} {y : RV} (h1 : rd (p + 1) r = some (((L, ((j : Nat) : Int), o, (0 : Int), (0 : Int)) : RS), v)) (h2 : (match a6G p L j with
  | none => some (((L, ((j : Nat) : Int), o, (0 : Int), (0 : Int)) : RS), v)
  | some op => (rd p ((L, ((j + 1 : Nat) : Int), o, (0 : Int), (0 : Int)) : RS)).bind fun y => c61 T.rf y.1 op v y.2) = some y) : rd p r = some y := by
 rcases hp with rfl | rfl
 · simp only [rd] at h1
   refine c5V ?_
   rw [← h2]
   simp only [r36, h1, bind_some, s7 L hj, a6G, rd]
   cases isB L j [45, 62]
   · rfl
   · simp only [cond_true, a4f]
 · simp only [rd] at h1
   refine c5W ?_
   rw [← h2]
   simp only [r37, h1, bind_some, s7 L hj, a6G, rd]
   cases isB L j [61, 62]
   · rfl
   · simp only [cond_true, a4f]
theorem rd6 {r : RS} {L : List m7} {j : Nat} (hj : j ≤ 2000000000) {o : Int} {v : List Nd} {y : RV} (h1 : rd 7 r = some (((L, ((j : Nat) : Int), o, (0 : Int), (0 : Int)) : RS), v)) (h2 : (match a6H L j with
  | none => some (((L, ((j : Nat) : Int), o, (0 : Int), (0 : Int)) : RS), v)
  | some (op, sw) => (rd 7 ((L, ((j + 1 : Nat) : Int), o, (0 : Int), (0 : Int)) : RS)).bind fun y => c61 T.rf y.1 op (bif sw then y.2 else v) (bif sw then v else y.2)) = some y) : rd 6 r = some y := by
 simp only [rd] at h1
 refine c5X ?_
 rw [← h2]
 simp only [r41, h1, bind_some, s7 L hj, a6H, rd]
 cases isB L j [61]
 case true => simp only [cond_true, a4f, cond_false]
 simp only [cond_false, bind_some, s7 L hj]
 cases isB L j [60, 62]
 case true => simp only [cond_true, a4f, cond_false]
 simp only [cond_false, bind_some, s7 L hj]
 cases isB L j [60]
 case true => simp only [cond_true, a4f, cond_false]
 simp only [cond_false, bind_some, s7 L hj]
 cases isB L j [60, 61]
 case true => simp only [cond_true, a4f, cond_false]
 simp only [cond_false, bind_some, s7 L hj]
 cases isB L j [62]
 case true => simp only [cond_true, a4f, cond_false]
 simp only [cond_false, bind_some, s7 L hj]
 cases isB L j [62, 61]
 case true => simp only [cond_true, a4f, cond_false]
 rfl
theorem c1V {r : RS} (h : r.2.2.2.1 ≠ 0) : rd 9 r = some (r, []) := b9i (by
 simp only [r44, nbf h, cond_true])
theorem c6w {r : RS} (h : r.2.2.2.1 ≠ 0) : ∀ p, 1 ≤ p → p ≤ 9 → rd p r = some (r, []) := by
 have h9 := c1V h
 have h8 := a4N (l := 8) (by unfold LA; omega) h9 (a3P (by unfold LA; omega) h [])
 have h7 := a4N (l := 7) (by unfold LA; omega) h8 (a3P (by unfold LA; omega) h [])
 have h6 : rd 6 r = some (r, []) := c5X (by
  have h7' := h7
  simp only [rd] at h7'
  simp only [r41, h7', bind_some, K4 h, cond_false])
 have h5 := a4N (l := 5) (by unfold LA; omega) h6 (a3P (by unfold LA; omega) h [])
 have h4 := a4N (l := 4) (by unfold LA; omega) h5 (a3P (by unfold LA; omega) h [])
 have h3 := a4N (l := 3) (by unfold LA; omega) h4 (a3P (by unfold LA; omega) h [])
 have h2 : rd 2 r = some (r, []) := c5W (by
  have h7' := h3
  simp only [rd] at h7'
  simp only [r37, h7', bind_some, K4 h, cond_false])
 have h1 : rd 1 r = some (r, []) := c5V (by
  have h7' := h2
  simp only [rd] at h7'
  simp only [r36, h7', bind_some, K4 h, cond_false])
 intro p hp1 hp9
 have : p = 1 ∨ p = 2 ∨ p = 3 ∨ p = 4 ∨ p = 5 ∨ p = 6 ∨ p = 7 ∨ p = 8 ∨ p = 9 := by omega
 rcases this with rfl | rfl | rfl | rfl | rfl | rfl | rfl | rfl | rfl
 · exact h1
 · exact h2
 · exact h3
 · exact h4
 · exact h5
 · exact h6
 · exact h7
 · exact h8
 · exact h9
noncomputable def a3L (L : List m7) (i : Nat) (o : Int) (u : Str) : Option RV :=
 (c58 T.rf u).bind fun (y5 : Int) =>
   bif y5 == 25 then
    c59 T.rf ((L, ((i : Nat) : Int), o, (0 : Int), (0 : Int)) : RS)
   else
   bif decide (y5 > 0) then
    (c44 T.rf ((L, ((i + 1 : Nat) : Int), o, (0 : Int), (0 : Int)) : RS)).bind fun (y7 : RV) =>
    bif y7.1.2.2.2.1 != 0 then
     some (y7.1, [])
    else
     (c47 T.rf y5 0 ([] : Str) [y7.2]).bind fun (y8 : List Nd) =>
     some (y7.1, y8)
   else
   bif isB L i [116, 114, 117, 101] then some (((L, ((i + 1 : Nat) : Int), o, (0 : Int), (0 : Int)) : RS), join 2 1 [] []) else
   bif isB L i [102, 97, 108, 115, 101] then some (((L, ((i + 1 : Nat) : Int), o, (0 : Int), (0 : Int)) : RS), join 2 0 [] []) else
   bif isB L i [40] then
    (c36 T.rf ((L, ((i + 1 : Nat) : Int), o, (0 : Int), (0 : Int)) : RS)).bind fun (y14 : RV) =>
    (c57 T.rf y14.1 ([41] : Str)).bind fun (y15 : RS) =>
    some (y15, y14.2)
   else
   bif isB L i [105, 102] then c60 T.rf ((L, ((i + 1 : Nat) : Int), o, (0 : Int), (0 : Int)) : RS) else
   c45 T.rf ((L, ((i : Nat) : Int), o, (0 : Int), (0 : Int)) : RS) 5
theorem jn2 (n : Int) : c47 T.rf 2 n ([] : Str) [] = some (join 2 n [] []) := R5 (by simp [total]) (by simp)
theorem J3 {L : List m7} {i : Nat} (hi : i ≤ 2000000000) {o : Int} {x : m7} (hk : x.1 = 4 ∨ x.1 = 3) {y : RV} (h : a3L L i o x.2.1 = some y) :
  c46 T.rf ((L, ((i : Nat) : Int), o, (0 : Int), (0 : Int)) : RS) x = some y := b4h (by
 rw [← h]
 have hw := C6 (show i < 4611686018427387904 by omega)
 have fin : ∀ z : Int, (bif z == 25 then
    (c59 T.rf ((L, ((i : Nat) : Int), o, (0 : Int), (0 : Int)) : RS)).bind fun (y6 : RV) => some y6
   else
   bif decide (z > 0) then
    (c44 T.rf ((L, ((i + 1 : Nat) : Int), o, (0 : Int), (0 : Int)) : RS)).bind fun (y7 : RV) =>
    bif y7.1.2.2.2.1 != 0 then
     some (y7.1, [])
    else
     (c47 T.rf z 0 ([] : Str) [y7.2]).bind fun (y8 : List Nd) =>
     some (y7.1, y8)
   else
    (c54 T.rf ((L, ((i : Nat) : Int), o, (0 : Int), (0 : Int)) : RS) ([116, 114, 117, 101] : Str)).bind fun (y9 : RS × Bool) =>
    bif y9.2 then
     (c47 T.rf 2 1 ([] : Str) []).bind fun (y10 : List Nd) =>
     some (y9.1, y10)
    else
     (c54 T.rf y9.1 ([102, 97, 108, 115, 101] : Str)).bind fun (y11 : RS × Bool) =>
     bif y11.2 then
      (c47 T.rf 2 0 ([] : Str) []).bind fun (y12 : List Nd) =>
      some (y11.1, y12)
     else
      (c54 T.rf y11.1 ([40] : Str)).bind fun (y13 : RS × Bool) =>
      bif y13.2 then
       (c36 T.rf y13.1).bind fun (y14 : RV) =>
       (c57 T.rf y14.1 ([41] : Str)).bind fun (y15 : RS) =>
       some (y15, y14.2)
      else
       (c54 T.rf y13.1 ([105, 102] : Str)).bind fun (y16 : RS × Bool) =>
       bif y16.2 then
        (c60 T.rf y16.1).bind fun (y17 : RV) =>
        some y17
       else
        (c45 T.rf y16.1 5).bind fun (y18 : RV) =>
        some y18) = (bif z == 25 then
    c59 T.rf ((L, ((i : Nat) : Int), o, (0 : Int), (0 : Int)) : RS)
   else
   bif decide (z > 0) then
    (c44 T.rf ((L, ((i + 1 : Nat) : Int), o, (0 : Int), (0 : Int)) : RS)).bind fun (y7 : RV) =>
    bif y7.1.2.2.2.1 != 0 then
     some (y7.1, [])
    else
     (c47 T.rf z 0 ([] : Str) [y7.2]).bind fun (y8 : List Nd) =>
     some (y7.1, y8)
   else
   bif isB L i [116, 114, 117, 101] then some (((L, ((i + 1 : Nat) : Int), o, (0 : Int), (0 : Int)) : RS), join 2 1 [] []) else
   bif isB L i [102, 97, 108, 115, 101] then some (((L, ((i + 1 : Nat) : Int), o, (0 : Int), (0 : Int)) : RS), join 2 0 [] []) else
   bif isB L i [40] then
    (c36 T.rf ((L, ((i + 1 : Nat) : Int), o, (0 : Int), (0 : Int)) : RS)).bind fun (y14 : RV) =>
    (c57 T.rf y14.1 ([41] : Str)).bind fun (y15 : RS) =>
    some (y15, y14.2)
   else
   bif isB L i [105, 102] then c60 T.rf ((L, ((i + 1 : Nat) : Int), o, (0 : Int), (0 : Int)) : RS) else
   c45 T.rf ((L, ((i : Nat) : Int), o, (0 : Int), (0 : Int)) : RS) 5) := by
  intro z
  simp only [a4f, s7 L hi, bind_some, jn2]
  cases isB L i [116, 114, 117, 101]
  case true => rfl
  simp only [cond_false, s7 L hi, bind_some]
  cases isB L i [102, 97, 108, 115, 101]
  case true => rfl
  simp only [cond_false, s7 L hi, bind_some]
  cases isB L i [40]
  case true => rfl
  simp only [cond_false, s7 L hi, bind_some]
  cases isB L i [105, 102] <;> rfl
 rcases hk with hk | hk
 · simp only [r46, bf (show x.1 ≠ 2 by omega), bf (show x.1 ≠ 1 by omega), nbt hk, cond_false, hw, fin]
   rfl
 · simp only [r46, bf (show x.1 ≠ 2 by omega), bf (show x.1 ≠ 1 by omega), nbf (show x.1 ≠ 4 by omega), nbt hk, cond_false, cond_true, hw, fin]
   rfl)
end Go.Proofs.YtlobhcgbmpcdlaaGreatDoor.R
