import Derived.Test.YtlobhcgbmpcdlaaGreatDoorShwX
open Option (bind_some)
namespace Go.Proofs.YtlobhcgbmpcdlaaGreatDoor.R
open Go Go.Bm Go.Proofs
set_option linter.unusedVariables false
set_option linter.unusedSimpArgs false
set_option maxRecDepth 4000
abbrev RS : Type := List s4 × Int × Int × Int × Int
abbrev RV : Type := RS × List Nd
def isB (L : List s4) (i : Nat) (s : Str) : Bool := match nth L i with
 | some x => (x.1 == 4 || x.1 == 3) && (x.2.1 == s)
 | none => false
theorem z0 : ((0 : Int) != 0) = false := rfl
theorem b3y (L : List s4) (i : Nat) (o : Int) (s : Str) : c55 T.rf ((L, ((i : Nat) : Int), o, (0 : Int), (0 : Int)) : RS) s = some (((L, ((i : Nat) : Int), o, (0 : Int), (0 : Int)) : RS), isB L i s) := d5H (by
 by_cases h : i < L.length
 · have hx := b0Z h
   simp only [r55, z0, cond_false, df (show ¬ ((i : Nat) : Int) ≥ ((L.length : Nat) : Int) by omega), D1 (show (0 : Int) ≤ ((i : Nat) : Int) by omega) (show ((i : Nat) : Int) < ((L.length : Nat) : Int) by omega), cond_true, Int.toNat_natCast, hx, bind_some, isB]
   generalize L[i] = x
   cases x.1 == 4 <;> cases x.1 == 3 <;> rfl
 · have hx : nth L i = none := by rw [nth_getElem?]; exact List.getElem?_eq_none (by omega)
   simp only [r55, z0, cond_false, dt (show ((i : Nat) : Int) ≥ ((L.length : Nat) : Int) by omega), cond_true, isB, hx])
theorem E6 (L : List s4) {i : Nat} (hi : i ≤ 2000000000) (o : Int) (s : Str) : c54 T.rf ((L, ((i : Nat) : Int), o, (0 : Int), (0 : Int)) : RS) s = some (bif isB L i s then (((L, ((i + 1 : Nat) : Int), o, (0 : Int), (0 : Int)) : RS), true) else (((L, ((i : Nat) : Int), o, (0 : Int), (0 : Int)) : RS), false)) := d5G (by
 simp only [r54, b3y, bind_some, L1 (show i < 4611686018427387904 by omega)]
 cases isB L i s <;> rfl)
theorem c0u {L : List s4} {i : Nat} (hi : i ≤ 2000000000) (o : Int) {s : Str} (h : isB L i s = true) : c57 T.rf ((L, ((i : Nat) : Int), o, (0 : Int), (0 : Int)) : RS) s = some ((L, ((i + 1 : Nat) : Int), o, (0 : Int), (0 : Int)) : RS) := d5I (by
 simp only [r57, E6 L hi, h, cond_true, bind_some, Bool.not_true, cond_false])
noncomputable def rd (p : Nat) (r : RS) : Option RV := match p with
 | 1 => c36 T.rf r
 | 2 => c37 T.rf r
 | 3 => c38 T.rf r
 | 4 => c39 T.rf r
 | 5 => c40 T.rf r
 | 6 => c41 T.rf r
 | 7 => c42 T.rf r
 | 8 => c43 T.rf r
 | _ => c44 T.rf r
noncomputable def lp (l : Nat) (r : RS) (v : List Nd) : Option RV := match l with
 | 3 => k35 T.rb r v
 | 4 => k33 T.rb r v
 | 5 => k31 T.rb r v
 | 7 => k29 T.rb r v
 | _ => k27 T.rb r v
def opq (l : Nat) (L : List s4) (i : Nat) : Option Int := match l with
 | 3 => bif isB L i [115, 105, 110, 99, 101] then some 20 else none
 | 4 => bif isB L i [120, 111, 114] then some 8 else bif isB L i [111, 114] then some 7 else none
 | 5 => bif isB L i [97, 110, 100] then some 6 else none
 | 7 => bif isB L i [45] then some 15 else bif isB L i [43] then some 14 else none
 | _ => bif isB L i [109, 111, 100] then some 18 else bif isB L i [100, 105, 118] then some 17 else bif isB L i [42] then some 16 else none
def c0C (L : List s4) (i : Nat) : Option (Int × Bool) :=
 bif isB L i [61] then some (10, false) else bif isB L i [60, 62] then some (11, false) else bif isB L i [60] then some (12, false) else
 bif isB L i [60, 61] then some (13, false) else bif isB L i [62] then some (12, true) else bif isB L i [62, 61] then some (13, true) else none
def b5h (p : Nat) (L : List s4) (i : Nat) : Option Int := match p with
 | 1 => bif isB L i [45, 62] then some 19 else none
 | _ => bif isB L i [61, 62] then some 9 else none
def LA (l : Nat) : Prop := l = 3 ∨ l = 4 ∨ l = 5 ∨ l = 7 ∨ l = 8
theorem a2Z {α : Type} (x : Option α) : (x.bind fun y => some y) = x := by cases x <;> rfl
theorem c0s {l : Nat} (hl : LA l) {L : List s4} {i : Nat} (hi : i ≤ 2000000000) {o : Int} {v : List Nd} {y : RV} (h : (match opq l L i with
  | none => some (((L, ((i : Nat) : Int), o, (0 : Int), (0 : Int)) : RS), v)
  | some op => (rd (l + 1) ((L, ((i + 1 : Nat) : Int), o, (0 : Int), (0 : Int)) : RS)).bind fun y => (c61 T.rf y.1 op v y.2).bind fun z => lp l z.1 z.2) = some y) : lp l ((L, ((i : Nat) : Int), o, (0 : Int), (0 : Int)) : RS) v = some y := by
 have hw := L1 (show i < 4611686018427387904 by omega)
 rcases hl with rfl | rfl | rfl | rfl | rfl
 · refine d5k ?_
   rw [← h]
   simp only [b35, E6 L hi, bind_some, opq, rd, lp]
   cases isB L i [115, 105, 110, 99, 101] <;> rfl
 · refine d5j ?_
   rw [← h]
   simp only [b33, b3y, bind_some, opq, rd, lp, hw]
   cases isB L i [111, 114] <;> cases isB L i [120, 111, 114] <;> rfl
 · refine d5i ?_
   rw [← h]
   simp only [b31, E6 L hi, bind_some, opq, rd, lp]
   cases isB L i [97, 110, 100] <;> rfl
 · refine d5h ?_
   rw [← h]
   simp only [b29, b3y, bind_some, opq, rd, lp, hw]
   cases isB L i [43] <;> cases isB L i [45] <;> rfl
 · refine d5g ?_
   rw [← h]
   simp only [b27, b3y, bind_some, opq, rd, lp, hw]
   cases isB L i [42] <;> cases isB L i [100, 105, 118] <;> cases isB L i [109, 111, 100] <;> rfl
theorem c4Q {l : Nat} (hl : LA l) {r : RS} {z y : RV} (h1 : rd (l + 1) r = some z) (h2 : lp l z.1 z.2 = some y) : rd l r = some y := by
 rcases hl with rfl | rfl | rfl | rfl | rfl
 · simp only [rd, lp] at h1 h2
   exact d5s (by simp only [r38, h1, h2, bind_some])
 · simp only [rd, lp] at h1 h2
   exact d5t (by simp only [r39, h1, h2, bind_some])
 · simp only [rd, lp] at h1 h2
   exact d5u (by simp only [r40, h1, h2, bind_some])
 · simp only [rd, lp] at h1 h2
   exact d5w (by simp only [r42, h1, h2, bind_some])
 · simp only [rd, lp] at h1 h2
   exact d5x (by simp only [r43, h1, h2, bind_some])
theorem d6p {p : Nat} (hp : p = 1 ∨ p = 2) {r : RS} {L : List s4} {j : Nat} (hj : j ≤ 2000000000) {o : Int} {v : List Nd} {y : RV} (h1 : rd (p + 1) r = some (((L, ((j : Nat) : Int), o, (0 : Int), (0 : Int)) : RS), v)) (h2 : (match b5h p L j with
  | none => some (((L, ((j : Nat) : Int), o, (0 : Int), (0 : Int)) : RS), v)
  | some op => (rd p ((L, ((j + 1 : Nat) : Int), o, (0 : Int), (0 : Int)) : RS)).bind fun y => c61 T.rf y.1 op v y.2) = some y) : rd p r = some y := by
 rcases hp with rfl | rfl
 · simp only [rd] at h1
   refine d5q ?_
   rw [← h2]
   simp only [r36, h1, bind_some, E6 L hj, b5h, rd]
   cases isB L j [45, 62]
   · rfl
   · simp only [cond_true, a2Z]
 · simp only [rd] at h1
   refine d5r ?_
   rw [← h2]
   simp only [r37, h1, bind_some, E6 L hj, b5h, rd]
   cases isB L j [61, 62]
   · rfl
   · simp only [cond_true, a2Z]
theorem rd6 {r : RS} {L : List s4} {j : Nat} (hj : j ≤ 2000000000) {o : Int} {v : List Nd} {y : RV} (h1 : rd 7 r = some (((L, ((j : Nat) : Int), o, (0 : Int), (0 : Int)) : RS), v)) (h2 : (match c0C L j with
  | none => some (((L, ((j : Nat) : Int), o, (0 : Int), (0 : Int)) : RS), v)
  | some (op, sw) => (rd 7 ((L, ((j + 1 : Nat) : Int), o, (0 : Int), (0 : Int)) : RS)).bind fun y => c61 T.rf y.1 op (bif sw then y.2 else v) (bif sw then v else y.2)) = some y) : rd 6 r = some y := by
 simp only [rd] at h1
 refine d5v ?_
 rw [← h2]
 simp only [r41, h1, bind_some, E6 L hj, c0C, rd]
 cases isB L j [61]
 case true => simp only [cond_true, a2Z, cond_false]
 simp only [cond_false, bind_some, E6 L hj]
 cases isB L j [60, 62]
 case true => simp only [cond_true, a2Z, cond_false]
 simp only [cond_false, bind_some, E6 L hj]
 cases isB L j [60]
 case true => simp only [cond_true, a2Z, cond_false]
 simp only [cond_false, bind_some, E6 L hj]
 cases isB L j [60, 61]
 case true => simp only [cond_true, a2Z, cond_false]
 simp only [cond_false, bind_some, E6 L hj]
 cases isB L j [62]
 case true => simp only [cond_true, a2Z, cond_false]
 simp only [cond_false, bind_some, E6 L hj]
 cases isB L j [62, 61]
 case true => simp only [cond_true, a2Z, cond_false]
 rfl
noncomputable def c5v (L : List s4) (i : Nat) (o : Int) (u : Str) : Option RV :=
 (c58 T.rf u).bind fun (y5 : Int) =>
   bif y5 == 25 then
    c59 T.rf ((L, ((i : Nat) : Int), o, (0 : Int), (0 : Int)) : RS)
   else
   bif decide (y5 > 0) then
    (c44 T.rf ((L, ((i + 1 : Nat) : Int), o, (0 : Int), (0 : Int)) : RS)).bind fun (y7 : RV) =>
    bif y7.1.2.2.2.1 != 0 then
     some (y7.1, [])
    else
     (c47 T.rf y5 0 ([] : Str) [y7.2]).bind fun (y8 : List Nd) =>
     some (y7.1, y8)
   else
   bif isB L i [116, 114, 117, 101] then some (((L, ((i + 1 : Nat) : Int), o, (0 : Int), (0 : Int)) : RS), join 2 1 [] []) else
   bif isB L i [102, 97, 108, 115, 101] then some (((L, ((i + 1 : Nat) : Int), o, (0 : Int), (0 : Int)) : RS), join 2 0 [] []) else
   bif isB L i [40] then
    (c36 T.rf ((L, ((i + 1 : Nat) : Int), o, (0 : Int), (0 : Int)) : RS)).bind fun (y14 : RV) =>
    (c57 T.rf y14.1 ([41] : Str)).bind fun (y15 : RS) =>
    some (y15, y14.2)
   else
   bif isB L i [105, 102] then c60 T.rf ((L, ((i + 1 : Nat) : Int), o, (0 : Int), (0 : Int)) : RS) else
   c45 T.rf ((L, ((i : Nat) : Int), o, (0 : Int), (0 : Int)) : RS) 5
theorem jn2 (n : Int) : c47 T.rf 2 n ([] : Str) [] = some (join 2 n [] []) := b2G (by simp [total]) (by simp)
theorem b2b {L : List s4} {i : Nat} (hi : i ≤ 2000000000) {o : Int} {x : s4} (hk : x.1 = 4 ∨ x.1 = 3) {y : RV} (h : c5v L i o x.2.1 = some y) :
  c46 T.rf ((L, ((i : Nat) : Int), o, (0 : Int), (0 : Int)) : RS) x = some y := d5z (by
 rw [← h]
 have hw := L1 (show i < 4611686018427387904 by omega)
 have fin : ∀ z : Int, (bif z == 25 then
    (c59 T.rf ((L, ((i : Nat) : Int), o, (0 : Int), (0 : Int)) : RS)).bind fun (y6 : RV) => some y6
   else
   bif decide (z > 0) then
    (c44 T.rf ((L, ((i + 1 : Nat) : Int), o, (0 : Int), (0 : Int)) : RS)).bind fun (y7 : RV) =>
    bif y7.1.2.2.2.1 != 0 then
     some (y7.1, [])
    else
     (c47 T.rf z 0 ([] : Str) [y7.2]).bind fun (y8 : List Nd) =>
     some (y7.1, y8)
   else
    (c54 T.rf ((L, ((i : Nat) : Int), o, (0 : Int), (0 : Int)) : RS) ([116, 114, 117, 101] : Str)).bind fun (y9 : RS × Bool) =>
    bif y9.2 then
     (c47 T.rf 2 1 ([] : Str) []).bind fun (y10 : List Nd) =>
     some (y9.1, y10)
    else
     (c54 T.rf y9.1 ([102, 97, 108, 115, 101] : Str)).bind fun (y11 : RS × Bool) =>
     bif y11.2 then
      (c47 T.rf 2 0 ([] : Str) []).bind fun (y12 : List Nd) =>
      some (y11.1, y12)
     else
      (c54 T.rf y11.1 ([40] : Str)).bind fun (y13 : RS × Bool) =>
      bif y13.2 then
       (c36 T.rf y13.1).bind fun (y14 : RV) =>
       (c57 T.rf y14.1 ([41] : Str)).bind fun (y15 : RS) =>
       some (y15, y14.2)
      else
       (c54 T.rf y13.1 ([105, 102] : Str)).bind fun (y16 : RS × Bool) =>
       bif y16.2 then
        (c60 T.rf y16.1).bind fun (y17 : RV) =>
        some y17
       else
        (c45 T.rf y16.1 5).bind fun (y18 : RV) =>
        some y18) = (bif z == 25 then
    c59 T.rf ((L, ((i : Nat) : Int), o, (0 : Int), (0 : Int)) : RS)
   else
   bif decide (z > 0) then
    (c44 T.rf ((L, ((i + 1 : Nat) : Int), o, (0 : Int), (0 : Int)) : RS)).bind fun (y7 : RV) =>
    bif y7.1.2.2.2.1 != 0 then
     some (y7.1, [])
    else
     (c47 T.rf z 0 ([] : Str) [y7.2]).bind fun (y8 : List Nd) =>
     some (y7.1, y8)
   else
   bif isB L i [116, 114, 117, 101] then some (((L, ((i + 1 : Nat) : Int), o, (0 : Int), (0 : Int)) : RS), join 2 1 [] []) else
   bif isB L i [102, 97, 108, 115, 101] then some (((L, ((i + 1 : Nat) : Int), o, (0 : Int), (0 : Int)) : RS), join 2 0 [] []) else
   bif isB L i [40] then
    (c36 T.rf ((L, ((i + 1 : Nat) : Int), o, (0 : Int), (0 : Int)) : RS)).bind fun (y14 : RV) =>
    (c57 T.rf y14.1 ([41] : Str)).bind fun (y15 : RS) =>
    some (y15, y14.2)
   else
   bif isB L i [105, 102] then c60 T.rf ((L, ((i + 1 : Nat) : Int), o, (0 : Int), (0 : Int)) : RS) else
   c45 T.rf ((L, ((i : Nat) : Int), o, (0 : Int), (0 : Int)) : RS) 5) := by
  intro z
  simp only [a2Z, E6 L hi, bind_some, jn2]
  cases isB L i [116, 114, 117, 101]
  case true => rfl
  simp only [cond_false, E6 L hi, bind_some]
  cases isB L i [102, 97, 108, 115, 101]
  case true => rfl
  simp only [cond_false, E6 L hi, bind_some]
  cases isB L i [40]
  case true => rfl
  simp only [cond_false, E6 L hi, bind_some]
  cases isB L i [105, 102] <;> rfl
 rcases hk with hk | hk
 · simp only [r46, bf (show x.1 ≠ 2 by omega), bf (show x.1 ≠ 1 by omega), nbt hk, cond_false, hw, fin]
   rfl
 · simp only [r46, bf (show x.1 ≠ 2 by omega), bf (show x.1 ≠ 1 by omega), nbf (show x.1 ≠ 4 by omega), nbt hk, cond_false, cond_true, hw, fin]
   rfl)
end Go.Proofs.YtlobhcgbmpcdlaaGreatDoor.R
