import Derived.Test.YtadonikkibahnaaGreatResPA
namespace Go.Proofs.YtadonikkibahnaaGreat.R
open Go Go.Bm Go.Proofs
set_option linter.unusedVariables false
set_option linter.unusedSimpArgs false
set_option maxRecDepth 100000
noncomputable def b59 (rf : T.RF) (rb : T.RB) (d1 : XN) (d2 : XN) (d3 : Int) : Option (XN × XN × Bool) :=
 bif d1.1 == 3 then
  bif decide (d1.1 ≥ 1) then
   bif decide (d1.1 ≤ 28) then
   bif (d1.1 == d2.1) && ((d1.2.1 == d2.2.1) && ((d1.2.2.1 == d2.2.2.1) && ((d1.2.2.2.1 == d2.2.2.2.1) && ((d1.2.2.2.2.1 == d2.2.2.2.2.1) && (d1.2.2.2.2.2 == d2.2.2.2.2.2))))) then
   bif decide (d1.2.2.2.2.1 ≥ 0) then
   bif decide (d1.2.2.2.2.1 ≤ d3) then
   some (d1, d2, (!(d1.2.2.2.2.2 == ([] : List UInt8))) == true)
   else
   some (d1, d2, false)
   else
   some (d1, d2, false)
   else
   some (d1, d2, false)
   else
   some (d1, d2, false)
  else
   some (d1, d2, false)
 else
 bif decide (d1.1 ≥ 1) then
  bif decide (d1.1 ≤ 28) then
   bif (d1.1 == d2.1) && ((d1.2.1 == d2.2.1) && ((d1.2.2.1 == d2.2.2.1) && ((d1.2.2.2.1 == d2.2.2.2.1) && ((d1.2.2.2.2.1 == d2.2.2.2.2.1) && (d1.2.2.2.2.2 == d2.2.2.2.2.2))))) then
   bif decide (d1.2.2.2.2.1 ≥ 0) then
   bif decide (d1.2.2.2.2.1 ≤ d3) then
   some (d1, d2, (!(d1.2.2.2.2.2 == ([] : List UInt8))) == (d1.1 == 27))
   else
   some (d1, d2, false)
   else
   some (d1, d2, false)
   else
   some (d1, d2, false)
  else
   some (d1, d2, false)
 else
  some (d1, d2, false)
theorem eb59 (rf : T.RF) (rb : T.RB) (d1 : XN) (d2 : XN) (d3 : Int) : T.stepB rf rb 59 (d1, d2, d3) = b59 rf rb d1 d2 d3 := by kernel_rfl
noncomputable def r48 (rf : T.RF) (rb : T.RB) (d1 : XN) : Option Bool :=
 bif d1.1 == 1 then
  (k58 rb d1 2147483647).bind fun (z1 : XN × Bool) =>
  some z1.2
 else
 bif d1.1 == 2 then
  (k58 rb d1 1).bind fun (z2 : XN × Bool) =>
  some z2.2
 else
 bif d1.1 == 25 then
  (k58 rb d1 1000).bind fun (z3 : XN × Bool) =>
  some z3.2
 else
  (k58 rb d1 0).bind fun (z4 : XN × Bool) =>
  some z4.2
theorem er48 (rf : T.RF) (rb : T.RB) (d1 : XN) : T.stepF rf rb 48 d1 = r48 rf rb d1 := by kernel_rfl
noncomputable def b61 (rf : T.RF) (rb : T.RB) (d1 : List Bool) (d2 : Bool) (d3 : Int) (d4 : Int) : Option (Int ⊕ Unit) :=
 bif decide (d4 < d3) then
  bif inb d4 d1.length then
   (nth d1 d4.toNat).bind fun (x1 : Bool) =>
   bif d2 == x1 then
   some (.inl d4)
   else
   k61 rb d1 d2 d3 (IntKind.i64.wrap (d4 + 1))
  else
   none
 else
  some (.inr ())
theorem eb61 (rf : T.RF) (rb : T.RB) (d1 : List Bool) (d2 : Bool) (d3 : Int) (d4 : Int) : T.stepB rf rb 61 (d1, d2, d3, d4) = b61 rf rb d1 d2 d3 d4 := by kernel_rfl
noncomputable def r52 (rf : T.RF) (rb : T.RB) (d1 : List Bool) (d2 : Bool) : Option Int :=
 (k61 rb d1 d2 (((d1.length : Nat) : Int)) 0).bind fun (z1 : Int ⊕ Unit) =>
 match z1 with
 | .inl u2 =>
   some u2
 | .inr w3 =>
   some (-1)
theorem er52 (rf : T.RF) (rb : T.RB) (d1 : List Bool) (d2 : Bool) : T.stepF rf rb 52 (d1, d2) = r52 rf rb d1 d2 := by kernel_rfl
noncomputable def r51 (rf : T.RF) (rb : T.RB) (d1 : List Bool) (d2 : Bool) : Option Bool :=
 (c52 rf d1 d2).bind fun (y1 : Int) =>
 some (decide (y1 ≥ 0))
theorem er51 (rf : T.RF) (rb : T.RB) (d1 : List Bool) (d2 : Bool) : T.stepF rf rb 51 (d1, d2) = r51 rf rb d1 d2 := by kernel_rfl
noncomputable def b68 (rf : T.RF) (rb : T.RB) (d1 : List Int) (d2 : XL) (d3 : Int) (d4 : Int) : Option (List Int) :=
 bif decide (d4 < d3) then
  bif inb d4 d2.length then
   (nth d2 d4.toNat).bind fun (x1 : XN) =>
   (c49 rf x1).bind fun (y2 : List Int) =>
   (k69 rb d1 y2 d4 (((y2.length : Nat) : Int)) 0).bind fun (z3 : List Int × List Int) =>
   bif inb d4 z3.1.length then
   (nth z3.1 d4.toNat).bind fun (x4 : Int) =>
   bif inb d4 z3.1.length then
   bif Nat.blt d4.toNat z3.1.length then
   k68 rb (setNth z3.1 d4.toNat (IntKind.i64.wrap (x4 + 1))) d2 d3 (IntKind.i64.wrap (d4 + 1))
   else
   none
   else
   none
   else
   none
  else
   none
 else
  some d1
theorem eb68 (rf : T.RF) (rb : T.RB) (d1 : List Int) (d2 : XL) (d3 : Int) (d4 : Int) : T.stepB rf rb 68 (d1, d2, d3, d4) = b68 rf rb d1 d2 d3 d4 := by kernel_rfl
noncomputable def b69q (rf : T.RF) (rb : T.RB) (d1 : List Int) (d2 : List Int) (d3 : Int) (d4 : Int) (d5 : Int) : Option (List Int × List Int) :=
 bif decide (d5 < d4) then
  bif inb d5 d2.length then
   (nth d2 d5.toNat).bind fun (x1 : Int) =>
   bif decide (x1 ≥ 0) then
   bif decide (x1 < d3) then
   bif inb d3 d1.length then
   bif inb x1 d1.length then
   agree (
   (nth d1 d3.toNat).bind fun (x2 : Int) =>
   (nth d1 x1.toNat).bind fun (x3 : Int) =>
   bif inb d3 d1.length then
   bif Nat.blt d3.toNat d1.length then
   k69 rb (setNth d1 d3.toNat (if x3 > x2 then x3 else x2)) d2 d3 d4 (IntKind.i64.wrap (d5 + 1))
   else
   none
   else
   none
   ) (
   (nth d1 x1.toNat).bind fun (x2 : Int) =>
   (nth d1 d3.toNat).bind fun (x3 : Int) =>
   bif inb d3 d1.length then
   bif Nat.blt d3.toNat d1.length then
   k69 rb (setNth d1 d3.toNat (if x2 > x3 then x2 else x3)) d2 d3 d4 (IntKind.i64.wrap (d5 + 1))
   else
   none
   else
   none
   )
   else
   none
   else
   none
   else
   k69 rb d1 d2 d3 d4 (IntKind.i64.wrap (d5 + 1))
   else
   k69 rb d1 d2 d3 d4 (IntKind.i64.wrap (d5 + 1))
  else
   none
 else
  some (d1, d2)
noncomputable def b69 (rf : T.RF) (rb : T.RB) (d1 : List Int) (d2 : List Int) (d3 : Int) (d4 : Int) (d5 : Int) : Option (List Int × List Int) :=
 bif decide (d5 < d4) then
  bif inb d5 d2.length then
   (nth d2 d5.toNat).bind fun (x1 : Int) =>
   bif decide (x1 ≥ 0) then
   bif decide (x1 < d3) then
   bif inb d3 d1.length then
   bif inb x1 d1.length then
   (nth d1 d3.toNat).bind fun (x2 : Int) =>
   (nth d1 x1.toNat).bind fun (x3 : Int) =>
   bif inb d3 d1.length then
   bif Nat.blt d3.toNat d1.length then
   k69 rb (setNth d1 d3.toNat (if x3 > x2 then x3 else x2)) d2 d3 d4 (IntKind.i64.wrap (d5 + 1))
   else
   none
   else
   none
   else
   none
   else
   none
   else
   k69 rb d1 d2 d3 d4 (IntKind.i64.wrap (d5 + 1))
   else
   k69 rb d1 d2 d3 d4 (IntKind.i64.wrap (d5 + 1))
  else
   none
 else
  some (d1, d2)
theorem eb69 (rf : T.RF) (rb : T.RB) (d1 : List Int) (d2 : List Int) (d3 : Int) (d4 : Int) (d5 : Int) : T.stepB rf rb 69 (d1, d2, d3, d4, d5) = b69q rf rb d1 d2 d3 d4 d5 := by kernel_rfl
theorem sb69 (rf : T.RF) (rb : T.RB) (d1 : List Int) (d2 : List Int) (d3 : Int) (d4 : Int) (d5 : Int) : b69q rf rb d1 d2 d3 d4 d5 = b69 rf rb d1 d2 d3 d4 d5 := by
 unfold b69q b69; simp only [agN_eq, agree_self, agree_swap]
noncomputable def r54 (rf : T.RF) (rb : T.RB) (d1 : XL) : Option (List Int) :=
 bif inb' (((d1.length : Nat) : Int)) most then
  bif inb' (((d1.length : Nat) : Int)) d1.length then
   (k68 rb (List.replicate d1.length (0 : Int)) d1 (((d1.length : Nat) : Int)) 0).bind fun (z1 : List Int) =>
   some z1
  else
   none
 else
  none
theorem er54 (rf : T.RF) (rb : T.RB) (d1 : XL) : T.stepF rf rb 54 d1 = r54 rf rb d1 := by kernel_rfl
noncomputable def r53 (rf : T.RF) (rb : T.RB) (d1 : XL) : Option Int :=
 bif (((d1.length : Nat) : Int)) == 0 then
  some 0
 else
  (c54 rf d1).bind fun (y1 : List Int) =>
  bif inb (IntKind.i64.wrap ((((d1.length : Nat) : Int)) - 1)) y1.length then
   (nth y1 (IntKind.i64.wrap ((((d1.length : Nat) : Int)) - 1)).toNat).bind fun (x2 : Int) =>
   some x2
  else
   none
theorem er53 (rf : T.RF) (rb : T.RB) (d1 : XL) : T.stepF rf rb 53 d1 = r53 rf rb d1 := by kernel_rfl
noncomputable def b57 (rf : T.RF) (rb : T.RB) (d1 : List Bool) (d2 : XL) (d3 : XL) (d4 : Int) (d5 : Int) : Option ((List Bool × Bool) ⊕ (List Bool)) :=
 bif decide (d5 < d4) then
  bif inb d5 d3.length then
   (nth d3 d5.toNat).bind fun (x1 : XN) =>
   (c48 rf x1).bind fun (y2 : Bool) =>
   bif !y2 then
    some (.inl (d1, false))
   else
    (c49 rf x1).bind fun (y3 : List Int) =>
    (k60 rb d1 x1 y3 d2 d5 (((y3.length : Nat) : Int)) 0).bind fun (z4 : (List Bool × XN × List Int × Bool) ⊕ (List Bool × XN × List Int)) =>
    match z4 with
    | .inl u5 =>
      some (.inl (u5.1, u5.2.2.2))
    | .inr w6 =>
      k57 rb w6.1 d2 d3 d4 (IntKind.i64.wrap (d5 + 1))
  else
   none
 else
  some (.inr d1)
theorem eb57 (rf : T.RF) (rb : T.RB) (d1 : List Bool) (d2 : XL) (d3 : XL) (d4 : Int) (d5 : Int) : T.stepB rf rb 57 (d1, d2, d3, d4, d5) = b57 rf rb d1 d2 d3 d4 d5 := by kernel_rfl
noncomputable def b60 (rf : T.RF) (rb : T.RB) (d1 : List Bool) (d2 : XN) (d3 : List Int) (d4 : XL) (d5 : Int) (d6 : Int) (d7 : Int) : Option ((List Bool × XN × List Int × Bool) ⊕ (List Bool × XN × List Int)) :=
 bif decide (d7 < d6) then
  bif inb d7 d3.length then
   (nth d3 d7.toNat).bind fun (x1 : Int) =>
   bif decide (x1 < 0) then
   some (.inl (d1, d2, d3, false))
   else
   bif decide (x1 ≥ d5) then
   some (.inl (d1, d2, d3, false))
   else
   bif inb x1 d1.length then
   (nth d1 x1.toNat).bind fun (x2 : Bool) =>
   bif x2 then
   some (.inl (d1, d2, d3, false))
   else
   bif inb x1 d1.length then
   bif Nat.blt x1.toNat d1.length then
   bif d2.1 == 27 then
   bif inb x1 d4.length then
   (nth d4 x1.toNat).bind fun (x3 : XN) =>
   bif !((x3.1 == 28) == true) then
   some (.inl (setNth d1 x1.toNat true, d2, d3, false))
   else
   k60 rb (setNth d1 x1.toNat true) d2 d3 d4 d5 d6 (IntKind.i64.wrap (d7 + 1))
   else
   none
   else
   bif d2.1 == 28 then
   bif d2.2.2.1 != (-1) then
   bif inb x1 d4.length then
   (nth d4 x1.toNat).bind fun (x4 : XN) =>
   bif !((x4.1 == 28) == (d7 == 0)) then
   some (.inl (setNth d1 x1.toNat true, d2, d3, false))
   else
   k60 rb (setNth d1 x1.toNat true) d2 d3 d4 d5 d6 (IntKind.i64.wrap (d7 + 1))
   else
   none
   else
   bif inb x1 d4.length then
   (nth d4 x1.toNat).bind fun (x5 : XN) =>
   bif !((x5.1 == 28) == false) then
   some (.inl (setNth d1 x1.toNat true, d2, d3, false))
   else
   k60 rb (setNth d1 x1.toNat true) d2 d3 d4 d5 d6 (IntKind.i64.wrap (d7 + 1))
   else
   none
   else
   bif inb x1 d4.length then
   (nth d4 x1.toNat).bind fun (x6 : XN) =>
   bif !((x6.1 == 28) == false) then
   some (.inl (setNth d1 x1.toNat true, d2, d3, false))
   else
   k60 rb (setNth d1 x1.toNat true) d2 d3 d4 d5 d6 (IntKind.i64.wrap (d7 + 1))
   else
   none
   else
   none
   else
   none
   else
   none
  else
   none
 else
  some (.inr (d1, d2, d3))
theorem eb60 (rf : T.RF) (rb : T.RB) (d1 : List Bool) (d2 : XN) (d3 : List Int) (d4 : XL) (d5 : Int) (d6 : Int) (d7 : Int) : T.stepB rf rb 60 (d1, d2, d3, d4, d5, d6, d7) = b60 rf rb d1 d2 d3 d4 d5 d6 d7 := by kernel_rfl
noncomputable def r47 (rf : T.RF) (rb : T.RB) (d1 : XL) : Option Bool :=
 bif (((d1.length : Nat) : Int)) == 0 then
  some false
 else
 bif decide ((((d1.length : Nat) : Int)) > 5000) then
  some false
 else
 bif inb (IntKind.i64.wrap ((((d1.length : Nat) : Int)) - 1)) d1.length then
  (nth d1 (IntKind.i64.wrap ((((d1.length : Nat) : Int)) - 1)).toNat).bind fun (x1 : XN) =>
  bif x1.1 == 28 then
   some false
  else
  bif inb' (((d1.length : Nat) : Int)) most then
   bif inb' (((d1.length : Nat) : Int)) d1.length then
    (k57 rb (List.replicate d1.length false) d1 d1 (((d1.length : Nat) : Int)) 0).bind fun (z2 : (List Bool × Bool) ⊕ (List Bool)) =>
    match z2 with
    | .inl u3 =>
      some u3.2
    | .inr w4 =>
      bif inb' (IntKind.i64.wrap ((((d1.length : Nat) : Int)) - 1)) w4.length then
       (c51 rf (sub w4 (some (0, ((IntKind.i64.wrap ((((d1.length : Nat) : Int)) - 1)).toNat - 0)))) false).bind fun (y5 : Bool) =>
       bif !y5 then
        (c53 rf d1).bind fun (y6 : Int) =>
        some (decide (y6 ≤ 40))
       else
        some false
      else
       none
   else
    none
  else
   none
 else
  none
theorem er47 (rf : T.RF) (rb : T.RB) (d1 : XL) : T.stepF rf rb 47 d1 = r47 rf rb d1 := by kernel_rfl
noncomputable def r55 (rf : T.RF) (rb : T.RB) (d1 : XL) : Option XL :=
 some d1
theorem er55 (rf : T.RF) (rb : T.RB) (d1 : XL) : T.stepF rf rb 55 d1 = r55 rf rb d1 := by kernel_rfl
noncomputable def r56 (rf : T.RF) (rb : T.RB) (d1 : XN) : Option (Int ⊕ Int ⊕ (Int × Int) ⊕ Int ⊕ Unit) :=
 bif d1.1 == 22 then
  some (.inl 0)
 else
 bif d1.1 == 23 then
  some (.inr (.inl 0))
 else
 bif d1.1 == 25 then
  some (.inr (.inr (.inl (0, d1.2.2.2.2.1))))
 else
 bif d1.1 == 20 then
  some (.inr (.inr (.inr (.inl 0))))
 else
  some (.inr (.inr (.inr (.inr ()))))
theorem er56 (rf : T.RF) (rb : T.RB) (d1 : XN) : T.stepF rf rb 56 d1 = r56 rf rb d1 := by kernel_rfl
noncomputable def b161 (rf : T.RF) (rb : T.RB) (d1 : XL) (d2 : List Int) (d3 : XL) (d4 : Int) (d5 : Int) : Option (List Int × XL) :=
 bif decide (d5 < d4) then
  bif inb d5 d2.length then
   (nth d2 d5.toNat).bind fun (x1 : Int) =>
   (c60 rf d1 d3 x1).bind fun (y2 : XL) =>
   bif inb d5 d2.length then
   bif Nat.blt d5.toNat d2.length then
   k161 rb y2 (setNth d2 d5.toNat (IntKind.i64.wrap ((((y2.length : Nat) : Int)) - 1))) d3 d4 (IntKind.i64.wrap (d5 + 1))
   else
   none
   else
   none
  else
   none
 else
  some (d2, d1)
theorem eb161 (rf : T.RF) (rb : T.RB) (d1 : XL) (d2 : List Int) (d3 : XL) (d4 : Int) (d5 : Int) : T.stepB rf rb 161 (d1, d2, d3, d4, d5) = b161 rf rb d1 d2 d3 d4 d5 := by kernel_rfl
noncomputable def r60 (rf : T.RF) (rb : T.RB) (d1 : XL) (d2 : XL) (d3 : Int) : Option XL :=
 bif inb d3 d2.length then
  (nth d2 d3.toNat).bind fun (x1 : XN) =>
  (c49 rf x1).bind fun (y2 : List Int) =>
  (k161 rb d1 y2 d2 (((y2.length : Nat) : Int)) 0).bind fun (z3 : List Int × XL) =>
  bif inb d3 d2.length then
   (nth d2 d3.toNat).bind fun (x4 : XN) =>
   (c50 rf x4 z3.1).bind fun (y5 : XN) =>
   bif (Nat.ble (z3.2.length + 1) most) && true then
   some (z3.2 ++ [y5])
   else
   none
  else
   none
 else
  none
theorem er60 (rf : T.RF) (rb : T.RB) (d1 : XL) (d2 : XL) (d3 : Int) : T.stepF rf rb 60 (d1, d2, d3) = r60 rf rb d1 d2 d3 := by kernel_rfl
noncomputable def r59 (rf : T.RF) (rb : T.RB) (d1 : XL) (d2 : Int) : Option XL :=
 bif decide (d2 < 0) then
  some []
 else
 bif decide (d2 ≥ (((d1.length : Nat) : Int))) then
  some []
 else
  (c47 rf d1).bind fun (y1 : Bool) =>
  bif !y1 then
   some []
  else
   (c60 rf [] d1 d2).bind fun (y2 : XL) =>
   some y2
theorem er59 (rf : T.RF) (rb : T.RB) (d1 : XL) (d2 : Int) : T.stepF rf rb 59 (d1, d2) = r59 rf rb d1 d2 := by kernel_rfl
noncomputable def b162 (rf : T.RF) (rb : T.RB) (d1 : List (List UInt8)) (d2 : List UInt8) (d3 : Int) (d4 : Int) : Option ((List (List UInt8) × Int) ⊕ (List (List UInt8))) :=
 bif decide (d4 < d3) then
  bif inb d4 d1.length then
   (nth d1 d4.toNat).bind fun (x1 : List UInt8) =>
   bif d2 == x1 then
   some (.inl (d1, d4))
   else
   k162 rb d1 d2 d3 (IntKind.i64.wrap (d4 + 1))
  else
   none
 else
  some (.inr d1)
theorem eb162 (rf : T.RF) (rb : T.RB) (d1 : List (List UInt8)) (d2 : List UInt8) (d3 : Int) (d4 : Int) : T.stepB rf rb 162 (d1, d2, d3, d4) = b162 rf rb d1 d2 d3 d4 := by kernel_rfl
noncomputable def r63 (rf : T.RF) (rb : T.RB) (d1 : List (List UInt8)) (d2 : List UInt8) : Option (List (List UInt8) × Int) :=
 (k162 rb d1 d2 (((d1.length : Nat) : Int)) 0).bind fun (z1 : (List (List UInt8) × Int) ⊕ (List (List UInt8))) =>
 match z1 with
 | .inl u2 =>
   some u2
 | .inr w3 =>
   some (w3, (-1))
theorem er63 (rf : T.RF) (rb : T.RB) (d1 : List (List UInt8)) (d2 : List UInt8) : T.stepF rf rb 63 (d1, d2) = r63 rf rb d1 d2 := by kernel_rfl
noncomputable def r62 (rf : T.RF) (rb : T.RB) (d1 : List (List UInt8)) (d2 : List UInt8) : Option (List (List UInt8) × Bool) :=
 (c63 rf d1 d2).bind fun (y1 : List (List UInt8) × Int) =>
 some (y1.1, decide (y1.2 ≥ 0))
theorem er62 (rf : T.RF) (rb : T.RB) (d1 : List (List UInt8)) (d2 : List UInt8) : T.stepF rf rb 62 (d1, d2) = r62 rf rb d1 d2 := by kernel_rfl
noncomputable def b164 (rf : T.RF) (rb : T.RB) (d1 : List Int) (d2 : XL) (d3 : List (List UInt8)) (d4 : Int) (d5 : Int) : Option (List Int × XL × List (List UInt8)) :=
 bif decide (d5 < d4) then
  bif inb d5 d1.length then
   (nth d1 d5.toNat).bind fun (x1 : Int) =>
   (c61 rf d2 d3 x1).bind fun (y2 : (XL × List (List UInt8)) ⊕ (XL × List (List UInt8))) =>
   match y2 with
   | .inl u3 =>
     k164 rb d1 u3.1 u3.2 d4 (IntKind.i64.wrap (d5 + 1))
   | .inr w4 =>
     k164 rb d1 w4.1 w4.2 d4 (IntKind.i64.wrap (d5 + 1))
  else
   none
 else
  some (d1, d2, d3)
theorem eb164 (rf : T.RF) (rb : T.RB) (d1 : List Int) (d2 : XL) (d3 : List (List UInt8)) (d4 : Int) (d5 : Int) : T.stepB rf rb 164 (d1, d2, d3, d4, d5) = b164 rf rb d1 d2 d3 d4 d5 := by kernel_rfl
noncomputable def r61 (rf : T.RF) (rb : T.RB) (d1 : XL) (d2 : List (List UInt8)) (d3 : Int) : Option ((XL × List (List UInt8)) ⊕ (XL × List (List UInt8))) :=
 bif inb d3 d1.length then
  (nth d1 d3.toNat).bind fun (x1 : XN) =>
  bif x1.1 == 21 then
   bif x1.1 == 21 then
   some (.inl (d1, d2))
   else
   bif x1.1 == 3 then
   (c62 rf d2 x1.2.2.2.2.2).bind fun (y2 : List (List UInt8) × Bool) =>
   bif !y2.2 then
   bif (Nat.ble (y2.1.length + 1) most) && true then
   some (.inr (d1, y2.1 ++ [x1.2.2.2.2.2]))
   else
   none
   else
   some (.inl (d1, y2.1))
   else
   (c49 rf x1).bind fun (y3 : List Int) =>
   (k164 rb y3 d1 d2 (((y3.length : Nat) : Int)) 0).bind fun (z4 : List Int × XL × List (List UInt8)) =>
   some (.inr z4.2)
  else
  bif x1.1 == 24 then
   some (.inl (d1, d2))
  else
  bif x1.1 == 3 then
   (c62 rf d2 x1.2.2.2.2.2).bind fun (y5 : List (List UInt8) × Bool) =>
   bif !y5.2 then
   bif (Nat.ble (y5.1.length + 1) most) && true then
   some (.inr (d1, y5.1 ++ [x1.2.2.2.2.2]))
   else
   none
   else
   some (.inl (d1, y5.1))
  else
   (c49 rf x1).bind fun (y6 : List Int) =>
   (k164 rb y6 d1 d2 (((y6.length : Nat) : Int)) 0).bind fun (z7 : List Int × XL × List (List UInt8)) =>
   some (.inr z7.2)
 else
  none
theorem er61 (rf : T.RF) (rb : T.RB) (d1 : XL) (d2 : List (List UInt8)) (d3 : Int) : T.stepF rf rb 61 (d1, d2, d3) = r61 rf rb d1 d2 d3 := by kernel_rfl
noncomputable def r58 (rf : T.RF) (rb : T.RB) (d1 : XL) : Option (List (List UInt8)) :=
 (c59 rf d1 (IntKind.i64.wrap ((((d1.length : Nat) : Int)) - 1))).bind fun (y1 : XL) =>
 bif decide ((((y1.length : Nat) : Int)) > 0) then
  (c61 rf y1 [] (IntKind.i64.wrap ((((y1.length : Nat) : Int)) - 1))).bind fun (y2 : (XL × List (List UInt8)) ⊕ (XL × List (List UInt8))) =>
  match y2 with
  | .inl u3 =>
    some u3.2
  | .inr w4 =>
    some w4.2
 else
  some []
theorem er58 (rf : T.RF) (rb : T.RB) (d1 : XL) : T.stepF rf rb 58 d1 = r58 rf rb d1 := by kernel_rfl
noncomputable def r65q (rf : T.RF) (rb : T.RB) (d1 : List Int) (d2 : Int) : Option (List Int) :=
 agN 2 (
  bif (Nat.ble (d1.length + 1) most) && true then
   some (d1 ++ [d2])
  else
   none
 )
noncomputable def r65 (rf : T.RF) (rb : T.RB) (d1 : List Int) (d2 : Int) : Option (List Int) :=
 bif (Nat.ble (d1.length + 1) most) && true then
  some (d1 ++ [d2])
 else
  none
theorem er65 (rf : T.RF) (rb : T.RB) (d1 : List Int) (d2 : Int) : T.stepF rf rb 65 (d1, d2) = r65q rf rb d1 d2 := by kernel_rfl
theorem sr65 (rf : T.RF) (rb : T.RB) (d1 : List Int) (d2 : Int) : r65q rf rb d1 d2 = r65 rf rb d1 d2 := by
 unfold r65q r65; simp only [agN_eq, agree_self, agree_swap]
noncomputable def r66 (rf : T.RF) (rb : T.RB) (d1 : List Int) : Option (List Int × Int) :=
 some (d1, ((d1.length : Nat) : Int))
theorem er66 (rf : T.RF) (rb : T.RB) (d1 : List Int) : T.stepF rf rb 66 d1 = r66 rf rb d1 := by kernel_rfl
noncomputable def r68 (rf : T.RF) (rb : T.RB) (d1 : List Int) (d2 : Int) (d3 : Int) : Option (List Int × Bool) :=
 bif inb d2 d1.length then
  (nth d1 d2.toNat).bind fun (x1 : Int) =>
  bif inb d3 d1.length then
   (nth d1 d3.toNat).bind fun (x2 : Int) =>
   some (d1, decide (x1 < x2))
  else
   none
 else
  none
theorem er68 (rf : T.RF) (rb : T.RB) (d1 : List Int) (d2 : Int) (d3 : Int) : T.stepF rf rb 68 (d1, d2, d3) = r68 rf rb d1 d2 d3 := by kernel_rfl
noncomputable def r69q (rf : T.RF) (rb : T.RB) (d1 : List Int) (d2 : Int) (d3 : Int) : Option (List Int) :=
 bif inb d3 d1.length then
  bif inb d2 d1.length then
   agree (
   (nth d1 d3.toNat).bind fun (x1 : Int) =>
   (nth d1 d2.toNat).bind fun (x2 : Int) =>
   bif inb d2 d1.length then
   bif Nat.blt d2.toNat d1.length then
   bif inb d3 (setNth d1 d2.toNat x1).length then
   bif Nat.blt d3.toNat (setNth d1 d2.toNat x1).length then
   some (setNth (setNth d1 d2.toNat x1) d3.toNat x2)
   else
   none
   else
   none
   else
   none
   else
   none
   ) (
   (nth d1 d2.toNat).bind fun (x1 : Int) =>
   (nth d1 d3.toNat).bind fun (x2 : Int) =>
   bif inb d2 d1.length then
   bif Nat.blt d2.toNat d1.length then
   bif inb d3 (setNth d1 d2.toNat x2).length then
   bif Nat.blt d3.toNat (setNth d1 d2.toNat x2).length then
   some (setNth (setNth d1 d2.toNat x2) d3.toNat x1)
   else
   none
   else
   none
   else
   none
   else
   none
   )
  else
   none
 else
  none
noncomputable def r69 (rf : T.RF) (rb : T.RB) (d1 : List Int) (d2 : Int) (d3 : Int) : Option (List Int) :=
 bif inb d3 d1.length then
  bif inb d2 d1.length then
   (nth d1 d3.toNat).bind fun (x1 : Int) =>
   (nth d1 d2.toNat).bind fun (x2 : Int) =>
   bif inb d2 d1.length then
   bif Nat.blt d2.toNat d1.length then
   bif inb d3 (setNth d1 d2.toNat x1).length then
   bif Nat.blt d3.toNat (setNth d1 d2.toNat x1).length then
   some (setNth (setNth d1 d2.toNat x1) d3.toNat x2)
   else
   none
   else
   none
   else
   none
   else
   none
  else
   none
 else
  none
theorem er69 (rf : T.RF) (rb : T.RB) (d1 : List Int) (d2 : Int) (d3 : Int) : T.stepF rf rb 69 (d1, d2, d3) = r69q rf rb d1 d2 d3 := by kernel_rfl
theorem sr69 (rf : T.RF) (rb : T.RB) (d1 : List Int) (d2 : Int) (d3 : Int) : r69q rf rb d1 d2 d3 = r69 rf rb d1 d2 d3 := by
 unfold r69q r69; simp only [agN_eq, agree_self, agree_swap]
noncomputable def b171 (rf : T.RF) (rb : T.RB) (d1 : List Int) (d2 : Int) : Option (List Int) :=
 bif (IntKind.i64.wrap (Int.tdiv (IntKind.i64.wrap (d2 - 1)) 2)) == d2 then
  some d1
 else
  (c68 rf d1 d2 (IntKind.i64.wrap (Int.tdiv (IntKind.i64.wrap (d2 - 1)) 2))).bind fun (y1 : List Int × Bool) =>
  bif !y1.2 then
   some y1.1
  else
   (c69 rf y1.1 (IntKind.i64.wrap (Int.tdiv (IntKind.i64.wrap (d2 - 1)) 2)) d2).bind fun (y2 : List Int) =>
   k171 rb y2 (IntKind.i64.wrap (Int.tdiv (IntKind.i64.wrap (d2 - 1)) 2))
theorem eb171 (rf : T.RF) (rb : T.RB) (d1 : List Int) (d2 : Int) : T.stepB rf rb 171 (d1, d2) = b171 rf rb d1 d2 := by kernel_rfl
noncomputable def r67 (rf : T.RF) (rb : T.RB) (d1 : List Int) (d2 : Int) : Option (List Int) :=
 (k171 rb d1 d2).bind fun (z1 : List Int) =>
 some z1
theorem er67 (rf : T.RF) (rb : T.RB) (d1 : List Int) (d2 : Int) : T.stepF rf rb 67 (d1, d2) = r67 rf rb d1 d2 := by kernel_rfl
noncomputable def r64 (rf : T.RF) (rb : T.RB) (d1 : List Int) (d2 : Int) : Option (List Int) :=
 (c65 rf d1 d2).bind fun (y1 : List Int) =>
 (c66 rf y1).bind fun (y2 : List Int × Int) =>
 (c67 rf y2.1 (IntKind.i64.wrap (y2.2 - 1))).bind fun (y3 : List Int) =>
 some y3
theorem er64 (rf : T.RF) (rb : T.RB) (d1 : List Int) (d2 : Int) : T.stepF rf rb 64 (d1, d2) = r64 rf rb d1 d2 := by kernel_rfl
noncomputable def b181 (rf : T.RF) (rb : T.RB) (d1 : List Int) (d2 : Int) (d3 : Int) : Option (List Int × Int) :=
 bif decide ((IntKind.i64.wrap ((IntKind.i64.wrap (2 * d3)) + 1)) ≥ d2) then
  some (d1, d3)
 else
 bif decide ((IntKind.i64.wrap ((IntKind.i64.wrap (2 * d3)) + 1)) < 0) then
  some (d1, d3)
 else
 bif decide ((IntKind.i64.wrap ((IntKind.i64.wrap ((IntKind.i64.wrap (2 * d3)) + 1)) + 1)) < d2) then
  (c68 rf d1 (IntKind.i64.wrap ((IntKind.i64.wrap ((IntKind.i64.wrap (2 * d3)) + 1)) + 1)) (IntKind.i64.wrap ((IntKind.i64.wrap (2 * d3)) + 1))).bind fun (y1 : List Int × Bool) =>
  bif y1.2 then
   (c68 rf y1.1 (IntKind.i64.wrap ((IntKind.i64.wrap ((IntKind.i64.wrap (2 * d3)) + 1)) + 1)) d3).bind fun (y2 : List Int × Bool) =>
   bif !y2.2 then
   some (y2.1, d3)
   else
   (c69 rf y2.1 d3 (IntKind.i64.wrap ((IntKind.i64.wrap ((IntKind.i64.wrap (2 * d3)) + 1)) + 1))).bind fun (y3 : List Int) =>
   k181 rb y3 d2 (IntKind.i64.wrap ((IntKind.i64.wrap ((IntKind.i64.wrap (2 * d3)) + 1)) + 1))
  else
   (c68 rf y1.1 (IntKind.i64.wrap ((IntKind.i64.wrap (2 * d3)) + 1)) d3).bind fun (y4 : List Int × Bool) =>
   bif !y4.2 then
   some (y4.1, d3)
   else
   (c69 rf y4.1 d3 (IntKind.i64.wrap ((IntKind.i64.wrap (2 * d3)) + 1))).bind fun (y5 : List Int) =>
   k181 rb y5 d2 (IntKind.i64.wrap ((IntKind.i64.wrap (2 * d3)) + 1))
 else
  (c68 rf d1 (IntKind.i64.wrap ((IntKind.i64.wrap (2 * d3)) + 1)) d3).bind fun (y6 : List Int × Bool) =>
  bif !y6.2 then
   some (y6.1, d3)
  else
   (c69 rf y6.1 d3 (IntKind.i64.wrap ((IntKind.i64.wrap (2 * d3)) + 1))).bind fun (y7 : List Int) =>
   k181 rb y7 d2 (IntKind.i64.wrap ((IntKind.i64.wrap (2 * d3)) + 1))
theorem eb181 (rf : T.RF) (rb : T.RB) (d1 : List Int) (d2 : Int) (d3 : Int) : T.stepB rf rb 181 (d1, d2, d3) = b181 rf rb d1 d2 d3 := by kernel_rfl
noncomputable def r71 (rf : T.RF) (rb : T.RB) (d1 : List Int) (d2 : Int) (d3 : Int) : Option (List Int × Bool) :=
 (k181 rb d1 d3 d2).bind fun (z1 : List Int × Int) =>
 some (z1.1, decide (z1.2 > d2))
theorem er71 (rf : T.RF) (rb : T.RB) (d1 : List Int) (d2 : Int) (d3 : Int) : T.stepF rf rb 71 (d1, d2, d3) = r71 rf rb d1 d2 d3 := by kernel_rfl
noncomputable def r72 (rf : T.RF) (rb : T.RB) (d1 : List Int) : Option (List Int × Int) :=
 bif inb (IntKind.i64.wrap ((((d1.length : Nat) : Int)) - 1)) d1.length then
  (nth d1 (IntKind.i64.wrap ((((d1.length : Nat) : Int)) - 1)).toNat).bind fun (x1 : Int) =>
  bif inb' (IntKind.i64.wrap ((((d1.length : Nat) : Int)) - 1)) d1.length then
   some (sub d1 (some (0, ((IntKind.i64.wrap ((((d1.length : Nat) : Int)) - 1)).toNat - 0))), x1)
  else
   none
 else
  none
theorem er72 (rf : T.RF) (rb : T.RB) (d1 : List Int) : T.stepF rf rb 72 d1 = r72 rf rb d1 := by kernel_rfl
noncomputable def r70 (rf : T.RF) (rb : T.RB) (d1 : List Int) : Option (List Int × Int) :=
 (c66 rf d1).bind fun (y1 : List Int × Int) =>
 (c69 rf y1.1 0 (IntKind.i64.wrap (y1.2 - 1))).bind fun (y2 : List Int) =>
 (c71 rf y2 0 (IntKind.i64.wrap (y1.2 - 1))).bind fun (y3 : List Int × Bool) =>
 (c72 rf y3.1).bind fun (y4 : List Int × Int) =>
 some y4
theorem er70 (rf : T.RF) (rb : T.RB) (d1 : List Int) : T.stepF rf rb 70 d1 = r70 rf rb d1 := by kernel_rfl
noncomputable def b201q (rf : T.RF) (rb : T.RB) (d1 : List (List UInt8 × List Int)) (d2 : List (List UInt8 × XL)) (d3 : Int) (d4 : Int) : Option (List (List UInt8 × List Int)) :=
 bif decide (d4 < d3) then
  bif inb d4 d2.length then
   (nth d2 d4.toNat).bind fun (x1 : List UInt8 × XL) =>
   agN 1 (
   bif (Nat.ble ((assocGet (CT.eqK .str) [] d1 x1.1).length + 1) most) && true then
   bif outI (assocIx (CT.eqK .str) d1 x1.1 0) (assocIx (CT.eqK .str) d1 x1.1 0) && true then
   k201 rb (assocSet (CT.eqK .str) d1 x1.1 ((assocGet (CT.eqK .str) [] d1 x1.1) ++ [d4])) d2 d3 (IntKind.i64.wrap (d4 + 1))
   else
   none
   else
   none
   )
  else
   none
 else
  some d1
noncomputable def b201 (rf : T.RF) (rb : T.RB) (d1 : List (List UInt8 × List Int)) (d2 : List (List UInt8 × XL)) (d3 : Int) (d4 : Int) : Option (List (List UInt8 × List Int)) :=
 bif decide (d4 < d3) then
  bif inb d4 d2.length then
   (nth d2 d4.toNat).bind fun (x1 : List UInt8 × XL) =>
   bif (Nat.ble ((assocGet (CT.eqK .str) [] d1 x1.1).length + 1) most) && true then
   bif outI (assocIx (CT.eqK .str) d1 x1.1 0) (assocIx (CT.eqK .str) d1 x1.1 0) && true then
   k201 rb (assocSet (CT.eqK .str) d1 x1.1 ((assocGet (CT.eqK .str) [] d1 x1.1) ++ [d4])) d2 d3 (IntKind.i64.wrap (d4 + 1))
   else
   none
   else
   none
  else
   none
 else
  some d1
theorem eb201 (rf : T.RF) (rb : T.RB) (d1 : List (List UInt8 × List Int)) (d2 : List (List UInt8 × XL)) (d3 : Int) (d4 : Int) : T.stepB rf rb 201 (d1, d2, d3, d4) = b201q rf rb d1 d2 d3 d4 := by kernel_rfl
theorem sb201 (rf : T.RF) (rb : T.RB) (d1 : List (List UInt8 × List Int)) (d2 : List (List UInt8 × XL)) (d3 : Int) (d4 : Int) : b201q rf rb d1 d2 d3 d4 = b201 rf rb d1 d2 d3 d4 := by
 unfold b201q b201; simp only [agN_eq, agree_self, agree_swap]
noncomputable def b202 (rf : T.RF) (rb : T.RB) (d1 : List (List UInt8 × List Int)) (d2 : List Int) (d3 : List (List Int)) (d4 : List Int) (d5 : List (List UInt8 × XL)) (d6 : Int) (d7 : Int) : Option (List (List UInt8 × List Int) × List Int × List (List Int) × List Int) :=
 bif decide (d7 < d6) then
  bif inb d7 d5.length then
   (nth d5 d7.toNat).bind fun (x1 : List UInt8 × XL) =>
   (c58 rf x1.2).bind fun (y2 : List (List UInt8)) =>
   (k203 rb d1 d2 d3 d7 y2 (((y2.length : Nat) : Int)) 0).bind fun (z3 : List (List UInt8 × List Int) × List Int × List (List Int)) =>
   bif inb d7 z3.2.1.length then
   (nth z3.2.1 d7.toNat).bind fun (x4 : Int) =>
   bif x4 == 0 then
   (c64 rf d4 d7).bind fun (y5 : List Int) =>
   k202 rb z3.1 z3.2.1 z3.2.2 y5 d5 d6 (IntKind.i64.wrap (d7 + 1))
   else
   k202 rb z3.1 z3.2.1 z3.2.2 d4 d5 d6 (IntKind.i64.wrap (d7 + 1))
   else
   none
  else
   none
 else
  some (d1, d2, d3, d4)
theorem eb202 (rf : T.RF) (rb : T.RB) (d1 : List (List UInt8 × List Int)) (d2 : List Int) (d3 : List (List Int)) (d4 : List Int) (d5 : List (List UInt8 × XL)) (d6 : Int) (d7 : Int) : T.stepB rf rb 202 (d1, d2, d3, d4, d5, d6, d7) = b202 rf rb d1 d2 d3 d4 d5 d6 d7 := by kernel_rfl
noncomputable def b203 (rf : T.RF) (rb : T.RB) (d1 : List (List UInt8 × List Int)) (d2 : List Int) (d3 : List (List Int)) (d4 : Int) (d5 : List (List UInt8)) (d6 : Int) (d7 : Int) : Option (List (List UInt8 × List Int) × List Int × List (List Int)) :=
 bif decide (d7 < d6) then
  bif inb d7 d5.length then
   (nth d5 d7.toNat).bind fun (x1 : List UInt8) =>
   (k204 rb d2 d3 d4 (assocGet (CT.eqK .str) [] d1 x1) ((((assocGet (CT.eqK .str) [] d1 x1).length : Nat) : Int)) 0).bind fun (z2 : List Int × List (List Int)) =>
   k203 rb d1 z2.1 z2.2 d4 d5 d6 (IntKind.i64.wrap (d7 + 1))
  else
   none
 else
  some (d1, d2, d3)
theorem eb203 (rf : T.RF) (rb : T.RB) (d1 : List (List UInt8 × List Int)) (d2 : List Int) (d3 : List (List Int)) (d4 : Int) (d5 : List (List UInt8)) (d6 : Int) (d7 : Int) : T.stepB rf rb 203 (d1, d2, d3, d4, d5, d6, d7) = b203 rf rb d1 d2 d3 d4 d5 d6 d7 := by kernel_rfl
noncomputable def b204 (rf : T.RF) (rb : T.RB) (d1 : List Int) (d2 : List (List Int)) (d3 : Int) (d4 : List Int) (d5 : Int) (d6 : Int) : Option (List Int × List (List Int)) :=
 bif decide (d6 < d5) then
  bif inb d6 d4.length then
   (nth d4 d6.toNat).bind fun (x1 : Int) =>
   bif inb x1 d2.length then
   (nth d2 x1.toNat).bind fun (x2 : List Int) =>
   bif (Nat.ble (x2.length + 1) most) && true then
   bif inb x1 d2.length then
   bif Nat.beq x1.toNat x1.toNat && ((Nat.blt x1.toNat d2.length) && true) then
   bif inb d3 d1.length then
   (nth d1 d3.toNat).bind fun (x3 : Int) =>
   bif inb d3 d1.length then
   bif Nat.blt d3.toNat d1.length then
   k204 rb (setNth d1 d3.toNat (IntKind.i64.wrap (x3 + 1))) (setNth d2 x1.toNat (x2 ++ [d3])) d3 d4 d5 (IntKind.i64.wrap (d6 + 1))
   else
   none
   else
   none
   else
   none
   else
   none
   else
   none
   else
   none
   else
   none
  else
   none
 else
  some (d1, d2)
theorem eb204 (rf : T.RF) (rb : T.RB) (d1 : List Int) (d2 : List (List Int)) (d3 : Int) (d4 : List Int) (d5 : Int) (d6 : Int) : T.stepB rf rb 204 (d1, d2, d3, d4, d5, d6) = b204 rf rb d1 d2 d3 d4 d5 d6 := by kernel_rfl
noncomputable def b205 (rf : T.RF) (rb : T.RB) (d1 : List Int) (d2 : List Int) (d3 : List Int) (d4 : List (List Int)) : Option (List Int × List Int × List Int) :=
 (c66 rf d3).bind fun (y1 : List Int × Int) =>
 bif decide (y1.2 > 0) then
  (c70 rf y1.1).bind fun (y2 : List Int × Int) =>
  bif (Nat.ble (d2.length + 1) most) && true then
   bif inb y2.2 d4.length then
   (nth d4 y2.2.toNat).bind fun (x3 : List Int) =>
   (k206 rb d1 y2.1 x3 (((x3.length : Nat) : Int)) 0).bind fun (z4 : List Int × List Int) =>
   k205 rb z4.1 (d2 ++ [y2.2]) z4.2 d4
   else
   none
  else
   none
 else
  some (d1, d2, y1.1)
theorem eb205 (rf : T.RF) (rb : T.RB) (d1 : List Int) (d2 : List Int) (d3 : List Int) (d4 : List (List Int)) : T.stepB rf rb 205 (d1, d2, d3, d4) = b205 rf rb d1 d2 d3 d4 := by kernel_rfl
noncomputable def b206 (rf : T.RF) (rb : T.RB) (d1 : List Int) (d2 : List Int) (d3 : List Int) (d4 : Int) (d5 : Int) : Option (List Int × List Int) :=
 bif decide (d5 < d4) then
  bif inb d5 d3.length then
   (nth d3 d5.toNat).bind fun (x1 : Int) =>
   bif inb x1 d1.length then
   (nth d1 x1.toNat).bind fun (x2 : Int) =>
   bif inb x1 d1.length then
   bif Nat.blt x1.toNat d1.length then
   bif inb x1 (setNth d1 x1.toNat (IntKind.i64.wrap (x2 - 1))).length then
   (nth (setNth d1 x1.toNat (IntKind.i64.wrap (x2 - 1))) x1.toNat).bind fun (x3 : Int) =>
   bif x3 == 0 then
   (c64 rf d2 x1).bind fun (y4 : List Int) =>
   k206 rb (setNth d1 x1.toNat (IntKind.i64.wrap (x2 - 1))) y4 d3 d4 (IntKind.i64.wrap (d5 + 1))
   else
   k206 rb (setNth d1 x1.toNat (IntKind.i64.wrap (x2 - 1))) d2 d3 d4 (IntKind.i64.wrap (d5 + 1))
   else
   none
   else
   none
   else
   none
   else
   none
  else
   none
 else
  some (d1, d2)
theorem eb206 (rf : T.RF) (rb : T.RB) (d1 : List Int) (d2 : List Int) (d3 : List Int) (d4 : Int) (d5 : Int) : T.stepB rf rb 206 (d1, d2, d3, d4, d5) = b206 rf rb d1 d2 d3 d4 d5 := by kernel_rfl
noncomputable def r57 (rf : T.RF) (rb : T.RB) (d1 : List (List UInt8 × XL)) : Option (List Int × Int) :=
 bif decide ((((d1.length : Nat) : Int)) > 4000) then
  some ([], 7)
 else
  (k201 rb [] d1 (((d1.length : Nat) : Int)) 0).bind fun (z1 : List (List UInt8 × List Int)) =>
  bif inb' (((d1.length : Nat) : Int)) most then
   bif inb' (((d1.length : Nat) : Int)) d1.length then
   bif inb' (((d1.length : Nat) : Int)) most then
   bif inb' (((d1.length : Nat) : Int)) d1.length then
   (k202 rb z1 (List.replicate d1.length (0 : Int)) (List.replicate d1.length []) [] d1 (((d1.length : Nat) : Int)) 0).bind fun (z2 : List (List UInt8 × List Int) × List Int × List (List Int) × List Int) =>
   (k205 rb z2.2.1 [] z2.2.2.2 z2.2.2.1).bind fun (z3 : List Int × List Int × List Int) =>
   bif decide ((((z3.2.1.length : Nat) : Int)) < (((d1.length : Nat) : Int))) then
   some ([], 12)
   else
   some (z3.2.1, 0)
   else
   none
   else
   none
   else
   none
  else
   none
theorem er57 (rf : T.RF) (rb : T.RB) (d1 : List (List UInt8 × XL)) : T.stepF rf rb 57 d1 = r57 rf rb d1 := by kernel_rfl
noncomputable def b244 (rf : T.RF) (rb : T.RB) (d1 : Int) (d2 : Bool) (d3 : Int) (d4 : List Unit) (d5 : List (List UInt8 × Int)) (d6 : List Int) (d7 : List XS) (d8 : Int) (d9 : Int) : Option ((Int × Bool × Int × List Unit × List (List UInt8 × Int) × List Int) ⊕ (Int × Bool × Int × List Unit × List (List UInt8 × Int) × List Int)) :=
 bif decide (d9 < d8) then
  bif inb d9 d7.length then
   (nth d7 d9.toNat).bind fun (x1 : XS) =>
   bif assocHas (CT.eqK .str) d5 x1.1 then
   some (.inl (1, d2, d3, d4, d5, d6))
   else
   k244 rb d1 d2 d3 d4 (assocSet (CT.eqK .str) d5 x1.1 d9) d6 d7 d8 (IntKind.i64.wrap (d9 + 1))
  else
   none
 else
  some (.inr (d1, d2, d3, d4, d5, d6))
theorem eb244 (rf : T.RF) (rb : T.RB) (d1 : Int) (d2 : Bool) (d3 : Int) (d4 : List Unit) (d5 : List (List UInt8 × Int)) (d6 : List Int) (d7 : List XS) (d8 : Int) (d9 : Int) : T.stepB rf rb 244 (d1, d2, d3, d4, d5, d6, d7, d8, d9) = b244 rf rb d1 d2 d3 d4 d5 d6 d7 d8 d9 := by kernel_rfl
noncomputable def b245q (rf : T.RF) (rb : T.RB) (d1 : Int) (d2 : List (List UInt8 × XL)) (d3 : List Int) (d4 : Bool) (d5 : Int) (d6 : List Unit) (d7 : List (List UInt8 × Int)) (d8 : List Int) (d9 : List XS) (d10 : Int) (d11 : Int) : Option ((Int × Bool × Int × List (List UInt8 × Int) × List Int × List Unit) ⊕ (Int × Bool × Int × List (List UInt8 × Int) × List Int × List (List UInt8 × XL) × List Int × List Unit)) :=
 bif decide (d11 < d10) then
  bif inb d11 d9.length then
   (nth d9 d11.toNat).bind fun (x1 : XS) =>
   agree (
    bif inb' (((x1.2.2.length : Nat) : Int)) most then
     bif inb' (((x1.2.2.length : Nat) : Int)) x1.2.2.length then
      agree (
       bif inb' (((x1.2.2.length : Nat) : Int)) most then
        bif inb' (((x1.2.2.length : Nat) : Int)) x1.2.2.length then
         agree (
          bif inb' (if 1 > (((x1.2.2.length : Nat) : Int)) then 1 else (((x1.2.2.length : Nat) : Int))) most then
           bif inb' (if 1 > (((x1.2.2.length : Nat) : Int)) then 1 else (((x1.2.2.length : Nat) : Int))) (if 1 > (((x1.2.2.length : Nat) : Int)) then 1 else (((x1.2.2.length : Nat) : Int))).toNat then
            agN 1 (
             (k246 rb d1 d2 d3 x1 d4 d5 x1.1 x1.2.1 x1.2.2 [] d6 d7 d8 (List.replicate x1.2.2.length false) (List.replicate (if 1 > (((x1.2.2.length : Nat) : Int)) then 1 else (((x1.2.2.length : Nat) : Int))).toNat (0 : Int)) (List.replicate x1.2.2.length ()) d11).bind fun (z2 : (Int × List (List UInt8 × XL) × List Int × XS × Bool × Int × List UInt8 × Int × XL × List Int × List (List UInt8 × Int) × List Int × List Bool × List Int × List Unit × List Unit) ⊕ (Int × List (List UInt8 × XL) × List Int × XS × Bool × Int × List UInt8 × Int × XL × List Int × List (List UInt8 × Int) × List Int × List Bool × List Int × List Unit × List Unit) ⊕ (Int × XS × Bool × Int × List UInt8 × Int × XL × List Int × List (List UInt8 × Int) × List Int × List Bool × List Int × List Unit × List (List UInt8 × XL) × List Int × List Unit)) =>
             match z2 with
             | .inl u3 =>
               k245 rb u3.1 u3.2.1 u3.2.2.1 u3.2.2.2.2.1 u3.2.2.2.2.2.1 u3.2.2.2.2.2.2.2.2.2.2.2.2.2.2.2 u3.2.2.2.2.2.2.2.2.2.2.1 u3.2.2.2.2.2.2.2.2.2.2.2.1 d9 d10 (IntKind.i64.wrap (d11 + 1))
             | .inr w4 =>
               match w4 with
               | .inl u5 =>
                 some (.inl (u5.1, u5.2.2.2.2.1, u5.2.2.2.2.2.1, u5.2.2.2.2.2.2.2.2.2.2.1, u5.2.2.2.2.2.2.2.2.2.2.2.1, u5.2.2.2.2.2.2.2.2.2.2.2.2.2.2.2))
               | .inr w6 =>
                 k245 rb w6.1 w6.2.2.2.2.2.2.2.2.2.2.2.2.2.1 w6.2.2.2.2.2.2.2.2.2.2.2.2.2.2.1 w6.2.2.1 w6.2.2.2.1 w6.2.2.2.2.2.2.2.2.2.2.2.2.2.2.2 w6.2.2.2.2.2.2.2.2.1 w6.2.2.2.2.2.2.2.2.2.1 d9 d10 (IntKind.i64.wrap (d11 + 1))
            )
           else
            none
          else
           none
         ) (
          bif inb' (if 1 > (((x1.2.2.length : Nat) : Int)) then 1 else (((x1.2.2.length : Nat) : Int))) most then
           bif inb' (if 1 > (((x1.2.2.length : Nat) : Int)) then 1 else (((x1.2.2.length : Nat) : Int))) (if 1 > (((x1.2.2.length : Nat) : Int)) then 1 else (((x1.2.2.length : Nat) : Int))).toNat then
            (k246 rb d1 d2 d3 x1 d4 d5 x1.1 x1.2.1 x1.2.2 [] d6 d7 d8 (List.replicate x1.2.2.length false) (List.replicate (if 1 > (((x1.2.2.length : Nat) : Int)) then 1 else (((x1.2.2.length : Nat) : Int))).toNat (0 : Int)) (List.replicate x1.2.2.length ()) d11).bind fun (z2 : (Int × List (List UInt8 × XL) × List Int × XS × Bool × Int × List UInt8 × Int × XL × List Int × List (List UInt8 × Int) × List Int × List Bool × List Int × List Unit × List Unit) ⊕ (Int × List (List UInt8 × XL) × List Int × XS × Bool × Int × List UInt8 × Int × XL × List Int × List (List UInt8 × Int) × List Int × List Bool × List Int × List Unit × List Unit) ⊕ (Int × XS × Bool × Int × List UInt8 × Int × XL × List Int × List (List UInt8 × Int) × List Int × List Bool × List Int × List Unit × List (List UInt8 × XL) × List Int × List Unit)) =>
            match z2 with
            | .inl u3 =>
              k245 rb u3.1 u3.2.1 u3.2.2.1 u3.2.2.2.2.1 u3.2.2.2.2.2.1 u3.2.2.2.2.2.2.2.2.2.2.2.2.2.2.2 u3.2.2.2.2.2.2.2.2.2.2.1 u3.2.2.2.2.2.2.2.2.2.2.2.1 d9 d10 (IntKind.i64.wrap (d11 + 1))
            | .inr w4 =>
              match w4 with
              | .inl u5 =>
                some (.inl (u5.1, u5.2.2.2.2.1, u5.2.2.2.2.2.1, u5.2.2.2.2.2.2.2.2.2.2.1, u5.2.2.2.2.2.2.2.2.2.2.2.1, u5.2.2.2.2.2.2.2.2.2.2.2.2.2.2.2))
              | .inr w6 =>
                k245 rb w6.1 w6.2.2.2.2.2.2.2.2.2.2.2.2.2.1 w6.2.2.2.2.2.2.2.2.2.2.2.2.2.2.1 w6.2.2.1 w6.2.2.2.1 w6.2.2.2.2.2.2.2.2.2.2.2.2.2.2.2 w6.2.2.2.2.2.2.2.2.1 w6.2.2.2.2.2.2.2.2.2.1 d9 d10 (IntKind.i64.wrap (d11 + 1))
           else
            none
          else
           none
         )
        else
         none
       else
        none
      ) (
       agree (
        bif inb' (if 1 > (((x1.2.2.length : Nat) : Int)) then 1 else (((x1.2.2.length : Nat) : Int))) most then
         bif inb' (if 1 > (((x1.2.2.length : Nat) : Int)) then 1 else (((x1.2.2.length : Nat) : Int))) (if 1 > (((x1.2.2.length : Nat) : Int)) then 1 else (((x1.2.2.length : Nat) : Int))).toNat then
          agree (
           bif inb' (((x1.2.2.length : Nat) : Int)) most then
            bif inb' (((x1.2.2.length : Nat) : Int)) x1.2.2.length then
             agN 1 (
              (k246 rb d1 d2 d3 x1 d4 d5 x1.1 x1.2.1 x1.2.2 [] d6 d7 d8 (List.replicate x1.2.2.length false) (List.replicate (if 1 > (((x1.2.2.length : Nat) : Int)) then 1 else (((x1.2.2.length : Nat) : Int))).toNat (0 : Int)) (List.replicate x1.2.2.length ()) d11).bind fun (z2 : (Int × List (List UInt8 × XL) × List Int × XS × Bool × Int × List UInt8 × Int × XL × List Int × List (List UInt8 × Int) × List Int × List Bool × List Int × List Unit × List Unit) ⊕ (Int × List (List UInt8 × XL) × List Int × XS × Bool × Int × List UInt8 × Int × XL × List Int × List (List UInt8 × Int) × List Int × List Bool × List Int × List Unit × List Unit) ⊕ (Int × XS × Bool × Int × List UInt8 × Int × XL × List Int × List (List UInt8 × Int) × List Int × List Bool × List Int × List Unit × List (List UInt8 × XL) × List Int × List Unit)) =>
              match z2 with
              | .inl u3 =>
                k245 rb u3.1 u3.2.1 u3.2.2.1 u3.2.2.2.2.1 u3.2.2.2.2.2.1 u3.2.2.2.2.2.2.2.2.2.2.2.2.2.2.2 u3.2.2.2.2.2.2.2.2.2.2.1 u3.2.2.2.2.2.2.2.2.2.2.2.1 d9 d10 (IntKind.i64.wrap (d11 + 1))
              | .inr w4 =>
                match w4 with
                | .inl u5 =>
                  some (.inl (u5.1, u5.2.2.2.2.1, u5.2.2.2.2.2.1, u5.2.2.2.2.2.2.2.2.2.2.1, u5.2.2.2.2.2.2.2.2.2.2.2.1, u5.2.2.2.2.2.2.2.2.2.2.2.2.2.2.2))
                | .inr w6 =>
                  k245 rb w6.1 w6.2.2.2.2.2.2.2.2.2.2.2.2.2.1 w6.2.2.2.2.2.2.2.2.2.2.2.2.2.2.1 w6.2.2.1 w6.2.2.2.1 w6.2.2.2.2.2.2.2.2.2.2.2.2.2.2.2 w6.2.2.2.2.2.2.2.2.1 w6.2.2.2.2.2.2.2.2.2.1 d9 d10 (IntKind.i64.wrap (d11 + 1))
             )
            else
             none
           else
            none
          ) (
           bif inb' (((x1.2.2.length : Nat) : Int)) most then
            bif inb' (((x1.2.2.length : Nat) : Int)) x1.2.2.length then
             (k246 rb d1 d2 d3 x1 d4 d5 x1.1 x1.2.1 x1.2.2 [] d6 d7 d8 (List.replicate x1.2.2.length false) (List.replicate (if 1 > (((x1.2.2.length : Nat) : Int)) then 1 else (((x1.2.2.length : Nat) : Int))).toNat (0 : Int)) (List.replicate x1.2.2.length ()) d11).bind fun (z2 : (Int × List (List UInt8 × XL) × List Int × XS × Bool × Int × List UInt8 × Int × XL × List Int × List (List UInt8 × Int) × List Int × List Bool × List Int × List Unit × List Unit) ⊕ (Int × List (List UInt8 × XL) × List Int × XS × Bool × Int × List UInt8 × Int × XL × List Int × List (List UInt8 × Int) × List Int × List Bool × List Int × List Unit × List Unit) ⊕ (Int × XS × Bool × Int × List UInt8 × Int × XL × List Int × List (List UInt8 × Int) × List Int × List Bool × List Int × List Unit × List (List UInt8 × XL) × List Int × List Unit)) =>
             match z2 with
             | .inl u3 =>
               k245 rb u3.1 u3.2.1 u3.2.2.1 u3.2.2.2.2.1 u3.2.2.2.2.2.1 u3.2.2.2.2.2.2.2.2.2.2.2.2.2.2.2 u3.2.2.2.2.2.2.2.2.2.2.1 u3.2.2.2.2.2.2.2.2.2.2.2.1 d9 d10 (IntKind.i64.wrap (d11 + 1))
             | .inr w4 =>
               match w4 with
               | .inl u5 =>
                 some (.inl (u5.1, u5.2.2.2.2.1, u5.2.2.2.2.2.1, u5.2.2.2.2.2.2.2.2.2.2.1, u5.2.2.2.2.2.2.2.2.2.2.2.1, u5.2.2.2.2.2.2.2.2.2.2.2.2.2.2.2))
               | .inr w6 =>
                 k245 rb w6.1 w6.2.2.2.2.2.2.2.2.2.2.2.2.2.1 w6.2.2.2.2.2.2.2.2.2.2.2.2.2.2.1 w6.2.2.1 w6.2.2.2.1 w6.2.2.2.2.2.2.2.2.2.2.2.2.2.2.2 w6.2.2.2.2.2.2.2.2.1 w6.2.2.2.2.2.2.2.2.2.1 d9 d10 (IntKind.i64.wrap (d11 + 1))
            else
             none
           else
            none
          )
         else
          none
        else
         none
       ) (
        agree (
         bif inb' (((x1.2.2.length : Nat) : Int)) most then
          bif inb' (((x1.2.2.length : Nat) : Int)) x1.2.2.length then
           bif inb' (if 1 > (((x1.2.2.length : Nat) : Int)) then 1 else (((x1.2.2.length : Nat) : Int))) most then
            bif inb' (if 1 > (((x1.2.2.length : Nat) : Int)) then 1 else (((x1.2.2.length : Nat) : Int))) (if 1 > (((x1.2.2.length : Nat) : Int)) then 1 else (((x1.2.2.length : Nat) : Int))).toNat then
             (k246 rb d1 d2 d3 x1 d4 d5 x1.1 x1.2.1 x1.2.2 [] d6 d7 d8 (List.replicate x1.2.2.length false) (List.replicate (if 1 > (((x1.2.2.length : Nat) : Int)) then 1 else (((x1.2.2.length : Nat) : Int))).toNat (0 : Int)) (List.replicate x1.2.2.length ()) d11).bind fun (z2 : (Int × List (List UInt8 × XL) × List Int × XS × Bool × Int × List UInt8 × Int × XL × List Int × List (List UInt8 × Int) × List Int × List Bool × List Int × List Unit × List Unit) ⊕ (Int × List (List UInt8 × XL) × List Int × XS × Bool × Int × List UInt8 × Int × XL × List Int × List (List UInt8 × Int) × List Int × List Bool × List Int × List Unit × List Unit) ⊕ (Int × XS × Bool × Int × List UInt8 × Int × XL × List Int × List (List UInt8 × Int) × List Int × List Bool × List Int × List Unit × List (List UInt8 × XL) × List Int × List Unit)) =>
             match z2 with
             | .inl u3 =>
               k245 rb u3.1 u3.2.1 u3.2.2.1 u3.2.2.2.2.1 u3.2.2.2.2.2.1 u3.2.2.2.2.2.2.2.2.2.2.2.2.2.2.2 u3.2.2.2.2.2.2.2.2.2.2.1 u3.2.2.2.2.2.2.2.2.2.2.2.1 d9 d10 (IntKind.i64.wrap (d11 + 1))
             | .inr w4 =>
               match w4 with
               | .inl u5 =>
                 some (.inl (u5.1, u5.2.2.2.2.1, u5.2.2.2.2.2.1, u5.2.2.2.2.2.2.2.2.2.2.1, u5.2.2.2.2.2.2.2.2.2.2.2.1, u5.2.2.2.2.2.2.2.2.2.2.2.2.2.2.2))
               | .inr w6 =>
                 k245 rb w6.1 w6.2.2.2.2.2.2.2.2.2.2.2.2.2.1 w6.2.2.2.2.2.2.2.2.2.2.2.2.2.2.1 w6.2.2.1 w6.2.2.2.1 w6.2.2.2.2.2.2.2.2.2.2.2.2.2.2.2 w6.2.2.2.2.2.2.2.2.1 w6.2.2.2.2.2.2.2.2.2.1 d9 d10 (IntKind.i64.wrap (d11 + 1))
            else
             none
           else
            none
          else
           none
         else
          none
        ) (
         bif inb' (if 1 > (((x1.2.2.length : Nat) : Int)) then 1 else (((x1.2.2.length : Nat) : Int))) most then
          bif inb' (if 1 > (((x1.2.2.length : Nat) : Int)) then 1 else (((x1.2.2.length : Nat) : Int))) (if 1 > (((x1.2.2.length : Nat) : Int)) then 1 else (((x1.2.2.length : Nat) : Int))).toNat then
           bif inb' (((x1.2.2.length : Nat) : Int)) most then
            bif inb' (((x1.2.2.length : Nat) : Int)) x1.2.2.length then
             (k246 rb d1 d2 d3 x1 d4 d5 x1.1 x1.2.1 x1.2.2 [] d6 d7 d8 (List.replicate x1.2.2.length false) (List.replicate (if 1 > (((x1.2.2.length : Nat) : Int)) then 1 else (((x1.2.2.length : Nat) : Int))).toNat (0 : Int)) (List.replicate x1.2.2.length ()) d11).bind fun (z2 : (Int × List (List UInt8 × XL) × List Int × XS × Bool × Int × List UInt8 × Int × XL × List Int × List (List UInt8 × Int) × List Int × List Bool × List Int × List Unit × List Unit) ⊕ (Int × List (List UInt8 × XL) × List Int × XS × Bool × Int × List UInt8 × Int × XL × List Int × List (List UInt8 × Int) × List Int × List Bool × List Int × List Unit × List Unit) ⊕ (Int × XS × Bool × Int × List UInt8 × Int × XL × List Int × List (List UInt8 × Int) × List Int × List Bool × List Int × List Unit × List (List UInt8 × XL) × List Int × List Unit)) =>
             match z2 with
             | .inl u3 =>
               k245 rb u3.1 u3.2.1 u3.2.2.1 u3.2.2.2.2.1 u3.2.2.2.2.2.1 u3.2.2.2.2.2.2.2.2.2.2.2.2.2.2.2 u3.2.2.2.2.2.2.2.2.2.2.1 u3.2.2.2.2.2.2.2.2.2.2.2.1 d9 d10 (IntKind.i64.wrap (d11 + 1))
             | .inr w4 =>
               match w4 with
               | .inl u5 =>
                 some (.inl (u5.1, u5.2.2.2.2.1, u5.2.2.2.2.2.1, u5.2.2.2.2.2.2.2.2.2.2.1, u5.2.2.2.2.2.2.2.2.2.2.2.1, u5.2.2.2.2.2.2.2.2.2.2.2.2.2.2.2))
               | .inr w6 =>
                 k245 rb w6.1 w6.2.2.2.2.2.2.2.2.2.2.2.2.2.1 w6.2.2.2.2.2.2.2.2.2.2.2.2.2.2.1 w6.2.2.1 w6.2.2.2.1 w6.2.2.2.2.2.2.2.2.2.2.2.2.2.2.2 w6.2.2.2.2.2.2.2.2.1 w6.2.2.2.2.2.2.2.2.2.1 d9 d10 (IntKind.i64.wrap (d11 + 1))
            else
             none
           else
            none
          else
           none
         else
          none
        )
       )
      )
     else
      none
    else
     none
   ) (
    agree (
     bif inb' (((x1.2.2.length : Nat) : Int)) most then
      bif inb' (((x1.2.2.length : Nat) : Int)) x1.2.2.length then
       agree (
        bif inb' (((x1.2.2.length : Nat) : Int)) most then
         bif inb' (((x1.2.2.length : Nat) : Int)) x1.2.2.length then
          agree (
           bif inb' (if 1 > (((x1.2.2.length : Nat) : Int)) then 1 else (((x1.2.2.length : Nat) : Int))) most then
            bif inb' (if 1 > (((x1.2.2.length : Nat) : Int)) then 1 else (((x1.2.2.length : Nat) : Int))) (if 1 > (((x1.2.2.length : Nat) : Int)) then 1 else (((x1.2.2.length : Nat) : Int))).toNat then
             agN 1 (
              (k246 rb d1 d2 d3 x1 d4 d5 x1.1 x1.2.1 x1.2.2 [] d6 d7 d8 (List.replicate x1.2.2.length false) (List.replicate (if 1 > (((x1.2.2.length : Nat) : Int)) then 1 else (((x1.2.2.length : Nat) : Int))).toNat (0 : Int)) (List.replicate x1.2.2.length ()) d11).bind fun (z2 : (Int × List (List UInt8 × XL) × List Int × XS × Bool × Int × List UInt8 × Int × XL × List Int × List (List UInt8 × Int) × List Int × List Bool × List Int × List Unit × List Unit) ⊕ (Int × List (List UInt8 × XL) × List Int × XS × Bool × Int × List UInt8 × Int × XL × List Int × List (List UInt8 × Int) × List Int × List Bool × List Int × List Unit × List Unit) ⊕ (Int × XS × Bool × Int × List UInt8 × Int × XL × List Int × List (List UInt8 × Int) × List Int × List Bool × List Int × List Unit × List (List UInt8 × XL) × List Int × List Unit)) =>
              match z2 with
              | .inl u3 =>
                k245 rb u3.1 u3.2.1 u3.2.2.1 u3.2.2.2.2.1 u3.2.2.2.2.2.1 u3.2.2.2.2.2.2.2.2.2.2.2.2.2.2.2 u3.2.2.2.2.2.2.2.2.2.2.1 u3.2.2.2.2.2.2.2.2.2.2.2.1 d9 d10 (IntKind.i64.wrap (d11 + 1))
              | .inr w4 =>
                match w4 with
                | .inl u5 =>
                  some (.inl (u5.1, u5.2.2.2.2.1, u5.2.2.2.2.2.1, u5.2.2.2.2.2.2.2.2.2.2.1, u5.2.2.2.2.2.2.2.2.2.2.2.1, u5.2.2.2.2.2.2.2.2.2.2.2.2.2.2.2))
                | .inr w6 =>
                  k245 rb w6.1 w6.2.2.2.2.2.2.2.2.2.2.2.2.2.1 w6.2.2.2.2.2.2.2.2.2.2.2.2.2.2.1 w6.2.2.1 w6.2.2.2.1 w6.2.2.2.2.2.2.2.2.2.2.2.2.2.2.2 w6.2.2.2.2.2.2.2.2.1 w6.2.2.2.2.2.2.2.2.2.1 d9 d10 (IntKind.i64.wrap (d11 + 1))
             )
            else
             none
           else
            none
          ) (
           bif inb' (if 1 > (((x1.2.2.length : Nat) : Int)) then 1 else (((x1.2.2.length : Nat) : Int))) most then
            bif inb' (if 1 > (((x1.2.2.length : Nat) : Int)) then 1 else (((x1.2.2.length : Nat) : Int))) (if 1 > (((x1.2.2.length : Nat) : Int)) then 1 else (((x1.2.2.length : Nat) : Int))).toNat then
             (k246 rb d1 d2 d3 x1 d4 d5 x1.1 x1.2.1 x1.2.2 [] d6 d7 d8 (List.replicate x1.2.2.length false) (List.replicate (if 1 > (((x1.2.2.length : Nat) : Int)) then 1 else (((x1.2.2.length : Nat) : Int))).toNat (0 : Int)) (List.replicate x1.2.2.length ()) d11).bind fun (z2 : (Int × List (List UInt8 × XL) × List Int × XS × Bool × Int × List UInt8 × Int × XL × List Int × List (List UInt8 × Int) × List Int × List Bool × List Int × List Unit × List Unit) ⊕ (Int × List (List UInt8 × XL) × List Int × XS × Bool × Int × List UInt8 × Int × XL × List Int × List (List UInt8 × Int) × List Int × List Bool × List Int × List Unit × List Unit) ⊕ (Int × XS × Bool × Int × List UInt8 × Int × XL × List Int × List (List UInt8 × Int) × List Int × List Bool × List Int × List Unit × List (List UInt8 × XL) × List Int × List Unit)) =>
             match z2 with
             | .inl u3 =>
               k245 rb u3.1 u3.2.1 u3.2.2.1 u3.2.2.2.2.1 u3.2.2.2.2.2.1 u3.2.2.2.2.2.2.2.2.2.2.2.2.2.2.2 u3.2.2.2.2.2.2.2.2.2.2.1 u3.2.2.2.2.2.2.2.2.2.2.2.1 d9 d10 (IntKind.i64.wrap (d11 + 1))
             | .inr w4 =>
               match w4 with
               | .inl u5 =>
                 some (.inl (u5.1, u5.2.2.2.2.1, u5.2.2.2.2.2.1, u5.2.2.2.2.2.2.2.2.2.2.1, u5.2.2.2.2.2.2.2.2.2.2.2.1, u5.2.2.2.2.2.2.2.2.2.2.2.2.2.2.2))
               | .inr w6 =>
                 k245 rb w6.1 w6.2.2.2.2.2.2.2.2.2.2.2.2.2.1 w6.2.2.2.2.2.2.2.2.2.2.2.2.2.2.1 w6.2.2.1 w6.2.2.2.1 w6.2.2.2.2.2.2.2.2.2.2.2.2.2.2.2 w6.2.2.2.2.2.2.2.2.1 w6.2.2.2.2.2.2.2.2.2.1 d9 d10 (IntKind.i64.wrap (d11 + 1))
            else
             none
           else
            none
          )
         else
          none
        else
         none
       ) (
        agree (
         bif inb' (if 1 > (((x1.2.2.length : Nat) : Int)) then 1 else (((x1.2.2.length : Nat) : Int))) most then
          bif inb' (if 1 > (((x1.2.2.length : Nat) : Int)) then 1 else (((x1.2.2.length : Nat) : Int))) (if 1 > (((x1.2.2.length : Nat) : Int)) then 1 else (((x1.2.2.length : Nat) : Int))).toNat then
           agree (
            bif inb' (((x1.2.2.length : Nat) : Int)) most then
             bif inb' (((x1.2.2.length : Nat) : Int)) x1.2.2.length then
              agN 1 (
               (k246 rb d1 d2 d3 x1 d4 d5 x1.1 x1.2.1 x1.2.2 [] d6 d7 d8 (List.replicate x1.2.2.length false) (List.replicate (if 1 > (((x1.2.2.length : Nat) : Int)) then 1 else (((x1.2.2.length : Nat) : Int))).toNat (0 : Int)) (List.replicate x1.2.2.length ()) d11).bind fun (z2 : (Int × List (List UInt8 × XL) × List Int × XS × Bool × Int × List UInt8 × Int × XL × List Int × List (List UInt8 × Int) × List Int × List Bool × List Int × List Unit × List Unit) ⊕ (Int × List (List UInt8 × XL) × List Int × XS × Bool × Int × List UInt8 × Int × XL × List Int × List (List UInt8 × Int) × List Int × List Bool × List Int × List Unit × List Unit) ⊕ (Int × XS × Bool × Int × List UInt8 × Int × XL × List Int × List (List UInt8 × Int) × List Int × List Bool × List Int × List Unit × List (List UInt8 × XL) × List Int × List Unit)) =>
               match z2 with
               | .inl u3 =>
                 k245 rb u3.1 u3.2.1 u3.2.2.1 u3.2.2.2.2.1 u3.2.2.2.2.2.1 u3.2.2.2.2.2.2.2.2.2.2.2.2.2.2.2 u3.2.2.2.2.2.2.2.2.2.2.1 u3.2.2.2.2.2.2.2.2.2.2.2.1 d9 d10 (IntKind.i64.wrap (d11 + 1))
               | .inr w4 =>
                 match w4 with
                 | .inl u5 =>
                   some (.inl (u5.1, u5.2.2.2.2.1, u5.2.2.2.2.2.1, u5.2.2.2.2.2.2.2.2.2.2.1, u5.2.2.2.2.2.2.2.2.2.2.2.1, u5.2.2.2.2.2.2.2.2.2.2.2.2.2.2.2))
                 | .inr w6 =>
                   k245 rb w6.1 w6.2.2.2.2.2.2.2.2.2.2.2.2.2.1 w6.2.2.2.2.2.2.2.2.2.2.2.2.2.2.1 w6.2.2.1 w6.2.2.2.1 w6.2.2.2.2.2.2.2.2.2.2.2.2.2.2.2 w6.2.2.2.2.2.2.2.2.1 w6.2.2.2.2.2.2.2.2.2.1 d9 d10 (IntKind.i64.wrap (d11 + 1))
              )
             else
              none
            else
             none
           ) (
            bif inb' (((x1.2.2.length : Nat) : Int)) most then
             bif inb' (((x1.2.2.length : Nat) : Int)) x1.2.2.length then
              (k246 rb d1 d2 d3 x1 d4 d5 x1.1 x1.2.1 x1.2.2 [] d6 d7 d8 (List.replicate x1.2.2.length false) (List.replicate (if 1 > (((x1.2.2.length : Nat) : Int)) then 1 else (((x1.2.2.length : Nat) : Int))).toNat (0 : Int)) (List.replicate x1.2.2.length ()) d11).bind fun (z2 : (Int × List (List UInt8 × XL) × List Int × XS × Bool × Int × List UInt8 × Int × XL × List Int × List (List UInt8 × Int) × List Int × List Bool × List Int × List Unit × List Unit) ⊕ (Int × List (List UInt8 × XL) × List Int × XS × Bool × Int × List UInt8 × Int × XL × List Int × List (List UInt8 × Int) × List Int × List Bool × List Int × List Unit × List Unit) ⊕ (Int × XS × Bool × Int × List UInt8 × Int × XL × List Int × List (List UInt8 × Int) × List Int × List Bool × List Int × List Unit × List (List UInt8 × XL) × List Int × List Unit)) =>
              match z2 with
              | .inl u3 =>
                k245 rb u3.1 u3.2.1 u3.2.2.1 u3.2.2.2.2.1 u3.2.2.2.2.2.1 u3.2.2.2.2.2.2.2.2.2.2.2.2.2.2.2 u3.2.2.2.2.2.2.2.2.2.2.1 u3.2.2.2.2.2.2.2.2.2.2.2.1 d9 d10 (IntKind.i64.wrap (d11 + 1))
              | .inr w4 =>
                match w4 with
                | .inl u5 =>
                  some (.inl (u5.1, u5.2.2.2.2.1, u5.2.2.2.2.2.1, u5.2.2.2.2.2.2.2.2.2.2.1, u5.2.2.2.2.2.2.2.2.2.2.2.1, u5.2.2.2.2.2.2.2.2.2.2.2.2.2.2.2))
                | .inr w6 =>
                  k245 rb w6.1 w6.2.2.2.2.2.2.2.2.2.2.2.2.2.1 w6.2.2.2.2.2.2.2.2.2.2.2.2.2.2.1 w6.2.2.1 w6.2.2.2.1 w6.2.2.2.2.2.2.2.2.2.2.2.2.2.2.2 w6.2.2.2.2.2.2.2.2.1 w6.2.2.2.2.2.2.2.2.2.1 d9 d10 (IntKind.i64.wrap (d11 + 1))
             else
              none
            else
             none
           )
          else
           none
         else
          none
        ) (
         agree (
          bif inb' (((x1.2.2.length : Nat) : Int)) most then
           bif inb' (((x1.2.2.length : Nat) : Int)) x1.2.2.length then
            bif inb' (if 1 > (((x1.2.2.length : Nat) : Int)) then 1 else (((x1.2.2.length : Nat) : Int))) most then
             bif inb' (if 1 > (((x1.2.2.length : Nat) : Int)) then 1 else (((x1.2.2.length : Nat) : Int))) (if 1 > (((x1.2.2.length : Nat) : Int)) then 1 else (((x1.2.2.length : Nat) : Int))).toNat then
              (k246 rb d1 d2 d3 x1 d4 d5 x1.1 x1.2.1 x1.2.2 [] d6 d7 d8 (List.replicate x1.2.2.length false) (List.replicate (if 1 > (((x1.2.2.length : Nat) : Int)) then 1 else (((x1.2.2.length : Nat) : Int))).toNat (0 : Int)) (List.replicate x1.2.2.length ()) d11).bind fun (z2 : (Int × List (List UInt8 × XL) × List Int × XS × Bool × Int × List UInt8 × Int × XL × List Int × List (List UInt8 × Int) × List Int × List Bool × List Int × List Unit × List Unit) ⊕ (Int × List (List UInt8 × XL) × List Int × XS × Bool × Int × List UInt8 × Int × XL × List Int × List (List UInt8 × Int) × List Int × List Bool × List Int × List Unit × List Unit) ⊕ (Int × XS × Bool × Int × List UInt8 × Int × XL × List Int × List (List UInt8 × Int) × List Int × List Bool × List Int × List Unit × List (List UInt8 × XL) × List Int × List Unit)) =>
              match z2 with
              | .inl u3 =>
                k245 rb u3.1 u3.2.1 u3.2.2.1 u3.2.2.2.2.1 u3.2.2.2.2.2.1 u3.2.2.2.2.2.2.2.2.2.2.2.2.2.2.2 u3.2.2.2.2.2.2.2.2.2.2.1 u3.2.2.2.2.2.2.2.2.2.2.2.1 d9 d10 (IntKind.i64.wrap (d11 + 1))
              | .inr w4 =>
                match w4 with
                | .inl u5 =>
                  some (.inl (u5.1, u5.2.2.2.2.1, u5.2.2.2.2.2.1, u5.2.2.2.2.2.2.2.2.2.2.1, u5.2.2.2.2.2.2.2.2.2.2.2.1, u5.2.2.2.2.2.2.2.2.2.2.2.2.2.2.2))
                | .inr w6 =>
                  k245 rb w6.1 w6.2.2.2.2.2.2.2.2.2.2.2.2.2.1 w6.2.2.2.2.2.2.2.2.2.2.2.2.2.2.1 w6.2.2.1 w6.2.2.2.1 w6.2.2.2.2.2.2.2.2.2.2.2.2.2.2.2 w6.2.2.2.2.2.2.2.2.1 w6.2.2.2.2.2.2.2.2.2.1 d9 d10 (IntKind.i64.wrap (d11 + 1))
             else
              none
            else
             none
           else
            none
          else
           none
         ) (
          bif inb' (if 1 > (((x1.2.2.length : Nat) : Int)) then 1 else (((x1.2.2.length : Nat) : Int))) most then
           bif inb' (if 1 > (((x1.2.2.length : Nat) : Int)) then 1 else (((x1.2.2.length : Nat) : Int))) (if 1 > (((x1.2.2.length : Nat) : Int)) then 1 else (((x1.2.2.length : Nat) : Int))).toNat then
            bif inb' (((x1.2.2.length : Nat) : Int)) most then
             bif inb' (((x1.2.2.length : Nat) : Int)) x1.2.2.length then
              (k246 rb d1 d2 d3 x1 d4 d5 x1.1 x1.2.1 x1.2.2 [] d6 d7 d8 (List.replicate x1.2.2.length false) (List.replicate (if 1 > (((x1.2.2.length : Nat) : Int)) then 1 else (((x1.2.2.length : Nat) : Int))).toNat (0 : Int)) (List.replicate x1.2.2.length ()) d11).bind fun (z2 : (Int × List (List UInt8 × XL) × List Int × XS × Bool × Int × List UInt8 × Int × XL × List Int × List (List UInt8 × Int) × List Int × List Bool × List Int × List Unit × List Unit) ⊕ (Int × List (List UInt8 × XL) × List Int × XS × Bool × Int × List UInt8 × Int × XL × List Int × List (List UInt8 × Int) × List Int × List Bool × List Int × List Unit × List Unit) ⊕ (Int × XS × Bool × Int × List UInt8 × Int × XL × List Int × List (List UInt8 × Int) × List Int × List Bool × List Int × List Unit × List (List UInt8 × XL) × List Int × List Unit)) =>
              match z2 with
              | .inl u3 =>
                k245 rb u3.1 u3.2.1 u3.2.2.1 u3.2.2.2.2.1 u3.2.2.2.2.2.1 u3.2.2.2.2.2.2.2.2.2.2.2.2.2.2.2 u3.2.2.2.2.2.2.2.2.2.2.1 u3.2.2.2.2.2.2.2.2.2.2.2.1 d9 d10 (IntKind.i64.wrap (d11 + 1))
              | .inr w4 =>
                match w4 with
                | .inl u5 =>
                  some (.inl (u5.1, u5.2.2.2.2.1, u5.2.2.2.2.2.1, u5.2.2.2.2.2.2.2.2.2.2.1, u5.2.2.2.2.2.2.2.2.2.2.2.1, u5.2.2.2.2.2.2.2.2.2.2.2.2.2.2.2))
                | .inr w6 =>
                  k245 rb w6.1 w6.2.2.2.2.2.2.2.2.2.2.2.2.2.1 w6.2.2.2.2.2.2.2.2.2.2.2.2.2.2.1 w6.2.2.1 w6.2.2.2.1 w6.2.2.2.2.2.2.2.2.2.2.2.2.2.2.2 w6.2.2.2.2.2.2.2.2.1 w6.2.2.2.2.2.2.2.2.2.1 d9 d10 (IntKind.i64.wrap (d11 + 1))
             else
              none
            else
             none
           else
            none
          else
           none
         )
        )
       )
      else
       none
     else
      none
    ) (
     agree (
      bif inb' (if 1 > (((x1.2.2.length : Nat) : Int)) then 1 else (((x1.2.2.length : Nat) : Int))) most then
       bif inb' (if 1 > (((x1.2.2.length : Nat) : Int)) then 1 else (((x1.2.2.length : Nat) : Int))) (if 1 > (((x1.2.2.length : Nat) : Int)) then 1 else (((x1.2.2.length : Nat) : Int))).toNat then
        agree (
         bif inb' (((x1.2.2.length : Nat) : Int)) most then
          bif inb' (((x1.2.2.length : Nat) : Int)) x1.2.2.length then
           agree (
            bif inb' (((x1.2.2.length : Nat) : Int)) most then
             bif inb' (((x1.2.2.length : Nat) : Int)) x1.2.2.length then
              agN 1 (
               (k246 rb d1 d2 d3 x1 d4 d5 x1.1 x1.2.1 x1.2.2 [] d6 d7 d8 (List.replicate x1.2.2.length false) (List.replicate (if 1 > (((x1.2.2.length : Nat) : Int)) then 1 else (((x1.2.2.length : Nat) : Int))).toNat (0 : Int)) (List.replicate x1.2.2.length ()) d11).bind fun (z2 : (Int × List (List UInt8 × XL) × List Int × XS × Bool × Int × List UInt8 × Int × XL × List Int × List (List UInt8 × Int) × List Int × List Bool × List Int × List Unit × List Unit) ⊕ (Int × List (List UInt8 × XL) × List Int × XS × Bool × Int × List UInt8 × Int × XL × List Int × List (List UInt8 × Int) × List Int × List Bool × List Int × List Unit × List Unit) ⊕ (Int × XS × Bool × Int × List UInt8 × Int × XL × List Int × List (List UInt8 × Int) × List Int × List Bool × List Int × List Unit × List (List UInt8 × XL) × List Int × List Unit)) =>
               match z2 with
               | .inl u3 =>
                 k245 rb u3.1 u3.2.1 u3.2.2.1 u3.2.2.2.2.1 u3.2.2.2.2.2.1 u3.2.2.2.2.2.2.2.2.2.2.2.2.2.2.2 u3.2.2.2.2.2.2.2.2.2.2.1 u3.2.2.2.2.2.2.2.2.2.2.2.1 d9 d10 (IntKind.i64.wrap (d11 + 1))
               | .inr w4 =>
                 match w4 with
                 | .inl u5 =>
                   some (.inl (u5.1, u5.2.2.2.2.1, u5.2.2.2.2.2.1, u5.2.2.2.2.2.2.2.2.2.2.1, u5.2.2.2.2.2.2.2.2.2.2.2.1, u5.2.2.2.2.2.2.2.2.2.2.2.2.2.2.2))
                 | .inr w6 =>
                   k245 rb w6.1 w6.2.2.2.2.2.2.2.2.2.2.2.2.2.1 w6.2.2.2.2.2.2.2.2.2.2.2.2.2.2.1 w6.2.2.1 w6.2.2.2.1 w6.2.2.2.2.2.2.2.2.2.2.2.2.2.2.2 w6.2.2.2.2.2.2.2.2.1 w6.2.2.2.2.2.2.2.2.2.1 d9 d10 (IntKind.i64.wrap (d11 + 1))
              )
             else
              none
            else
             none
           ) (
            bif inb' (((x1.2.2.length : Nat) : Int)) most then
             bif inb' (((x1.2.2.length : Nat) : Int)) x1.2.2.length then
              (k246 rb d1 d2 d3 x1 d4 d5 x1.1 x1.2.1 x1.2.2 [] d6 d7 d8 (List.replicate x1.2.2.length false) (List.replicate (if 1 > (((x1.2.2.length : Nat) : Int)) then 1 else (((x1.2.2.length : Nat) : Int))).toNat (0 : Int)) (List.replicate x1.2.2.length ()) d11).bind fun (z2 : (Int × List (List UInt8 × XL) × List Int × XS × Bool × Int × List UInt8 × Int × XL × List Int × List (List UInt8 × Int) × List Int × List Bool × List Int × List Unit × List Unit) ⊕ (Int × List (List UInt8 × XL) × List Int × XS × Bool × Int × List UInt8 × Int × XL × List Int × List (List UInt8 × Int) × List Int × List Bool × List Int × List Unit × List Unit) ⊕ (Int × XS × Bool × Int × List UInt8 × Int × XL × List Int × List (List UInt8 × Int) × List Int × List Bool × List Int × List Unit × List (List UInt8 × XL) × List Int × List Unit)) =>
              match z2 with
              | .inl u3 =>
                k245 rb u3.1 u3.2.1 u3.2.2.1 u3.2.2.2.2.1 u3.2.2.2.2.2.1 u3.2.2.2.2.2.2.2.2.2.2.2.2.2.2.2 u3.2.2.2.2.2.2.2.2.2.2.1 u3.2.2.2.2.2.2.2.2.2.2.2.1 d9 d10 (IntKind.i64.wrap (d11 + 1))
              | .inr w4 =>
                match w4 with
                | .inl u5 =>
                  some (.inl (u5.1, u5.2.2.2.2.1, u5.2.2.2.2.2.1, u5.2.2.2.2.2.2.2.2.2.2.1, u5.2.2.2.2.2.2.2.2.2.2.2.1, u5.2.2.2.2.2.2.2.2.2.2.2.2.2.2.2))
                | .inr w6 =>
                  k245 rb w6.1 w6.2.2.2.2.2.2.2.2.2.2.2.2.2.1 w6.2.2.2.2.2.2.2.2.2.2.2.2.2.2.1 w6.2.2.1 w6.2.2.2.1 w6.2.2.2.2.2.2.2.2.2.2.2.2.2.2.2 w6.2.2.2.2.2.2.2.2.1 w6.2.2.2.2.2.2.2.2.2.1 d9 d10 (IntKind.i64.wrap (d11 + 1))
             else
              none
            else
             none
           )
          else
           none
         else
          none
        ) (
         agree (
          bif inb' (((x1.2.2.length : Nat) : Int)) most then
           bif inb' (((x1.2.2.length : Nat) : Int)) x1.2.2.length then
            agree (
             bif inb' (((x1.2.2.length : Nat) : Int)) most then
              bif inb' (((x1.2.2.length : Nat) : Int)) x1.2.2.length then
               agN 1 (
                (k246 rb d1 d2 d3 x1 d4 d5 x1.1 x1.2.1 x1.2.2 [] d6 d7 d8 (List.replicate x1.2.2.length false) (List.replicate (if 1 > (((x1.2.2.length : Nat) : Int)) then 1 else (((x1.2.2.length : Nat) : Int))).toNat (0 : Int)) (List.replicate x1.2.2.length ()) d11).bind fun (z2 : (Int × List (List UInt8 × XL) × List Int × XS × Bool × Int × List UInt8 × Int × XL × List Int × List (List UInt8 × Int) × List Int × List Bool × List Int × List Unit × List Unit) ⊕ (Int × List (List UInt8 × XL) × List Int × XS × Bool × Int × List UInt8 × Int × XL × List Int × List (List UInt8 × Int) × List Int × List Bool × List Int × List Unit × List Unit) ⊕ (Int × XS × Bool × Int × List UInt8 × Int × XL × List Int × List (List UInt8 × Int) × List Int × List Bool × List Int × List Unit × List (List UInt8 × XL) × List Int × List Unit)) =>
                match z2 with
                | .inl u3 =>
                  k245 rb u3.1 u3.2.1 u3.2.2.1 u3.2.2.2.2.1 u3.2.2.2.2.2.1 u3.2.2.2.2.2.2.2.2.2.2.2.2.2.2.2 u3.2.2.2.2.2.2.2.2.2.2.1 u3.2.2.2.2.2.2.2.2.2.2.2.1 d9 d10 (IntKind.i64.wrap (d11 + 1))
                | .inr w4 =>
                  match w4 with
                  | .inl u5 =>
                    some (.inl (u5.1, u5.2.2.2.2.1, u5.2.2.2.2.2.1, u5.2.2.2.2.2.2.2.2.2.2.1, u5.2.2.2.2.2.2.2.2.2.2.2.1, u5.2.2.2.2.2.2.2.2.2.2.2.2.2.2.2))
                  | .inr w6 =>
                    k245 rb w6.1 w6.2.2.2.2.2.2.2.2.2.2.2.2.2.1 w6.2.2.2.2.2.2.2.2.2.2.2.2.2.2.1 w6.2.2.1 w6.2.2.2.1 w6.2.2.2.2.2.2.2.2.2.2.2.2.2.2.2 w6.2.2.2.2.2.2.2.2.1 w6.2.2.2.2.2.2.2.2.2.1 d9 d10 (IntKind.i64.wrap (d11 + 1))
               )
              else
               none
             else
              none
            ) (
             bif inb' (((x1.2.2.length : Nat) : Int)) most then
              bif inb' (((x1.2.2.length : Nat) : Int)) x1.2.2.length then
               (k246 rb d1 d2 d3 x1 d4 d5 x1.1 x1.2.1 x1.2.2 [] d6 d7 d8 (List.replicate x1.2.2.length false) (List.replicate (if 1 > (((x1.2.2.length : Nat) : Int)) then 1 else (((x1.2.2.length : Nat) : Int))).toNat (0 : Int)) (List.replicate x1.2.2.length ()) d11).bind fun (z2 : (Int × List (List UInt8 × XL) × List Int × XS × Bool × Int × List UInt8 × Int × XL × List Int × List (List UInt8 × Int) × List Int × List Bool × List Int × List Unit × List Unit) ⊕ (Int × List (List UInt8 × XL) × List Int × XS × Bool × Int × List UInt8 × Int × XL × List Int × List (List UInt8 × Int) × List Int × List Bool × List Int × List Unit × List Unit) ⊕ (Int × XS × Bool × Int × List UInt8 × Int × XL × List Int × List (List UInt8 × Int) × List Int × List Bool × List Int × List Unit × List (List UInt8 × XL) × List Int × List Unit)) =>
               match z2 with
               | .inl u3 =>
                 k245 rb u3.1 u3.2.1 u3.2.2.1 u3.2.2.2.2.1 u3.2.2.2.2.2.1 u3.2.2.2.2.2.2.2.2.2.2.2.2.2.2.2 u3.2.2.2.2.2.2.2.2.2.2.1 u3.2.2.2.2.2.2.2.2.2.2.2.1 d9 d10 (IntKind.i64.wrap (d11 + 1))
               | .inr w4 =>
                 match w4 with
                 | .inl u5 =>
                   some (.inl (u5.1, u5.2.2.2.2.1, u5.2.2.2.2.2.1, u5.2.2.2.2.2.2.2.2.2.2.1, u5.2.2.2.2.2.2.2.2.2.2.2.1, u5.2.2.2.2.2.2.2.2.2.2.2.2.2.2.2))
                 | .inr w6 =>
                   k245 rb w6.1 w6.2.2.2.2.2.2.2.2.2.2.2.2.2.1 w6.2.2.2.2.2.2.2.2.2.2.2.2.2.2.1 w6.2.2.1 w6.2.2.2.1 w6.2.2.2.2.2.2.2.2.2.2.2.2.2.2.2 w6.2.2.2.2.2.2.2.2.1 w6.2.2.2.2.2.2.2.2.2.1 d9 d10 (IntKind.i64.wrap (d11 + 1))
              else
               none
             else
              none
            )
           else
            none
          else
           none
         ) (
          agN 1 (
           bif inb' (((x1.2.2.length : Nat) : Int)) most then
            bif inb' (((x1.2.2.length : Nat) : Int)) x1.2.2.length then
             bif inb' (((x1.2.2.length : Nat) : Int)) most then
              bif inb' (((x1.2.2.length : Nat) : Int)) x1.2.2.length then
               (k246 rb d1 d2 d3 x1 d4 d5 x1.1 x1.2.1 x1.2.2 [] d6 d7 d8 (List.replicate x1.2.2.length false) (List.replicate (if 1 > (((x1.2.2.length : Nat) : Int)) then 1 else (((x1.2.2.length : Nat) : Int))).toNat (0 : Int)) (List.replicate x1.2.2.length ()) d11).bind fun (z2 : (Int × List (List UInt8 × XL) × List Int × XS × Bool × Int × List UInt8 × Int × XL × List Int × List (List UInt8 × Int) × List Int × List Bool × List Int × List Unit × List Unit) ⊕ (Int × List (List UInt8 × XL) × List Int × XS × Bool × Int × List UInt8 × Int × XL × List Int × List (List UInt8 × Int) × List Int × List Bool × List Int × List Unit × List Unit) ⊕ (Int × XS × Bool × Int × List UInt8 × Int × XL × List Int × List (List UInt8 × Int) × List Int × List Bool × List Int × List Unit × List (List UInt8 × XL) × List Int × List Unit)) =>
               match z2 with
               | .inl u3 =>
                 k245 rb u3.1 u3.2.1 u3.2.2.1 u3.2.2.2.2.1 u3.2.2.2.2.2.1 u3.2.2.2.2.2.2.2.2.2.2.2.2.2.2.2 u3.2.2.2.2.2.2.2.2.2.2.1 u3.2.2.2.2.2.2.2.2.2.2.2.1 d9 d10 (IntKind.i64.wrap (d11 + 1))
               | .inr w4 =>
                 match w4 with
                 | .inl u5 =>
                   some (.inl (u5.1, u5.2.2.2.2.1, u5.2.2.2.2.2.1, u5.2.2.2.2.2.2.2.2.2.2.1, u5.2.2.2.2.2.2.2.2.2.2.2.1, u5.2.2.2.2.2.2.2.2.2.2.2.2.2.2.2))
                 | .inr w6 =>
                   k245 rb w6.1 w6.2.2.2.2.2.2.2.2.2.2.2.2.2.1 w6.2.2.2.2.2.2.2.2.2.2.2.2.2.2.1 w6.2.2.1 w6.2.2.2.1 w6.2.2.2.2.2.2.2.2.2.2.2.2.2.2.2 w6.2.2.2.2.2.2.2.2.1 w6.2.2.2.2.2.2.2.2.2.1 d9 d10 (IntKind.i64.wrap (d11 + 1))
              else
               none
             else
              none
            else
             none
           else
            none
          )
         )
        )
       else
        none
      else
       none
     ) (
      agree (
       bif inb' (((x1.2.2.length : Nat) : Int)) most then
        bif inb' (((x1.2.2.length : Nat) : Int)) x1.2.2.length then
         agree (
          bif inb' (((x1.2.2.length : Nat) : Int)) most then
           bif inb' (((x1.2.2.length : Nat) : Int)) x1.2.2.length then
            bif inb' (if 1 > (((x1.2.2.length : Nat) : Int)) then 1 else (((x1.2.2.length : Nat) : Int))) most then
             bif inb' (if 1 > (((x1.2.2.length : Nat) : Int)) then 1 else (((x1.2.2.length : Nat) : Int))) (if 1 > (((x1.2.2.length : Nat) : Int)) then 1 else (((x1.2.2.length : Nat) : Int))).toNat then
              (k246 rb d1 d2 d3 x1 d4 d5 x1.1 x1.2.1 x1.2.2 [] d6 d7 d8 (List.replicate x1.2.2.length false) (List.replicate (if 1 > (((x1.2.2.length : Nat) : Int)) then 1 else (((x1.2.2.length : Nat) : Int))).toNat (0 : Int)) (List.replicate x1.2.2.length ()) d11).bind fun (z2 : (Int × List (List UInt8 × XL) × List Int × XS × Bool × Int × List UInt8 × Int × XL × List Int × List (List UInt8 × Int) × List Int × List Bool × List Int × List Unit × List Unit) ⊕ (Int × List (List UInt8 × XL) × List Int × XS × Bool × Int × List UInt8 × Int × XL × List Int × List (List UInt8 × Int) × List Int × List Bool × List Int × List Unit × List Unit) ⊕ (Int × XS × Bool × Int × List UInt8 × Int × XL × List Int × List (List UInt8 × Int) × List Int × List Bool × List Int × List Unit × List (List UInt8 × XL) × List Int × List Unit)) =>
              match z2 with
              | .inl u3 =>
                k245 rb u3.1 u3.2.1 u3.2.2.1 u3.2.2.2.2.1 u3.2.2.2.2.2.1 u3.2.2.2.2.2.2.2.2.2.2.2.2.2.2.2 u3.2.2.2.2.2.2.2.2.2.2.1 u3.2.2.2.2.2.2.2.2.2.2.2.1 d9 d10 (IntKind.i64.wrap (d11 + 1))
              | .inr w4 =>
                match w4 with
                | .inl u5 =>
                  some (.inl (u5.1, u5.2.2.2.2.1, u5.2.2.2.2.2.1, u5.2.2.2.2.2.2.2.2.2.2.1, u5.2.2.2.2.2.2.2.2.2.2.2.1, u5.2.2.2.2.2.2.2.2.2.2.2.2.2.2.2))
                | .inr w6 =>
                  k245 rb w6.1 w6.2.2.2.2.2.2.2.2.2.2.2.2.2.1 w6.2.2.2.2.2.2.2.2.2.2.2.2.2.2.1 w6.2.2.1 w6.2.2.2.1 w6.2.2.2.2.2.2.2.2.2.2.2.2.2.2.2 w6.2.2.2.2.2.2.2.2.1 w6.2.2.2.2.2.2.2.2.2.1 d9 d10 (IntKind.i64.wrap (d11 + 1))
             else
              none
            else
             none
           else
            none
          else
           none
         ) (
          bif inb' (if 1 > (((x1.2.2.length : Nat) : Int)) then 1 else (((x1.2.2.length : Nat) : Int))) most then
           bif inb' (if 1 > (((x1.2.2.length : Nat) : Int)) then 1 else (((x1.2.2.length : Nat) : Int))) (if 1 > (((x1.2.2.length : Nat) : Int)) then 1 else (((x1.2.2.length : Nat) : Int))).toNat then
            bif inb' (((x1.2.2.length : Nat) : Int)) most then
             bif inb' (((x1.2.2.length : Nat) : Int)) x1.2.2.length then
              (k246 rb d1 d2 d3 x1 d4 d5 x1.1 x1.2.1 x1.2.2 [] d6 d7 d8 (List.replicate x1.2.2.length false) (List.replicate (if 1 > (((x1.2.2.length : Nat) : Int)) then 1 else (((x1.2.2.length : Nat) : Int))).toNat (0 : Int)) (List.replicate x1.2.2.length ()) d11).bind fun (z2 : (Int × List (List UInt8 × XL) × List Int × XS × Bool × Int × List UInt8 × Int × XL × List Int × List (List UInt8 × Int) × List Int × List Bool × List Int × List Unit × List Unit) ⊕ (Int × List (List UInt8 × XL) × List Int × XS × Bool × Int × List UInt8 × Int × XL × List Int × List (List UInt8 × Int) × List Int × List Bool × List Int × List Unit × List Unit) ⊕ (Int × XS × Bool × Int × List UInt8 × Int × XL × List Int × List (List UInt8 × Int) × List Int × List Bool × List Int × List Unit × List (List UInt8 × XL) × List Int × List Unit)) =>
              match z2 with
              | .inl u3 =>
                k245 rb u3.1 u3.2.1 u3.2.2.1 u3.2.2.2.2.1 u3.2.2.2.2.2.1 u3.2.2.2.2.2.2.2.2.2.2.2.2.2.2.2 u3.2.2.2.2.2.2.2.2.2.2.1 u3.2.2.2.2.2.2.2.2.2.2.2.1 d9 d10 (IntKind.i64.wrap (d11 + 1))
              | .inr w4 =>
                match w4 with
                | .inl u5 =>
                  some (.inl (u5.1, u5.2.2.2.2.1, u5.2.2.2.2.2.1, u5.2.2.2.2.2.2.2.2.2.2.1, u5.2.2.2.2.2.2.2.2.2.2.2.1, u5.2.2.2.2.2.2.2.2.2.2.2.2.2.2.2))
                | .inr w6 =>
                  k245 rb w6.1 w6.2.2.2.2.2.2.2.2.2.2.2.2.2.1 w6.2.2.2.2.2.2.2.2.2.2.2.2.2.2.1 w6.2.2.1 w6.2.2.2.1 w6.2.2.2.2.2.2.2.2.2.2.2.2.2.2.2 w6.2.2.2.2.2.2.2.2.1 w6.2.2.2.2.2.2.2.2.2.1 d9 d10 (IntKind.i64.wrap (d11 + 1))
             else
              none
            else
             none
           else
            none
          else
           none
         )
        else
         none
       else
        none
      ) (
       agree (
        bif inb' (((x1.2.2.length : Nat) : Int)) most then
         bif inb' (((x1.2.2.length : Nat) : Int)) x1.2.2.length then
          agree (
           bif inb' (((x1.2.2.length : Nat) : Int)) most then
            bif inb' (((x1.2.2.length : Nat) : Int)) x1.2.2.length then
             bif inb' (if 1 > (((x1.2.2.length : Nat) : Int)) then 1 else (((x1.2.2.length : Nat) : Int))) most then
              bif inb' (if 1 > (((x1.2.2.length : Nat) : Int)) then 1 else (((x1.2.2.length : Nat) : Int))) (if 1 > (((x1.2.2.length : Nat) : Int)) then 1 else (((x1.2.2.length : Nat) : Int))).toNat then
               (k246 rb d1 d2 d3 x1 d4 d5 x1.1 x1.2.1 x1.2.2 [] d6 d7 d8 (List.replicate x1.2.2.length false) (List.replicate (if 1 > (((x1.2.2.length : Nat) : Int)) then 1 else (((x1.2.2.length : Nat) : Int))).toNat (0 : Int)) (List.replicate x1.2.2.length ()) d11).bind fun (z2 : (Int × List (List UInt8 × XL) × List Int × XS × Bool × Int × List UInt8 × Int × XL × List Int × List (List UInt8 × Int) × List Int × List Bool × List Int × List Unit × List Unit) ⊕ (Int × List (List UInt8 × XL) × List Int × XS × Bool × Int × List UInt8 × Int × XL × List Int × List (List UInt8 × Int) × List Int × List Bool × List Int × List Unit × List Unit) ⊕ (Int × XS × Bool × Int × List UInt8 × Int × XL × List Int × List (List UInt8 × Int) × List Int × List Bool × List Int × List Unit × List (List UInt8 × XL) × List Int × List Unit)) =>
               match z2 with
               | .inl u3 =>
                 k245 rb u3.1 u3.2.1 u3.2.2.1 u3.2.2.2.2.1 u3.2.2.2.2.2.1 u3.2.2.2.2.2.2.2.2.2.2.2.2.2.2.2 u3.2.2.2.2.2.2.2.2.2.2.1 u3.2.2.2.2.2.2.2.2.2.2.2.1 d9 d10 (IntKind.i64.wrap (d11 + 1))
               | .inr w4 =>
                 match w4 with
                 | .inl u5 =>
                   some (.inl (u5.1, u5.2.2.2.2.1, u5.2.2.2.2.2.1, u5.2.2.2.2.2.2.2.2.2.2.1, u5.2.2.2.2.2.2.2.2.2.2.2.1, u5.2.2.2.2.2.2.2.2.2.2.2.2.2.2.2))
                 | .inr w6 =>
                   k245 rb w6.1 w6.2.2.2.2.2.2.2.2.2.2.2.2.2.1 w6.2.2.2.2.2.2.2.2.2.2.2.2.2.2.1 w6.2.2.1 w6.2.2.2.1 w6.2.2.2.2.2.2.2.2.2.2.2.2.2.2.2 w6.2.2.2.2.2.2.2.2.1 w6.2.2.2.2.2.2.2.2.2.1 d9 d10 (IntKind.i64.wrap (d11 + 1))
              else
               none
             else
              none
            else
             none
           else
            none
          ) (
           bif inb' (if 1 > (((x1.2.2.length : Nat) : Int)) then 1 else (((x1.2.2.length : Nat) : Int))) most then
            bif inb' (if 1 > (((x1.2.2.length : Nat) : Int)) then 1 else (((x1.2.2.length : Nat) : Int))) (if 1 > (((x1.2.2.length : Nat) : Int)) then 1 else (((x1.2.2.length : Nat) : Int))).toNat then
             bif inb' (((x1.2.2.length : Nat) : Int)) most then
              bif inb' (((x1.2.2.length : Nat) : Int)) x1.2.2.length then
               (k246 rb d1 d2 d3 x1 d4 d5 x1.1 x1.2.1 x1.2.2 [] d6 d7 d8 (List.replicate x1.2.2.length false) (List.replicate (if 1 > (((x1.2.2.length : Nat) : Int)) then 1 else (((x1.2.2.length : Nat) : Int))).toNat (0 : Int)) (List.replicate x1.2.2.length ()) d11).bind fun (z2 : (Int × List (List UInt8 × XL) × List Int × XS × Bool × Int × List UInt8 × Int × XL × List Int × List (List UInt8 × Int) × List Int × List Bool × List Int × List Unit × List Unit) ⊕ (Int × List (List UInt8 × XL) × List Int × XS × Bool × Int × List UInt8 × Int × XL × List Int × List (List UInt8 × Int) × List Int × List Bool × List Int × List Unit × List Unit) ⊕ (Int × XS × Bool × Int × List UInt8 × Int × XL × List Int × List (List UInt8 × Int) × List Int × List Bool × List Int × List Unit × List (List UInt8 × XL) × List Int × List Unit)) =>
               match z2 with
               | .inl u3 =>
                 k245 rb u3.1 u3.2.1 u3.2.2.1 u3.2.2.2.2.1 u3.2.2.2.2.2.1 u3.2.2.2.2.2.2.2.2.2.2.2.2.2.2.2 u3.2.2.2.2.2.2.2.2.2.2.1 u3.2.2.2.2.2.2.2.2.2.2.2.1 d9 d10 (IntKind.i64.wrap (d11 + 1))
               | .inr w4 =>
                 match w4 with
                 | .inl u5 =>
                   some (.inl (u5.1, u5.2.2.2.2.1, u5.2.2.2.2.2.1, u5.2.2.2.2.2.2.2.2.2.2.1, u5.2.2.2.2.2.2.2.2.2.2.2.1, u5.2.2.2.2.2.2.2.2.2.2.2.2.2.2.2))
                 | .inr w6 =>
                   k245 rb w6.1 w6.2.2.2.2.2.2.2.2.2.2.2.2.2.1 w6.2.2.2.2.2.2.2.2.2.2.2.2.2.2.1 w6.2.2.1 w6.2.2.2.1 w6.2.2.2.2.2.2.2.2.2.2.2.2.2.2.2 w6.2.2.2.2.2.2.2.2.1 w6.2.2.2.2.2.2.2.2.2.1 d9 d10 (IntKind.i64.wrap (d11 + 1))
              else
               none
             else
              none
            else
             none
           else
            none
          )
         else
          none
        else
         none
       ) (
        bif inb' (if 1 > (((x1.2.2.length : Nat) : Int)) then 1 else (((x1.2.2.length : Nat) : Int))) most then
         bif inb' (if 1 > (((x1.2.2.length : Nat) : Int)) then 1 else (((x1.2.2.length : Nat) : Int))) (if 1 > (((x1.2.2.length : Nat) : Int)) then 1 else (((x1.2.2.length : Nat) : Int))).toNat then
          agN 1 (
           bif inb' (((x1.2.2.length : Nat) : Int)) most then
            bif inb' (((x1.2.2.length : Nat) : Int)) x1.2.2.length then
             bif inb' (((x1.2.2.length : Nat) : Int)) most then
              bif inb' (((x1.2.2.length : Nat) : Int)) x1.2.2.length then
               (k246 rb d1 d2 d3 x1 d4 d5 x1.1 x1.2.1 x1.2.2 [] d6 d7 d8 (List.replicate x1.2.2.length false) (List.replicate (if 1 > (((x1.2.2.length : Nat) : Int)) then 1 else (((x1.2.2.length : Nat) : Int))).toNat (0 : Int)) (List.replicate x1.2.2.length ()) d11).bind fun (z2 : (Int × List (List UInt8 × XL) × List Int × XS × Bool × Int × List UInt8 × Int × XL × List Int × List (List UInt8 × Int) × List Int × List Bool × List Int × List Unit × List Unit) ⊕ (Int × List (List UInt8 × XL) × List Int × XS × Bool × Int × List UInt8 × Int × XL × List Int × List (List UInt8 × Int) × List Int × List Bool × List Int × List Unit × List Unit) ⊕ (Int × XS × Bool × Int × List UInt8 × Int × XL × List Int × List (List UInt8 × Int) × List Int × List Bool × List Int × List Unit × List (List UInt8 × XL) × List Int × List Unit)) =>
               match z2 with
               | .inl u3 =>
                 k245 rb u3.1 u3.2.1 u3.2.2.1 u3.2.2.2.2.1 u3.2.2.2.2.2.1 u3.2.2.2.2.2.2.2.2.2.2.2.2.2.2.2 u3.2.2.2.2.2.2.2.2.2.2.1 u3.2.2.2.2.2.2.2.2.2.2.2.1 d9 d10 (IntKind.i64.wrap (d11 + 1))
               | .inr w4 =>
                 match w4 with
                 | .inl u5 =>
                   some (.inl (u5.1, u5.2.2.2.2.1, u5.2.2.2.2.2.1, u5.2.2.2.2.2.2.2.2.2.2.1, u5.2.2.2.2.2.2.2.2.2.2.2.1, u5.2.2.2.2.2.2.2.2.2.2.2.2.2.2.2))
                 | .inr w6 =>
                   k245 rb w6.1 w6.2.2.2.2.2.2.2.2.2.2.2.2.2.1 w6.2.2.2.2.2.2.2.2.2.2.2.2.2.2.1 w6.2.2.1 w6.2.2.2.1 w6.2.2.2.2.2.2.2.2.2.2.2.2.2.2.2 w6.2.2.2.2.2.2.2.2.1 w6.2.2.2.2.2.2.2.2.2.1 d9 d10 (IntKind.i64.wrap (d11 + 1))
              else
               none
             else
              none
            else
             none
           else
            none
          )
         else
          none
        else
         none
       )
      )
     )
    )
   )
  else
   none
 else
  some (.inr (d1, d4, d5, d7, d8, d2, d3, d6))
noncomputable def b245 (rf : T.RF) (rb : T.RB) (d1 : Int) (d2 : List (List UInt8 × XL)) (d3 : List Int) (d4 : Bool) (d5 : Int) (d6 : List Unit) (d7 : List (List UInt8 × Int)) (d8 : List Int) (d9 : List XS) (d10 : Int) (d11 : Int) : Option ((Int × Bool × Int × List (List UInt8 × Int) × List Int × List Unit) ⊕ (Int × Bool × Int × List (List UInt8 × Int) × List Int × List (List UInt8 × XL) × List Int × List Unit)) :=
 bif decide (d11 < d10) then
  bif inb d11 d9.length then
   (nth d9 d11.toNat).bind fun (x1 : XS) =>
   bif inb' (((x1.2.2.length : Nat) : Int)) most then
    bif inb' (((x1.2.2.length : Nat) : Int)) x1.2.2.length then
     bif inb' (((x1.2.2.length : Nat) : Int)) most then
      bif inb' (((x1.2.2.length : Nat) : Int)) x1.2.2.length then
       bif inb' (if 1 > (((x1.2.2.length : Nat) : Int)) then 1 else (((x1.2.2.length : Nat) : Int))) most then
        bif inb' (if 1 > (((x1.2.2.length : Nat) : Int)) then 1 else (((x1.2.2.length : Nat) : Int))) (if 1 > (((x1.2.2.length : Nat) : Int)) then 1 else (((x1.2.2.length : Nat) : Int))).toNat then
         (k246 rb d1 d2 d3 x1 d4 d5 x1.1 x1.2.1 x1.2.2 [] d6 d7 d8 (List.replicate x1.2.2.length false) (List.replicate (if 1 > (((x1.2.2.length : Nat) : Int)) then 1 else (((x1.2.2.length : Nat) : Int))).toNat (0 : Int)) (List.replicate x1.2.2.length ()) d11).bind fun (z2 : (Int × List (List UInt8 × XL) × List Int × XS × Bool × Int × List UInt8 × Int × XL × List Int × List (List UInt8 × Int) × List Int × List Bool × List Int × List Unit × List Unit) ⊕ (Int × List (List UInt8 × XL) × List Int × XS × Bool × Int × List UInt8 × Int × XL × List Int × List (List UInt8 × Int) × List Int × List Bool × List Int × List Unit × List Unit) ⊕ (Int × XS × Bool × Int × List UInt8 × Int × XL × List Int × List (List UInt8 × Int) × List Int × List Bool × List Int × List Unit × List (List UInt8 × XL) × List Int × List Unit)) =>
         match z2 with
         | .inl u3 =>
           k245 rb u3.1 u3.2.1 u3.2.2.1 u3.2.2.2.2.1 u3.2.2.2.2.2.1 u3.2.2.2.2.2.2.2.2.2.2.2.2.2.2.2 u3.2.2.2.2.2.2.2.2.2.2.1 u3.2.2.2.2.2.2.2.2.2.2.2.1 d9 d10 (IntKind.i64.wrap (d11 + 1))
         | .inr w4 =>
           match w4 with
           | .inl u5 =>
             some (.inl (u5.1, u5.2.2.2.2.1, u5.2.2.2.2.2.1, u5.2.2.2.2.2.2.2.2.2.2.1, u5.2.2.2.2.2.2.2.2.2.2.2.1, u5.2.2.2.2.2.2.2.2.2.2.2.2.2.2.2))
           | .inr w6 =>
             k245 rb w6.1 w6.2.2.2.2.2.2.2.2.2.2.2.2.2.1 w6.2.2.2.2.2.2.2.2.2.2.2.2.2.2.1 w6.2.2.1 w6.2.2.2.1 w6.2.2.2.2.2.2.2.2.2.2.2.2.2.2.2 w6.2.2.2.2.2.2.2.2.1 w6.2.2.2.2.2.2.2.2.2.1 d9 d10 (IntKind.i64.wrap (d11 + 1))
        else
         none
       else
        none
      else
       none
     else
      none
    else
     none
   else
    none
  else
   none
 else
  some (.inr (d1, d4, d5, d7, d8, d2, d3, d6))
theorem eb245 (rf : T.RF) (rb : T.RB) (d1 : Int) (d2 : List (List UInt8 × XL)) (d3 : List Int) (d4 : Bool) (d5 : Int) (d6 : List Unit) (d7 : List (List UInt8 × Int)) (d8 : List Int) (d9 : List XS) (d10 : Int) (d11 : Int) : T.stepB rf rb 245 (d1, d2, d3, d4, d5, d6, d7, d8, d9, d10, d11) = b245q rf rb d1 d2 d3 d4 d5 d6 d7 d8 d9 d10 d11 := by kernel_rfl
theorem sb245 (rf : T.RF) (rb : T.RB) (d1 : Int) (d2 : List (List UInt8 × XL)) (d3 : List Int) (d4 : Bool) (d5 : Int) (d6 : List Unit) (d7 : List (List UInt8 × Int)) (d8 : List Int) (d9 : List XS) (d10 : Int) (d11 : Int) : b245q rf rb d1 d2 d3 d4 d5 d6 d7 d8 d9 d10 d11 = b245 rf rb d1 d2 d3 d4 d5 d6 d7 d8 d9 d10 d11 := by
 unfold b245q b245; simp only [agN_eq, agree_self, agree_swap, guard_and, agree_guard, Bool.and_assoc, Bool.and_comm, Bool.and_left_comm, Bool.and_self, Bool.and_self_left]
noncomputable def b246q (rf : T.RF) (rb : T.RB) (d1 : Int) (d2 : List (List UInt8 × XL)) (d3 : List Int) (d4 : XS) (d5 : Bool) (d6 : Int) (d7 : List UInt8) (d8 : Int) (d9 : XL) (d10 : List Int) (d11 : List Unit) (d12 : List (List UInt8 × Int)) (d13 : List Int) (d14 : List Bool) (d15 : List Int) (d16 : List Unit) (d17 : Int) : Option ((Int × List (List UInt8 × XL) × List Int × XS × Bool × Int × List UInt8 × Int × XL × List Int × List (List UInt8 × Int) × List Int × List Bool × List Int × List Unit × List Unit) ⊕ (Int × List (List UInt8 × XL) × List Int × XS × Bool × Int × List UInt8 × Int × XL × List Int × List (List UInt8 × Int) × List Int × List Bool × List Int × List Unit × List Unit) ⊕ (Int × XS × Bool × Int × List UInt8 × Int × XL × List Int × List (List UInt8 × Int) × List Int × List Bool × List Int × List Unit × List (List UInt8 × XL) × List Int × List Unit)) :=
 agree (
  agree (
   agN 1 (
    bif (Nat.ble (d11.length + 1) most) && true then
     (k247 rb d1 d2 d3 d4 d5 d6 d7 d8 d9 d10 (d11 ++ [()]) d12 d13 d14 d15 d16 d17).bind fun (z1 : (Int × List (List UInt8 × XL) × List Int × XS × Bool × Int × List UInt8 × Int × XL × List Int × List Unit × List (List UInt8 × Int) × List Int × List Bool × List Int × List Unit) ⊕ (Int × List (List UInt8 × XL) × List Int × XS × Bool × Int × List UInt8 × Int × XL × List Int × List Unit × List (List UInt8 × Int) × List Int × List Bool × List Int × List Unit) ⊕ (Int × XS × Bool × Int × List UInt8 × Int × XL × List Int × List Unit × List (List UInt8 × Int) × List Int × List Bool × List Int × List Unit × List (List UInt8 × XL) × List Int)) =>
     match z1 with
     | .inl u2 =>
       some (.inl (u2.1, u2.2.1, u2.2.2.1, u2.2.2.2.1, u2.2.2.2.2.1, u2.2.2.2.2.2.1, u2.2.2.2.2.2.2.1, u2.2.2.2.2.2.2.2.1, u2.2.2.2.2.2.2.2.2.1, u2.2.2.2.2.2.2.2.2.2.1, u2.2.2.2.2.2.2.2.2.2.2.2.1, u2.2.2.2.2.2.2.2.2.2.2.2.2.1, u2.2.2.2.2.2.2.2.2.2.2.2.2.2.1, u2.2.2.2.2.2.2.2.2.2.2.2.2.2.2.1, u2.2.2.2.2.2.2.2.2.2.2.2.2.2.2.2, u2.2.2.2.2.2.2.2.2.2.2.1))
     | .inr w3 =>
       match w3 with
       | .inl u4 =>
         some (.inr (.inl (u4.1, u4.2.1, u4.2.2.1, u4.2.2.2.1, u4.2.2.2.2.1, u4.2.2.2.2.2.1, u4.2.2.2.2.2.2.1, u4.2.2.2.2.2.2.2.1, u4.2.2.2.2.2.2.2.2.1, u4.2.2.2.2.2.2.2.2.2.1, u4.2.2.2.2.2.2.2.2.2.2.2.1, u4.2.2.2.2.2.2.2.2.2.2.2.2.1, u4.2.2.2.2.2.2.2.2.2.2.2.2.2.1, u4.2.2.2.2.2.2.2.2.2.2.2.2.2.2.1, u4.2.2.2.2.2.2.2.2.2.2.2.2.2.2.2, u4.2.2.2.2.2.2.2.2.2.2.1)))
       | .inr w5 =>
         some (.inr (.inr (w5.1, w5.2.1, w5.2.2.1, w5.2.2.2.1, w5.2.2.2.2.1, w5.2.2.2.2.2.1, w5.2.2.2.2.2.2.1, w5.2.2.2.2.2.2.2.1, w5.2.2.2.2.2.2.2.2.2.1, w5.2.2.2.2.2.2.2.2.2.2.1, w5.2.2.2.2.2.2.2.2.2.2.2.1, w5.2.2.2.2.2.2.2.2.2.2.2.2.1, w5.2.2.2.2.2.2.2.2.2.2.2.2.2.1, w5.2.2.2.2.2.2.2.2.2.2.2.2.2.2.1, w5.2.2.2.2.2.2.2.2.2.2.2.2.2.2.2, w5.2.2.2.2.2.2.2.2.1)))
    else
     none
   )
  ) (
   bif (Nat.ble (d11.length + 1) most) && true then
    (k247 rb d1 d2 d3 d4 d5 d6 d7 d8 d9 d10 (d11 ++ [()]) d12 d13 d14 d15 d16 d17).bind fun (z1 : (Int × List (List UInt8 × XL) × List Int × XS × Bool × Int × List UInt8 × Int × XL × List Int × List Unit × List (List UInt8 × Int) × List Int × List Bool × List Int × List Unit) ⊕ (Int × List (List UInt8 × XL) × List Int × XS × Bool × Int × List UInt8 × Int × XL × List Int × List Unit × List (List UInt8 × Int) × List Int × List Bool × List Int × List Unit) ⊕ (Int × XS × Bool × Int × List UInt8 × Int × XL × List Int × List Unit × List (List UInt8 × Int) × List Int × List Bool × List Int × List Unit × List (List UInt8 × XL) × List Int)) =>
    match z1 with
    | .inl u2 =>
      some (.inl (u2.1, u2.2.1, u2.2.2.1, u2.2.2.2.1, u2.2.2.2.2.1, u2.2.2.2.2.2.1, u2.2.2.2.2.2.2.1, u2.2.2.2.2.2.2.2.1, u2.2.2.2.2.2.2.2.2.1, u2.2.2.2.2.2.2.2.2.2.1, u2.2.2.2.2.2.2.2.2.2.2.2.1, u2.2.2.2.2.2.2.2.2.2.2.2.2.1, u2.2.2.2.2.2.2.2.2.2.2.2.2.2.1, u2.2.2.2.2.2.2.2.2.2.2.2.2.2.2.1, u2.2.2.2.2.2.2.2.2.2.2.2.2.2.2.2, u2.2.2.2.2.2.2.2.2.2.2.1))
    | .inr w3 =>
      match w3 with
      | .inl u4 =>
        some (.inr (.inl (u4.1, u4.2.1, u4.2.2.1, u4.2.2.2.1, u4.2.2.2.2.1, u4.2.2.2.2.2.1, u4.2.2.2.2.2.2.1, u4.2.2.2.2.2.2.2.1, u4.2.2.2.2.2.2.2.2.1, u4.2.2.2.2.2.2.2.2.2.1, u4.2.2.2.2.2.2.2.2.2.2.2.1, u4.2.2.2.2.2.2.2.2.2.2.2.2.1, u4.2.2.2.2.2.2.2.2.2.2.2.2.2.1, u4.2.2.2.2.2.2.2.2.2.2.2.2.2.2.1, u4.2.2.2.2.2.2.2.2.2.2.2.2.2.2.2, u4.2.2.2.2.2.2.2.2.2.2.1)))
      | .inr w5 =>
        some (.inr (.inr (w5.1, w5.2.1, w5.2.2.1, w5.2.2.2.1, w5.2.2.2.2.1, w5.2.2.2.2.2.1, w5.2.2.2.2.2.2.1, w5.2.2.2.2.2.2.2.1, w5.2.2.2.2.2.2.2.2.2.1, w5.2.2.2.2.2.2.2.2.2.2.1, w5.2.2.2.2.2.2.2.2.2.2.2.1, w5.2.2.2.2.2.2.2.2.2.2.2.2.1, w5.2.2.2.2.2.2.2.2.2.2.2.2.2.1, w5.2.2.2.2.2.2.2.2.2.2.2.2.2.2.1, w5.2.2.2.2.2.2.2.2.2.2.2.2.2.2.2, w5.2.2.2.2.2.2.2.2.1)))
   else
    none
  )
 ) (
  agree (
   agree (
    agN 1 (
     bif (Nat.ble (d11.length + 1) most) && true then
      (k247 rb d1 d2 d3 d4 d5 d6 d7 d8 d9 d10 (d11 ++ [()]) d12 d13 d14 d15 d16 d17).bind fun (z1 : (Int × List (List UInt8 × XL) × List Int × XS × Bool × Int × List UInt8 × Int × XL × List Int × List Unit × List (List UInt8 × Int) × List Int × List Bool × List Int × List Unit) ⊕ (Int × List (List UInt8 × XL) × List Int × XS × Bool × Int × List UInt8 × Int × XL × List Int × List Unit × List (List UInt8 × Int) × List Int × List Bool × List Int × List Unit) ⊕ (Int × XS × Bool × Int × List UInt8 × Int × XL × List Int × List Unit × List (List UInt8 × Int) × List Int × List Bool × List Int × List Unit × List (List UInt8 × XL) × List Int)) =>
      match z1 with
      | .inl u2 =>
        some (.inl (u2.1, u2.2.1, u2.2.2.1, u2.2.2.2.1, u2.2.2.2.2.1, u2.2.2.2.2.2.1, u2.2.2.2.2.2.2.1, u2.2.2.2.2.2.2.2.1, u2.2.2.2.2.2.2.2.2.1, u2.2.2.2.2.2.2.2.2.2.1, u2.2.2.2.2.2.2.2.2.2.2.2.1, u2.2.2.2.2.2.2.2.2.2.2.2.2.1, u2.2.2.2.2.2.2.2.2.2.2.2.2.2.1, u2.2.2.2.2.2.2.2.2.2.2.2.2.2.2.1, u2.2.2.2.2.2.2.2.2.2.2.2.2.2.2.2, u2.2.2.2.2.2.2.2.2.2.2.1))
      | .inr w3 =>
        match w3 with
        | .inl u4 =>
          some (.inr (.inl (u4.1, u4.2.1, u4.2.2.1, u4.2.2.2.1, u4.2.2.2.2.1, u4.2.2.2.2.2.1, u4.2.2.2.2.2.2.1, u4.2.2.2.2.2.2.2.1, u4.2.2.2.2.2.2.2.2.1, u4.2.2.2.2.2.2.2.2.2.1, u4.2.2.2.2.2.2.2.2.2.2.2.1, u4.2.2.2.2.2.2.2.2.2.2.2.2.1, u4.2.2.2.2.2.2.2.2.2.2.2.2.2.1, u4.2.2.2.2.2.2.2.2.2.2.2.2.2.2.1, u4.2.2.2.2.2.2.2.2.2.2.2.2.2.2.2, u4.2.2.2.2.2.2.2.2.2.2.1)))
        | .inr w5 =>
          some (.inr (.inr (w5.1, w5.2.1, w5.2.2.1, w5.2.2.2.1, w5.2.2.2.2.1, w5.2.2.2.2.2.1, w5.2.2.2.2.2.2.1, w5.2.2.2.2.2.2.2.1, w5.2.2.2.2.2.2.2.2.2.1, w5.2.2.2.2.2.2.2.2.2.2.1, w5.2.2.2.2.2.2.2.2.2.2.2.1, w5.2.2.2.2.2.2.2.2.2.2.2.2.1, w5.2.2.2.2.2.2.2.2.2.2.2.2.2.1, w5.2.2.2.2.2.2.2.2.2.2.2.2.2.2.1, w5.2.2.2.2.2.2.2.2.2.2.2.2.2.2.2, w5.2.2.2.2.2.2.2.2.1)))
     else
      none
    )
   ) (
    agN 1 (
     agN 2 (
      bif (Nat.ble (d11.length + 1) most) && true then
       (k247 rb d1 d2 d3 d4 d5 d6 d7 d8 d9 d10 (d11 ++ [()]) d12 d13 d14 d15 d16 d17).bind fun (z1 : (Int × List (List UInt8 × XL) × List Int × XS × Bool × Int × List UInt8 × Int × XL × List Int × List Unit × List (List UInt8 × Int) × List Int × List Bool × List Int × List Unit) ⊕ (Int × List (List UInt8 × XL) × List Int × XS × Bool × Int × List UInt8 × Int × XL × List Int × List Unit × List (List UInt8 × Int) × List Int × List Bool × List Int × List Unit) ⊕ (Int × XS × Bool × Int × List UInt8 × Int × XL × List Int × List Unit × List (List UInt8 × Int) × List Int × List Bool × List Int × List Unit × List (List UInt8 × XL) × List Int)) =>
       match z1 with
       | .inl u2 =>
         some (.inl (u2.1, u2.2.1, u2.2.2.1, u2.2.2.2.1, u2.2.2.2.2.1, u2.2.2.2.2.2.1, u2.2.2.2.2.2.2.1, u2.2.2.2.2.2.2.2.1, u2.2.2.2.2.2.2.2.2.1, u2.2.2.2.2.2.2.2.2.2.1, u2.2.2.2.2.2.2.2.2.2.2.2.1, u2.2.2.2.2.2.2.2.2.2.2.2.2.1, u2.2.2.2.2.2.2.2.2.2.2.2.2.2.1, u2.2.2.2.2.2.2.2.2.2.2.2.2.2.2.1, u2.2.2.2.2.2.2.2.2.2.2.2.2.2.2.2, u2.2.2.2.2.2.2.2.2.2.2.1))
       | .inr w3 =>
         match w3 with
         | .inl u4 =>
           some (.inr (.inl (u4.1, u4.2.1, u4.2.2.1, u4.2.2.2.1, u4.2.2.2.2.1, u4.2.2.2.2.2.1, u4.2.2.2.2.2.2.1, u4.2.2.2.2.2.2.2.1, u4.2.2.2.2.2.2.2.2.1, u4.2.2.2.2.2.2.2.2.2.1, u4.2.2.2.2.2.2.2.2.2.2.2.1, u4.2.2.2.2.2.2.2.2.2.2.2.2.1, u4.2.2.2.2.2.2.2.2.2.2.2.2.2.1, u4.2.2.2.2.2.2.2.2.2.2.2.2.2.2.1, u4.2.2.2.2.2.2.2.2.2.2.2.2.2.2.2, u4.2.2.2.2.2.2.2.2.2.2.1)))
         | .inr w5 =>
           some (.inr (.inr (w5.1, w5.2.1, w5.2.2.1, w5.2.2.2.1, w5.2.2.2.2.1, w5.2.2.2.2.2.1, w5.2.2.2.2.2.2.1, w5.2.2.2.2.2.2.2.1, w5.2.2.2.2.2.2.2.2.2.1, w5.2.2.2.2.2.2.2.2.2.2.1, w5.2.2.2.2.2.2.2.2.2.2.2.1, w5.2.2.2.2.2.2.2.2.2.2.2.2.1, w5.2.2.2.2.2.2.2.2.2.2.2.2.2.1, w5.2.2.2.2.2.2.2.2.2.2.2.2.2.2.1, w5.2.2.2.2.2.2.2.2.2.2.2.2.2.2.2, w5.2.2.2.2.2.2.2.2.1)))
      else
       none
     )
    )
   )
  ) (
   agN 3 (
    bif (Nat.ble (d11.length + 1) most) && true then
     (k247 rb d1 d2 d3 d4 d5 d6 d7 d8 d9 d10 (d11 ++ [()]) d12 d13 d14 d15 d16 d17).bind fun (z1 : (Int × List (List UInt8 × XL) × List Int × XS × Bool × Int × List UInt8 × Int × XL × List Int × List Unit × List (List UInt8 × Int) × List Int × List Bool × List Int × List Unit) ⊕ (Int × List (List UInt8 × XL) × List Int × XS × Bool × Int × List UInt8 × Int × XL × List Int × List Unit × List (List UInt8 × Int) × List Int × List Bool × List Int × List Unit) ⊕ (Int × XS × Bool × Int × List UInt8 × Int × XL × List Int × List Unit × List (List UInt8 × Int) × List Int × List Bool × List Int × List Unit × List (List UInt8 × XL) × List Int)) =>
     match z1 with
     | .inl u2 =>
       some (.inl (u2.1, u2.2.1, u2.2.2.1, u2.2.2.2.1, u2.2.2.2.2.1, u2.2.2.2.2.2.1, u2.2.2.2.2.2.2.1, u2.2.2.2.2.2.2.2.1, u2.2.2.2.2.2.2.2.2.1, u2.2.2.2.2.2.2.2.2.2.1, u2.2.2.2.2.2.2.2.2.2.2.2.1, u2.2.2.2.2.2.2.2.2.2.2.2.2.1, u2.2.2.2.2.2.2.2.2.2.2.2.2.2.1, u2.2.2.2.2.2.2.2.2.2.2.2.2.2.2.1, u2.2.2.2.2.2.2.2.2.2.2.2.2.2.2.2, u2.2.2.2.2.2.2.2.2.2.2.1))
     | .inr w3 =>
       match w3 with
       | .inl u4 =>
         some (.inr (.inl (u4.1, u4.2.1, u4.2.2.1, u4.2.2.2.1, u4.2.2.2.2.1, u4.2.2.2.2.2.1, u4.2.2.2.2.2.2.1, u4.2.2.2.2.2.2.2.1, u4.2.2.2.2.2.2.2.2.1, u4.2.2.2.2.2.2.2.2.2.1, u4.2.2.2.2.2.2.2.2.2.2.2.1, u4.2.2.2.2.2.2.2.2.2.2.2.2.1, u4.2.2.2.2.2.2.2.2.2.2.2.2.2.1, u4.2.2.2.2.2.2.2.2.2.2.2.2.2.2.1, u4.2.2.2.2.2.2.2.2.2.2.2.2.2.2.2, u4.2.2.2.2.2.2.2.2.2.2.1)))
       | .inr w5 =>
         some (.inr (.inr (w5.1, w5.2.1, w5.2.2.1, w5.2.2.2.1, w5.2.2.2.2.1, w5.2.2.2.2.2.1, w5.2.2.2.2.2.2.1, w5.2.2.2.2.2.2.2.1, w5.2.2.2.2.2.2.2.2.2.1, w5.2.2.2.2.2.2.2.2.2.2.1, w5.2.2.2.2.2.2.2.2.2.2.2.1, w5.2.2.2.2.2.2.2.2.2.2.2.2.1, w5.2.2.2.2.2.2.2.2.2.2.2.2.2.1, w5.2.2.2.2.2.2.2.2.2.2.2.2.2.2.1, w5.2.2.2.2.2.2.2.2.2.2.2.2.2.2.2, w5.2.2.2.2.2.2.2.2.1)))
    else
     none
   )
  )
 )
noncomputable def b246 (rf : T.RF) (rb : T.RB) (d1 : Int) (d2 : List (List UInt8 × XL)) (d3 : List Int) (d4 : XS) (d5 : Bool) (d6 : Int) (d7 : List UInt8) (d8 : Int) (d9 : XL) (d10 : List Int) (d11 : List Unit) (d12 : List (List UInt8 × Int)) (d13 : List Int) (d14 : List Bool) (d15 : List Int) (d16 : List Unit) (d17 : Int) : Option ((Int × List (List UInt8 × XL) × List Int × XS × Bool × Int × List UInt8 × Int × XL × List Int × List (List UInt8 × Int) × List Int × List Bool × List Int × List Unit × List Unit) ⊕ (Int × List (List UInt8 × XL) × List Int × XS × Bool × Int × List UInt8 × Int × XL × List Int × List (List UInt8 × Int) × List Int × List Bool × List Int × List Unit × List Unit) ⊕ (Int × XS × Bool × Int × List UInt8 × Int × XL × List Int × List (List UInt8 × Int) × List Int × List Bool × List Int × List Unit × List (List UInt8 × XL) × List Int × List Unit)) :=
 bif (Nat.ble (d11.length + 1) most) && true then
  (k247 rb d1 d2 d3 d4 d5 d6 d7 d8 d9 d10 (d11 ++ [()]) d12 d13 d14 d15 d16 d17).bind fun (z1 : (Int × List (List UInt8 × XL) × List Int × XS × Bool × Int × List UInt8 × Int × XL × List Int × List Unit × List (List UInt8 × Int) × List Int × List Bool × List Int × List Unit) ⊕ (Int × List (List UInt8 × XL) × List Int × XS × Bool × Int × List UInt8 × Int × XL × List Int × List Unit × List (List UInt8 × Int) × List Int × List Bool × List Int × List Unit) ⊕ (Int × XS × Bool × Int × List UInt8 × Int × XL × List Int × List Unit × List (List UInt8 × Int) × List Int × List Bool × List Int × List Unit × List (List UInt8 × XL) × List Int)) =>
  match z1 with
  | .inl u2 =>
    some (.inl (u2.1, u2.2.1, u2.2.2.1, u2.2.2.2.1, u2.2.2.2.2.1, u2.2.2.2.2.2.1, u2.2.2.2.2.2.2.1, u2.2.2.2.2.2.2.2.1, u2.2.2.2.2.2.2.2.2.1, u2.2.2.2.2.2.2.2.2.2.1, u2.2.2.2.2.2.2.2.2.2.2.2.1, u2.2.2.2.2.2.2.2.2.2.2.2.2.1, u2.2.2.2.2.2.2.2.2.2.2.2.2.2.1, u2.2.2.2.2.2.2.2.2.2.2.2.2.2.2.1, u2.2.2.2.2.2.2.2.2.2.2.2.2.2.2.2, u2.2.2.2.2.2.2.2.2.2.2.1))
  | .inr w3 =>
    match w3 with
    | .inl u4 =>
      some (.inr (.inl (u4.1, u4.2.1, u4.2.2.1, u4.2.2.2.1, u4.2.2.2.2.1, u4.2.2.2.2.2.1, u4.2.2.2.2.2.2.1, u4.2.2.2.2.2.2.2.1, u4.2.2.2.2.2.2.2.2.1, u4.2.2.2.2.2.2.2.2.2.1, u4.2.2.2.2.2.2.2.2.2.2.2.1, u4.2.2.2.2.2.2.2.2.2.2.2.2.1, u4.2.2.2.2.2.2.2.2.2.2.2.2.2.1, u4.2.2.2.2.2.2.2.2.2.2.2.2.2.2.1, u4.2.2.2.2.2.2.2.2.2.2.2.2.2.2.2, u4.2.2.2.2.2.2.2.2.2.2.1)))
    | .inr w5 =>
      some (.inr (.inr (w5.1, w5.2.1, w5.2.2.1, w5.2.2.2.1, w5.2.2.2.2.1, w5.2.2.2.2.2.1, w5.2.2.2.2.2.2.1, w5.2.2.2.2.2.2.2.1, w5.2.2.2.2.2.2.2.2.2.1, w5.2.2.2.2.2.2.2.2.2.2.1, w5.2.2.2.2.2.2.2.2.2.2.2.1, w5.2.2.2.2.2.2.2.2.2.2.2.2.1, w5.2.2.2.2.2.2.2.2.2.2.2.2.2.1, w5.2.2.2.2.2.2.2.2.2.2.2.2.2.2.1, w5.2.2.2.2.2.2.2.2.2.2.2.2.2.2.2, w5.2.2.2.2.2.2.2.2.1)))
 else
  none
theorem eb246 (rf : T.RF) (rb : T.RB) (d1 : Int) (d2 : List (List UInt8 × XL)) (d3 : List Int) (d4 : XS) (d5 : Bool) (d6 : Int) (d7 : List UInt8) (d8 : Int) (d9 : XL) (d10 : List Int) (d11 : List Unit) (d12 : List (List UInt8 × Int)) (d13 : List Int) (d14 : List Bool) (d15 : List Int) (d16 : List Unit) (d17 : Int) : T.stepB rf rb 246 (d1, d2, d3, d4, d5, d6, d7, d8, d9, d10, d11, d12, d13, d14, d15, d16, d17) = b246q rf rb d1 d2 d3 d4 d5 d6 d7 d8 d9 d10 d11 d12 d13 d14 d15 d16 d17 := by kernel_rfl
theorem sb246 (rf : T.RF) (rb : T.RB) (d1 : Int) (d2 : List (List UInt8 × XL)) (d3 : List Int) (d4 : XS) (d5 : Bool) (d6 : Int) (d7 : List UInt8) (d8 : Int) (d9 : XL) (d10 : List Int) (d11 : List Unit) (d12 : List (List UInt8 × Int)) (d13 : List Int) (d14 : List Bool) (d15 : List Int) (d16 : List Unit) (d17 : Int) : b246q rf rb d1 d2 d3 d4 d5 d6 d7 d8 d9 d10 d11 d12 d13 d14 d15 d16 d17 = b246 rf rb d1 d2 d3 d4 d5 d6 d7 d8 d9 d10 d11 d12 d13 d14 d15 d16 d17 := by
 unfold b246q b246; simp only [agN_eq, agree_self, agree_swap]
noncomputable def b247 (rf : T.RF) (rb : T.RB) (d1 : Int) (d2 : List (List UInt8 × XL)) (d3 : List Int) (d4 : XS) (d5 : Bool) (d6 : Int) (d7 : List UInt8) (d8 : Int) (d9 : XL) (d10 : List Int) (d11 : List Unit) (d12 : List (List UInt8 × Int)) (d13 : List Int) (d14 : List Bool) (d15 : List Int) (d16 : List Unit) (d17 : Int) : Option ((Int × List (List UInt8 × XL) × List Int × XS × Bool × Int × List UInt8 × Int × XL × List Int × List Unit × List (List UInt8 × Int) × List Int × List Bool × List Int × List Unit) ⊕ (Int × List (List UInt8 × XL) × List Int × XS × Bool × Int × List UInt8 × Int × XL × List Int × List Unit × List (List UInt8 × Int) × List Int × List Bool × List Int × List Unit) ⊕ (Int × XS × Bool × Int × List UInt8 × Int × XL × List Int × List Unit × List (List UInt8 × Int) × List Int × List Bool × List Int × List Unit × List (List UInt8 × XL) × List Int)) :=
 bif (((d4.2.2.length : Nat) : Int)) == 0 then
  some (.inl (d1, d2, d3, d4, d5, d6, d7, d8, d9, d10, d11, d12, d13, d14, d15, d16))
 else
  (c47 rf d4.2.2).bind fun (y1 : Bool) =>
  bif !y1 then
   some (.inr (.inl (1, d2, d3, d4, d5, d6, d7, d8, d9, d10, d11, d12, d13, d14, d15, d16)))
  else
   (c55 rf d4.2.2).bind fun (y2 : XL) =>
   bif Nat.ble y2.length most then
    bif Nat.beq y2.length 0 then
     bif (Nat.ble (d2.length + 1) most) && true then
      bif (Nat.ble (d3.length + 1) most) && true then
       some (.inr (.inr (d1, d4, d5, d6, d7, d8, d9, d10, d11, d12, d13, d14, d15, d16, d2 ++ [(d4.1, d4.2.2)], d3 ++ [d17])))
      else
       none
     else
      none
    else
     (nth y2 (y2.length - 1)).bind fun (x3 : XN) =>
     (k248 rb d1 y2 d5 d6 d7 d8 d9 d10 d11 d12 d13 d14 d15 d16 ((((y2.length - 1) : Nat) : Int)) x3).bind fun (z4 : (Int × XL × Bool × Int × List UInt8 × Int × XL × List Int × List Unit × List (List UInt8 × Int) × List Int × List Bool × List Int × List Unit) ⊕ (Int × XL × Bool × Int × List UInt8 × Int × XL × List Int × List Unit × List (List UInt8 × Int) × List Int × List Bool × List Int × List Unit)) =>
     match z4 with
     | .inl u5 =>
       some (.inr (.inl (u5.1, d2, d3, d4, u5.2.2)))
     | .inr w6 =>
       bif (Nat.ble (d2.length + 1) most) && true then
        bif (Nat.ble (d3.length + 1) most) && true then
         some (.inr (.inr (w6.1, d4, w6.2.2.1, w6.2.2.2.1, w6.2.2.2.2.1, w6.2.2.2.2.2.1, w6.2.2.2.2.2.2.1, w6.2.2.2.2.2.2.2.1, w6.2.2.2.2.2.2.2.2.1, w6.2.2.2.2.2.2.2.2.2.1, w6.2.2.2.2.2.2.2.2.2.2.1, w6.2.2.2.2.2.2.2.2.2.2.2.1, w6.2.2.2.2.2.2.2.2.2.2.2.2.1, w6.2.2.2.2.2.2.2.2.2.2.2.2.2, d2 ++ [(d4.1, d4.2.2)], d3 ++ [d17])))
        else
         none
       else
        none
   else
    none
theorem eb247 (rf : T.RF) (rb : T.RB) (d1 : Int) (d2 : List (List UInt8 × XL)) (d3 : List Int) (d4 : XS) (d5 : Bool) (d6 : Int) (d7 : List UInt8) (d8 : Int) (d9 : XL) (d10 : List Int) (d11 : List Unit) (d12 : List (List UInt8 × Int)) (d13 : List Int) (d14 : List Bool) (d15 : List Int) (d16 : List Unit) (d17 : Int) : T.stepB rf rb 247 (d1, d2, d3, d4, d5, d6, d7, d8, d9, d10, d11, d12, d13, d14, d15, d16, d17) = b247 rf rb d1 d2 d3 d4 d5 d6 d7 d8 d9 d10 d11 d12 d13 d14 d15 d16 d17 := by kernel_rfl
noncomputable def b248 (rf : T.RF) (rb : T.RB) (d1 : Int) (d2 : XL) (d3 : Bool) (d4 : Int) (d5 : List UInt8) (d6 : Int) (d7 : XL) (d8 : List Int) (d9 : List Unit) (d10 : List (List UInt8 × Int)) (d11 : List Int) (d12 : List Bool) (d13 : List Int) (d14 : List Unit) (d15 : Int) (d16 : XN) : Option ((Int × XL × Bool × Int × List UInt8 × Int × XL × List Int × List Unit × List (List UInt8 × Int) × List Int × List Bool × List Int × List Unit) ⊕ (Int × XL × Bool × Int × List UInt8 × Int × XL × List Int × List Unit × List (List UInt8 × Int) × List Int × List Bool × List Int × List Unit)) :=
 (k249 rb d1 d16 d3 d4 d5 d6 d7 d8 d9 d10 d11 d12 d13 d14 d15).bind fun (z1 : (Int × XN × Bool × Int × List UInt8 × Int × XL × List Int × List Unit × List (List UInt8 × Int) × List Int × List Bool × List Int × List Unit) ⊕ (Int × XN × Bool × Int × List UInt8 × Int × XL × List Int × List Unit × List (List UInt8 × Int) × List Int × List Bool × List Int × List Unit)) =>
 match z1 with
 | .inl u2 =>
   some (.inl (u2.1, d2, u2.2.2))
 | .inr w3 =>
   bif d15 == 0 then
    some (.inr (w3.1, d2, w3.2.2))
   else
    (nth d2 (d15 - 1).toNat).bind fun (x4 : XN) =>
    k248 rb w3.1 d2 w3.2.2.1 w3.2.2.2.1 w3.2.2.2.2.1 w3.2.2.2.2.2.1 w3.2.2.2.2.2.2.1 w3.2.2.2.2.2.2.2.1 w3.2.2.2.2.2.2.2.2.1 w3.2.2.2.2.2.2.2.2.2.1 w3.2.2.2.2.2.2.2.2.2.2.1 w3.2.2.2.2.2.2.2.2.2.2.2.1 w3.2.2.2.2.2.2.2.2.2.2.2.2.1 w3.2.2.2.2.2.2.2.2.2.2.2.2.2 (d15 - 1) x4
theorem eb248 (rf : T.RF) (rb : T.RB) (d1 : Int) (d2 : XL) (d3 : Bool) (d4 : Int) (d5 : List UInt8) (d6 : Int) (d7 : XL) (d8 : List Int) (d9 : List Unit) (d10 : List (List UInt8 × Int)) (d11 : List Int) (d12 : List Bool) (d13 : List Int) (d14 : List Unit) (d15 : Int) (d16 : XN) : T.stepB rf rb 248 (d1, d2, d3, d4, d5, d6, d7, d8, d9, d10, d11, d12, d13, d14, d15, d16) = b248 rf rb d1 d2 d3 d4 d5 d6 d7 d8 d9 d10 d11 d12 d13 d14 d15 d16 := by kernel_rfl
noncomputable def b249q (rf : T.RF) (rb : T.RB) (d1 : Int) (d2 : XN) (d3 : Bool) (d4 : Int) (d5 : List UInt8) (d6 : Int) (d7 : XL) (d8 : List Int) (d9 : List Unit) (d10 : List (List UInt8 × Int)) (d11 : List Int) (d12 : List Bool) (d13 : List Int) (d14 : List Unit) (d15 : Int) : Option ((Int × XN × Bool × Int × List UInt8 × Int × XL × List Int × List Unit × List (List UInt8 × Int) × List Int × List Bool × List Int × List Unit) ⊕ (Int × XN × Bool × Int × List UInt8 × Int × XL × List Int × List Unit × List (List UInt8 × Int) × List Int × List Bool × List Int × List Unit)) :=
 bif d2.1 == 27 then
  some (.inl (1, d2, d3, d4, d5, d6, d7, d8, d9, d10, d11, d12, d13, d14))
 else
 bif d2.1 == 3 then
  bif !(assocHas (CT.eqK .str) d10 d2.2.2.2.2.2) then
   some (.inl (1, d2, d3, d4, d5, d6, d7, d8, d9, d10, d11, d12, d13, d14))
  else
   agree (
    agN 1 (
     (c56 rf d2).bind fun (y1 : Int ⊕ Int ⊕ (Int × Int) ⊕ Int ⊕ Unit) =>
     match y1 with
     | .inl u2 =>
       bif inb d15 d14.length then
        bif Nat.blt d15.toNat d14.length then
         (k250 rb d2 d5 d6 d7 d8 d12 d13 (setNth d14 d15.toNat ()) d15).bind fun (z4 : XN × List UInt8 × Int × XL × List Int × List Bool × List Int × List Unit) =>
         some (.inr (d1, z4.1, d3, d4, z4.2.1, z4.2.2.1, z4.2.2.2.1, z4.2.2.2.2.1, d9, d10, d11, z4.2.2.2.2.2))
        else
         none
       else
        none
     | .inr w3 =>
       match w3 with
       | .inl u5 =>
         bif inb d15 d14.length then
          bif Nat.blt d15.toNat d14.length then
           (k250 rb d2 d5 d6 d7 d8 d12 d13 (setNth d14 d15.toNat ()) d15).bind fun (z7 : XN × List UInt8 × Int × XL × List Int × List Bool × List Int × List Unit) =>
           some (.inr (d1, z7.1, d3, d4, z7.2.1, z7.2.2.1, z7.2.2.2.1, z7.2.2.2.2.1, d9, d10, d11, z7.2.2.2.2.2))
          else
           none
         else
          none
       | .inr w6 =>
         match w6 with
         | .inl u8 =>
           bif inb d15 d14.length then
            bif Nat.blt d15.toNat d14.length then
             (k250 rb d2 d5 d6 d7 d8 d12 d13 (setNth d14 d15.toNat ()) d15).bind fun (z10 : XN × List UInt8 × Int × XL × List Int × List Bool × List Int × List Unit) =>
             some (.inr (d1, z10.1, d3, d4, z10.2.1, z10.2.2.1, z10.2.2.2.1, z10.2.2.2.2.1, d9, d10, d11, z10.2.2.2.2.2))
            else
             none
           else
            none
         | .inr w9 =>
           match w9 with
           | .inl u11 =>
             bif inb d15 d14.length then
              bif Nat.blt d15.toNat d14.length then
               (k250 rb d2 d5 d6 d7 d8 d12 d13 (setNth d14 d15.toNat ()) d15).bind fun (z13 : XN × List UInt8 × Int × XL × List Int × List Bool × List Int × List Unit) =>
               some (.inr (d1, z13.1, d3, d4, z13.2.1, z13.2.2.1, z13.2.2.2.1, z13.2.2.2.2.1, d9, d10, d11, z13.2.2.2.2.2))
              else
               none
             else
              none
           | .inr w12 =>
             bif inb d15 d14.length then
              bif Nat.blt d15.toNat d14.length then
               (k250 rb d2 d5 d6 d7 d8 d12 d13 (setNth d14 d15.toNat ()) d15).bind fun (z14 : XN × List UInt8 × Int × XL × List Int × List Bool × List Int × List Unit) =>
               some (.inr (d1, z14.1, d3, d4, z14.2.1, z14.2.2.1, z14.2.2.2.1, z14.2.2.2.2.1, d9, d10, d11, z14.2.2.2.2.2))
              else
               none
             else
              none
    )
   ) (
    (c56 rf d2).bind fun (y1 : Int ⊕ Int ⊕ (Int × Int) ⊕ Int ⊕ Unit) =>
    match y1 with
    | .inl u2 =>
      bif inb d15 d14.length then
       bif Nat.blt d15.toNat d14.length then
        (k250 rb d2 d5 d6 d7 d8 d12 d13 (setNth d14 d15.toNat ()) d15).bind fun (z4 : XN × List UInt8 × Int × XL × List Int × List Bool × List Int × List Unit) =>
        some (.inr (d1, z4.1, d3, d4, z4.2.1, z4.2.2.1, z4.2.2.2.1, z4.2.2.2.2.1, d9, d10, d11, z4.2.2.2.2.2))
       else
        none
      else
       none
    | .inr w3 =>
      match w3 with
      | .inl u5 =>
        bif inb d15 d14.length then
         bif Nat.blt d15.toNat d14.length then
          (k250 rb d2 d5 d6 d7 d8 d12 d13 (setNth d14 d15.toNat ()) d15).bind fun (z7 : XN × List UInt8 × Int × XL × List Int × List Bool × List Int × List Unit) =>
          some (.inr (d1, z7.1, d3, d4, z7.2.1, z7.2.2.1, z7.2.2.2.1, z7.2.2.2.2.1, d9, d10, d11, z7.2.2.2.2.2))
         else
          none
        else
         none
      | .inr w6 =>
        match w6 with
        | .inl u8 =>
          bif inb d15 d14.length then
           bif Nat.blt d15.toNat d14.length then
            (k250 rb d2 d5 d6 d7 d8 d12 d13 (setNth d14 d15.toNat ()) d15).bind fun (z10 : XN × List UInt8 × Int × XL × List Int × List Bool × List Int × List Unit) =>
            some (.inr (d1, z10.1, d3, d4, z10.2.1, z10.2.2.1, z10.2.2.2.1, z10.2.2.2.2.1, d9, d10, d11, z10.2.2.2.2.2))
           else
            none
          else
           none
        | .inr w9 =>
          match w9 with
          | .inl u11 =>
            bif inb d15 d14.length then
             bif Nat.blt d15.toNat d14.length then
              (k250 rb d2 d5 d6 d7 d8 d12 d13 (setNth d14 d15.toNat ()) d15).bind fun (z13 : XN × List UInt8 × Int × XL × List Int × List Bool × List Int × List Unit) =>
              some (.inr (d1, z13.1, d3, d4, z13.2.1, z13.2.2.1, z13.2.2.2.1, z13.2.2.2.2.1, d9, d10, d11, z13.2.2.2.2.2))
             else
              none
            else
             none
          | .inr w12 =>
            bif inb d15 d14.length then
             bif Nat.blt d15.toNat d14.length then
              (k250 rb d2 d5 d6 d7 d8 d12 d13 (setNth d14 d15.toNat ()) d15).bind fun (z14 : XN × List UInt8 × Int × XL × List Int × List Bool × List Int × List Unit) =>
              some (.inr (d1, z14.1, d3, d4, z14.2.1, z14.2.2.1, z14.2.2.2.1, z14.2.2.2.2.1, d9, d10, d11, z14.2.2.2.2.2))
             else
              none
            else
             none
   )
 else
  agree (
   agN 1 (
    (c56 rf d2).bind fun (y15 : Int ⊕ Int ⊕ (Int × Int) ⊕ Int ⊕ Unit) =>
    match y15 with
    | .inl u16 =>
      bif inb d15 d14.length then
       bif Nat.blt d15.toNat d14.length then
        (k250 rb d2 d5 d6 d7 d8 d12 d13 (setNth d14 d15.toNat ()) d15).bind fun (z18 : XN × List UInt8 × Int × XL × List Int × List Bool × List Int × List Unit) =>
        some (.inr (d1, z18.1, d3, d4, z18.2.1, z18.2.2.1, z18.2.2.2.1, z18.2.2.2.2.1, d9, d10, d11, z18.2.2.2.2.2))
       else
        none
      else
       none
    | .inr w17 =>
      match w17 with
      | .inl u19 =>
        bif inb d15 d14.length then
         bif Nat.blt d15.toNat d14.length then
          (k250 rb d2 d5 d6 d7 d8 d12 d13 (setNth d14 d15.toNat ()) d15).bind fun (z21 : XN × List UInt8 × Int × XL × List Int × List Bool × List Int × List Unit) =>
          some (.inr (d1, z21.1, d3, d4, z21.2.1, z21.2.2.1, z21.2.2.2.1, z21.2.2.2.2.1, d9, d10, d11, z21.2.2.2.2.2))
         else
          none
        else
         none
      | .inr w20 =>
        match w20 with
        | .inl u22 =>
          bif inb d15 d14.length then
           bif Nat.blt d15.toNat d14.length then
            (k250 rb d2 d5 d6 d7 d8 d12 d13 (setNth d14 d15.toNat ()) d15).bind fun (z24 : XN × List UInt8 × Int × XL × List Int × List Bool × List Int × List Unit) =>
            some (.inr (d1, z24.1, d3, d4, z24.2.1, z24.2.2.1, z24.2.2.2.1, z24.2.2.2.2.1, d9, d10, d11, z24.2.2.2.2.2))
           else
            none
          else
           none
        | .inr w23 =>
          match w23 with
          | .inl u25 =>
            bif inb d15 d14.length then
             bif Nat.blt d15.toNat d14.length then
              (k250 rb d2 d5 d6 d7 d8 d12 d13 (setNth d14 d15.toNat ()) d15).bind fun (z27 : XN × List UInt8 × Int × XL × List Int × List Bool × List Int × List Unit) =>
              some (.inr (d1, z27.1, d3, d4, z27.2.1, z27.2.2.1, z27.2.2.2.1, z27.2.2.2.2.1, d9, d10, d11, z27.2.2.2.2.2))
             else
              none
            else
             none
          | .inr w26 =>
            bif inb d15 d14.length then
             bif Nat.blt d15.toNat d14.length then
              (k250 rb d2 d5 d6 d7 d8 d12 d13 (setNth d14 d15.toNat ()) d15).bind fun (z28 : XN × List UInt8 × Int × XL × List Int × List Bool × List Int × List Unit) =>
              some (.inr (d1, z28.1, d3, d4, z28.2.1, z28.2.2.1, z28.2.2.2.1, z28.2.2.2.2.1, d9, d10, d11, z28.2.2.2.2.2))
             else
              none
            else
             none
   )
  ) (
   (c56 rf d2).bind fun (y15 : Int ⊕ Int ⊕ (Int × Int) ⊕ Int ⊕ Unit) =>
   match y15 with
   | .inl u16 =>
     bif inb d15 d14.length then
      bif Nat.blt d15.toNat d14.length then
       (k250 rb d2 d5 d6 d7 d8 d12 d13 (setNth d14 d15.toNat ()) d15).bind fun (z18 : XN × List UInt8 × Int × XL × List Int × List Bool × List Int × List Unit) =>
       some (.inr (d1, z18.1, d3, d4, z18.2.1, z18.2.2.1, z18.2.2.2.1, z18.2.2.2.2.1, d9, d10, d11, z18.2.2.2.2.2))
      else
       none
     else
      none
   | .inr w17 =>
     match w17 with
     | .inl u19 =>
       bif inb d15 d14.length then
        bif Nat.blt d15.toNat d14.length then
         (k250 rb d2 d5 d6 d7 d8 d12 d13 (setNth d14 d15.toNat ()) d15).bind fun (z21 : XN × List UInt8 × Int × XL × List Int × List Bool × List Int × List Unit) =>
         some (.inr (d1, z21.1, d3, d4, z21.2.1, z21.2.2.1, z21.2.2.2.1, z21.2.2.2.2.1, d9, d10, d11, z21.2.2.2.2.2))
        else
         none
       else
        none
     | .inr w20 =>
       match w20 with
       | .inl u22 =>
         bif inb d15 d14.length then
          bif Nat.blt d15.toNat d14.length then
           (k250 rb d2 d5 d6 d7 d8 d12 d13 (setNth d14 d15.toNat ()) d15).bind fun (z24 : XN × List UInt8 × Int × XL × List Int × List Bool × List Int × List Unit) =>
           some (.inr (d1, z24.1, d3, d4, z24.2.1, z24.2.2.1, z24.2.2.2.1, z24.2.2.2.2.1, d9, d10, d11, z24.2.2.2.2.2))
          else
           none
         else
          none
       | .inr w23 =>
         match w23 with
         | .inl u25 =>
           bif inb d15 d14.length then
            bif Nat.blt d15.toNat d14.length then
             (k250 rb d2 d5 d6 d7 d8 d12 d13 (setNth d14 d15.toNat ()) d15).bind fun (z27 : XN × List UInt8 × Int × XL × List Int × List Bool × List Int × List Unit) =>
             some (.inr (d1, z27.1, d3, d4, z27.2.1, z27.2.2.1, z27.2.2.2.1, z27.2.2.2.2.1, d9, d10, d11, z27.2.2.2.2.2))
            else
             none
           else
            none
         | .inr w26 =>
           bif inb d15 d14.length then
            bif Nat.blt d15.toNat d14.length then
             (k250 rb d2 d5 d6 d7 d8 d12 d13 (setNth d14 d15.toNat ()) d15).bind fun (z28 : XN × List UInt8 × Int × XL × List Int × List Bool × List Int × List Unit) =>
             some (.inr (d1, z28.1, d3, d4, z28.2.1, z28.2.2.1, z28.2.2.2.1, z28.2.2.2.2.1, d9, d10, d11, z28.2.2.2.2.2))
            else
             none
           else
            none
  )
noncomputable def b249 (rf : T.RF) (rb : T.RB) (d1 : Int) (d2 : XN) (d3 : Bool) (d4 : Int) (d5 : List UInt8) (d6 : Int) (d7 : XL) (d8 : List Int) (d9 : List Unit) (d10 : List (List UInt8 × Int)) (d11 : List Int) (d12 : List Bool) (d13 : List Int) (d14 : List Unit) (d15 : Int) : Option ((Int × XN × Bool × Int × List UInt8 × Int × XL × List Int × List Unit × List (List UInt8 × Int) × List Int × List Bool × List Int × List Unit) ⊕ (Int × XN × Bool × Int × List UInt8 × Int × XL × List Int × List Unit × List (List UInt8 × Int) × List Int × List Bool × List Int × List Unit)) :=
 bif d2.1 == 27 then
  some (.inl (1, d2, d3, d4, d5, d6, d7, d8, d9, d10, d11, d12, d13, d14))
 else
 bif d2.1 == 3 then
  bif !(assocHas (CT.eqK .str) d10 d2.2.2.2.2.2) then
   some (.inl (1, d2, d3, d4, d5, d6, d7, d8, d9, d10, d11, d12, d13, d14))
  else
   (c56 rf d2).bind fun (y1 : Int ⊕ Int ⊕ (Int × Int) ⊕ Int ⊕ Unit) =>
   match y1 with
   | .inl u2 =>
     bif inb d15 d14.length then
      bif Nat.blt d15.toNat d14.length then
       (k250 rb d2 d5 d6 d7 d8 d12 d13 (setNth d14 d15.toNat ()) d15).bind fun (z4 : XN × List UInt8 × Int × XL × List Int × List Bool × List Int × List Unit) =>
       some (.inr (d1, z4.1, d3, d4, z4.2.1, z4.2.2.1, z4.2.2.2.1, z4.2.2.2.2.1, d9, d10, d11, z4.2.2.2.2.2))
      else
       none
     else
      none
   | .inr w3 =>
     match w3 with
     | .inl u5 =>
       bif inb d15 d14.length then
        bif Nat.blt d15.toNat d14.length then
         (k250 rb d2 d5 d6 d7 d8 d12 d13 (setNth d14 d15.toNat ()) d15).bind fun (z7 : XN × List UInt8 × Int × XL × List Int × List Bool × List Int × List Unit) =>
         some (.inr (d1, z7.1, d3, d4, z7.2.1, z7.2.2.1, z7.2.2.2.1, z7.2.2.2.2.1, d9, d10, d11, z7.2.2.2.2.2))
        else
         none
       else
        none
     | .inr w6 =>
       match w6 with
       | .inl u8 =>
         bif inb d15 d14.length then
          bif Nat.blt d15.toNat d14.length then
           (k250 rb d2 d5 d6 d7 d8 d12 d13 (setNth d14 d15.toNat ()) d15).bind fun (z10 : XN × List UInt8 × Int × XL × List Int × List Bool × List Int × List Unit) =>
           some (.inr (d1, z10.1, d3, d4, z10.2.1, z10.2.2.1, z10.2.2.2.1, z10.2.2.2.2.1, d9, d10, d11, z10.2.2.2.2.2))
          else
           none
         else
          none
       | .inr w9 =>
         match w9 with
         | .inl u11 =>
           bif inb d15 d14.length then
            bif Nat.blt d15.toNat d14.length then
             (k250 rb d2 d5 d6 d7 d8 d12 d13 (setNth d14 d15.toNat ()) d15).bind fun (z13 : XN × List UInt8 × Int × XL × List Int × List Bool × List Int × List Unit) =>
             some (.inr (d1, z13.1, d3, d4, z13.2.1, z13.2.2.1, z13.2.2.2.1, z13.2.2.2.2.1, d9, d10, d11, z13.2.2.2.2.2))
            else
             none
           else
            none
         | .inr w12 =>
           bif inb d15 d14.length then
            bif Nat.blt d15.toNat d14.length then
             (k250 rb d2 d5 d6 d7 d8 d12 d13 (setNth d14 d15.toNat ()) d15).bind fun (z14 : XN × List UInt8 × Int × XL × List Int × List Bool × List Int × List Unit) =>
             some (.inr (d1, z14.1, d3, d4, z14.2.1, z14.2.2.1, z14.2.2.2.1, z14.2.2.2.2.1, d9, d10, d11, z14.2.2.2.2.2))
            else
             none
           else
            none
 else
  (c56 rf d2).bind fun (y15 : Int ⊕ Int ⊕ (Int × Int) ⊕ Int ⊕ Unit) =>
  match y15 with
  | .inl u16 =>
    bif inb d15 d14.length then
     bif Nat.blt d15.toNat d14.length then
      (k250 rb d2 d5 d6 d7 d8 d12 d13 (setNth d14 d15.toNat ()) d15).bind fun (z18 : XN × List UInt8 × Int × XL × List Int × List Bool × List Int × List Unit) =>
      some (.inr (d1, z18.1, d3, d4, z18.2.1, z18.2.2.1, z18.2.2.2.1, z18.2.2.2.2.1, d9, d10, d11, z18.2.2.2.2.2))
     else
      none
    else
     none
  | .inr w17 =>
    match w17 with
    | .inl u19 =>
      bif inb d15 d14.length then
       bif Nat.blt d15.toNat d14.length then
        (k250 rb d2 d5 d6 d7 d8 d12 d13 (setNth d14 d15.toNat ()) d15).bind fun (z21 : XN × List UInt8 × Int × XL × List Int × List Bool × List Int × List Unit) =>
        some (.inr (d1, z21.1, d3, d4, z21.2.1, z21.2.2.1, z21.2.2.2.1, z21.2.2.2.2.1, d9, d10, d11, z21.2.2.2.2.2))
       else
        none
      else
       none
    | .inr w20 =>
      match w20 with
      | .inl u22 =>
        bif inb d15 d14.length then
         bif Nat.blt d15.toNat d14.length then
          (k250 rb d2 d5 d6 d7 d8 d12 d13 (setNth d14 d15.toNat ()) d15).bind fun (z24 : XN × List UInt8 × Int × XL × List Int × List Bool × List Int × List Unit) =>
          some (.inr (d1, z24.1, d3, d4, z24.2.1, z24.2.2.1, z24.2.2.2.1, z24.2.2.2.2.1, d9, d10, d11, z24.2.2.2.2.2))
         else
          none
        else
         none
      | .inr w23 =>
        match w23 with
        | .inl u25 =>
          bif inb d15 d14.length then
           bif Nat.blt d15.toNat d14.length then
            (k250 rb d2 d5 d6 d7 d8 d12 d13 (setNth d14 d15.toNat ()) d15).bind fun (z27 : XN × List UInt8 × Int × XL × List Int × List Bool × List Int × List Unit) =>
            some (.inr (d1, z27.1, d3, d4, z27.2.1, z27.2.2.1, z27.2.2.2.1, z27.2.2.2.2.1, d9, d10, d11, z27.2.2.2.2.2))
           else
            none
          else
           none
        | .inr w26 =>
          bif inb d15 d14.length then
           bif Nat.blt d15.toNat d14.length then
            (k250 rb d2 d5 d6 d7 d8 d12 d13 (setNth d14 d15.toNat ()) d15).bind fun (z28 : XN × List UInt8 × Int × XL × List Int × List Bool × List Int × List Unit) =>
            some (.inr (d1, z28.1, d3, d4, z28.2.1, z28.2.2.1, z28.2.2.2.1, z28.2.2.2.2.1, d9, d10, d11, z28.2.2.2.2.2))
           else
            none
          else
           none
theorem eb249 (rf : T.RF) (rb : T.RB) (d1 : Int) (d2 : XN) (d3 : Bool) (d4 : Int) (d5 : List UInt8) (d6 : Int) (d7 : XL) (d8 : List Int) (d9 : List Unit) (d10 : List (List UInt8 × Int)) (d11 : List Int) (d12 : List Bool) (d13 : List Int) (d14 : List Unit) (d15 : Int) : T.stepB rf rb 249 (d1, d2, d3, d4, d5, d6, d7, d8, d9, d10, d11, d12, d13, d14, d15) = b249q rf rb d1 d2 d3 d4 d5 d6 d7 d8 d9 d10 d11 d12 d13 d14 d15 := by kernel_rfl
theorem sb249 (rf : T.RF) (rb : T.RB) (d1 : Int) (d2 : XN) (d3 : Bool) (d4 : Int) (d5 : List UInt8) (d6 : Int) (d7 : XL) (d8 : List Int) (d9 : List Unit) (d10 : List (List UInt8 × Int)) (d11 : List Int) (d12 : List Bool) (d13 : List Int) (d14 : List Unit) (d15 : Int) : b249q rf rb d1 d2 d3 d4 d5 d6 d7 d8 d9 d10 d11 d12 d13 d14 d15 = b249 rf rb d1 d2 d3 d4 d5 d6 d7 d8 d9 d10 d11 d12 d13 d14 d15 := by
 unfold b249q b249; simp only [agN_eq, agree_self, agree_swap]
noncomputable def b250 (rf : T.RF) (rb : T.RB) (d1 : XN) (d2 : List UInt8) (d3 : Int) (d4 : XL) (d5 : List Int) (d6 : List Bool) (d7 : List Int) (d8 : List Unit) (d9 : Int) : Option (XN × List UInt8 × Int × XL × List Int × List Bool × List Int × List Unit) :=
 (c49 rf d1).bind fun (y1 : List Int) =>
 (k251 rb d1 y1 d2 d3 d4 d5 d6 d7 d8 d9 (((y1.length : Nat) : Int)) 0).bind fun (z2 : XN × List Int × List UInt8 × Int × XL × List Int × List Bool × List Int × List Unit) =>
 some (z2.1, z2.2.2)
theorem eb250 (rf : T.RF) (rb : T.RB) (d1 : XN) (d2 : List UInt8) (d3 : Int) (d4 : XL) (d5 : List Int) (d6 : List Bool) (d7 : List Int) (d8 : List Unit) (d9 : Int) : T.stepB rf rb 250 (d1, d2, d3, d4, d5, d6, d7, d8, d9) = b250 rf rb d1 d2 d3 d4 d5 d6 d7 d8 d9 := by kernel_rfl
noncomputable def b251q (rf : T.RF) (rb : T.RB) (d1 : XN) (d2 : List Int) (d3 : List UInt8) (d4 : Int) (d5 : XL) (d6 : List Int) (d7 : List Bool) (d8 : List Int) (d9 : List Unit) (d10 : Int) (d11 : Int) (d12 : Int) : Option (XN × List Int × List UInt8 × Int × XL × List Int × List Bool × List Int × List Unit) :=
 bif decide (d12 < d11) then
  bif inb d12 d2.length then
   (nth d2 d12.toNat).bind fun (x1 : Int) =>
   agree (
   agree (
   bif inb d10 d7.length then
   (nth d7 d10.toNat).bind fun (x2 : Bool) =>
   bif x2 then
   bif inb x1 d7.length then
   bif Nat.blt x1.toNat d7.length then
   k251 rb d1 d2 d3 d4 d5 d6 (setNth d7 x1.toNat true) d8 d9 d10 d11 (IntKind.i64.wrap (d12 + 1))
   else
   none
   else
   none
   else
   bif d1.1 == 21 then
   bif inb x1 d7.length then
   bif Nat.blt x1.toNat d7.length then
   k251 rb d1 d2 d3 d4 d5 d6 (setNth d7 x1.toNat true) d8 d9 d10 d11 (IntKind.i64.wrap (d12 + 1))
   else
   none
   else
   none
   else
   bif inb x1 d7.length then
   bif Nat.blt x1.toNat d7.length then
   k251 rb d1 d2 d3 d4 d5 d6 (setNth d7 x1.toNat (d1.1 == 24)) d8 d9 d10 d11 (IntKind.i64.wrap (d12 + 1))
   else
   none
   else
   none
   else
   none
   ) (
   agree (
   bif inb d10 d7.length then
   (nth d7 d10.toNat).bind fun (x2 : Bool) =>
   bif x2 then
   bif inb x1 d7.length then
   bif Nat.blt x1.toNat d7.length then
   k251 rb d1 d2 d3 d4 d5 d6 (setNth d7 x1.toNat true) d8 d9 d10 d11 (IntKind.i64.wrap (d12 + 1))
   else
   none
   else
   none
   else
   bif d1.1 == 21 then
   bif inb x1 d7.length then
   bif Nat.blt x1.toNat d7.length then
   k251 rb d1 d2 d3 d4 d5 d6 (setNth d7 x1.toNat true) d8 d9 d10 d11 (IntKind.i64.wrap (d12 + 1))
   else
   none
   else
   none
   else
   bif inb x1 d7.length then
   bif Nat.blt x1.toNat d7.length then
   k251 rb d1 d2 d3 d4 d5 d6 (setNth d7 x1.toNat (d1.1 == 24)) d8 d9 d10 d11 (IntKind.i64.wrap (d12 + 1))
   else
   none
   else
   none
   else
   none
   ) (
   bif inb d10 d7.length then
   agN 1 (
   (nth d7 d10.toNat).bind fun (x2 : Bool) =>
   bif x2 then
   bif inb x1 d7.length then
   bif Nat.blt x1.toNat d7.length then
   k251 rb d1 d2 d3 d4 d5 d6 (setNth d7 x1.toNat true) d8 d9 d10 d11 (IntKind.i64.wrap (d12 + 1))
   else
   none
   else
   none
   else
   bif d1.1 == 21 then
   bif inb x1 d7.length then
   bif Nat.blt x1.toNat d7.length then
   k251 rb d1 d2 d3 d4 d5 d6 (setNth d7 x1.toNat true) d8 d9 d10 d11 (IntKind.i64.wrap (d12 + 1))
   else
   none
   else
   none
   else
   bif inb x1 d7.length then
   bif Nat.blt x1.toNat d7.length then
   k251 rb d1 d2 d3 d4 d5 d6 (setNth d7 x1.toNat (d1.1 == 24)) d8 d9 d10 d11 (IntKind.i64.wrap (d12 + 1))
   else
   none
   else
   none
   )
   else
   none
   )
   )
   ) (
   agree (
   agree (
   bif inb d10 d7.length then
   (nth d7 d10.toNat).bind fun (x2 : Bool) =>
   bif x2 then
   bif inb x1 d7.length then
   bif Nat.blt x1.toNat d7.length then
   k251 rb d1 d2 d3 d4 d5 d6 (setNth d7 x1.toNat true) d8 d9 d10 d11 (IntKind.i64.wrap (d12 + 1))
   else
   none
   else
   none
   else
   bif d1.1 == 21 then
   bif inb x1 d7.length then
   bif Nat.blt x1.toNat d7.length then
   k251 rb d1 d2 d3 d4 d5 d6 (setNth d7 x1.toNat true) d8 d9 d10 d11 (IntKind.i64.wrap (d12 + 1))
   else
   none
   else
   none
   else
   bif inb x1 d7.length then
   bif Nat.blt x1.toNat d7.length then
   k251 rb d1 d2 d3 d4 d5 d6 (setNth d7 x1.toNat (d1.1 == 24)) d8 d9 d10 d11 (IntKind.i64.wrap (d12 + 1))
   else
   none
   else
   none
   else
   none
   ) (
   bif inb d10 d7.length then
   agN 1 (
   (nth d7 d10.toNat).bind fun (x2 : Bool) =>
   bif x2 then
   bif inb x1 d7.length then
   bif Nat.blt x1.toNat d7.length then
   k251 rb d1 d2 d3 d4 d5 d6 (setNth d7 x1.toNat true) d8 d9 d10 d11 (IntKind.i64.wrap (d12 + 1))
   else
   none
   else
   none
   else
   bif d1.1 == 21 then
   bif inb x1 d7.length then
   bif Nat.blt x1.toNat d7.length then
   k251 rb d1 d2 d3 d4 d5 d6 (setNth d7 x1.toNat true) d8 d9 d10 d11 (IntKind.i64.wrap (d12 + 1))
   else
   none
   else
   none
   else
   bif inb x1 d7.length then
   bif Nat.blt x1.toNat d7.length then
   k251 rb d1 d2 d3 d4 d5 d6 (setNth d7 x1.toNat (d1.1 == 24)) d8 d9 d10 d11 (IntKind.i64.wrap (d12 + 1))
   else
   none
   else
   none
   )
   else
   none
   )
   ) (
   bif inb d10 d7.length then
   agree (
   agN 1 (
   (nth d7 d10.toNat).bind fun (x2 : Bool) =>
   bif x2 then
   bif inb x1 d7.length then
   bif Nat.blt x1.toNat d7.length then
   k251 rb d1 d2 d3 d4 d5 d6 (setNth d7 x1.toNat true) d8 d9 d10 d11 (IntKind.i64.wrap (d12 + 1))
   else
   none
   else
   none
   else
   bif d1.1 == 21 then
   bif inb x1 d7.length then
   bif Nat.blt x1.toNat d7.length then
   k251 rb d1 d2 d3 d4 d5 d6 (setNth d7 x1.toNat true) d8 d9 d10 d11 (IntKind.i64.wrap (d12 + 1))
   else
   none
   else
   none
   else
   bif inb x1 d7.length then
   bif Nat.blt x1.toNat d7.length then
   k251 rb d1 d2 d3 d4 d5 d6 (setNth d7 x1.toNat (d1.1 == 24)) d8 d9 d10 d11 (IntKind.i64.wrap (d12 + 1))
   else
   none
   else
   none
   )
   ) (
   (nth d7 d10.toNat).bind fun (x2 : Bool) =>
   bif x2 then
   bif inb x1 d7.length then
   bif Nat.blt x1.toNat d7.length then
   k251 rb d1 d2 d3 d4 d5 d6 (setNth d7 x1.toNat true) d8 d9 d10 d11 (IntKind.i64.wrap (d12 + 1))
   else
   none
   else
   none
   else
   bif d1.1 == 21 then
   bif inb x1 d7.length then
   bif Nat.blt x1.toNat d7.length then
   k251 rb d1 d2 d3 d4 d5 d6 (setNth d7 x1.toNat true) d8 d9 d10 d11 (IntKind.i64.wrap (d12 + 1))
   else
   none
   else
   none
   else
   bif inb x1 d7.length then
   bif Nat.blt x1.toNat d7.length then
   k251 rb d1 d2 d3 d4 d5 d6 (setNth d7 x1.toNat (d1.1 == 24)) d8 d9 d10 d11 (IntKind.i64.wrap (d12 + 1))
   else
   none
   else
   none
   )
   else
   none
   )
   )
  else
   none
 else
  some (d1, d2, d3, d4, d5, d6, d7, d8, d9)
noncomputable def b251 (rf : T.RF) (rb : T.RB) (d1 : XN) (d2 : List Int) (d3 : List UInt8) (d4 : Int) (d5 : XL) (d6 : List Int) (d7 : List Bool) (d8 : List Int) (d9 : List Unit) (d10 : Int) (d11 : Int) (d12 : Int) : Option (XN × List Int × List UInt8 × Int × XL × List Int × List Bool × List Int × List Unit) :=
 bif decide (d12 < d11) then
  bif inb d12 d2.length then
   (nth d2 d12.toNat).bind fun (x1 : Int) =>
   bif inb d10 d7.length then
   (nth d7 d10.toNat).bind fun (x2 : Bool) =>
   bif x2 then
   bif inb x1 d7.length then
   bif Nat.blt x1.toNat d7.length then
   k251 rb d1 d2 d3 d4 d5 d6 (setNth d7 x1.toNat true) d8 d9 d10 d11 (IntKind.i64.wrap (d12 + 1))
   else
   none
   else
   none
   else
   bif d1.1 == 21 then
   bif inb x1 d7.length then
   bif Nat.blt x1.toNat d7.length then
   k251 rb d1 d2 d3 d4 d5 d6 (setNth d7 x1.toNat true) d8 d9 d10 d11 (IntKind.i64.wrap (d12 + 1))
   else
   none
   else
   none
   else
   bif inb x1 d7.length then
   bif Nat.blt x1.toNat d7.length then
   k251 rb d1 d2 d3 d4 d5 d6 (setNth d7 x1.toNat (d1.1 == 24)) d8 d9 d10 d11 (IntKind.i64.wrap (d12 + 1))
   else
   none
   else
   none
   else
   none
  else
   none
 else
  some (d1, d2, d3, d4, d5, d6, d7, d8, d9)
theorem eb251 (rf : T.RF) (rb : T.RB) (d1 : XN) (d2 : List Int) (d3 : List UInt8) (d4 : Int) (d5 : XL) (d6 : List Int) (d7 : List Bool) (d8 : List Int) (d9 : List Unit) (d10 : Int) (d11 : Int) (d12 : Int) : T.stepB rf rb 251 (d1, d2, d3, d4, d5, d6, d7, d8, d9, d10, d11, d12) = b251q rf rb d1 d2 d3 d4 d5 d6 d7 d8 d9 d10 d11 d12 := by kernel_rfl
theorem sb251 (rf : T.RF) (rb : T.RB) (d1 : XN) (d2 : List Int) (d3 : List UInt8) (d4 : Int) (d5 : XL) (d6 : List Int) (d7 : List Bool) (d8 : List Int) (d9 : List Unit) (d10 : Int) (d11 : Int) (d12 : Int) : b251q rf rb d1 d2 d3 d4 d5 d6 d7 d8 d9 d10 d11 d12 = b251 rf rb d1 d2 d3 d4 d5 d6 d7 d8 d9 d10 d11 d12 := by
 unfold b251q b251; simp only [agN_eq, agree_self, agree_swap]
noncomputable def b252q (rf : T.RF) (rb : T.RB) (d1 : List Int) (d2 : List Int) (d3 : Bool) (d4 : Int) (d5 : List Unit) (d6 : List (List UInt8 × Int)) (d7 : List Int) (d8 : Int) (d9 : Int) : Option (List Int × List Int × Bool × Int × List Unit × List (List UInt8 × Int) × List Int) :=
 bif decide (d9 < d8) then
  bif inb d9 d2.length then
   (nth d2 d9.toNat).bind fun (x1 : Int) =>
   bif inb x1 d1.length then
   (nth d1 x1.toNat).bind fun (x2 : Int) =>
   agree (
   agree (
   agN 1 (
   bif (Nat.ble (d7.length + 1) most) && true then
   k252 rb d1 d2 d3 d4 d5 d6 (d7 ++ [x2]) d8 (IntKind.i64.wrap (d9 + 1))
   else
   none
   )
   ) (
   bif (Nat.ble (d7.length + 1) most) && true then
   k252 rb d1 d2 d3 d4 d5 d6 (d7 ++ [x2]) d8 (IntKind.i64.wrap (d9 + 1))
   else
   none
   )
   ) (
   agree (
   agree (
   agN 1 (
   bif (Nat.ble (d7.length + 1) most) && true then
   k252 rb d1 d2 d3 d4 d5 d6 (d7 ++ [x2]) d8 (IntKind.i64.wrap (d9 + 1))
   else
   none
   )
   ) (
   agN 1 (
   agN 2 (
   bif (Nat.ble (d7.length + 1) most) && true then
   k252 rb d1 d2 d3 d4 d5 d6 (d7 ++ [x2]) d8 (IntKind.i64.wrap (d9 + 1))
   else
   none
   )
   )
   )
   ) (
   agN 3 (
   bif (Nat.ble (d7.length + 1) most) && true then
   k252 rb d1 d2 d3 d4 d5 d6 (d7 ++ [x2]) d8 (IntKind.i64.wrap (d9 + 1))
   else
   none
   )
   )
   )
   else
   none
  else
   none
 else
  some (d1, d2, d3, d4, d5, d6, d7)
noncomputable def b252 (rf : T.RF) (rb : T.RB) (d1 : List Int) (d2 : List Int) (d3 : Bool) (d4 : Int) (d5 : List Unit) (d6 : List (List UInt8 × Int)) (d7 : List Int) (d8 : Int) (d9 : Int) : Option (List Int × List Int × Bool × Int × List Unit × List (List UInt8 × Int) × List Int) :=
 bif decide (d9 < d8) then
  bif inb d9 d2.length then
   (nth d2 d9.toNat).bind fun (x1 : Int) =>
   bif inb x1 d1.length then
   (nth d1 x1.toNat).bind fun (x2 : Int) =>
   bif (Nat.ble (d7.length + 1) most) && true then
   k252 rb d1 d2 d3 d4 d5 d6 (d7 ++ [x2]) d8 (IntKind.i64.wrap (d9 + 1))
   else
   none
   else
   none
  else
   none
 else
  some (d1, d2, d3, d4, d5, d6, d7)
theorem eb252 (rf : T.RF) (rb : T.RB) (d1 : List Int) (d2 : List Int) (d3 : Bool) (d4 : Int) (d5 : List Unit) (d6 : List (List UInt8 × Int)) (d7 : List Int) (d8 : Int) (d9 : Int) : T.stepB rf rb 252 (d1, d2, d3, d4, d5, d6, d7, d8, d9) = b252q rf rb d1 d2 d3 d4 d5 d6 d7 d8 d9 := by kernel_rfl
theorem sb252 (rf : T.RF) (rb : T.RB) (d1 : List Int) (d2 : List Int) (d3 : Bool) (d4 : Int) (d5 : List Unit) (d6 : List (List UInt8 × Int)) (d7 : List Int) (d8 : Int) (d9 : Int) : b252q rf rb d1 d2 d3 d4 d5 d6 d7 d8 d9 = b252 rf rb d1 d2 d3 d4 d5 d6 d7 d8 d9 := by
 unfold b252q b252; simp only [agN_eq, agree_self, agree_swap]
noncomputable def r46 (rf : T.RF) (rb : T.RB) (d1 : List XS) : Option (Int ⊕ (Bool × Int × List Unit × List (List UInt8 × Int) × List Int × Int)) :=
 bif decide ((((d1.length : Nat) : Int)) > 4000) then
  some (.inl 1)
 else
  (k244 rb 0 true 0 [] [] [] d1 (((d1.length : Nat) : Int)) 0).bind fun (z1 : (Int × Bool × Int × List Unit × List (List UInt8 × Int) × List Int) ⊕ (Int × Bool × Int × List Unit × List (List UInt8 × Int) × List Int)) =>
  match z1 with
  | .inl u2 =>
    some (.inl u2.1)
  | .inr w3 =>
    (k245 rb w3.1 [] [] w3.2.1 w3.2.2.1 w3.2.2.2.1 w3.2.2.2.2.1 w3.2.2.2.2.2 d1 (((d1.length : Nat) : Int)) 0).bind fun (z4 : (Int × Bool × Int × List (List UInt8 × Int) × List Int × List Unit) ⊕ (Int × Bool × Int × List (List UInt8 × Int) × List Int × List (List UInt8 × XL) × List Int × List Unit)) =>
    match z4 with
    | .inl u5 =>
      some (.inl u5.1)
    | .inr w6 =>
      (c57 rf w6.2.2.2.2.2.1).bind fun (y7 : List Int × Int) =>
      (k252 rb w6.2.2.2.2.2.2.1 y7.1 w6.2.1 w6.2.2.1 w6.2.2.2.2.2.2.2 w6.2.2.2.1 w6.2.2.2.2.1 (((y7.1.length : Nat) : Int)) 0).bind fun (z8 : List Int × List Int × Bool × Int × List Unit × List (List UInt8 × Int) × List Int) =>
      some (.inr (z8.2.2.1, z8.2.2.2.1, z8.2.2.2.2.1, z8.2.2.2.2.2.1, z8.2.2.2.2.2.2, y7.2))
theorem er46 (rf : T.RF) (rb : T.RB) (d1 : List XS) : T.stepF rf rb 46 d1 = r46 rf rb d1 := by kernel_rfl
noncomputable def r45 (rf : T.RF) (rb : T.RB) (d1 : List XS) : Option (List (List Int) × Int) :=
 (c46 rf d1).bind fun (y1 : Int ⊕ (Bool × Int × List Unit × List (List UInt8 × Int) × List Int × Int)) =>
 match y1 with
 | .inl u2 =>
   bif u2 != 0 then
    some ([], u2)
   else
    some ([], 0)
 | .inr w3 =>
   bif w3.2.2.2.2.2 != 0 then
    some ([], w3.2.2.2.2.2)
   else
    some ([], 0)
theorem er45 (rf : T.RF) (rb : T.RB) (d1 : List XS) : T.stepF rf rb 45 d1 = r45 rf rb d1 := by kernel_rfl
noncomputable def r79 (rf : T.RF) (rb : T.RB) (d1 : XN) : Option Bool :=
 bif d1.1 == 22 then
  bif d1.1 == 22 then
   some true
  else
   some false
 else
 bif d1.1 == 23 then
  bif d1.1 == 23 then
   some true
  else
   some false
 else
 bif d1.1 == 24 then
  bif d1.1 == 24 then
   some true
  else
   some false
 else
 bif d1.1 == 25 then
  bif d1.1 == 25 then
   some true
  else
   some false
 else
 bif d1.1 == 20 then
  some true
 else
  some false
theorem er79 (rf : T.RF) (rb : T.RB) (d1 : XN) : T.stepF rf rb 79 d1 = r79 rf rb d1 := by kernel_rfl
noncomputable def b254 (rf : T.RF) (rb : T.RB) (d1 : XL) (d2 : Int) (d3 : Int) : Option (Int ⊕ Unit) :=
 bif decide (d3 < d2) then
  bif inb d3 d1.length then
   (nth d1 d3.toNat).bind fun (x1 : XN) =>
   (c79 rf x1).bind fun (y2 : Bool) =>
   bif y2 then
   some (.inl d3)
   else
   k254 rb d1 d2 (IntKind.i64.wrap (d3 + 1))
  else
   none
 else
  some (.inr ())
theorem eb254 (rf : T.RF) (rb : T.RB) (d1 : XL) (d2 : Int) (d3 : Int) : T.stepB rf rb 254 (d1, d2, d3) = b254 rf rb d1 d2 d3 := by kernel_rfl
noncomputable def r78 (rf : T.RF) (rb : T.RB) (d1 : XL) : Option Int :=
 (k254 rb d1 (((d1.length : Nat) : Int)) 0).bind fun (z1 : Int ⊕ Unit) =>
 match z1 with
 | .inl u2 =>
   some u2
 | .inr w3 =>
   some (-1)
theorem er78 (rf : T.RF) (rb : T.RB) (d1 : XL) : T.stepF rf rb 78 d1 = r78 rf rb d1 := by kernel_rfl
noncomputable def r77 (rf : T.RF) (rb : T.RB) (d1 : XL) : Option Bool :=
 (c78 rf d1).bind fun (y1 : Int) =>
 some (decide (y1 ≥ 0))
theorem er77 (rf : T.RF) (rb : T.RB) (d1 : XL) : T.stepF rf rb 77 d1 = r77 rf rb d1 := by kernel_rfl
noncomputable def r76 (rf : T.RF) (rb : T.RB) (d1 : XL) : Option Bool :=
 (c77 rf d1).bind fun (y1 : Bool) =>
 some y1
theorem er76 (rf : T.RF) (rb : T.RB) (d1 : XL) : T.stepF rf rb 76 d1 = r76 rf rb d1 := by kernel_rfl
noncomputable def r75 (rf : T.RF) (rb : T.RB) (d1 : XS) : Option Bool :=
 (c76 rf d1.2.2).bind fun (y1 : Bool) =>
 some y1
theorem er75 (rf : T.RF) (rb : T.RB) (d1 : XS) : T.stepF rf rb 75 d1 = r75 rf rb d1 := by kernel_rfl
noncomputable def b253 (rf : T.RF) (rb : T.RB) (d1 : List XS) (d2 : Int) (d3 : Int) : Option (Int ⊕ Unit) :=
 bif decide (d3 < d2) then
  bif inb d3 d1.length then
   (nth d1 d3.toNat).bind fun (x1 : XS) =>
   (c75 rf x1).bind fun (y2 : Bool) =>
   bif y2 then
   some (.inl d3)
   else
   k253 rb d1 d2 (IntKind.i64.wrap (d3 + 1))
  else
   none
 else
  some (.inr ())
theorem eb253 (rf : T.RF) (rb : T.RB) (d1 : List XS) (d2 : Int) (d3 : Int) : T.stepB rf rb 253 (d1, d2, d3) = b253 rf rb d1 d2 d3 := by kernel_rfl
noncomputable def r74 (rf : T.RF) (rb : T.RB) (d1 : List XS) : Option Int :=
 (k253 rb d1 (((d1.length : Nat) : Int)) 0).bind fun (z1 : Int ⊕ Unit) =>
 match z1 with
 | .inl u2 =>
   some u2
 | .inr w3 =>
   some (-1)
theorem er74 (rf : T.RF) (rb : T.RB) (d1 : List XS) : T.stepF rf rb 74 d1 = r74 rf rb d1 := by kernel_rfl
noncomputable def r73 (rf : T.RF) (rb : T.RB) (d1 : List XS) : Option Bool :=
 (c74 rf d1).bind fun (y1 : Int) =>
 some (decide (y1 ≥ 0))
theorem er73 (rf : T.RF) (rb : T.RB) (d1 : List XS) : T.stepF rf rb 73 d1 = r73 rf rb d1 := by kernel_rfl
noncomputable def r80q (rf : T.RF) (rb : T.RB) (d1 : List (List Int)) (d2 : List XL) (d3 : List (List UInt8 × Int)) (d4 : Int) (d5 : Int) : Option (List (List Int) × List XL × List (List UInt8 × Int) × Int) :=
 bif inb d4 d2.length then
  (nth d2 d4.toNat).bind fun (x1 : XL) =>
  bif decide ((((x1.length : Nat) : Int)) > 0) then
   bif inb d5 x1.length then
   (nth x1 d5.toNat).bind fun (x2 : XN) =>
   bif x2.1 == 3 then
   bif inb d5 x1.length then
   (nth x1 d5.toNat).bind fun (x3 : XN) =>
   agN 1 (
   bif inb (assocGet (CT.eqK .str) 0 d3 x3.2.2.2.2.2) d1.length then
   (nth d1 (assocGet (CT.eqK .str) 0 d3 x3.2.2.2.2.2).toNat).bind fun (x4 : List Int) =>
   (c80 rf d1 d2 d3 (assocGet (CT.eqK .str) 0 d3 x3.2.2.2.2.2) (IntKind.i64.wrap ((((x4.length : Nat) : Int)) - 1))).bind fun (y5 : List (List Int) × List XL × List (List UInt8 × Int) × Int) =>
   some y5
   else
   none
   )
   else
   none
   else
   bif inb d4 d1.length then
   (nth d1 d4.toNat).bind fun (x6 : List Int) =>
   bif inb d5 x6.length then
   (nth x6 d5.toNat).bind fun (x7 : Int) =>
   some (d1, d2, d3, x7)
   else
   none
   else
   none
   else
   none
  else
  bif inb d4 d1.length then
   (nth d1 d4.toNat).bind fun (x8 : List Int) =>
   bif inb d5 x8.length then
   (nth x8 d5.toNat).bind fun (x9 : Int) =>
   some (d1, d2, d3, x9)
   else
   none
  else
   none
 else
  none
noncomputable def r80 (rf : T.RF) (rb : T.RB) (d1 : List (List Int)) (d2 : List XL) (d3 : List (List UInt8 × Int)) (d4 : Int) (d5 : Int) : Option (List (List Int) × List XL × List (List UInt8 × Int) × Int) :=
 bif inb d4 d2.length then
  (nth d2 d4.toNat).bind fun (x1 : XL) =>
  bif decide ((((x1.length : Nat) : Int)) > 0) then
   bif inb d5 x1.length then
   (nth x1 d5.toNat).bind fun (x2 : XN) =>
   bif x2.1 == 3 then
   bif inb d5 x1.length then
   (nth x1 d5.toNat).bind fun (x3 : XN) =>
   bif inb (assocGet (CT.eqK .str) 0 d3 x3.2.2.2.2.2) d1.length then
   (nth d1 (assocGet (CT.eqK .str) 0 d3 x3.2.2.2.2.2).toNat).bind fun (x4 : List Int) =>
   (c80 rf d1 d2 d3 (assocGet (CT.eqK .str) 0 d3 x3.2.2.2.2.2) (IntKind.i64.wrap ((((x4.length : Nat) : Int)) - 1))).bind fun (y5 : List (List Int) × List XL × List (List UInt8 × Int) × Int) =>
   some y5
   else
   none
   else
   none
   else
   bif inb d4 d1.length then
   (nth d1 d4.toNat).bind fun (x6 : List Int) =>
   bif inb d5 x6.length then
   (nth x6 d5.toNat).bind fun (x7 : Int) =>
   some (d1, d2, d3, x7)
   else
   none
   else
   none
   else
   none
  else
  bif inb d4 d1.length then
   (nth d1 d4.toNat).bind fun (x8 : List Int) =>
   bif inb d5 x8.length then
   (nth x8 d5.toNat).bind fun (x9 : Int) =>
   some (d1, d2, d3, x9)
   else
   none
  else
   none
 else
  none
theorem er80 (rf : T.RF) (rb : T.RB) (d1 : List (List Int)) (d2 : List XL) (d3 : List (List UInt8 × Int)) (d4 : Int) (d5 : Int) : T.stepF rf rb 80 (d1, d2, d3, d4, d5) = r80q rf rb d1 d2 d3 d4 d5 := by kernel_rfl
theorem sr80 (rf : T.RF) (rb : T.RB) (d1 : List (List Int)) (d2 : List XL) (d3 : List (List UInt8 × Int)) (d4 : Int) (d5 : Int) : r80q rf rb d1 d2 d3 d4 d5 = r80 rf rb d1 d2 d3 d4 d5 := by
 unfold r80q r80; simp only [agN_eq, agree_self, agree_swap]
noncomputable def b362 (rf : T.RF) (rb : T.RB) (d1 : List XO) (d2 : List Int) (d3 : List Int) (d4 : List (List UInt8 × Int)) (d5 : List (List Int)) (d6 : List XS) (d7 : Int) (d8 : Int) : Option (List Int × List (List UInt8 × Int) × List (List Int) × List XO × List Int) :=
 bif decide (d8 < d7) then
  bif inb d8 d6.length then
   (nth d6 d8.toNat).bind fun (x1 : XS) =>
   bif (((x1.2.2.length : Nat) : Int)) == 0 then
   bif inb d8 d5.length then
   bif (Nat.blt d8.toNat d5.length) && true then
   bif (Nat.ble (d1.length + 1) most) && true then
   bif (Nat.ble (d3.length + 1) most) && true then
   k362 rb (d1 ++ [(3, (-1), (-1), (-1), ((d3.length : Nat) : Int))]) d2 (d3 ++ [x1.2.1]) (assocSet (CT.eqK .str) d4 x1.1 d8) (setNth d5 d8.toNat [((d1.length : Nat) : Int)]) d6 d7 (IntKind.i64.wrap (d8 + 1))
   else
   none
   else
   none
   else
   none
   else
   none
   else
   k362 rb d1 d2 d3 (assocSet (CT.eqK .str) d4 x1.1 d8) d5 d6 d7 (IntKind.i64.wrap (d8 + 1))
  else
   none
 else
  some (d2, d4, d5, d1, d3)
theorem eb362 (rf : T.RF) (rb : T.RB) (d1 : List XO) (d2 : List Int) (d3 : List Int) (d4 : List (List UInt8 × Int)) (d5 : List (List Int)) (d6 : List XS) (d7 : Int) (d8 : Int) : T.stepB rf rb 362 (d1, d2, d3, d4, d5, d6, d7, d8) = b362 rf rb d1 d2 d3 d4 d5 d6 d7 d8 := by kernel_rfl
noncomputable def b363q (rf : T.RF) (rb : T.RB) (d1 : List XL) (d2 : List (List Int)) (d3 : Int) (d4 : List XS) (d5 : Int) (d6 : Int) : Option (List XL × List (List Int)) :=
 bif decide (d6 < d5) then
  bif inb d6 d4.length then
   (nth d4 d6.toNat).bind fun (x1 : XS) =>
   agN 1 (
   (c59 rf x1.2.2 (IntKind.i64.wrap ((((x1.2.2.length : Nat) : Int)) - 1))).bind fun (y2 : XL) =>
   bif inb d6 d1.length then
   bif Nat.blt d6.toNat d1.length then
   (k364 rb (setNth d1 d6.toNat y2) d2 d3 d6).bind fun (z3 : List XL × List (List Int) × Int) =>
   k363 rb z3.1 z3.2.1 z3.2.2 d4 d5 (IntKind.i64.wrap (d6 + 1))
   else
   none
   else
   none
   )
  else
   none
 else
  some (d1, d2)
noncomputable def b363 (rf : T.RF) (rb : T.RB) (d1 : List XL) (d2 : List (List Int)) (d3 : Int) (d4 : List XS) (d5 : Int) (d6 : Int) : Option (List XL × List (List Int)) :=
 bif decide (d6 < d5) then
  bif inb d6 d4.length then
   (nth d4 d6.toNat).bind fun (x1 : XS) =>
   (c59 rf x1.2.2 (IntKind.i64.wrap ((((x1.2.2.length : Nat) : Int)) - 1))).bind fun (y2 : XL) =>
   bif inb d6 d1.length then
   bif Nat.blt d6.toNat d1.length then
   (k364 rb (setNth d1 d6.toNat y2) d2 d3 d6).bind fun (z3 : List XL × List (List Int) × Int) =>
   k363 rb z3.1 z3.2.1 z3.2.2 d4 d5 (IntKind.i64.wrap (d6 + 1))
   else
   none
   else
   none
  else
   none
 else
  some (d1, d2)
theorem eb363 (rf : T.RF) (rb : T.RB) (d1 : List XL) (d2 : List (List Int)) (d3 : Int) (d4 : List XS) (d5 : Int) (d6 : Int) : T.stepB rf rb 363 (d1, d2, d3, d4, d5, d6) = b363q rf rb d1 d2 d3 d4 d5 d6 := by kernel_rfl
theorem sb363 (rf : T.RF) (rb : T.RB) (d1 : List XL) (d2 : List (List Int)) (d3 : Int) (d4 : List XS) (d5 : Int) (d6 : Int) : b363q rf rb d1 d2 d3 d4 d5 d6 = b363 rf rb d1 d2 d3 d4 d5 d6 := by
 unfold b363q b363; simp only [agN_eq, agree_self, agree_swap]
noncomputable def b364 (rf : T.RF) (rb : T.RB) (d1 : List XL) (d2 : List (List Int)) (d3 : Int) (d4 : Int) : Option (List XL × List (List Int) × Int) :=
 bif inb d4 d1.length then
  (nth d1 d4.toNat).bind fun (x1 : XL) =>
  (k365 rb d2 d3 d4 x1 (((x1.length : Nat) : Int)) 0).bind fun (z2 : List (List Int) × Int) =>
  some (d1, z2)
 else
  none
theorem eb364 (rf : T.RF) (rb : T.RB) (d1 : List XL) (d2 : List (List Int)) (d3 : Int) (d4 : Int) : T.stepB rf rb 364 (d1, d2, d3, d4) = b364 rf rb d1 d2 d3 d4 := by kernel_rfl
noncomputable def b365q (rf : T.RF) (rb : T.RB) (d1 : List (List Int)) (d2 : Int) (d3 : Int) (d4 : XL) (d5 : Int) (d6 : Int) : Option (List (List Int) × Int) :=
 bif decide (d6 < d5) then
  bif inb d6 d4.length then
   (nth d4 d6.toNat).bind fun (x1 : XN) =>
   agree (
   agree (
   bif inb d3 d1.length then
   agN 1 (
   (nth d1 d3.toNat).bind fun (x2 : List Int) =>
   bif (Nat.ble (x2.length + 1) most) && true then
   bif inb d3 d1.length then
   bif Nat.beq d3.toNat d3.toNat && ((Nat.blt d3.toNat d1.length) && true) then
   (k366 rb x1 d2).bind fun (z3 : XN × Int) =>
   k365 rb (setNth d1 d3.toNat (x2 ++ [d2])) z3.2 d3 d4 d5 (IntKind.i64.wrap (d6 + 1))
   else
   none
   else
   none
   else
   none
   )
   else
   none
   ) (
   bif inb d3 d1.length then
   (nth d1 d3.toNat).bind fun (x2 : List Int) =>
   bif (Nat.ble (x2.length + 1) most) && true then
   bif inb d3 d1.length then
   bif Nat.beq d3.toNat d3.toNat && ((Nat.blt d3.toNat d1.length) && true) then
   (k366 rb x1 d2).bind fun (z3 : XN × Int) =>
   k365 rb (setNth d1 d3.toNat (x2 ++ [d2])) z3.2 d3 d4 d5 (IntKind.i64.wrap (d6 + 1))
   else
   none
   else
   none
   else
   none
   else
   none
   )
   ) (
   agree (
   bif inb d3 d1.length then
   agree (
   agN 1 (
   (nth d1 d3.toNat).bind fun (x2 : List Int) =>
   bif (Nat.ble (x2.length + 1) most) && true then
   bif inb d3 d1.length then
   bif Nat.beq d3.toNat d3.toNat && ((Nat.blt d3.toNat d1.length) && true) then
   (k366 rb x1 d2).bind fun (z3 : XN × Int) =>
   k365 rb (setNth d1 d3.toNat (x2 ++ [d2])) z3.2 d3 d4 d5 (IntKind.i64.wrap (d6 + 1))
   else
   none
   else
   none
   else
   none
   )
   ) (
   agree (
   (nth d1 d3.toNat).bind fun (x2 : List Int) =>
   agN 2 (
   bif (Nat.ble (x2.length + 1) most) && true then
   bif inb d3 d1.length then
   bif Nat.beq d3.toNat d3.toNat && ((Nat.blt d3.toNat d1.length) && true) then
   (k366 rb x1 d2).bind fun (z3 : XN × Int) =>
   k365 rb (setNth d1 d3.toNat (x2 ++ [d2])) z3.2 d3 d4 d5 (IntKind.i64.wrap (d6 + 1))
   else
   none
   else
   none
   else
   none
   )
   ) (
   agree (
   (nth d1 d3.toNat).bind fun (x2 : List Int) =>
   bif (Nat.ble (x2.length + 1) most) && true then
   bif inb d3 d1.length then
   bif Nat.beq d3.toNat d3.toNat && ((Nat.blt d3.toNat d1.length) && true) then
   (k366 rb x1 d2).bind fun (z3 : XN × Int) =>
   k365 rb (setNth d1 d3.toNat (x2 ++ [d2])) z3.2 d3 d4 d5 (IntKind.i64.wrap (d6 + 1))
   else
   none
   else
   none
   else
   none
   ) (
   (nth d1 d3.toNat).bind fun (x2 : List Int) =>
   agN 1 (
   bif (Nat.ble (x2.length + 1) most) && true then
   bif inb d3 d1.length then
   bif Nat.beq d3.toNat d3.toNat && ((Nat.blt d3.toNat d1.length) && true) then
   (k366 rb x1 d2).bind fun (z3 : XN × Int) =>
   k365 rb (setNth d1 d3.toNat (x2 ++ [d2])) z3.2 d3 d4 d5 (IntKind.i64.wrap (d6 + 1))
   else
   none
   else
   none
   else
   none
   )
   )
   )
   )
   else
   none
   ) (
   agree (
   bif inb d3 d1.length then
   (nth d1 d3.toNat).bind fun (x2 : List Int) =>
   bif (Nat.ble (x2.length + 1) most) && true then
   bif inb d3 d1.length then
   bif Nat.beq d3.toNat d3.toNat && ((Nat.blt d3.toNat d1.length) && true) then
   (k366 rb x1 d2).bind fun (z3 : XN × Int) =>
   k365 rb (setNth d1 d3.toNat (x2 ++ [d2])) z3.2 d3 d4 d5 (IntKind.i64.wrap (d6 + 1))
   else
   none
   else
   none
   else
   none
   else
   none
   ) (
   bif inb d3 d1.length then
   agree (
   (nth d1 d3.toNat).bind fun (x2 : List Int) =>
   bif (Nat.ble (x2.length + 1) most) && true then
   bif inb d3 d1.length then
   bif Nat.beq d3.toNat d3.toNat && ((Nat.blt d3.toNat d1.length) && true) then
   (k366 rb x1 d2).bind fun (z3 : XN × Int) =>
   k365 rb (setNth d1 d3.toNat (x2 ++ [d2])) z3.2 d3 d4 d5 (IntKind.i64.wrap (d6 + 1))
   else
   none
   else
   none
   else
   none
   ) (
   (nth d1 d3.toNat).bind fun (x2 : List Int) =>
   agN 1 (
   bif (Nat.ble (x2.length + 1) most) && true then
   bif inb d3 d1.length then
   bif Nat.beq d3.toNat d3.toNat && ((Nat.blt d3.toNat d1.length) && true) then
   (k366 rb x1 d2).bind fun (z3 : XN × Int) =>
   k365 rb (setNth d1 d3.toNat (x2 ++ [d2])) z3.2 d3 d4 d5 (IntKind.i64.wrap (d6 + 1))
   else
   none
   else
   none
   else
   none
   )
   )
   else
   none
   )
   )
   )
  else
   none
 else
  some (d1, d2)
noncomputable def b365 (rf : T.RF) (rb : T.RB) (d1 : List (List Int)) (d2 : Int) (d3 : Int) (d4 : XL) (d5 : Int) (d6 : Int) : Option (List (List Int) × Int) :=
 bif decide (d6 < d5) then
  bif inb d6 d4.length then
   (nth d4 d6.toNat).bind fun (x1 : XN) =>
   bif inb d3 d1.length then
   (nth d1 d3.toNat).bind fun (x2 : List Int) =>
   bif (Nat.ble (x2.length + 1) most) && true then
   bif inb d3 d1.length then
   bif Nat.beq d3.toNat d3.toNat && ((Nat.blt d3.toNat d1.length) && true) then
   (k366 rb x1 d2).bind fun (z3 : XN × Int) =>
   k365 rb (setNth d1 d3.toNat (x2 ++ [d2])) z3.2 d3 d4 d5 (IntKind.i64.wrap (d6 + 1))
   else
   none
   else
   none
   else
   none
   else
   none
  else
   none
 else
  some (d1, d2)
theorem eb365 (rf : T.RF) (rb : T.RB) (d1 : List (List Int)) (d2 : Int) (d3 : Int) (d4 : XL) (d5 : Int) (d6 : Int) : T.stepB rf rb 365 (d1, d2, d3, d4, d5, d6) = b365q rf rb d1 d2 d3 d4 d5 d6 := by kernel_rfl
theorem sb365 (rf : T.RF) (rb : T.RB) (d1 : List (List Int)) (d2 : Int) (d3 : Int) (d4 : XL) (d5 : Int) (d6 : Int) : b365q rf rb d1 d2 d3 d4 d5 d6 = b365 rf rb d1 d2 d3 d4 d5 d6 := by
 unfold b365q b365; simp only [agN_eq, agree_self, agree_swap]
noncomputable def b366 (rf : T.RF) (rb : T.RB) (d1 : XN) (d2 : Int) : Option (XN × Int) :=
 bif d1.1 != 3 then
  some (d1, IntKind.i64.wrap (d2 + 1))
 else
  some (d1, d2)
theorem eb366 (rf : T.RF) (rb : T.RB) (d1 : XN) (d2 : Int) : T.stepB rf rb 366 (d1, d2) = b366 rf rb d1 d2 := by kernel_rfl
noncomputable def b367q (rf : T.RF) (rb : T.RB) (d1 : List (List Int)) (d2 : List XL) (d3 : List XO) (d4 : List Int) (d5 : List Int) (d6 : List (List UInt8 × Int)) (d7 : Int) (d8 : Int) : Option (List (List Int) × List XL × List Int × List (List UInt8 × Int) × List XO × List Int) :=
 bif decide (d8 < d7) then
  bif inb d8 d2.length then
   (nth d2 d8.toNat).bind fun (x1 : XL) =>
   agree (
   agN 1 (
   bif inb d8 d1.length then
   (nth d1 d8.toNat).bind fun (x2 : List Int) =>
   (c80 rf d1 d2 d6 d8 (IntKind.i64.wrap ((((x2.length : Nat) : Int)) - 1))).bind fun (y3 : List (List Int) × List XL × List (List UInt8 × Int) × Int) =>
   bif (Nat.ble (d4.length + 1) most) && true then
   (k368 rb d3 (d4 ++ [y3.2.2.2]) d5 y3.1 y3.2.1 y3.2.2.1 d8 x1).bind fun (z4 : List Int × List Int × List (List Int) × List XL × List (List UInt8 × Int) × List XO) =>
   k367 rb z4.2.2.1 z4.2.2.2.1 z4.2.2.2.2.2 z4.1 z4.2.1 z4.2.2.2.2.1 d7 (IntKind.i64.wrap (d8 + 1))
   else
   none
   else
   none
   )
   ) (
   agree (
   agree (
   bif inb d8 d1.length then
   (nth d1 d8.toNat).bind fun (x2 : List Int) =>
   (c80 rf d1 d2 d6 d8 (IntKind.i64.wrap ((((x2.length : Nat) : Int)) - 1))).bind fun (y3 : List (List Int) × List XL × List (List UInt8 × Int) × Int) =>
   bif (Nat.ble (d4.length + 1) most) && true then
   (k368 rb d3 (d4 ++ [y3.2.2.2]) d5 y3.1 y3.2.1 y3.2.2.1 d8 x1).bind fun (z4 : List Int × List Int × List (List Int) × List XL × List (List UInt8 × Int) × List XO) =>
   k367 rb z4.2.2.1 z4.2.2.2.1 z4.2.2.2.2.2 z4.1 z4.2.1 z4.2.2.2.2.1 d7 (IntKind.i64.wrap (d8 + 1))
   else
   none
   else
   none
   ) (
   bif inb d8 d1.length then
   (nth d1 d8.toNat).bind fun (x2 : List Int) =>
   agree (
   (c80 rf d1 d2 d6 d8 (IntKind.i64.wrap ((((x2.length : Nat) : Int)) - 1))).bind fun (y3 : List (List Int) × List XL × List (List UInt8 × Int) × Int) =>
   bif (Nat.ble (d4.length + 1) most) && true then
   (k368 rb d3 (d4 ++ [y3.2.2.2]) d5 y3.1 y3.2.1 y3.2.2.1 d8 x1).bind fun (z4 : List Int × List Int × List (List Int) × List XL × List (List UInt8 × Int) × List XO) =>
   k367 rb z4.2.2.1 z4.2.2.2.1 z4.2.2.2.2.2 z4.1 z4.2.1 z4.2.2.2.2.1 d7 (IntKind.i64.wrap (d8 + 1))
   else
   none
   ) (
   (c80 rf d1 d2 d6 d8 (IntKind.i64.wrap ((((x2.length : Nat) : Int)) - 1))).bind fun (y3 : List (List Int) × List XL × List (List UInt8 × Int) × Int) =>
   agN 1 (
   bif (Nat.ble (d4.length + 1) most) && true then
   (k368 rb d3 (d4 ++ [y3.2.2.2]) d5 y3.1 y3.2.1 y3.2.2.1 d8 x1).bind fun (z4 : List Int × List Int × List (List Int) × List XL × List (List UInt8 × Int) × List XO) =>
   k367 rb z4.2.2.1 z4.2.2.2.1 z4.2.2.2.2.2 z4.1 z4.2.1 z4.2.2.2.2.1 d7 (IntKind.i64.wrap (d8 + 1))
   else
   none
   )
   )
   else
   none
   )
   ) (
   bif inb d8 d1.length then
   (nth d1 d8.toNat).bind fun (x2 : List Int) =>
   agree (
   (c80 rf d1 d2 d6 d8 (IntKind.i64.wrap ((((x2.length : Nat) : Int)) - 1))).bind fun (y3 : List (List Int) × List XL × List (List UInt8 × Int) × Int) =>
   bif (Nat.ble (d4.length + 1) most) && true then
   (k368 rb d3 (d4 ++ [y3.2.2.2]) d5 y3.1 y3.2.1 y3.2.2.1 d8 x1).bind fun (z4 : List Int × List Int × List (List Int) × List XL × List (List UInt8 × Int) × List XO) =>
   k367 rb z4.2.2.1 z4.2.2.2.1 z4.2.2.2.2.2 z4.1 z4.2.1 z4.2.2.2.2.1 d7 (IntKind.i64.wrap (d8 + 1))
   else
   none
   ) (
   agree (
   (c80 rf d1 d2 d6 d8 (IntKind.i64.wrap ((((x2.length : Nat) : Int)) - 1))).bind fun (y3 : List (List Int) × List XL × List (List UInt8 × Int) × Int) =>
   bif (Nat.ble (d4.length + 1) most) && true then
   (k368 rb d3 (d4 ++ [y3.2.2.2]) d5 y3.1 y3.2.1 y3.2.2.1 d8 x1).bind fun (z4 : List Int × List Int × List (List Int) × List XL × List (List UInt8 × Int) × List XO) =>
   k367 rb z4.2.2.1 z4.2.2.2.1 z4.2.2.2.2.2 z4.1 z4.2.1 z4.2.2.2.2.1 d7 (IntKind.i64.wrap (d8 + 1))
   else
   none
   ) (
   (c80 rf d1 d2 d6 d8 (IntKind.i64.wrap ((((x2.length : Nat) : Int)) - 1))).bind fun (y3 : List (List Int) × List XL × List (List UInt8 × Int) × Int) =>
   agN 1 (
   bif (Nat.ble (d4.length + 1) most) && true then
   (k368 rb d3 (d4 ++ [y3.2.2.2]) d5 y3.1 y3.2.1 y3.2.2.1 d8 x1).bind fun (z4 : List Int × List Int × List (List Int) × List XL × List (List UInt8 × Int) × List XO) =>
   k367 rb z4.2.2.1 z4.2.2.2.1 z4.2.2.2.2.2 z4.1 z4.2.1 z4.2.2.2.2.1 d7 (IntKind.i64.wrap (d8 + 1))
   else
   none
   )
   )
   )
   else
   none
   )
   )
  else
   none
 else
  some (d1, d2, d5, d6, d3, d4)
noncomputable def b367 (rf : T.RF) (rb : T.RB) (d1 : List (List Int)) (d2 : List XL) (d3 : List XO) (d4 : List Int) (d5 : List Int) (d6 : List (List UInt8 × Int)) (d7 : Int) (d8 : Int) : Option (List (List Int) × List XL × List Int × List (List UInt8 × Int) × List XO × List Int) :=
 bif decide (d8 < d7) then
  bif inb d8 d2.length then
   (nth d2 d8.toNat).bind fun (x1 : XL) =>
   bif inb d8 d1.length then
   (nth d1 d8.toNat).bind fun (x2 : List Int) =>
   (c80 rf d1 d2 d6 d8 (IntKind.i64.wrap ((((x2.length : Nat) : Int)) - 1))).bind fun (y3 : List (List Int) × List XL × List (List UInt8 × Int) × Int) =>
   bif (Nat.ble (d4.length + 1) most) && true then
   (k368 rb d3 (d4 ++ [y3.2.2.2]) d5 y3.1 y3.2.1 y3.2.2.1 d8 x1).bind fun (z4 : List Int × List Int × List (List Int) × List XL × List (List UInt8 × Int) × List XO) =>
   k367 rb z4.2.2.1 z4.2.2.2.1 z4.2.2.2.2.2 z4.1 z4.2.1 z4.2.2.2.2.1 d7 (IntKind.i64.wrap (d8 + 1))
   else
   none
   else
   none
  else
   none
 else
  some (d1, d2, d5, d6, d3, d4)
theorem eb367 (rf : T.RF) (rb : T.RB) (d1 : List (List Int)) (d2 : List XL) (d3 : List XO) (d4 : List Int) (d5 : List Int) (d6 : List (List UInt8 × Int)) (d7 : Int) (d8 : Int) : T.stepB rf rb 367 (d1, d2, d3, d4, d5, d6, d7, d8) = b367q rf rb d1 d2 d3 d4 d5 d6 d7 d8 := by kernel_rfl
theorem sb367 (rf : T.RF) (rb : T.RB) (d1 : List (List Int)) (d2 : List XL) (d3 : List XO) (d4 : List Int) (d5 : List Int) (d6 : List (List UInt8 × Int)) (d7 : Int) (d8 : Int) : b367q rf rb d1 d2 d3 d4 d5 d6 d7 d8 = b367 rf rb d1 d2 d3 d4 d5 d6 d7 d8 := by
 unfold b367q b367; simp only [agN_eq, agree_self, agree_swap]
noncomputable def b368 (rf : T.RF) (rb : T.RB) (d1 : List XO) (d2 : List Int) (d3 : List Int) (d4 : List (List Int)) (d5 : List XL) (d6 : List (List UInt8 × Int)) (d7 : Int) (d8 : XL) : Option (List Int × List Int × List (List Int) × List XL × List (List UInt8 × Int) × List XO) :=
 (k369 rb d1 d2 d3 d4 d5 d6 d7 d8 (((d8.length : Nat) : Int)) 0).bind fun (z1 : List Int × List Int × List (List Int) × List XL × List (List UInt8 × Int) × List XO) =>
 some z1
theorem eb368 (rf : T.RF) (rb : T.RB) (d1 : List XO) (d2 : List Int) (d3 : List Int) (d4 : List (List Int)) (d5 : List XL) (d6 : List (List UInt8 × Int)) (d7 : Int) (d8 : XL) : T.stepB rf rb 368 (d1, d2, d3, d4, d5, d6, d7, d8) = b368 rf rb d1 d2 d3 d4 d5 d6 d7 d8 := by kernel_rfl
noncomputable def b369 (rf : T.RF) (rb : T.RB) (d1 : List XO) (d2 : List Int) (d3 : List Int) (d4 : List (List Int)) (d5 : List XL) (d6 : List (List UInt8 × Int)) (d7 : Int) (d8 : XL) (d9 : Int) (d10 : Int) : Option (List Int × List Int × List (List Int) × List XL × List (List UInt8 × Int) × List XO) :=
 bif decide (d10 < d9) then
  bif inb d10 d8.length then
   (nth d8 d10.toNat).bind fun (x1 : XN) =>
   bif x1.1 == 3 then
   k369 rb d1 d2 d3 d4 d5 d6 d7 d8 d9 (IntKind.i64.wrap (d10 + 1))
   else
   (c49 rf x1).bind fun (y2 : List Int) =>
   (k370 rb y2 d4 (x1.1, (-1), (-1), (-1), x1.2.2.2.2.1) d5 d6 d7 (((y2.length : Nat) : Int)) 0).bind fun (z3 : List Int × List (List Int) × XO × List XL × List (List UInt8 × Int)) =>
   bif (Nat.ble (d1.length + 1) most) && true then
   k369 rb (d1 ++ [z3.2.2.1]) d2 d3 z3.2.1 z3.2.2.2.1 z3.2.2.2.2 d7 d8 d9 (IntKind.i64.wrap (d10 + 1))
   else
   none
  else
   none
 else
  some (d2, d3, d4, d5, d6, d1)
theorem eb369 (rf : T.RF) (rb : T.RB) (d1 : List XO) (d2 : List Int) (d3 : List Int) (d4 : List (List Int)) (d5 : List XL) (d6 : List (List UInt8 × Int)) (d7 : Int) (d8 : XL) (d9 : Int) (d10 : Int) : T.stepB rf rb 369 (d1, d2, d3, d4, d5, d6, d7, d8, d9, d10) = b369 rf rb d1 d2 d3 d4 d5 d6 d7 d8 d9 d10 := by kernel_rfl
noncomputable def b370q (rf : T.RF) (rb : T.RB) (d1 : List Int) (d2 : List (List Int)) (d3 : XO) (d4 : List XL) (d5 : List (List UInt8 × Int)) (d6 : Int) (d7 : Int) (d8 : Int) : Option (List Int × List (List Int) × XO × List XL × List (List UInt8 × Int)) :=
 bif decide (d8 < d7) then
  bif inb d8 d1.length then
   (nth d1 d8.toNat).bind fun (x1 : Int) =>
   bif inb d8 3 then
   bif Nat.beq d8.toNat 2 then
   agN 2 (
   (c80 rf d2 d4 d5 d6 x1).bind fun (y2 : List (List Int) × List XL × List (List UInt8 × Int) × Int) =>
   k370 rb d1 y2.1 (d3.1, d3.2.1, d3.2.2.1, y2.2.2.2, d3.2.2.2.2) y2.2.1 y2.2.2.1 d6 d7 (IntKind.i64.wrap (d8 + 1))
   )
   else
   bif Nat.beq d8.toNat 1 then
   agN 2 (
   (c80 rf d2 d4 d5 d6 x1).bind fun (y3 : List (List Int) × List XL × List (List UInt8 × Int) × Int) =>
   k370 rb d1 y3.1 (d3.1, d3.2.1, y3.2.2.2, d3.2.2.2) y3.2.1 y3.2.2.1 d6 d7 (IntKind.i64.wrap (d8 + 1))
   )
   else
   bif Nat.beq d8.toNat 0 then
   agN 2 (
   (c80 rf d2 d4 d5 d6 x1).bind fun (y4 : List (List Int) × List XL × List (List UInt8 × Int) × Int) =>
   k370 rb d1 y4.1 (d3.1, y4.2.2.2, d3.2.2) y4.2.1 y4.2.2.1 d6 d7 (IntKind.i64.wrap (d8 + 1))
   )
   else
   none
   else
   none
  else
   none
 else
  some (d1, d2, d3, d4, d5)
noncomputable def b370 (rf : T.RF) (rb : T.RB) (d1 : List Int) (d2 : List (List Int)) (d3 : XO) (d4 : List XL) (d5 : List (List UInt8 × Int)) (d6 : Int) (d7 : Int) (d8 : Int) : Option (List Int × List (List Int) × XO × List XL × List (List UInt8 × Int)) :=
 bif decide (d8 < d7) then
  bif inb d8 d1.length then
   (nth d1 d8.toNat).bind fun (x1 : Int) =>
   bif inb d8 3 then
   bif Nat.beq d8.toNat 2 then
   (c80 rf d2 d4 d5 d6 x1).bind fun (y2 : List (List Int) × List XL × List (List UInt8 × Int) × Int) =>
   k370 rb d1 y2.1 (d3.1, d3.2.1, d3.2.2.1, y2.2.2.2, d3.2.2.2.2) y2.2.1 y2.2.2.1 d6 d7 (IntKind.i64.wrap (d8 + 1))
   else
   bif Nat.beq d8.toNat 1 then
   (c80 rf d2 d4 d5 d6 x1).bind fun (y3 : List (List Int) × List XL × List (List UInt8 × Int) × Int) =>
   k370 rb d1 y3.1 (d3.1, d3.2.1, y3.2.2.2, d3.2.2.2) y3.2.1 y3.2.2.1 d6 d7 (IntKind.i64.wrap (d8 + 1))
   else
   bif Nat.beq d8.toNat 0 then
   (c80 rf d2 d4 d5 d6 x1).bind fun (y4 : List (List Int) × List XL × List (List UInt8 × Int) × Int) =>
   k370 rb d1 y4.1 (d3.1, y4.2.2.2, d3.2.2) y4.2.1 y4.2.2.1 d6 d7 (IntKind.i64.wrap (d8 + 1))
   else
   none
   else
   none
  else
   none
 else
  some (d1, d2, d3, d4, d5)
theorem eb370 (rf : T.RF) (rb : T.RB) (d1 : List Int) (d2 : List (List Int)) (d3 : XO) (d4 : List XL) (d5 : List (List UInt8 × Int)) (d6 : Int) (d7 : Int) (d8 : Int) : T.stepB rf rb 370 (d1, d2, d3, d4, d5, d6, d7, d8) = b370q rf rb d1 d2 d3 d4 d5 d6 d7 d8 := by kernel_rfl
theorem sb370 (rf : T.RF) (rb : T.RB) (d1 : List Int) (d2 : List (List Int)) (d3 : XO) (d4 : List XL) (d5 : List (List UInt8 × Int)) (d6 : Int) (d7 : Int) (d8 : Int) : b370q rf rb d1 d2 d3 d4 d5 d6 d7 d8 = b370 rf rb d1 d2 d3 d4 d5 d6 d7 d8 := by
 unfold b370q b370; simp only [agN_eq, agree_self, agree_swap]
noncomputable def r44 (rf : T.RF) (rb : T.RB) (d1 : List XS) : Option (XT × Int) :=
 (c45 rf d1).bind fun (y1 : List (List Int) × Int) =>
 bif y1.2 == 1 then
  some (([], [], []), 1)
 else
  (c73 rf d1).bind fun (y2 : Bool) =>
  bif y2 then
   some (([], [], []), 1)
  else
  bif y1.2 != 0 then
   some (([], [], []), y1.2)
  else
  bif inb' (((d1.length : Nat) : Int)) most then
   bif inb' (((d1.length : Nat) : Int)) d1.length then
   bif inb' (((d1.length : Nat) : Int)) most then
   bif inb' (((d1.length : Nat) : Int)) d1.length then
   (k362 rb [] [] [] [] (List.replicate d1.length []) d1 (((d1.length : Nat) : Int)) 0).bind fun (z3 : List Int × List (List UInt8 × Int) × List (List Int) × List XO × List Int) =>
   (k363 rb (List.replicate d1.length []) z3.2.2.1 (((z3.2.2.2.1.length : Nat) : Int)) d1 (((d1.length : Nat) : Int)) 0).bind fun (z4 : List XL × List (List Int)) =>
   (k367 rb z4.2 z4.1 z3.2.2.2.1 z3.1 z3.2.2.2.2 z3.2.1 (((z4.1.length : Nat) : Int)) 0).bind fun (z5 : List (List Int) × List XL × List Int × List (List UInt8 × Int) × List XO × List Int) =>
   some ((z5.2.2.2.2.1, z5.2.2.2.2.2, z5.2.2.1), 0)
   else
   none
   else
   none
   else
   none
  else
   none
theorem er44 (rf : T.RF) (rb : T.RB) (d1 : List XS) : T.stepF rf rb 44 d1 = r44 rf rb d1 := by kernel_rfl
noncomputable def b372 (rf : T.RF) (rb : T.RB) (d1 : List Int) (d2 : List Int) (d3 : List Int) (d4 : List Int) (d5 : List XO) (d6 : List XO) (d7 : Int) : Option (List Int × List Int × List Int × List Int × List XO × List XO) :=
 bif decide (d7 < (((d5.length : Nat) : Int))) then
  bif inb d7 d5.length then
   (nth d5 d7.toNat).bind fun (x1 : XO) =>
   bif (Nat.ble (d6.length + 1) most) && true then
   k372 rb d1 d2 d3 d4 d5 (d6 ++ [x1]) (IntKind.i64.wrap (d7 + 1))
   else
   none
  else
   none
 else
  some (d1, d2, d3, d4, d5, d6)
theorem eb372 (rf : T.RF) (rb : T.RB) (d1 : List Int) (d2 : List Int) (d3 : List Int) (d4 : List Int) (d5 : List XO) (d6 : List XO) (d7 : Int) : T.stepB rf rb 372 (d1, d2, d3, d4, d5, d6, d7) = b372 rf rb d1 d2 d3 d4 d5 d6 d7 := by kernel_rfl
noncomputable def r81 (rf : T.RF) (rb : T.RB) (d1 : List XO) (d2 : List Int) (d3 : List Int) : Option (List XO × XT) :=
 (k372 rb d2 d3 d2 d3 d1 [] 0).bind fun (z1 : List Int × List Int × List Int × List Int × List XO × List XO) =>
 some (z1.2.2.2.2.1, z1.2.2.2.2.2, z1.2.2.1, z1.2.2.2.1)
theorem er81 (rf : T.RF) (rb : T.RB) (d1 : List XO) (d2 : List Int) (d3 : List Int) : T.stepF rf rb 81 (d1, d2, d3) = r81 rf rb d1 d2 d3 := by kernel_rfl
noncomputable def r89 (rf : T.RF) (rb : T.RB) (d1 : Int) : Option Int :=
 bif d1 == 4 then
  some 1
 else
 bif d1 == 5 then
  some 1
 else
 bif decide (d1 ≥ 6) then
  bif decide (d1 ≤ 18) then
   some 2
  else
  bif d1 == 26 then
   some 3
  else
   some (-1)
 else
 bif d1 == 26 then
  some 3
 else
  some (-1)
theorem er89 (rf : T.RF) (rb : T.RB) (d1 : Int) : T.stepF rf rb 89 d1 = r89 rf rb d1 := by kernel_rfl
theorem or89 {d1 : Int} {y : Int} (h : r89 T.rf T.rb d1 = some y) : c89 T.rf d1 = some y := T.rf_of (f := 89) (d := d1) ((er89 T.rf T.rb d1).trans h)
noncomputable def r88 (rf : T.RF) (rb : T.RB) (d1 : Int) : Option Int :=
 bif d1 == 3 then
  bif d1 == 3 then
   some 0
  else
  bif d1 == 21 then
   some 1
  else
  bif d1 == 19 then
   some 2
  else
   (c89 rf d1).bind fun (y1 : Int) =>
   some y1
 else
 bif d1 == 1 then
  bif d1 == 1 then
   some 0
  else
  bif d1 == 21 then
   some 1
  else
  bif d1 == 19 then
   some 2
  else
   (c89 rf d1).bind fun (y2 : Int) =>
   some y2
 else
 bif d1 == 2 then
  some 0
 else
 bif d1 == 21 then
  some 1
 else
 bif d1 == 19 then
  some 2
 else
  (c89 rf d1).bind fun (y3 : Int) =>
  some y3
theorem er88 (rf : T.RF) (rb : T.RB) (d1 : Int) : T.stepF rf rb 88 d1 = r88 rf rb d1 := by kernel_rfl
theorem or88 {d1 : Int} {y : Int} (h : r88 T.rf T.rb d1 = some y) : c88 T.rf d1 = some y := T.rf_of (f := 88) (d := d1) ((er88 T.rf T.rb d1).trans h)
noncomputable def r87 (rf : T.RF) (rb : T.RB) (d1 : XO) : Option (List Int × List Int) :=
 (c88 rf d1.1).bind fun (y1 : Int) =>
 bif inb' (if 0 > y1 then 0 else y1) 3 then
  bif inb' (if 0 > y1 then 0 else y1) 3 then
   some (sub [d1.2.1, d1.2.2.1, d1.2.2.2.1] (some (0, ((if 0 > y1 then 0 else y1).toNat - 0))), sub [d1.2.1, d1.2.2.1, d1.2.2.2.1] (some ((if 0 > y1 then 0 else y1).toNat, (3 - (if 0 > y1 then 0 else y1).toNat))))
  else
   none
 else
  none
theorem er87 (rf : T.RF) (rb : T.RB) (d1 : XO) : T.stepF rf rb 87 d1 = r87 rf rb d1 := by kernel_rfl
theorem or87 {d1 : XO} {y : (List Int × List Int)} (h : r87 T.rf T.rb d1 = some y) : c87 T.rf d1 = some y := T.rf_of (f := 87) (d := d1) ((er87 T.rf T.rb d1).trans h)
noncomputable def r90 (rf : T.RF) (rb : T.RB) (d1 : XT) (d2 : Int) : Option (XT × Bool) :=
 bif decide (d2 ≥ 0) then
  some (d1, decide (d2 < (((d1.1.length : Nat) : Int))))
 else
  some (d1, false)
theorem er90 (rf : T.RF) (rb : T.RB) (d1 : XT) (d2 : Int) : T.stepF rf rb 90 (d1, d2) = r90 rf rb d1 d2 := by kernel_rfl
theorem or90 {d1 : XT} {d2 : Int} {y : (XT × Bool)} (h : r90 T.rf T.rb d1 d2 = some y) : c90 T.rf d1 d2 = some y := T.rf_of (f := 90) (d := (d1, d2)) ((er90 T.rf T.rb d1 d2).trans h)
noncomputable def r93 (rf : T.RF) (rb : T.RB) (d1 : Int) : Option Bool :=
 some (d1 != (-1))
theorem er93 (rf : T.RF) (rb : T.RB) (d1 : Int) : T.stepF rf rb 93 d1 = r93 rf rb d1 := by kernel_rfl
theorem or93 {d1 : Int} {y : Bool} (h : r93 T.rf T.rb d1 = some y) : c93 T.rf d1 = some y := T.rf_of (f := 93) (d := d1) ((er93 T.rf T.rb d1).trans h)
noncomputable def b375 (rf : T.RF) (rb : T.RB) (d1 : List Int) (d2 : Int) (d3 : Int) : Option (Int ⊕ Unit) :=
 bif decide (d3 < d2) then
  bif inb d3 d1.length then
   (nth d1 d3.toNat).bind fun (x1 : Int) =>
   (c93 rf x1).bind fun (y2 : Bool) =>
   bif y2 then
   some (.inl d3)
   else
   k375 rb d1 d2 (IntKind.i64.wrap (d3 + 1))
  else
   none
 else
  some (.inr ())
theorem eb375 (rf : T.RF) (rb : T.RB) (d1 : List Int) (d2 : Int) (d3 : Int) : T.stepB rf rb 375 (d1, d2, d3) = b375 rf rb d1 d2 d3 := by kernel_rfl
theorem ob375 {d1 : List Int} {d2 : Int} {d3 : Int} {y : (Int ⊕ Unit)} (h : b375 T.rf T.rb d1 d2 d3 = some y) : k375 T.rb d1 d2 d3 = some y := T.rb_of (κ := 375) (d := (d1, d2, d3)) ((eb375 T.rf T.rb d1 d2 d3).trans h)
noncomputable def r92 (rf : T.RF) (rb : T.RB) (d1 : List Int) : Option Int :=
 (k375 rb d1 (((d1.length : Nat) : Int)) 0).bind fun (z1 : Int ⊕ Unit) =>
 match z1 with
 | .inl u2 =>
   some u2
 | .inr w3 =>
   some (-1)
theorem er92 (rf : T.RF) (rb : T.RB) (d1 : List Int) : T.stepF rf rb 92 d1 = r92 rf rb d1 := by kernel_rfl
theorem or92 {d1 : List Int} {y : Int} (h : r92 T.rf T.rb d1 = some y) : c92 T.rf d1 = some y := T.rf_of (f := 92) (d := d1) ((er92 T.rf T.rb d1).trans h)
noncomputable def r91 (rf : T.RF) (rb : T.RB) (d1 : List Int) : Option Bool :=
 (c92 rf d1).bind fun (y1 : Int) =>
 some (decide (y1 ≥ 0))
theorem er91 (rf : T.RF) (rb : T.RB) (d1 : List Int) : T.stepF rf rb 91 d1 = r91 rf rb d1 := by kernel_rfl
theorem or91 {d1 : List Int} {y : Bool} (h : r91 T.rf T.rb d1 = some y) : c91 T.rf d1 = some y := T.rf_of (f := 91) (d := d1) ((er91 T.rf T.rb d1).trans h)
noncomputable def r94 (rf : T.RF) (rb : T.RB) (d1 : Int) : Option Bool :=
 some ((IntKind.i64.wrap (IntKind.i32.wrap d1)) == d1)
theorem er94 (rf : T.RF) (rb : T.RB) (d1 : Int) : T.stepF rf rb 94 d1 = r94 rf rb d1 := by kernel_rfl
theorem or94 {d1 : Int} {y : Bool} (h : r94 T.rf T.rb d1 = some y) : c94 T.rf d1 = some y := T.rf_of (f := 94) (d := d1) ((er94 T.rf T.rb d1).trans h)
noncomputable def b374 (rf : T.RF) (rb : T.RB) (d1 : XT) (d2 : List Int) (d3 : Int) (d4 : Int) : Option ((XT × Bool) ⊕ XT) :=
 bif decide (d4 < d3) then
  bif inb d4 d2.length then
   (nth d2 d4.toNat).bind fun (x1 : Int) =>
   (c90 rf d1 x1).bind fun (y2 : XT × Bool) =>
   bif !y2.2 then
   some (.inl (y2.1, false))
   else
   k374 rb y2.1 d2 d3 (IntKind.i64.wrap (d4 + 1))
  else
   none
 else
  some (.inr d1)
theorem eb374 (rf : T.RF) (rb : T.RB) (d1 : XT) (d2 : List Int) (d3 : Int) (d4 : Int) : T.stepB rf rb 374 (d1, d2, d3, d4) = b374 rf rb d1 d2 d3 d4 := by kernel_rfl
theorem ob374 {d1 : XT} {d2 : List Int} {d3 : Int} {d4 : Int} {y : ((XT × Bool) ⊕ XT)} (h : b374 T.rf T.rb d1 d2 d3 d4 = some y) : k374 T.rb d1 d2 d3 d4 = some y := T.rb_of (κ := 374) (d := (d1, d2, d3, d4)) ((eb374 T.rf T.rb d1 d2 d3 d4).trans h)
noncomputable def r86 (rf : T.RF) (rb : T.RB) (d1 : XT) (d2 : XO) : Option Bool :=
 (c87 rf d2).bind fun (y1 : List Int × List Int) =>
 (k374 rb d1 y1.1 (((y1.1.length : Nat) : Int)) 0).bind fun (z2 : (XT × Bool) ⊕ XT) =>
 match z2 with
 | .inl u3 =>
   some u3.2
 | .inr w4 =>
   (c88 rf d2.1).bind fun (y5 : Int) =>
   bif decide (y5 < 0) then
    some false
   else
    (c91 rf y1.2).bind fun (y6 : Bool) =>
    bif y6 then
     some false
    else
    bif d2.1 == 3 then
     bif decide (d2.2.2.2.2 ≥ 0) then
      some (decide (d2.2.2.2.2 < (((w4.2.2.length : Nat) : Int))))
     else
      some false
    else
    bif d2.1 == 1 then
     (c94 rf d2.2.2.2.2).bind fun (y7 : Bool) =>
     some y7
    else
    bif d2.1 == 2 then
     bif d2.2.2.2.2 == 0 then
      some true
     else
      some (d2.2.2.2.2 == 1)
    else
     some (d2.2.2.2.2 == 0)
theorem er86 (rf : T.RF) (rb : T.RB) (d1 : XT) (d2 : XO) : T.stepF rf rb 86 (d1, d2) = r86 rf rb d1 d2 := by kernel_rfl
theorem or86 {d1 : XT} {d2 : XO} {y : Bool} (h : r86 T.rf T.rb d1 d2 = some y) : c86 T.rf d1 d2 = some y := T.rf_of (f := 86) (d := (d1, d2)) ((er86 T.rf T.rb d1 d2).trans h)
noncomputable def r85 (rf : T.RF) (rb : T.RB) (d1 : XT) (d2 : XO) : Option (XT × Bool) :=
 (c86 rf d1 d2).bind fun (y1 : Bool) =>
 some (d1, !y1)
theorem er85 (rf : T.RF) (rb : T.RB) (d1 : XT) (d2 : XO) : T.stepF rf rb 85 (d1, d2) = r85 rf rb d1 d2 := by kernel_rfl
theorem or85 {d1 : XT} {d2 : XO} {y : (XT × Bool)} (h : r85 T.rf T.rb d1 d2 = some y) : c85 T.rf d1 d2 = some y := T.rf_of (f := 85) (d := (d1, d2)) ((er85 T.rf T.rb d1 d2).trans h)
noncomputable def b373 (rf : T.RF) (rb : T.RB) (d1 : XT) (d2 : List XO) (d3 : Int) (d4 : Int) : Option ((XT × Int) ⊕ XT) :=
 bif decide (d4 < d3) then
  bif inb d4 d2.length then
   (nth d2 d4.toNat).bind fun (x1 : XO) =>
   (c85 rf d1 x1).bind fun (y2 : XT × Bool) =>
   bif y2.2 then
   some (.inl (y2.1, d4))
   else
   k373 rb y2.1 d2 d3 (IntKind.i64.wrap (d4 + 1))
  else
   none
 else
  some (.inr d1)
theorem eb373 (rf : T.RF) (rb : T.RB) (d1 : XT) (d2 : List XO) (d3 : Int) (d4 : Int) : T.stepB rf rb 373 (d1, d2, d3, d4) = b373 rf rb d1 d2 d3 d4 := by kernel_rfl
theorem ob373 {d1 : XT} {d2 : List XO} {d3 : Int} {d4 : Int} {y : ((XT × Int) ⊕ XT)} (h : b373 T.rf T.rb d1 d2 d3 d4 = some y) : k373 T.rb d1 d2 d3 d4 = some y := T.rb_of (κ := 373) (d := (d1, d2, d3, d4)) ((eb373 T.rf T.rb d1 d2 d3 d4).trans h)
noncomputable def r84 (rf : T.RF) (rb : T.RB) (d1 : XT) (d2 : List XO) : Option (XT × Int) :=
 (k373 rb d1 d2 (((d2.length : Nat) : Int)) 0).bind fun (z1 : (XT × Int) ⊕ XT) =>
 match z1 with
 | .inl u2 =>
   some u2
 | .inr w3 =>
   some (w3, (-1))
theorem er84 (rf : T.RF) (rb : T.RB) (d1 : XT) (d2 : List XO) : T.stepF rf rb 84 (d1, d2) = r84 rf rb d1 d2 := by kernel_rfl
theorem or84 {d1 : XT} {d2 : List XO} {y : (XT × Int)} (h : r84 T.rf T.rb d1 d2 = some y) : c84 T.rf d1 d2 = some y := T.rf_of (f := 84) (d := (d1, d2)) ((er84 T.rf T.rb d1 d2).trans h)
noncomputable def r83 (rf : T.RF) (rb : T.RB) (d1 : XT) (d2 : List XO) : Option (XT × Bool) :=
 (c84 rf d1 d2).bind fun (y1 : XT × Int) =>
 some (y1.1, decide (y1.2 ≥ 0))
theorem er83 (rf : T.RF) (rb : T.RB) (d1 : XT) (d2 : List XO) : T.stepF rf rb 83 (d1, d2) = r83 rf rb d1 d2 := by kernel_rfl
theorem or83 {d1 : XT} {d2 : List XO} {y : (XT × Bool)} (h : r83 T.rf T.rb d1 d2 = some y) : c83 T.rf d1 d2 = some y := T.rf_of (f := 83) (d := (d1, d2)) ((er83 T.rf T.rb d1 d2).trans h)
noncomputable def r97 (rf : T.RF) (rb : T.RB) (d1 : XT) (d2 : Int) : Option (XT × Bool) :=
 bif decide (d2 < 0) then
  some (d1, true)
 else
  some (d1, decide (d2 ≥ (((d1.1.length : Nat) : Int))))
theorem er97 (rf : T.RF) (rb : T.RB) (d1 : XT) (d2 : Int) : T.stepF rf rb 97 (d1, d2) = r97 rf rb d1 d2 := by kernel_rfl
theorem or97 {d1 : XT} {d2 : Int} {y : (XT × Bool)} (h : r97 T.rf T.rb d1 d2 = some y) : c97 T.rf d1 d2 = some y := T.rf_of (f := 97) (d := (d1, d2)) ((er97 T.rf T.rb d1 d2).trans h)
noncomputable def b376 (rf : T.RF) (rb : T.RB) (d1 : XT) (d2 : List Int) (d3 : Int) (d4 : Int) : Option ((XT × Int) ⊕ XT) :=
 bif decide (d4 < d3) then
  bif inb d4 d2.length then
   (nth d2 d4.toNat).bind fun (x1 : Int) =>
   (c97 rf d1 x1).bind fun (y2 : XT × Bool) =>
   bif y2.2 then
   some (.inl (y2.1, d4))
   else
   k376 rb y2.1 d2 d3 (IntKind.i64.wrap (d4 + 1))
  else
   none
 else
  some (.inr d1)
theorem eb376 (rf : T.RF) (rb : T.RB) (d1 : XT) (d2 : List Int) (d3 : Int) (d4 : Int) : T.stepB rf rb 376 (d1, d2, d3, d4) = b376 rf rb d1 d2 d3 d4 := by kernel_rfl
theorem ob376 {d1 : XT} {d2 : List Int} {d3 : Int} {d4 : Int} {y : ((XT × Int) ⊕ XT)} (h : b376 T.rf T.rb d1 d2 d3 d4 = some y) : k376 T.rb d1 d2 d3 d4 = some y := T.rb_of (κ := 376) (d := (d1, d2, d3, d4)) ((eb376 T.rf T.rb d1 d2 d3 d4).trans h)
noncomputable def r96 (rf : T.RF) (rb : T.RB) (d1 : XT) (d2 : List Int) : Option (XT × Int) :=
 (k376 rb d1 d2 (((d2.length : Nat) : Int)) 0).bind fun (z1 : (XT × Int) ⊕ XT) =>
 match z1 with
 | .inl u2 =>
   some u2
 | .inr w3 =>
   some (w3, (-1))
theorem er96 (rf : T.RF) (rb : T.RB) (d1 : XT) (d2 : List Int) : T.stepF rf rb 96 (d1, d2) = r96 rf rb d1 d2 := by kernel_rfl
theorem or96 {d1 : XT} {d2 : List Int} {y : (XT × Int)} (h : r96 T.rf T.rb d1 d2 = some y) : c96 T.rf d1 d2 = some y := T.rf_of (f := 96) (d := (d1, d2)) ((er96 T.rf T.rb d1 d2).trans h)
noncomputable def r95 (rf : T.RF) (rb : T.RB) (d1 : XT) (d2 : List Int) : Option (XT × Bool) :=
 (c96 rf d1 d2).bind fun (y1 : XT × Int) =>
 some (y1.1, decide (y1.2 ≥ 0))
theorem er95 (rf : T.RF) (rb : T.RB) (d1 : XT) (d2 : List Int) : T.stepF rf rb 95 (d1, d2) = r95 rf rb d1 d2 := by kernel_rfl
theorem or95 {d1 : XT} {d2 : List Int} {y : (XT × Bool)} (h : r95 T.rf T.rb d1 d2 = some y) : c95 T.rf d1 d2 = some y := T.rf_of (f := 95) (d := (d1, d2)) ((er95 T.rf T.rb d1 d2).trans h)
noncomputable def b382 (rf : T.RF) (rb : T.RB) (d1 : XT) (d2 : List Int) (d3 : Int) (d4 : Int) : Option ((XT × List Int × Bool) ⊕ (XT × List Int)) :=
 bif decide (d4 < d3) then
  (k383 rb d1 d2 [d4]).bind fun (z1 : (XT × List Int × Bool) ⊕ (XT × List Int)) =>
  match z1 with
  | .inl u2 =>
    some (.inl u2)
  | .inr w3 =>
    k382 rb w3.1 w3.2 d3 (IntKind.i64.wrap (d4 + 1))
 else
  some (.inr (d1, d2))
theorem eb382 (rf : T.RF) (rb : T.RB) (d1 : XT) (d2 : List Int) (d3 : Int) (d4 : Int) : T.stepB rf rb 382 (d1, d2, d3, d4) = b382 rf rb d1 d2 d3 d4 := by kernel_rfl
theorem ob382 {d1 : XT} {d2 : List Int} {d3 : Int} {d4 : Int} {y : ((XT × List Int × Bool) ⊕ (XT × List Int))} (h : b382 T.rf T.rb d1 d2 d3 d4 = some y) : k382 T.rb d1 d2 d3 d4 = some y := T.rb_of (κ := 382) (d := (d1, d2, d3, d4)) ((eb382 T.rf T.rb d1 d2 d3 d4).trans h)
noncomputable def b383 (rf : T.RF) (rb : T.RB) (d1 : XT) (d2 : List Int) (d3 : List Int) : Option ((XT × List Int × Bool) ⊕ (XT × List Int)) :=
 bif decide ((((d3.length : Nat) : Int)) > 0) then
  bif inb (IntKind.i64.wrap ((((d3.length : Nat) : Int)) - 1)) d3.length then
   (nth d3 (IntKind.i64.wrap ((((d3.length : Nat) : Int)) - 1)).toNat).bind fun (x1 : Int) =>
   bif inb x1 d2.length then
    (nth d2 x1.toNat).bind fun (x2 : Int) =>
    bif x2 != 0 then
     bif inb x1 d2.length then
      bif Nat.blt x1.toNat d2.length then
       bif inb' (IntKind.i64.wrap ((((d3.length : Nat) : Int)) - 1)) d3.length then
        k383 rb d1 (setNth d2 x1.toNat 2) (sub d3 (some (0, ((IntKind.i64.wrap ((((d3.length : Nat) : Int)) - 1)).toNat - 0))))
       else
        none
      else
       none
     else
      none
    else
    bif inb x1 d2.length then
     bif Nat.blt x1.toNat d2.length then
      bif inb x1 d1.1.length then
       (nth d1.1 x1.toNat).bind fun (x3 : XO) =>
       bif x3.1 == 21 then
        k383 rb d1 (setNth d2 x1.toNat 1) d3
       else
       bif inb x1 d1.1.length then
        (nth d1.1 x1.toNat).bind fun (x4 : XO) =>
        (c87 rf x4).bind fun (y5 : List Int × List Int) =>
        (k384 rb (setNth d2 x1.toNat 1) d3 y5.1 (((y5.1.length : Nat) : Int)) 0).bind fun (z6 : (List Int × Bool) ⊕ (List Int × List Int)) =>
        match z6 with
        | .inl u7 =>
          some (.inl (d1, u7))
        | .inr w8 =>
          k383 rb d1 w8.1 w8.2
       else
        none
      else
       none
     else
      none
    else
     none
   else
    none
  else
   none
 else
  some (.inr (d1, d2))
theorem eb383 (rf : T.RF) (rb : T.RB) (d1 : XT) (d2 : List Int) (d3 : List Int) : T.stepB rf rb 383 (d1, d2, d3) = b383 rf rb d1 d2 d3 := by kernel_rfl
theorem ob383 {d1 : XT} {d2 : List Int} {d3 : List Int} {y : ((XT × List Int × Bool) ⊕ (XT × List Int))} (h : b383 T.rf T.rb d1 d2 d3 = some y) : k383 T.rb d1 d2 d3 = some y := T.rb_of (κ := 383) (d := (d1, d2, d3)) ((eb383 T.rf T.rb d1 d2 d3).trans h)
noncomputable def b384 (rf : T.RF) (rb : T.RB) (d1 : List Int) (d2 : List Int) (d3 : List Int) (d4 : Int) (d5 : Int) : Option ((List Int × Bool) ⊕ (List Int × List Int)) :=
 bif decide (d5 < d4) then
  bif inb d5 d3.length then
   (nth d3 d5.toNat).bind fun (x1 : Int) =>
   bif inb x1 d1.length then
   (nth d1 x1.toNat).bind fun (x2 : Int) =>
   bif x2 == 1 then
   some (.inl (d1, true))
   else
   bif x2 == 0 then
   bif (Nat.ble (d2.length + 1) most) && true then
   k384 rb d1 (d2 ++ [x1]) d3 d4 (IntKind.i64.wrap (d5 + 1))
   else
   none
   else
   k384 rb d1 d2 d3 d4 (IntKind.i64.wrap (d5 + 1))
   else
   none
  else
   none
 else
  some (.inr (d1, d2))
theorem eb384 (rf : T.RF) (rb : T.RB) (d1 : List Int) (d2 : List Int) (d3 : List Int) (d4 : Int) (d5 : Int) : T.stepB rf rb 384 (d1, d2, d3, d4, d5) = b384 rf rb d1 d2 d3 d4 d5 := by kernel_rfl
theorem ob384 {d1 : List Int} {d2 : List Int} {d3 : List Int} {d4 : Int} {d5 : Int} {y : ((List Int × Bool) ⊕ (List Int × List Int))} (h : b384 T.rf T.rb d1 d2 d3 d4 d5 = some y) : k384 T.rb d1 d2 d3 d4 d5 = some y := T.rb_of (κ := 384) (d := (d1, d2, d3, d4, d5)) ((eb384 T.rf T.rb d1 d2 d3 d4 d5).trans h)
noncomputable def r98 (rf : T.RF) (rb : T.RB) (d1 : XT) : Option Bool :=
 bif inb' (((d1.1.length : Nat) : Int)) most then
  bif inb' (((d1.1.length : Nat) : Int)) d1.1.length then
   (k382 rb d1 (List.replicate d1.1.length (0 : Int)) (((d1.1.length : Nat) : Int)) 0).bind fun (z1 : (XT × List Int × Bool) ⊕ (XT × List Int)) =>
   match z1 with
   | .inl u2 =>
     some u2.2.2
   | .inr w3 =>
     some false
  else
   none
 else
  none
theorem er98 (rf : T.RF) (rb : T.RB) (d1 : XT) : T.stepF rf rb 98 d1 = r98 rf rb d1 := by kernel_rfl
theorem or98 {d1 : XT} {y : Bool} (h : r98 T.rf T.rb d1 = some y) : c98 T.rf d1 = some y := T.rf_of (f := 98) (d := d1) ((er98 T.rf T.rb d1).trans h)
noncomputable def r82 (rf : T.RF) (rb : T.RB) (d1 : XT) : Option Int :=
 bif decide ((((d1.1.length : Nat) : Int)) > 100000) then
  some 1
 else
  (c83 rf d1 d1.1).bind fun (y1 : XT × Bool) =>
  bif y1.2 then
   some 1
  else
   (c95 rf y1.1 y1.1.2.1).bind fun (y2 : XT × Bool) =>
   bif y2.2 then
   some 1
   else
   (c98 rf y2.1).bind fun (y3 : Bool) =>
   bif y3 then
   some 12
   else
   some 0
theorem er82 (rf : T.RF) (rb : T.RB) (d1 : XT) : T.stepF rf rb 82 d1 = r82 rf rb d1 := by kernel_rfl
theorem or82 {d1 : XT} {y : Int} (h : r82 T.rf T.rb d1 = some y) : c82 T.rf d1 = some y := T.rf_of (f := 82) (d := d1) ((er82 T.rf T.rb d1).trans h)
noncomputable def b386 (rf : T.RF) (rb : T.RB) (d1 : XT) (d2 : List Int) (d3 : List Int) (d4 : List XO) (d5 : Int) : Option (XT × List Int × List Int × List XO) :=
 bif decide (d5 < (((d1.1.length : Nat) : Int))) then
  bif inb d5 d1.1.length then
   (nth d1.1 d5.toNat).bind fun (x1 : XO) =>
   bif (Nat.ble (d4.length + 1) most) && true then
   k386 rb d1 d2 d3 (d4 ++ [x1]) (IntKind.i64.wrap (d5 + 1))
   else
   none
  else
   none
 else
  some (d1, d2, d3, d4)
theorem eb386 (rf : T.RF) (rb : T.RB) (d1 : XT) (d2 : List Int) (d3 : List Int) (d4 : List XO) (d5 : Int) : T.stepB rf rb 386 (d1, d2, d3, d4, d5) = b386 rf rb d1 d2 d3 d4 d5 := by kernel_rfl
noncomputable def r99 (rf : T.RF) (rb : T.RB) (d1 : XT) : Option XT :=
 (k386 rb d1 d1.2.1 d1.2.2 [] 0).bind fun (z1 : XT × List Int × List Int × List XO) =>
 some (z1.2.2.2, z1.2.1, z1.2.2.1)
theorem er99 (rf : T.RF) (rb : T.RB) (d1 : XT) : T.stepF rf rb 99 d1 = r99 rf rb d1 := by kernel_rfl
noncomputable def b387 (rf : T.RF) (rb : T.RB) (d1 : List Int) (d2 : List Int) (d3 : Int) : Option (Bool ⊕ Unit) :=
 bif decide (d3 < (((d1.length : Nat) : Int))) then
  bif inb d3 d1.length then
   (nth d1 d3.toNat).bind fun (x1 : Int) =>
   bif inb d3 d2.length then
   (nth d2 d3.toNat).bind fun (x2 : Int) =>
   bif x1 != x2 then
   some (.inl false)
   else
   k387 rb d1 d2 (IntKind.i64.wrap (d3 + 1))
   else
   none
  else
   none
 else
  some (.inr ())
theorem eb387 (rf : T.RF) (rb : T.RB) (d1 : List Int) (d2 : List Int) (d3 : Int) : T.stepB rf rb 387 (d1, d2, d3) = b387 rf rb d1 d2 d3 := by kernel_rfl
noncomputable def r101 (rf : T.RF) (rb : T.RB) (d1 : List Int) (d2 : List Int) : Option Bool :=
 bif (((d1.length : Nat) : Int)) != (((d2.length : Nat) : Int)) then
  some false
 else
  (k387 rb d1 d2 0).bind fun (z1 : Bool ⊕ Unit) =>
  match z1 with
  | .inl u2 =>
    some u2
  | .inr w3 =>
    some true
theorem er101 (rf : T.RF) (rb : T.RB) (d1 : List Int) (d2 : List Int) : T.stepF rf rb 101 (d1, d2) = r101 rf rb d1 d2 := by kernel_rfl
noncomputable def b388 (rf : T.RF) (rb : T.RB) (d1 : XT) (d2 : XT) (d3 : Int) : Option ((XT × XT × Bool) ⊕ (XT × XT)) :=
 bif decide (d3 < (((d1.1.length : Nat) : Int))) then
  bif inb d3 d1.1.length then
   (nth d1.1 d3.toNat).bind fun (x1 : XO) =>
   bif inb d3 d2.1.length then
   (nth d2.1 d3.toNat).bind fun (x2 : XO) =>
   bif !((x1.1 == x2.1) && ((x1.2.1 == x2.2.1) && ((x1.2.2.1 == x2.2.2.1) && ((x1.2.2.2.1 == x2.2.2.2.1) && (x1.2.2.2.2 == x2.2.2.2.2))))) then
   some (.inl (d1, d2, false))
   else
   k388 rb d1 d2 (IntKind.i64.wrap (d3 + 1))
   else
   none
  else
   none
 else
  some (.inr (d1, d2))
theorem eb388 (rf : T.RF) (rb : T.RB) (d1 : XT) (d2 : XT) (d3 : Int) : T.stepB rf rb 388 (d1, d2, d3) = b388 rf rb d1 d2 d3 := by kernel_rfl
noncomputable def r100 (rf : T.RF) (rb : T.RB) (d1 : XT) (d2 : XT) : Option Bool :=
 bif (((d1.1.length : Nat) : Int)) != (((d2.1.length : Nat) : Int)) then
  some false
 else
  (c101 rf d1.2.1 d2.2.1).bind fun (y1 : Bool) =>
  bif !y1 then
   some false
  else
   (c101 rf d1.2.2 d2.2.2).bind fun (y2 : Bool) =>
   bif !y2 then
    some false
   else
    (k388 rb d1 d2 0).bind fun (z3 : (XT × XT × Bool) ⊕ (XT × XT)) =>
    match z3 with
    | .inl u4 =>
      some u4.2.2
    | .inr w5 =>
      some true
theorem er100 (rf : T.RF) (rb : T.RB) (d1 : XT) (d2 : XT) : T.stepF rf rb 100 (d1, d2) = r100 rf rb d1 d2 := by kernel_rfl
noncomputable def r2 (rf : T.RF) (rb : T.RB) : Option Bool :=
 (c3 rf ([97, 32, 43, 32, 49] : List UInt8)).bind fun (y1 : XL × Int × Int) =>
 (c3 rf ([120] : List UInt8)).bind fun (y2 : XL × Int × Int) =>
 (c44 rf [(([97] : List UInt8), 2, []), (([120] : List UInt8), 2, y1.1), (([121] : List UInt8), 2, y2.1)]).bind fun (y3 : XT × Int) =>
 (c44 rf [(([120] : List UInt8), 2, y2.1)]).bind fun (y4 : XT × Int) =>
 (c81 rf [(3, (-1), (-1), (-1), 0), (1, (-1), (-1), (-1), 1), (14, 0, 2, (-1), 0)] [0, 2, 2] [2]).bind fun (y5 : List XO × XT) =>
 (c82 rf y5.2).bind fun (y6 : Int) =>
 bif inb 2 y5.1.length then
  (nth y5.1 2).bind fun (x7 : XO) =>
  bif y3.2 == 0 then
   (c99 rf y3.1).bind fun (y8 : XT) =>
   (c100 rf y8 (setNth y5.1 2 (x7.1, x7.2.1, 1, x7.2.2.2), [0, 2, 2], [2])).bind fun (y9 : Bool) =>
   bif y9 then
   bif y4.2 == 12 then
   bif y6 == 12 then
   (c82 rf ([], [0], [])).bind fun (y10 : Int) =>
   some (y10 == 1)
   else
   some false
   else
   some false
   else
   some false
  else
   some false
 else
  none
theorem er2 (rf : T.RF) (rb : T.RB) : T.stepF rf rb 2 () = r2 rf rb := by kernel_rfl
noncomputable def b390 (rf : T.RF) (rb : T.RB) (d1 : List XS) (d2 : List UInt8) (d3 : Int) : Option (Int ⊕ Unit) :=
 bif decide (d3 < (((d1.length : Nat) : Int))) then
  bif inb d3 d1.length then
   (nth d1 d3.toNat).bind fun (x1 : XS) =>
   bif x1.1 == d2 then
   some (.inl d3)
   else
   k390 rb d1 d2 (IntKind.i64.wrap (d3 + 1))
  else
   none
 else
  some (.inr ())
theorem eb390 (rf : T.RF) (rb : T.RB) (d1 : List XS) (d2 : List UInt8) (d3 : Int) : T.stepB rf rb 390 (d1, d2, d3) = b390 rf rb d1 d2 d3 := by kernel_rfl
noncomputable def r104 (rf : T.RF) (rb : T.RB) (d1 : List XS) (d2 : List UInt8) : Option Int :=
 (k390 rb d1 d2 0).bind fun (z1 : Int ⊕ Unit) =>
 match z1 with
 | .inl u2 =>
   some u2
 | .inr w3 =>
   some (-1)
theorem er104 (rf : T.RF) (rb : T.RB) (d1 : List XS) (d2 : List UInt8) : T.stepF rf rb 104 (d1, d2) = r104 rf rb d1 d2 := by kernel_rfl
noncomputable def r107 (rf : T.RF) (rb : T.RB) (d1 : XN) : Option Bool :=
 (c30 rf d1).bind fun (y1 : List Int) =>
 bif d1.1 == 27 then
  bif d1.2.2.1 == (-1) then
   some (d1.2.2.2.1 == (-1))
  else
   some false
 else
 bif d1.1 == 28 then
  some (d1.2.2.2.1 == (-1))
 else
 bif decide ((((y1.length : Nat) : Int)) > 0) then
  bif decide ((((y1.length : Nat) : Int)) > 1) then
   bif decide ((((y1.length : Nat) : Int)) > 2) then
   some true
   else
   some (d1.2.2.2.1 == (-1))
  else
  bif d1.2.2.1 == (-1) then
   bif decide ((((y1.length : Nat) : Int)) > 2) then
   some true
   else
   some (d1.2.2.2.1 == (-1))
  else
   some false
 else
 bif d1.2.1 == (-1) then
  bif decide ((((y1.length : Nat) : Int)) > 1) then
   bif decide ((((y1.length : Nat) : Int)) > 2) then
   some true
   else
   some (d1.2.2.2.1 == (-1))
  else
  bif d1.2.2.1 == (-1) then
   bif decide ((((y1.length : Nat) : Int)) > 2) then
   some true
   else
   some (d1.2.2.2.1 == (-1))
  else
   some false
 else
  some false
theorem er107 (rf : T.RF) (rb : T.RB) (d1 : XN) : T.stepF rf rb 107 d1 = r107 rf rb d1 := by kernel_rfl
noncomputable def r108 (rf : T.RF) (rb : T.RB) (d1 : XN) : Option Bool :=
 bif d1.1 == 3 then
  bif !((!(d1.2.2.2.2.2 == ([] : List UInt8))) == true) then
   some false
  else
  bif d1.1 == 1 then
   bif decide (d1.2.2.2.2.1 ≥ 0) then
   some (decide (d1.2.2.2.2.1 ≤ 2147483647))
   else
   some false
  else
  bif d1.1 == 2 then
   bif d1.2.2.2.2.1 == 0 then
   some true
   else
   some (d1.2.2.2.2.1 == 1)
  else
  bif d1.1 == 25 then
   bif decide (d1.2.2.2.2.1 ≥ 0) then
   some (decide (d1.2.2.2.2.1 ≤ 1000))
   else
   some false
  else
   some (d1.2.2.2.2.1 == 0)
 else
 bif !((!(d1.2.2.2.2.2 == ([] : List UInt8))) == (d1.1 == 27)) then
  some false
 else
 bif d1.1 == 1 then
  bif decide (d1.2.2.2.2.1 ≥ 0) then
   some (decide (d1.2.2.2.2.1 ≤ 2147483647))
  else
   some false
 else
 bif d1.1 == 2 then
  bif d1.2.2.2.2.1 == 0 then
   some true
  else
   some (d1.2.2.2.2.1 == 1)
 else
 bif d1.1 == 25 then
  bif decide (d1.2.2.2.2.1 ≥ 0) then
   some (decide (d1.2.2.2.2.1 ≤ 1000))
  else
   some false
 else
  some (d1.2.2.2.2.1 == 0)
theorem er108 (rf : T.RF) (rb : T.RB) (d1 : XN) : T.stepF rf rb 108 d1 = r108 rf rb d1 := by kernel_rfl
noncomputable def b393 (rf : T.RF) (rb : T.RB) (d1 : XN) (d2 : List Int) (d3 : XL) (d4 : Int) : Option ((XN × List Int × Bool) ⊕ (XN × List Int)) :=
 bif decide (d4 < (((d2.length : Nat) : Int))) then
  bif inb d4 d2.length then
   (nth d2 d4.toNat).bind fun (x1 : Int) =>
   bif inb x1 d3.length then
   (nth d3 x1.toNat).bind fun (x2 : XN) =>
   bif d1.1 == 27 then
   bif !((x2.1 == 28) == true) then
   some (.inl (d1, d2, false))
   else
   k393 rb d1 d2 d3 (IntKind.i64.wrap (d4 + 1))
   else
   bif d1.1 == 28 then
   bif (((d2.length : Nat) : Int)) == 2 then
   bif !((x2.1 == 28) == (d4 == 0)) then
   some (.inl (d1, d2, false))
   else
   k393 rb d1 d2 d3 (IntKind.i64.wrap (d4 + 1))
   else
   bif !((x2.1 == 28) == false) then
   some (.inl (d1, d2, false))
   else
   k393 rb d1 d2 d3 (IntKind.i64.wrap (d4 + 1))
   else
   bif !((x2.1 == 28) == false) then
   some (.inl (d1, d2, false))
   else
   k393 rb d1 d2 d3 (IntKind.i64.wrap (d4 + 1))
   else
   none
  else
   none
 else
  some (.inr (d1, d2))
theorem eb393 (rf : T.RF) (rb : T.RB) (d1 : XN) (d2 : List Int) (d3 : XL) (d4 : Int) : T.stepB rf rb 393 (d1, d2, d3, d4) = b393 rf rb d1 d2 d3 d4 := by kernel_rfl
noncomputable def r109 (rf : T.RF) (rb : T.RB) (d1 : XL) (d2 : Int) : Option Bool :=
 bif inb d2 d1.length then
  (nth d1 d2.toNat).bind fun (x1 : XN) =>
  (c30 rf x1).bind fun (y2 : List Int) =>
  (k393 rb x1 y2 d1 0).bind fun (z3 : (XN × List Int × Bool) ⊕ (XN × List Int)) =>
  match z3 with
  | .inl u4 =>
    some u4.2.2
  | .inr w5 =>
    some true
 else
  none
theorem er109 (rf : T.RF) (rb : T.RB) (d1 : XL) (d2 : Int) : T.stepF rf rb 109 (d1, d2) = r109 rf rb d1 d2 := by kernel_rfl
end Go.Proofs.YtadonikkibahnaaGreat.R
