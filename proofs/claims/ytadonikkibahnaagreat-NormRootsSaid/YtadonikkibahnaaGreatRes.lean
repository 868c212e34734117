import Derived.Test.YtadonikkibahnaaGreatResPB
namespace Go.Proofs.YtadonikkibahnaaGreat.R
open Go Go.Bm Go.Proofs
set_option linter.unusedVariables false
set_option linter.unusedSimpArgs false
set_option maxRecDepth 100000
noncomputable def b391 (rf : T.RF) (rb : T.RB) (d1 : List Int) (d2 : XL) (d3 : Int) : Option ((List Int × Bool) ⊕ (List Int)) :=
 bif decide (d3 < (((d2.length : Nat) : Int))) then
  bif inb d3 d2.length then
   (nth d2 d3.toNat).bind fun (x1 : XN) =>
   bif decide (x1.1 < 1) then
    some (.inl (d1, false))
   else
   bif inb d3 d2.length then
    (nth d2 d3.toNat).bind fun (x2 : XN) =>
    bif decide (x2.1 > 28) then
     some (.inl (d1, false))
    else
    bif inb d3 d2.length then
     (nth d2 d3.toNat).bind fun (x3 : XN) =>
     (c107 rf x3).bind fun (y4 : Bool) =>
     bif !y4 then
      some (.inl (d1, false))
     else
     bif inb d3 d2.length then
      (nth d2 d3.toNat).bind fun (x5 : XN) =>
      (c108 rf x5).bind fun (y6 : Bool) =>
      bif !y6 then
       some (.inl (d1, false))
      else
      bif inb d3 d2.length then
       (nth d2 d3.toNat).bind fun (x7 : XN) =>
       (c30 rf x7).bind fun (y8 : List Int) =>
       (k392 rb d1 y8 d3 0).bind fun (z9 : (List Int × List Int × Bool) ⊕ (List Int × List Int)) =>
       match z9 with
       | .inl u10 =>
         some (.inl (u10.1, u10.2.2))
       | .inr w11 =>
         (c109 rf d2 d3).bind fun (y12 : Bool) =>
         bif !y12 then
          some (.inl (w11.1, false))
         else
          k391 rb w11.1 d2 (IntKind.i64.wrap (d3 + 1))
      else
       none
     else
      none
    else
     none
   else
    none
  else
   none
 else
  some (.inr d1)
theorem eb391 (rf : T.RF) (rb : T.RB) (d1 : List Int) (d2 : XL) (d3 : Int) : T.stepB rf rb 391 (d1, d2, d3) = b391 rf rb d1 d2 d3 := by kernel_rfl
noncomputable def b392 (rf : T.RF) (rb : T.RB) (d1 : List Int) (d2 : List Int) (d3 : Int) (d4 : Int) : Option ((List Int × List Int × Bool) ⊕ (List Int × List Int)) :=
 bif decide (d4 < (((d2.length : Nat) : Int))) then
  bif inb d4 d2.length then
   (nth d2 d4.toNat).bind fun (x1 : Int) =>
   bif decide (x1 < 0) then
   some (.inl (d1, d2, false))
   else
   bif inb d4 d2.length then
   (nth d2 d4.toNat).bind fun (x2 : Int) =>
   bif decide (x2 ≥ d3) then
   some (.inl (d1, d2, false))
   else
   bif inb d4 d2.length then
   (nth d2 d4.toNat).bind fun (x3 : Int) =>
   bif inb x3 d1.length then
   (nth d1 x3.toNat).bind fun (x4 : Int) =>
   bif inb x3 d1.length then
   bif Nat.blt x3.toNat d1.length then
   k392 rb (setNth d1 x3.toNat (IntKind.i64.wrap (x4 + 1))) d2 d3 (IntKind.i64.wrap (d4 + 1))
   else
   none
   else
   none
   else
   none
   else
   none
   else
   none
  else
   none
 else
  some (.inr (d1, d2))
theorem eb392 (rf : T.RF) (rb : T.RB) (d1 : List Int) (d2 : List Int) (d3 : Int) (d4 : Int) : T.stepB rf rb 392 (d1, d2, d3, d4) = b392 rf rb d1 d2 d3 d4 := by kernel_rfl
noncomputable def b394 (rf : T.RF) (rb : T.RB) (d1 : List Int) (d2 : XL) (d3 : Int) : Option ((List Int × Bool) ⊕ (List Int)) :=
 bif decide (d3 < (IntKind.i64.wrap ((((d2.length : Nat) : Int)) - 1))) then
  bif inb d3 d1.length then
   (nth d1 d3.toNat).bind fun (x1 : Int) =>
   bif x1 != 1 then
   some (.inl (d1, false))
   else
   k394 rb d1 d2 (IntKind.i64.wrap (d3 + 1))
  else
   none
 else
  some (.inr d1)
theorem eb394 (rf : T.RF) (rb : T.RB) (d1 : List Int) (d2 : XL) (d3 : Int) : T.stepB rf rb 394 (d1, d2, d3) = b394 rf rb d1 d2 d3 := by kernel_rfl
noncomputable def r106 (rf : T.RF) (rb : T.RB) (d1 : XL) : Option Bool :=
 bif decide ((((d1.length : Nat) : Int)) < 1) then
  some false
 else
 bif decide ((((d1.length : Nat) : Int)) > 5000) then
  some false
 else
 bif inb' (((d1.length : Nat) : Int)) most then
  bif inb' (((d1.length : Nat) : Int)) d1.length then
   (k391 rb (List.replicate d1.length (0 : Int)) d1 0).bind fun (z1 : (List Int × Bool) ⊕ (List Int)) =>
   match z1 with
   | .inl u2 =>
     some u2.2
   | .inr w3 =>
     (k394 rb w3 d1 0).bind fun (z4 : (List Int × Bool) ⊕ (List Int)) =>
     match z4 with
     | .inl u5 =>
       some u5.2
     | .inr w6 =>
       bif inb (IntKind.i64.wrap ((((d1.length : Nat) : Int)) - 1)) d1.length then
        (nth d1 (IntKind.i64.wrap ((((d1.length : Nat) : Int)) - 1)).toNat).bind fun (x7 : XN) =>
        bif x7.1 != 28 then
         (c43 rf d1).bind fun (y8 : Int) =>
         some (decide (y8 ≤ 40))
        else
         some false
       else
        none
  else
   none
 else
  none
theorem er106 (rf : T.RF) (rb : T.RB) (d1 : XL) : T.stepF rf rb 106 d1 = r106 rf rb d1 := by kernel_rfl
noncomputable def b395 (rf : T.RF) (rb : T.RB) (d1 : List XS) (d2 : XL) (d3 : Int) : Option (Bool ⊕ Unit) :=
 bif decide (d3 < (((d2.length : Nat) : Int))) then
  bif inb d3 d2.length then
   (nth d2 d3.toNat).bind fun (x1 : XN) =>
   bif x1.1 == 27 then
   some (.inl false)
   else
   bif inb d3 d2.length then
   (nth d2 d3.toNat).bind fun (x2 : XN) =>
   bif x2.1 == 3 then
   bif inb d3 d2.length then
   (nth d2 d3.toNat).bind fun (x3 : XN) =>
   (c104 rf d1 x3.2.2.2.2.2).bind fun (y4 : Int) =>
   bif decide (y4 < 0) then
   some (.inl false)
   else
   k395 rb d1 d2 (IntKind.i64.wrap (d3 + 1))
   else
   none
   else
   k395 rb d1 d2 (IntKind.i64.wrap (d3 + 1))
   else
   none
  else
   none
 else
  some (.inr ())
theorem eb395 (rf : T.RF) (rb : T.RB) (d1 : List XS) (d2 : XL) (d3 : Int) : T.stepB rf rb 395 (d1, d2, d3) = b395 rf rb d1 d2 d3 := by kernel_rfl
noncomputable def r105 (rf : T.RF) (rb : T.RB) (d1 : List XS) (d2 : XL) : Option Bool :=
 (c106 rf d2).bind fun (y1 : Bool) =>
 bif !y1 then
  some false
 else
  (k395 rb d1 d2 0).bind fun (z2 : Bool ⊕ Unit) =>
  match z2 with
  | .inl u3 =>
    some u3
  | .inr w4 =>
    some true
theorem er105 (rf : T.RF) (rb : T.RB) (d1 : List XS) (d2 : XL) : T.stepF rf rb 105 (d1, d2) = r105 rf rb d1 d2 := by kernel_rfl
noncomputable def b400 (rf : T.RF) (rb : T.RB) (d1 : XL) (d2 : List Int) (d3 : List Int) (d4 : XL) (d5 : Int) : Option (List Int × XL × List Int) :=
 bif decide (d5 < (((d2.length : Nat) : Int))) then
  bif inb d5 d2.length then
   (nth d2 d5.toNat).bind fun (x1 : Int) =>
   (c114 rf d1 d4 x1).bind fun (y2 : XL) =>
   bif (Nat.ble (d3.length + 1) most) && true then
   k400 rb y2 d2 (d3 ++ [IntKind.i64.wrap ((((y2.length : Nat) : Int)) - 1)]) d4 (IntKind.i64.wrap (d5 + 1))
   else
   none
  else
   none
 else
  some (d2, d1, d3)
theorem eb400 (rf : T.RF) (rb : T.RB) (d1 : XL) (d2 : List Int) (d3 : List Int) (d4 : XL) (d5 : Int) : T.stepB rf rb 400 (d1, d2, d3, d4, d5) = b400 rf rb d1 d2 d3 d4 d5 := by kernel_rfl
noncomputable def r114 (rf : T.RF) (rb : T.RB) (d1 : XL) (d2 : XL) (d3 : Int) : Option XL :=
 bif inb d3 d2.length then
  (nth d2 d3.toNat).bind fun (x1 : XN) =>
  (c30 rf x1).bind fun (y2 : List Int) =>
  (k400 rb d1 y2 [] d2 0).bind fun (z3 : List Int × XL × List Int) =>
  bif inb d3 d2.length then
   (nth d2 d3.toNat).bind fun (x4 : XN) =>
   (c33 rf x4 z3.2.2).bind fun (y5 : XN) =>
   bif (Nat.ble (z3.2.1.length + 1) most) && true then
   some (z3.2.1 ++ [y5])
   else
   none
  else
   none
 else
  none
theorem er114 (rf : T.RF) (rb : T.RB) (d1 : XL) (d2 : XL) (d3 : Int) : T.stepF rf rb 114 (d1, d2, d3) = r114 rf rb d1 d2 d3 := by kernel_rfl
noncomputable def r113 (rf : T.RF) (rb : T.RB) (d1 : XL) (d2 : Int) : Option XL :=
 (c106 rf d1).bind fun (y1 : Bool) =>
 bif !y1 then
  some []
 else
 bif decide (d2 < 0) then
  some []
 else
 bif decide (d2 ≥ (((d1.length : Nat) : Int))) then
  some []
 else
  (c114 rf [] d1 d2).bind fun (y2 : XL) =>
  some y2
theorem er113 (rf : T.RF) (rb : T.RB) (d1 : XL) (d2 : Int) : T.stepF rf rb 113 (d1, d2) = r113 rf rb d1 d2 := by kernel_rfl
noncomputable def r112 (rf : T.RF) (rb : T.RB) (d1 : XL) : Option XL :=
 (c113 rf d1 (IntKind.i64.wrap ((((d1.length : Nat) : Int)) - 1))).bind fun (y1 : XL) =>
 some y1
theorem er112 (rf : T.RF) (rb : T.RB) (d1 : XL) : T.stepF rf rb 112 d1 = r112 rf rb d1 := by kernel_rfl
noncomputable def b405 (rf : T.RF) (rb : T.RB) (d1 : List Bool) (d2 : XL) (d3 : Int) : Option (List Bool) :=
 bif decide (d3 ≥ 0) then
  bif inb d3 d2.length then
   (nth d2 d3.toNat).bind fun (x1 : XN) =>
   (c30 rf x1).bind fun (y2 : List Int) =>
   (k406 rb d1 y2 d2 d3 0).bind fun (z3 : List Bool × List Int) =>
   k405 rb z3.1 d2 (IntKind.i64.wrap (d3 - 1))
  else
   none
 else
  some d1
theorem eb405 (rf : T.RF) (rb : T.RB) (d1 : List Bool) (d2 : XL) (d3 : Int) : T.stepB rf rb 405 (d1, d2, d3) = b405 rf rb d1 d2 d3 := by kernel_rfl
noncomputable def b406 (rf : T.RF) (rb : T.RB) (d1 : List Bool) (d2 : List Int) (d3 : XL) (d4 : Int) (d5 : Int) : Option (List Bool × List Int) :=
 bif decide (d5 < (((d2.length : Nat) : Int))) then
  bif inb d5 d2.length then
   (nth d2 d5.toNat).bind fun (x1 : Int) =>
   bif inb d4 d1.length then
   (nth d1 d4.toNat).bind fun (x2 : Bool) =>
   bif x2 then
   bif inb x1 d1.length then
   bif Nat.blt x1.toNat d1.length then
   k406 rb (setNth d1 x1.toNat true) d2 d3 d4 (IntKind.i64.wrap (d5 + 1))
   else
   none
   else
   none
   else
   bif inb d4 d3.length then
   (nth d3 d4.toNat).bind fun (x3 : XN) =>
   bif x3.1 == 21 then
   bif inb x1 d1.length then
   bif Nat.blt x1.toNat d1.length then
   k406 rb (setNth d1 x1.toNat true) d2 d3 d4 (IntKind.i64.wrap (d5 + 1))
   else
   none
   else
   none
   else
   bif inb d4 d3.length then
   (nth d3 d4.toNat).bind fun (x4 : XN) =>
   bif inb x1 d1.length then
   bif Nat.blt x1.toNat d1.length then
   k406 rb (setNth d1 x1.toNat (x4.1 == 24)) d2 d3 d4 (IntKind.i64.wrap (d5 + 1))
   else
   none
   else
   none
   else
   none
   else
   none
   else
   none
  else
   none
 else
  some (d1, d2)
theorem eb406 (rf : T.RF) (rb : T.RB) (d1 : List Bool) (d2 : List Int) (d3 : XL) (d4 : Int) (d5 : Int) : T.stepB rf rb 406 (d1, d2, d3, d4, d5) = b406 rf rb d1 d2 d3 d4 d5 := by kernel_rfl
noncomputable def r115 (rf : T.RF) (rb : T.RB) (d1 : XL) : Option (List Bool) :=
 bif inb' (((d1.length : Nat) : Int)) most then
  bif inb' (((d1.length : Nat) : Int)) d1.length then
   (k405 rb (List.replicate d1.length false) d1 (IntKind.i64.wrap ((((d1.length : Nat) : Int)) - 1))).bind fun (z1 : List Bool) =>
   some z1
  else
   none
 else
  none
theorem er115 (rf : T.RF) (rb : T.RB) (d1 : XL) : T.stepF rf rb 115 d1 = r115 rf rb d1 := by kernel_rfl
noncomputable def b408 (rf : T.RF) (rb : T.RB) (d1 : List (List UInt8)) (d2 : List UInt8) (d3 : Int) : Option ((List (List UInt8) × Bool) ⊕ (List (List UInt8))) :=
 bif decide (d3 < (((d1.length : Nat) : Int))) then
  bif inb d3 d1.length then
   (nth d1 d3.toNat).bind fun (x1 : List UInt8) =>
   bif x1 == d2 then
   some (.inl (d1, true))
   else
   k408 rb d1 d2 (IntKind.i64.wrap (d3 + 1))
  else
   none
 else
  some (.inr d1)
theorem eb408 (rf : T.RF) (rb : T.RB) (d1 : List (List UInt8)) (d2 : List UInt8) (d3 : Int) : T.stepB rf rb 408 (d1, d2, d3) = b408 rf rb d1 d2 d3 := by kernel_rfl
noncomputable def r116 (rf : T.RF) (rb : T.RB) (d1 : List (List UInt8)) (d2 : List UInt8) : Option (List (List UInt8) × Bool) :=
 (k408 rb d1 d2 0).bind fun (z1 : (List (List UInt8) × Bool) ⊕ (List (List UInt8))) =>
 match z1 with
 | .inl u2 =>
   some u2
 | .inr w3 =>
   some (w3, false)
theorem er116 (rf : T.RF) (rb : T.RB) (d1 : List (List UInt8)) (d2 : List UInt8) : T.stepF rf rb 116 (d1, d2) = r116 rf rb d1 d2 := by kernel_rfl
noncomputable def b409 (rf : T.RF) (rb : T.RB) (d1 : List Bool) (d2 : List (List UInt8)) (d3 : XL) (d4 : Int) : Option (List Bool × List (List UInt8)) :=
 bif decide (d4 < (((d3.length : Nat) : Int))) then
  bif inb d4 d3.length then
   (nth d3 d4.toNat).bind fun (x1 : XN) =>
   bif x1.1 == 3 then
   bif inb d4 d1.length then
   (nth d1 d4.toNat).bind fun (x2 : Bool) =>
   bif !x2 then
   bif inb d4 d3.length then
   (nth d3 d4.toNat).bind fun (x3 : XN) =>
   (c116 rf d2 x3.2.2.2.2.2).bind fun (y4 : List (List UInt8) × Bool) =>
   bif !y4.2 then
   bif inb d4 d3.length then
   (nth d3 d4.toNat).bind fun (x5 : XN) =>
   bif (Nat.ble (y4.1.length + 1) most) && true then
   k409 rb d1 (y4.1 ++ [x5.2.2.2.2.2]) d3 (IntKind.i64.wrap (d4 + 1))
   else
   none
   else
   none
   else
   k409 rb d1 y4.1 d3 (IntKind.i64.wrap (d4 + 1))
   else
   none
   else
   k409 rb d1 d2 d3 (IntKind.i64.wrap (d4 + 1))
   else
   none
   else
   k409 rb d1 d2 d3 (IntKind.i64.wrap (d4 + 1))
  else
   none
 else
  some (d1, d2)
theorem eb409 (rf : T.RF) (rb : T.RB) (d1 : List Bool) (d2 : List (List UInt8)) (d3 : XL) (d4 : Int) : T.stepB rf rb 409 (d1, d2, d3, d4) = b409 rf rb d1 d2 d3 d4 := by kernel_rfl
noncomputable def r111 (rf : T.RF) (rb : T.RB) (d1 : XL) : Option (List (List UInt8)) :=
 (c112 rf d1).bind fun (y1 : XL) =>
 (c115 rf y1).bind fun (y2 : List Bool) =>
 (k409 rb y2 [] y1 0).bind fun (z3 : List Bool × List (List UInt8)) =>
 some z3.2
theorem er111 (rf : T.RF) (rb : T.RB) (d1 : XL) : T.stepF rf rb 111 d1 = r111 rf rb d1 := by kernel_rfl
noncomputable def b414 (rf : T.RF) (rb : T.RB) (d1 : List (List UInt8)) (d2 : List UInt8) (d3 : Int) : Option (Bool ⊕ Unit) :=
 bif decide (d3 < (((d1.length : Nat) : Int))) then
  bif inb d3 d1.length then
   (nth d1 d3.toNat).bind fun (x1 : List UInt8) =>
   bif x1 == d2 then
   some (.inl true)
   else
   k414 rb d1 d2 (IntKind.i64.wrap (d3 + 1))
  else
   none
 else
  some (.inr ())
theorem eb414 (rf : T.RF) (rb : T.RB) (d1 : List (List UInt8)) (d2 : List UInt8) (d3 : Int) : T.stepB rf rb 414 (d1, d2, d3) = b414 rf rb d1 d2 d3 := by kernel_rfl
noncomputable def r118 (rf : T.RF) (rb : T.RB) (d1 : List (List UInt8)) (d2 : List UInt8) : Option Bool :=
 (k414 rb d1 d2 0).bind fun (z1 : Bool ⊕ Unit) =>
 match z1 with
 | .inl u2 =>
   some u2
 | .inr w3 =>
   some false
theorem er118 (rf : T.RF) (rb : T.RB) (d1 : List (List UInt8)) (d2 : List UInt8) : T.stepF rf rb 118 (d1, d2) = r118 rf rb d1 d2 := by kernel_rfl
noncomputable def b413 (rf : T.RF) (rb : T.RB) (d1 : List Bool) (d2 : List (List UInt8 × XL)) (d3 : List (List UInt8)) (d4 : Int) : Option ((List Bool × Bool) ⊕ (List Bool)) :=
 bif decide (d4 < (((d2.length : Nat) : Int))) then
  bif inb d4 d1.length then
   (nth d1 d4.toNat).bind fun (x1 : Bool) =>
   bif !x1 then
   bif inb d4 d2.length then
   (nth d2 d4.toNat).bind fun (x2 : List UInt8 × XL) =>
   (c118 rf d3 x2.1).bind fun (y3 : Bool) =>
   bif y3 then
   some (.inl (d1, true))
   else
   k413 rb d1 d2 d3 (IntKind.i64.wrap (d4 + 1))
   else
   none
   else
   k413 rb d1 d2 d3 (IntKind.i64.wrap (d4 + 1))
  else
   none
 else
  some (.inr d1)
theorem eb413 (rf : T.RF) (rb : T.RB) (d1 : List Bool) (d2 : List (List UInt8 × XL)) (d3 : List (List UInt8)) (d4 : Int) : T.stepB rf rb 413 (d1, d2, d3, d4) = b413 rf rb d1 d2 d3 d4 := by kernel_rfl
noncomputable def r117 (rf : T.RF) (rb : T.RB) (d1 : List Bool) (d2 : List (List UInt8 × XL)) (d3 : List (List UInt8)) : Option (List Bool × Bool) :=
 (k413 rb d1 d2 d3 0).bind fun (z1 : (List Bool × Bool) ⊕ (List Bool)) =>
 match z1 with
 | .inl u2 =>
   some u2
 | .inr w3 =>
   some (w3, false)
theorem er117 (rf : T.RF) (rb : T.RB) (d1 : List Bool) (d2 : List (List UInt8 × XL)) (d3 : List (List UInt8)) : T.stepF rf rb 117 (d1, d2, d3) = r117 rf rb d1 d2 d3 := by kernel_rfl
noncomputable def b415 (rf : T.RF) (rb : T.RB) (d1 : List (List (List UInt8))) (d2 : List (List UInt8 × XL)) (d3 : Int) : Option (List (List (List UInt8))) :=
 bif decide (d3 < (((d2.length : Nat) : Int))) then
  bif inb d3 d2.length then
   (nth d2 d3.toNat).bind fun (x1 : List UInt8 × XL) =>
   (c111 rf x1.2).bind fun (y2 : List (List UInt8)) =>
   bif (Nat.ble (d1.length + 1) most) && true then
   k415 rb (d1 ++ [y2]) d2 (IntKind.i64.wrap (d3 + 1))
   else
   none
  else
   none
 else
  some d1
theorem eb415 (rf : T.RF) (rb : T.RB) (d1 : List (List (List UInt8))) (d2 : List (List UInt8 × XL)) (d3 : Int) : T.stepB rf rb 415 (d1, d2, d3) = b415 rf rb d1 d2 d3 := by kernel_rfl
noncomputable def b416 (rf : T.RF) (rb : T.RB) (d1 : List (List (List UInt8))) (d2 : List Bool) (d3 : List Int) (d4 : List (List UInt8 × XL)) : Option ((List (List (List UInt8)) × List Bool × List Int × Int) ⊕ (List (List (List UInt8)) × List Bool × List Int)) :=
 bif decide ((((d3.length : Nat) : Int)) < (((d4.length : Nat) : Int))) then
  (k417 rb d1 d2 d4 (-1) (IntKind.i64.wrap ((((d4.length : Nat) : Int)) - 1))).bind fun (z1 : List (List (List UInt8)) × List Bool × Int) =>
  bif decide (z1.2.2 < 0) then
   some (.inl (z1.1, z1.2.1, [], 12))
  else
  bif inb z1.2.2 z1.2.1.length then
   bif Nat.blt z1.2.2.toNat z1.2.1.length then
   bif (Nat.ble (d3.length + 1) most) && true then
   k416 rb z1.1 (setNth z1.2.1 z1.2.2.toNat true) (d3 ++ [z1.2.2]) d4
   else
   none
   else
   none
  else
   none
 else
  some (.inr (d1, d2, d3))
theorem eb416 (rf : T.RF) (rb : T.RB) (d1 : List (List (List UInt8))) (d2 : List Bool) (d3 : List Int) (d4 : List (List UInt8 × XL)) : T.stepB rf rb 416 (d1, d2, d3, d4) = b416 rf rb d1 d2 d3 d4 := by kernel_rfl
noncomputable def b417 (rf : T.RF) (rb : T.RB) (d1 : List (List (List UInt8))) (d2 : List Bool) (d3 : List (List UInt8 × XL)) (d4 : Int) (d5 : Int) : Option (List (List (List UInt8)) × List Bool × Int) :=
 bif decide (d5 ≥ 0) then
  bif inb d5 d2.length then
   (nth d2 d5.toNat).bind fun (x1 : Bool) =>
   bif !x1 then
   bif inb d5 d1.length then
   (nth d1 d5.toNat).bind fun (x2 : List (List UInt8)) =>
   (c117 rf d2 d3 x2).bind fun (y3 : List Bool × Bool) =>
   bif !y3.2 then
   k417 rb d1 y3.1 d3 d5 (IntKind.i64.wrap (d5 - 1))
   else
   k417 rb d1 y3.1 d3 d4 (IntKind.i64.wrap (d5 - 1))
   else
   none
   else
   k417 rb d1 d2 d3 d4 (IntKind.i64.wrap (d5 - 1))
  else
   none
 else
  some (d1, d2, d4)
theorem eb417 (rf : T.RF) (rb : T.RB) (d1 : List (List (List UInt8))) (d2 : List Bool) (d3 : List (List UInt8 × XL)) (d4 : Int) (d5 : Int) : T.stepB rf rb 417 (d1, d2, d3, d4, d5) = b417 rf rb d1 d2 d3 d4 d5 := by kernel_rfl
noncomputable def r110 (rf : T.RF) (rb : T.RB) (d1 : List (List UInt8 × XL)) : Option (List Int × Int) :=
 bif decide ((((d1.length : Nat) : Int)) > 4000) then
  some ([], 7)
 else
  (k415 rb [] d1 0).bind fun (z1 : List (List (List UInt8))) =>
  bif inb' (((d1.length : Nat) : Int)) most then
   bif inb' (((d1.length : Nat) : Int)) d1.length then
    (k416 rb z1 (List.replicate d1.length false) [] d1).bind fun (z2 : (List (List (List UInt8)) × List Bool × List Int × Int) ⊕ (List (List (List UInt8)) × List Bool × List Int)) =>
    match z2 with
    | .inl u3 =>
      some u3.2.2
    | .inr w4 =>
      some (w4.2.2, 0)
   else
    none
  else
   none
theorem er110 (rf : T.RF) (rb : T.RB) (d1 : List (List UInt8 × XL)) : T.stepF rf rb 110 d1 = r110 rf rb d1 := by kernel_rfl
noncomputable def b397 (rf : T.RF) (rb : T.RB) (d1 : List (List UInt8 × XL)) (d2 : List XS) (d3 : Int) : Option (Int ⊕ (List (List UInt8 × XL))) :=
 bif decide (d3 < (((d2.length : Nat) : Int))) then
  bif inb d3 d2.length then
   (nth d2 d3.toNat).bind fun (x1 : XS) =>
   (c104 rf d2 x1.1).bind fun (y2 : Int) =>
   bif decide (y2 < d3) then
   some (.inl 1)
   else
   bif inb d3 d2.length then
   (nth d2 d3.toNat).bind fun (x3 : XS) =>
   bif decide ((((x3.2.2.length : Nat) : Int)) > 0) then
   bif inb d3 d2.length then
   (nth d2 d3.toNat).bind fun (x4 : XS) =>
   (c105 rf d2 x4.2.2).bind fun (y5 : Bool) =>
   bif !y5 then
   some (.inl 1)
   else
   bif inb d3 d2.length then
   (nth d2 d3.toNat).bind fun (x6 : XS) =>
   bif decide ((((x6.2.2.length : Nat) : Int)) > 0) then
   bif inb d3 d2.length then
   (nth d2 d3.toNat).bind fun (x7 : XS) =>
   bif inb d3 d2.length then
   (nth d2 d3.toNat).bind fun (x8 : XS) =>
   bif (Nat.ble (d1.length + 1) most) && true then
   k397 rb (d1 ++ [(x7.1, x8.2.2)]) d2 (IntKind.i64.wrap (d3 + 1))
   else
   none
   else
   none
   else
   none
   else
   k397 rb d1 d2 (IntKind.i64.wrap (d3 + 1))
   else
   none
   else
   none
   else
   bif inb d3 d2.length then
   (nth d2 d3.toNat).bind fun (x9 : XS) =>
   bif decide ((((x9.2.2.length : Nat) : Int)) > 0) then
   bif inb d3 d2.length then
   (nth d2 d3.toNat).bind fun (x10 : XS) =>
   bif inb d3 d2.length then
   (nth d2 d3.toNat).bind fun (x11 : XS) =>
   bif (Nat.ble (d1.length + 1) most) && true then
   k397 rb (d1 ++ [(x10.1, x11.2.2)]) d2 (IntKind.i64.wrap (d3 + 1))
   else
   none
   else
   none
   else
   none
   else
   k397 rb d1 d2 (IntKind.i64.wrap (d3 + 1))
   else
   none
   else
   none
  else
   none
 else
  some (.inr d1)
theorem eb397 (rf : T.RF) (rb : T.RB) (d1 : List (List UInt8 × XL)) (d2 : List XS) (d3 : Int) : T.stepB rf rb 397 (d1, d2, d3) = b397 rf rb d1 d2 d3 := by kernel_rfl
noncomputable def r103 (rf : T.RF) (rb : T.RB) (d1 : List XS) : Option Int :=
 bif decide ((((d1.length : Nat) : Int)) > 4000) then
  some 1
 else
  (k397 rb [] d1 0).bind fun (z1 : Int ⊕ (List (List UInt8 × XL))) =>
  match z1 with
  | .inl u2 =>
    some u2
  | .inr w3 =>
    (c110 rf w3).bind fun (y4 : List Int × Int) =>
    some y4.2
theorem er103 (rf : T.RF) (rb : T.RB) (d1 : List XS) : T.stepF rf rb 103 d1 = r103 rf rb d1 := by kernel_rfl
noncomputable def r120 (rf : T.RF) (rb : T.RB) (d1 : Int) : Option Bool :=
 bif d1 == 22 then
  some true
 else
 bif d1 == 23 then
  some true
 else
 bif d1 == 24 then
  some true
 else
 bif d1 == 25 then
  some true
 else
  some (d1 == 20)
theorem er120 (rf : T.RF) (rb : T.RB) (d1 : Int) : T.stepF rf rb 120 d1 = r120 rf rb d1 := by kernel_rfl
noncomputable def b419 (rf : T.RF) (rb : T.RB) (d1 : XL) (d2 : Int) : Option (Bool ⊕ Unit) :=
 bif decide (d2 < (((d1.length : Nat) : Int))) then
  bif inb d2 d1.length then
   (nth d1 d2.toNat).bind fun (x1 : XN) =>
   (c120 rf x1.1).bind fun (y2 : Bool) =>
   bif y2 then
   some (.inl true)
   else
   k419 rb d1 (IntKind.i64.wrap (d2 + 1))
  else
   none
 else
  some (.inr ())
theorem eb419 (rf : T.RF) (rb : T.RB) (d1 : XL) (d2 : Int) : T.stepB rf rb 419 (d1, d2) = b419 rf rb d1 d2 := by kernel_rfl
noncomputable def r119 (rf : T.RF) (rb : T.RB) (d1 : XL) : Option Bool :=
 (k419 rb d1 0).bind fun (z1 : Bool ⊕ Unit) =>
 match z1 with
 | .inl u2 =>
   some u2
 | .inr w3 =>
   some false
theorem er119 (rf : T.RF) (rb : T.RB) (d1 : XL) : T.stepF rf rb 119 d1 = r119 rf rb d1 := by kernel_rfl
noncomputable def b432 (rf : T.RF) (rb : T.RB) (d1 : List (List Int)) (d2 : List XS) (d3 : Int) (d4 : Int) (d5 : Int) : Option (List (List Int)) :=
 bif decide (d5 < (((d2.length : Nat) : Int))) then
  bif inb d5 d2.length then
   (nth d2 d5.toNat).bind fun (x1 : XS) =>
   bif (((x1.2.2.length : Nat) : Int)) == 0 then
   bif (Nat.ble (d1.length + 1) most) && true then
   k432 rb (d1 ++ [[d4]]) d2 d3 (IntKind.i64.wrap (d4 + 1)) (IntKind.i64.wrap (d5 + 1))
   else
   none
   else
   bif inb d5 d2.length then
   (nth d2 d5.toNat).bind fun (x2 : XS) =>
   (c112 rf x2.2.2).bind fun (y3 : XL) =>
   (k433 rb y3 [] d3 0).bind fun (z4 : XL × List Int × Int) =>
   bif (Nat.ble (d1.length + 1) most) && true then
   k432 rb (d1 ++ [z4.2.1]) d2 z4.2.2 d4 (IntKind.i64.wrap (d5 + 1))
   else
   none
   else
   none
  else
   none
 else
  some d1
theorem eb432 (rf : T.RF) (rb : T.RB) (d1 : List (List Int)) (d2 : List XS) (d3 : Int) (d4 : Int) (d5 : Int) : T.stepB rf rb 432 (d1, d2, d3, d4, d5) = b432 rf rb d1 d2 d3 d4 d5 := by kernel_rfl
noncomputable def b433 (rf : T.RF) (rb : T.RB) (d1 : XL) (d2 : List Int) (d3 : Int) (d4 : Int) : Option (XL × List Int × Int) :=
 bif decide (d4 < (((d1.length : Nat) : Int))) then
  bif (Nat.ble (d2.length + 1) most) && true then
   bif inb d4 d1.length then
   (nth d1 d4.toNat).bind fun (x1 : XN) =>
   bif x1.1 != 3 then
   k433 rb d1 (d2 ++ [d3]) (IntKind.i64.wrap (d3 + 1)) (IntKind.i64.wrap (d4 + 1))
   else
   k433 rb d1 (d2 ++ [d3]) d3 (IntKind.i64.wrap (d4 + 1))
   else
   none
  else
   none
 else
  some (d1, d2, d3)
theorem eb433 (rf : T.RF) (rb : T.RB) (d1 : XL) (d2 : List Int) (d3 : Int) (d4 : Int) : T.stepB rf rb 433 (d1, d2, d3, d4) = b433 rf rb d1 d2 d3 d4 := by kernel_rfl
noncomputable def r121 (rf : T.RF) (rb : T.RB) (d1 : List XS) (d2 : Int) : Option (List (List Int)) :=
 (k432 rb [] d1 d2 0 0).bind fun (z1 : List (List Int)) =>
 some z1
theorem er121 (rf : T.RF) (rb : T.RB) (d1 : List XS) (d2 : Int) : T.stepF rf rb 121 (d1, d2) = r121 rf rb d1 d2 := by kernel_rfl
noncomputable def r123 (rf : T.RF) (rb : T.RB) (d1 : List XS) (d2 : List (List Int)) (d3 : XL) (d4 : Int) (d5 : Int) : Option Int :=
 bif inb d5 d3.length then
  (nth d3 d5.toNat).bind fun (x1 : XN) =>
  bif x1.1 == 3 then
   bif inb d5 d3.length then
   (nth d3 d5.toNat).bind fun (x2 : XN) =>
   (c104 rf d1 x2.2.2.2.2.2).bind fun (y3 : Int) =>
   (c122 rf d1 d2 y3).bind fun (y4 : Int) =>
   some y4
   else
   none
  else
  bif inb d4 d2.length then
   (nth d2 d4.toNat).bind fun (x5 : List Int) =>
   bif inb d5 x5.length then
   (nth x5 d5.toNat).bind fun (x6 : Int) =>
   some x6
   else
   none
  else
   none
 else
  none
theorem er123 (rf : T.RF) (rb : T.RB) (d1 : List XS) (d2 : List (List Int)) (d3 : XL) (d4 : Int) (d5 : Int) : T.stepF rf rb 123 (d1, d2, d3, d4, d5) = r123 rf rb d1 d2 d3 d4 d5 := by kernel_rfl
noncomputable def r122 (rf : T.RF) (rb : T.RB) (d1 : List XS) (d2 : List (List Int)) (d3 : Int) : Option Int :=
 bif inb d3 d1.length then
  (nth d1 d3.toNat).bind fun (x1 : XS) =>
  (c112 rf x1.2.2).bind fun (y2 : XL) =>
  bif (((y2.length : Nat) : Int)) == 0 then
   bif inb d3 d2.length then
   (nth d2 d3.toNat).bind fun (x3 : List Int) =>
   bif inb 0 x3.length then
   (nth x3 0).bind fun (x4 : Int) =>
   some x4
   else
   none
   else
   none
  else
   (c123 rf d1 d2 y2 d3 (IntKind.i64.wrap ((((y2.length : Nat) : Int)) - 1))).bind fun (y5 : Int) =>
   some y5
 else
  none
theorem er122 (rf : T.RF) (rb : T.RB) (d1 : List XS) (d2 : List (List Int)) (d3 : Int) : T.stepF rf rb 122 (d1, d2, d3) = r122 rf rb d1 d2 d3 := by kernel_rfl
noncomputable def b451 (rf : T.RF) (rb : T.RB) (d1 : XO) (d2 : List Int) (d3 : List XS) (d4 : List (List Int)) (d5 : XL) (d6 : Int) (d7 : Int) : Option (XO × List Int) :=
 bif decide (d7 < (((d2.length : Nat) : Int))) then
  bif inb d7 d2.length then
   (nth d2 d7.toNat).bind fun (x1 : Int) =>
   (c123 rf d3 d4 d5 d6 x1).bind fun (y2 : Int) =>
   bif d7 == 0 then
   k451 rb (d1.1, y2, d1.2.2) d2 d3 d4 d5 d6 (IntKind.i64.wrap (d7 + 1))
   else
   bif d7 == 1 then
   k451 rb (d1.1, d1.2.1, y2, d1.2.2.2) d2 d3 d4 d5 d6 (IntKind.i64.wrap (d7 + 1))
   else
   k451 rb (d1.1, d1.2.1, d1.2.2.1, y2, d1.2.2.2.2) d2 d3 d4 d5 d6 (IntKind.i64.wrap (d7 + 1))
  else
   none
 else
  some (d1, d2)
theorem eb451 (rf : T.RF) (rb : T.RB) (d1 : XO) (d2 : List Int) (d3 : List XS) (d4 : List (List Int)) (d5 : XL) (d6 : Int) (d7 : Int) : T.stepB rf rb 451 (d1, d2, d3, d4, d5, d6, d7) = b451 rf rb d1 d2 d3 d4 d5 d6 d7 := by kernel_rfl
noncomputable def r124 (rf : T.RF) (rb : T.RB) (d1 : List XS) (d2 : List (List Int)) (d3 : XL) (d4 : Int) (d5 : Int) : Option XO :=
 bif inb d5 d3.length then
  (nth d3 d5.toNat).bind fun (x1 : XN) =>
  bif inb d5 d3.length then
   (nth d3 d5.toNat).bind fun (x2 : XN) =>
   bif inb d5 d3.length then
   (nth d3 d5.toNat).bind fun (x3 : XN) =>
   (c30 rf x3).bind fun (y4 : List Int) =>
   (k451 rb (x1.1, (-1), (-1), (-1), x2.2.2.2.2.1) y4 d1 d2 d3 d4 0).bind fun (z5 : XO × List Int) =>
   some z5.1
   else
   none
  else
   none
 else
  none
theorem er124 (rf : T.RF) (rb : T.RB) (d1 : List XS) (d2 : List (List Int)) (d3 : XL) (d4 : Int) (d5 : Int) : T.stepF rf rb 124 (d1, d2, d3, d4, d5) = r124 rf rb d1 d2 d3 d4 d5 := by kernel_rfl
noncomputable def b477 (rf : T.RF) (rb : T.RB) (d1 : List XO) (d2 : List Int) (d3 : List Int) (d4 : List XS) (d5 : Int) : Option ((List XO × List Int × List Int × List XO × List Int × List Int × Int) ⊕ XT) :=
 bif decide (d5 < (((d4.length : Nat) : Int))) then
  bif inb d5 d4.length then
   (nth d4 d5.toNat).bind fun (x1 : XS) =>
   (c119 rf x1.2.2).bind fun (y2 : Bool) =>
   bif y2 then
   some (.inl (d1, d2, d3, [], [], [], 1))
   else
   k477 rb d1 d2 d3 d4 (IntKind.i64.wrap (d5 + 1))
  else
   none
 else
  some (.inr (d1, d2, d3))
theorem eb477 (rf : T.RF) (rb : T.RB) (d1 : List XO) (d2 : List Int) (d3 : List Int) (d4 : List XS) (d5 : Int) : T.stepB rf rb 477 (d1, d2, d3, d4, d5) = b477 rf rb d1 d2 d3 d4 d5 := by kernel_rfl
noncomputable def b478q (rf : T.RF) (rb : T.RB) (d1 : List XO) (d2 : List Int) (d3 : List Int) (d4 : List XS) (d5 : Int) : Option (List Int × List XO × List Int) :=
 bif decide (d5 < (((d4.length : Nat) : Int))) then
  bif inb d5 d4.length then
   (nth d4 d5.toNat).bind fun (x1 : XS) =>
   bif (((x1.2.2.length : Nat) : Int)) == 0 then
   bif (Nat.ble (d1.length + 1) most) && true then
   bif inb d5 d4.length then
   (nth d4 d5.toNat).bind fun (x2 : XS) =>
   agN 1 (
   bif (Nat.ble (d3.length + 1) most) && true then
   k478 rb (d1 ++ [(3, (-1), (-1), (-1), ((d3.length : Nat) : Int))]) d2 (d3 ++ [x2.2.1]) d4 (IntKind.i64.wrap (d5 + 1))
   else
   none
   )
   else
   none
   else
   none
   else
   k478 rb d1 d2 d3 d4 (IntKind.i64.wrap (d5 + 1))
  else
   none
 else
  some (d2, d1, d3)
noncomputable def b478 (rf : T.RF) (rb : T.RB) (d1 : List XO) (d2 : List Int) (d3 : List Int) (d4 : List XS) (d5 : Int) : Option (List Int × List XO × List Int) :=
 bif decide (d5 < (((d4.length : Nat) : Int))) then
  bif inb d5 d4.length then
   (nth d4 d5.toNat).bind fun (x1 : XS) =>
   bif (((x1.2.2.length : Nat) : Int)) == 0 then
   bif (Nat.ble (d1.length + 1) most) && true then
   bif inb d5 d4.length then
   (nth d4 d5.toNat).bind fun (x2 : XS) =>
   bif (Nat.ble (d3.length + 1) most) && true then
   k478 rb (d1 ++ [(3, (-1), (-1), (-1), ((d3.length : Nat) : Int))]) d2 (d3 ++ [x2.2.1]) d4 (IntKind.i64.wrap (d5 + 1))
   else
   none
   else
   none
   else
   none
   else
   k478 rb d1 d2 d3 d4 (IntKind.i64.wrap (d5 + 1))
  else
   none
 else
  some (d2, d1, d3)
theorem eb478 (rf : T.RF) (rb : T.RB) (d1 : List XO) (d2 : List Int) (d3 : List Int) (d4 : List XS) (d5 : Int) : T.stepB rf rb 478 (d1, d2, d3, d4, d5) = b478q rf rb d1 d2 d3 d4 d5 := by kernel_rfl
theorem sb478 (rf : T.RF) (rb : T.RB) (d1 : List XO) (d2 : List Int) (d3 : List Int) (d4 : List XS) (d5 : Int) : b478q rf rb d1 d2 d3 d4 d5 = b478 rf rb d1 d2 d3 d4 d5 := by
 unfold b478q b478; simp only [agN_eq, agree_self, agree_swap]
noncomputable def b479q (rf : T.RF) (rb : T.RB) (d1 : List XO) (d2 : List Int) (d3 : List Int) (d4 : List XS) (d5 : List (List Int)) (d6 : Int) : Option (List Int × List XO × List Int) :=
 bif decide (d6 < (((d4.length : Nat) : Int))) then
  agree (
   (c122 rf d4 d5 d6).bind fun (y1 : Int) =>
   bif (Nat.ble (d2.length + 1) most) && true then
   (k480 rb d1 (d2 ++ [y1]) d3 d4 d5 d6).bind fun (z2 : List Int × List Int × List XO) =>
   k479 rb z2.2.2 z2.1 z2.2.1 d4 d5 (IntKind.i64.wrap (d6 + 1))
   else
   none
  ) (
   (c122 rf d4 d5 d6).bind fun (y1 : Int) =>
   agN 1 (
   bif (Nat.ble (d2.length + 1) most) && true then
   (k480 rb d1 (d2 ++ [y1]) d3 d4 d5 d6).bind fun (z2 : List Int × List Int × List XO) =>
   k479 rb z2.2.2 z2.1 z2.2.1 d4 d5 (IntKind.i64.wrap (d6 + 1))
   else
   none
   )
  )
 else
  some (d3, d1, d2)
noncomputable def b479 (rf : T.RF) (rb : T.RB) (d1 : List XO) (d2 : List Int) (d3 : List Int) (d4 : List XS) (d5 : List (List Int)) (d6 : Int) : Option (List Int × List XO × List Int) :=
 bif decide (d6 < (((d4.length : Nat) : Int))) then
  (c122 rf d4 d5 d6).bind fun (y1 : Int) =>
  bif (Nat.ble (d2.length + 1) most) && true then
   (k480 rb d1 (d2 ++ [y1]) d3 d4 d5 d6).bind fun (z2 : List Int × List Int × List XO) =>
   k479 rb z2.2.2 z2.1 z2.2.1 d4 d5 (IntKind.i64.wrap (d6 + 1))
  else
   none
 else
  some (d3, d1, d2)
theorem eb479 (rf : T.RF) (rb : T.RB) (d1 : List XO) (d2 : List Int) (d3 : List Int) (d4 : List XS) (d5 : List (List Int)) (d6 : Int) : T.stepB rf rb 479 (d1, d2, d3, d4, d5, d6) = b479q rf rb d1 d2 d3 d4 d5 d6 := by kernel_rfl
theorem sb479 (rf : T.RF) (rb : T.RB) (d1 : List XO) (d2 : List Int) (d3 : List Int) (d4 : List XS) (d5 : List (List Int)) (d6 : Int) : b479q rf rb d1 d2 d3 d4 d5 d6 = b479 rf rb d1 d2 d3 d4 d5 d6 := by
 unfold b479q b479; simp only [agN_eq, agree_self, agree_swap]
noncomputable def b480 (rf : T.RF) (rb : T.RB) (d1 : List XO) (d2 : List Int) (d3 : List Int) (d4 : List XS) (d5 : List (List Int)) (d6 : Int) : Option (List Int × List Int × List XO) :=
 bif inb d6 d4.length then
  (nth d4 d6.toNat).bind fun (x1 : XS) =>
  (c112 rf x1.2.2).bind fun (y2 : XL) =>
  (k481 rb d1 d2 d3 d4 d5 d6 y2 0).bind fun (z3 : List Int × List Int × List XO) =>
  some z3
 else
  none
theorem eb480 (rf : T.RF) (rb : T.RB) (d1 : List XO) (d2 : List Int) (d3 : List Int) (d4 : List XS) (d5 : List (List Int)) (d6 : Int) : T.stepB rf rb 480 (d1, d2, d3, d4, d5, d6) = b480 rf rb d1 d2 d3 d4 d5 d6 := by kernel_rfl
noncomputable def b481q (rf : T.RF) (rb : T.RB) (d1 : List XO) (d2 : List Int) (d3 : List Int) (d4 : List XS) (d5 : List (List Int)) (d6 : Int) (d7 : XL) (d8 : Int) : Option (List Int × List Int × List XO) :=
 bif decide (d8 < (((d7.length : Nat) : Int))) then
  bif inb d8 d7.length then
   (nth d7 d8.toNat).bind fun (x1 : XN) =>
   bif x1.1 != 3 then
   agree (
   (c124 rf d4 d5 d7 d6 d8).bind fun (y2 : XO) =>
   bif (Nat.ble (d1.length + 1) most) && true then
   k481 rb (d1 ++ [y2]) d2 d3 d4 d5 d6 d7 (IntKind.i64.wrap (d8 + 1))
   else
   none
   ) (
   (c124 rf d4 d5 d7 d6 d8).bind fun (y2 : XO) =>
   agN 1 (
   bif (Nat.ble (d1.length + 1) most) && true then
   k481 rb (d1 ++ [y2]) d2 d3 d4 d5 d6 d7 (IntKind.i64.wrap (d8 + 1))
   else
   none
   )
   )
   else
   k481 rb d1 d2 d3 d4 d5 d6 d7 (IntKind.i64.wrap (d8 + 1))
  else
   none
 else
  some (d2, d3, d1)
noncomputable def b481 (rf : T.RF) (rb : T.RB) (d1 : List XO) (d2 : List Int) (d3 : List Int) (d4 : List XS) (d5 : List (List Int)) (d6 : Int) (d7 : XL) (d8 : Int) : Option (List Int × List Int × List XO) :=
 bif decide (d8 < (((d7.length : Nat) : Int))) then
  bif inb d8 d7.length then
   (nth d7 d8.toNat).bind fun (x1 : XN) =>
   bif x1.1 != 3 then
   (c124 rf d4 d5 d7 d6 d8).bind fun (y2 : XO) =>
   bif (Nat.ble (d1.length + 1) most) && true then
   k481 rb (d1 ++ [y2]) d2 d3 d4 d5 d6 d7 (IntKind.i64.wrap (d8 + 1))
   else
   none
   else
   k481 rb d1 d2 d3 d4 d5 d6 d7 (IntKind.i64.wrap (d8 + 1))
  else
   none
 else
  some (d2, d3, d1)
theorem eb481 (rf : T.RF) (rb : T.RB) (d1 : List XO) (d2 : List Int) (d3 : List Int) (d4 : List XS) (d5 : List (List Int)) (d6 : Int) (d7 : XL) (d8 : Int) : T.stepB rf rb 481 (d1, d2, d3, d4, d5, d6, d7, d8) = b481q rf rb d1 d2 d3 d4 d5 d6 d7 d8 := by kernel_rfl
theorem sb481 (rf : T.RF) (rb : T.RB) (d1 : List XO) (d2 : List Int) (d3 : List Int) (d4 : List XS) (d5 : List (List Int)) (d6 : Int) (d7 : XL) (d8 : Int) : b481q rf rb d1 d2 d3 d4 d5 d6 d7 d8 = b481 rf rb d1 d2 d3 d4 d5 d6 d7 d8 := by
 unfold b481q b481; simp only [agN_eq, agree_self, agree_swap]
noncomputable def r102 (rf : T.RF) (rb : T.RB) (d1 : List XS) : Option (XT × Int) :=
 (c103 rf d1).bind fun (y1 : Int) =>
 bif y1 == 1 then
  some (([], [], []), y1)
 else
  (k477 rb [] [] [] d1 0).bind fun (z2 : (List XO × List Int × List Int × List XO × List Int × List Int × Int) ⊕ XT) =>
  match z2 with
  | .inl u3 =>
    some ((u3.2.2.2.1, u3.2.2.2.2.1, u3.2.2.2.2.2.1), u3.2.2.2.2.2.2)
  | .inr w4 =>
    bif y1 != 0 then
     some (([], [], []), y1)
    else
     (k478 rb [] [] [] d1 0).bind fun (z5 : List Int × List XO × List Int) =>
     (c121 rf d1 (((z5.2.2.length : Nat) : Int))).bind fun (y6 : List (List Int)) =>
     (k479 rb z5.2.1 z5.1 z5.2.2 d1 y6 0).bind fun (z7 : List Int × List XO × List Int) =>
     some ((z7.2.1, z7.2.2, z7.1), 0)
theorem er102 (rf : T.RF) (rb : T.RB) (d1 : List XS) : T.stepF rf rb 102 d1 = r102 rf rb d1 := by kernel_rfl
noncomputable def r0 (rf : T.RF) (rb : T.RB) (d1 : List XS) : Option Bool :=
 (c1 rf d1 []).bind fun (y1 : Bool) =>
 bif !y1 then
  (c2 rf).bind fun (y2 : Bool) =>
  some y2
 else
  (c44 rf d1).bind fun (y3 : XT × Int) =>
  (c102 rf d1).bind fun (y4 : XT × Int) =>
  (c99 rf y3.1).bind fun (y5 : XT) =>
  (c100 rf y5 y4.1).bind fun (y6 : Bool) =>
  bif y6 then
   bif y3.2 == y4.2 then
   (c2 rf).bind fun (y7 : Bool) =>
   some y7
   else
   some false
  else
   some false
theorem er0 (rf : T.RF) (rb : T.RB) (d1 : List XS) : T.stepF rf rb 0 d1 = r0 rf rb d1 := by kernel_rfl
noncomputable def r126 (rf : T.RF) (rb : T.RB) (d1 : XT) : Option Bool :=
 bif decide ((((d1.1.length : Nat) : Int)) ≤ 300) then
  bif decide ((((d1.2.1.length : Nat) : Int)) ≤ 60) then
   some (decide ((((d1.2.2.length : Nat) : Int)) ≤ 60))
  else
   some false
 else
  some false
theorem er126 (rf : T.RF) (rb : T.RB) (d1 : XT) : T.stepF rf rb 126 d1 = r126 rf rb d1 := by kernel_rfl
theorem or126 {d1 : XT} {y : Bool} (h : r126 T.rf T.rb d1 = some y) : c126 T.rf d1 = some y := T.rf_of (f := 126) (d := d1) ((er126 T.rf T.rb d1).trans h)
noncomputable def b483 (rf : T.RF) (rb : T.RB) (d1 : XT) (d2 : List Int) (d3 : List Int) (d4 : List XO) (d5 : Int) : Option (XT × List Int × List Int × List XO) :=
 bif decide (d5 < (((d1.1.length : Nat) : Int))) then
  bif inb d5 d1.1.length then
   (nth d1.1 d5.toNat).bind fun (x1 : XO) =>
   bif (Nat.ble (d4.length + 1) most) && true then
   k483 rb d1 d2 d3 (d4 ++ [x1]) (IntKind.i64.wrap (d5 + 1))
   else
   none
  else
   none
 else
  some (d1, d2, d3, d4)
theorem eb483 (rf : T.RF) (rb : T.RB) (d1 : XT) (d2 : List Int) (d3 : List Int) (d4 : List XO) (d5 : Int) : T.stepB rf rb 483 (d1, d2, d3, d4, d5) = b483 rf rb d1 d2 d3 d4 d5 := by kernel_rfl
theorem ob483 {d1 : XT} {d2 : List Int} {d3 : List Int} {d4 : List XO} {d5 : Int} {y : (XT × List Int × List Int × List XO)} (h : b483 T.rf T.rb d1 d2 d3 d4 d5 = some y) : k483 T.rb d1 d2 d3 d4 d5 = some y := T.rb_of (κ := 483) (d := (d1, d2, d3, d4, d5)) ((eb483 T.rf T.rb d1 d2 d3 d4 d5).trans h)
noncomputable def r127 (rf : T.RF) (rb : T.RB) (d1 : XT) : Option XT :=
 (k483 rb d1 d1.2.1 d1.2.2 [] 0).bind fun (z1 : XT × List Int × List Int × List XO) =>
 some (z1.2.2.2, z1.2.1, z1.2.2.1)
theorem er127 (rf : T.RF) (rb : T.RB) (d1 : XT) : T.stepF rf rb 127 d1 = r127 rf rb d1 := by kernel_rfl
theorem or127 {d1 : XT} {y : XT} (h : r127 T.rf T.rb d1 = some y) : c127 T.rf d1 = some y := T.rf_of (f := 127) (d := d1) ((er127 T.rf T.rb d1).trans h)
noncomputable def r131 (rf : T.RF) (rb : T.RB) (d1 : Int) : Option Int :=
 bif d1 == 4 then
  bif d1 == 4 then
   some 1
  else
  bif d1 == 26 then
   some 3
  else
  bif decide (d1 ≥ 6) then
   bif decide (d1 ≤ 18) then
   some 2
   else
   some (-1)
  else
   some (-1)
 else
 bif d1 == 5 then
  some 1
 else
 bif d1 == 26 then
  some 3
 else
 bif decide (d1 ≥ 6) then
  bif decide (d1 ≤ 18) then
   some 2
  else
   some (-1)
 else
  some (-1)
theorem er131 (rf : T.RF) (rb : T.RB) (d1 : Int) : T.stepF rf rb 131 d1 = r131 rf rb d1 := by kernel_rfl
theorem or131 {d1 : Int} {y : Int} (h : r131 T.rf T.rb d1 = some y) : c131 T.rf d1 = some y := T.rf_of (f := 131) (d := d1) ((er131 T.rf T.rb d1).trans h)
noncomputable def r130 (rf : T.RF) (rb : T.RB) (d1 : Int) : Option Int :=
 bif d1 == 3 then
  bif d1 == 3 then
   some 0
  else
  bif d1 == 21 then
   some 1
  else
  bif d1 == 19 then
   some 2
  else
   (c131 rf d1).bind fun (y1 : Int) =>
   some y1
 else
 bif d1 == 1 then
  bif d1 == 1 then
   some 0
  else
  bif d1 == 21 then
   some 1
  else
  bif d1 == 19 then
   some 2
  else
   (c131 rf d1).bind fun (y2 : Int) =>
   some y2
 else
 bif d1 == 2 then
  some 0
 else
 bif d1 == 21 then
  some 1
 else
 bif d1 == 19 then
  some 2
 else
  (c131 rf d1).bind fun (y3 : Int) =>
  some y3
theorem er130 (rf : T.RF) (rb : T.RB) (d1 : Int) : T.stepF rf rb 130 d1 = r130 rf rb d1 := by kernel_rfl
theorem or130 {d1 : Int} {y : Int} (h : r130 T.rf T.rb d1 = some y) : c130 T.rf d1 = some y := T.rf_of (f := 130) (d := d1) ((er130 T.rf T.rb d1).trans h)
noncomputable def r133 (rf : T.RF) (rb : T.RB) (d1 : Int) : Option Bool :=
 bif decide (d1 ≥ (-2147483648)) then
  some (decide (d1 ≤ 2147483647))
 else
  some false
theorem er133 (rf : T.RF) (rb : T.RB) (d1 : Int) : T.stepF rf rb 133 d1 = r133 rf rb d1 := by kernel_rfl
theorem or133 {d1 : Int} {y : Bool} (h : r133 T.rf T.rb d1 = some y) : c133 T.rf d1 = some y := T.rf_of (f := 133) (d := d1) ((er133 T.rf T.rb d1).trans h)
noncomputable def r132 (rf : T.RF) (rb : T.RB) (d1 : XT) (d2 : XO) : Option Bool :=
 bif d2.1 == 3 then
  bif decide (d2.2.2.2.2 ≥ 0) then
   some (decide (d2.2.2.2.2 < (((d1.2.2.length : Nat) : Int))))
  else
   some false
 else
 bif d2.1 == 1 then
  (c133 rf d2.2.2.2.2).bind fun (y1 : Bool) =>
  some y1
 else
 bif d2.1 == 2 then
  bif d2.2.2.2.2 == 0 then
   some true
  else
   some (d2.2.2.2.2 == 1)
 else
  some (d2.2.2.2.2 == 0)
theorem er132 (rf : T.RF) (rb : T.RB) (d1 : XT) (d2 : XO) : T.stepF rf rb 132 (d1, d2) = r132 rf rb d1 d2 := by kernel_rfl
theorem or132 {d1 : XT} {d2 : XO} {y : Bool} (h : r132 T.rf T.rb d1 d2 = some y) : c132 T.rf d1 d2 = some y := T.rf_of (f := 132) (d := (d1, d2)) ((er132 T.rf T.rb d1 d2).trans h)
noncomputable def r134 (rf : T.RF) (rb : T.RB) (d1 : XT) (d2 : Int) (d3 : Int) (d4 : Int) : Option Bool :=
 bif decide (d4 ≥ d3) then
  some (d2 == (-1))
 else
 bif decide (d2 ≥ 0) then
  some (decide (d2 < (((d1.1.length : Nat) : Int))))
 else
  some false
theorem er134 (rf : T.RF) (rb : T.RB) (d1 : XT) (d2 : Int) (d3 : Int) (d4 : Int) : T.stepF rf rb 134 (d1, d2, d3, d4) = r134 rf rb d1 d2 d3 d4 := by kernel_rfl
theorem or134 {d1 : XT} {d2 : Int} {d3 : Int} {d4 : Int} {y : Bool} (h : r134 T.rf T.rb d1 d2 d3 d4 = some y) : c134 T.rf d1 d2 d3 d4 = some y := T.rf_of (f := 134) (d := (d1, d2, d3, d4)) ((er134 T.rf T.rb d1 d2 d3 d4).trans h)
noncomputable def b484 (rf : T.RF) (rb : T.RB) (d1 : XT) (d2 : Int) : Option ((XT × Bool) ⊕ XT) :=
 bif decide (d2 < (((d1.1.length : Nat) : Int))) then
  bif inb d2 d1.1.length then
   (nth d1.1 d2.toNat).bind fun (x1 : XO) =>
   (c130 rf x1.1).bind fun (y2 : Int) =>
   bif decide (y2 < 0) then
   some (.inl (d1, false))
   else
   (c132 rf d1 x1).bind fun (y3 : Bool) =>
   bif !y3 then
   some (.inl (d1, false))
   else
   (c134 rf d1 x1.2.1 y2 0).bind fun (y4 : Bool) =>
   bif !y4 then
   some (.inl (d1, false))
   else
   (c134 rf d1 x1.2.2.1 y2 1).bind fun (y5 : Bool) =>
   bif !y5 then
   some (.inl (d1, false))
   else
   (c134 rf d1 x1.2.2.2.1 y2 2).bind fun (y6 : Bool) =>
   bif !y6 then
   some (.inl (d1, false))
   else
   k484 rb d1 (IntKind.i64.wrap (d2 + 1))
  else
   none
 else
  some (.inr d1)
theorem eb484 (rf : T.RF) (rb : T.RB) (d1 : XT) (d2 : Int) : T.stepB rf rb 484 (d1, d2) = b484 rf rb d1 d2 := by kernel_rfl
theorem ob484 {d1 : XT} {d2 : Int} {y : ((XT × Bool) ⊕ XT)} (h : b484 T.rf T.rb d1 d2 = some y) : k484 T.rb d1 d2 = some y := T.rb_of (κ := 484) (d := (d1, d2)) ((eb484 T.rf T.rb d1 d2).trans h)
noncomputable def b485 (rf : T.RF) (rb : T.RB) (d1 : XT) (d2 : Int) : Option ((XT × Bool) ⊕ XT) :=
 bif decide (d2 < (((d1.2.1.length : Nat) : Int))) then
  bif inb d2 d1.2.1.length then
   (nth d1.2.1 d2.toNat).bind fun (x1 : Int) =>
   bif decide (x1 < 0) then
   some (.inl (d1, false))
   else
   bif inb d2 d1.2.1.length then
   (nth d1.2.1 d2.toNat).bind fun (x2 : Int) =>
   bif decide (x2 ≥ (((d1.1.length : Nat) : Int))) then
   some (.inl (d1, false))
   else
   k485 rb d1 (IntKind.i64.wrap (d2 + 1))
   else
   none
  else
   none
 else
  some (.inr d1)
theorem eb485 (rf : T.RF) (rb : T.RB) (d1 : XT) (d2 : Int) : T.stepB rf rb 485 (d1, d2) = b485 rf rb d1 d2 := by kernel_rfl
theorem ob485 {d1 : XT} {d2 : Int} {y : ((XT × Bool) ⊕ XT)} (h : b485 T.rf T.rb d1 d2 = some y) : k485 T.rb d1 d2 = some y := T.rb_of (κ := 485) (d := (d1, d2)) ((eb485 T.rf T.rb d1 d2).trans h)
noncomputable def r129 (rf : T.RF) (rb : T.RB) (d1 : XT) : Option Bool :=
 bif decide ((((d1.1.length : Nat) : Int)) > 100000) then
  some false
 else
  (k484 rb d1 0).bind fun (z1 : (XT × Bool) ⊕ XT) =>
  match z1 with
  | .inl u2 =>
    some u2.2
  | .inr w3 =>
    (k485 rb w3 0).bind fun (z4 : (XT × Bool) ⊕ XT) =>
    match z4 with
    | .inl u5 =>
      some u5.2
    | .inr w6 =>
      some true
theorem er129 (rf : T.RF) (rb : T.RB) (d1 : XT) : T.stepF rf rb 129 d1 = r129 rf rb d1 := by kernel_rfl
theorem or129 {d1 : XT} {y : Bool} (h : r129 T.rf T.rb d1 = some y) : c129 T.rf d1 = some y := T.rf_of (f := 129) (d := d1) ((er129 T.rf T.rb d1).trans h)
noncomputable def r136 (rf : T.RF) (rb : T.RB) (d1 : XO) : Option (List Int) :=
 bif d1.1 == 21 then
  some []
 else
  (c130 rf d1.1).bind fun (y1 : Int) =>
  bif inb' y1 3 then
   some (sub [d1.2.1, d1.2.2.1, d1.2.2.2.1] (some (0, (y1.toNat - 0))))
  else
   none
theorem er136 (rf : T.RF) (rb : T.RB) (d1 : XO) : T.stepF rf rb 136 d1 = r136 rf rb d1 := by kernel_rfl
theorem or136 {d1 : XO} {y : (List Int)} (h : r136 T.rf T.rb d1 = some y) : c136 T.rf d1 = some y := T.rf_of (f := 136) (d := d1) ((er136 T.rf T.rb d1).trans h)
noncomputable def b489 (rf : T.RF) (rb : T.RB) (d1 : XT) (d2 : List Bool) (d3 : List Int) : Option (XT × List Bool × List Int) :=
 (k490 rb d1 d2 (-1) (IntKind.i64.wrap ((((d1.1.length : Nat) : Int)) - 1))).bind fun (z1 : XT × List Bool × Int) =>
 bif decide (z1.2.2 < 0) then
  some (z1.1, z1.2.1, d3)
 else
 bif inb z1.2.2 z1.2.1.length then
  bif Nat.blt z1.2.2.toNat z1.2.1.length then
   bif (Nat.ble (d3.length + 1) most) && true then
   k489 rb z1.1 (setNth z1.2.1 z1.2.2.toNat true) (d3 ++ [z1.2.2])
   else
   none
  else
   none
 else
  none
theorem eb489 (rf : T.RF) (rb : T.RB) (d1 : XT) (d2 : List Bool) (d3 : List Int) : T.stepB rf rb 489 (d1, d2, d3) = b489 rf rb d1 d2 d3 := by kernel_rfl
theorem ob489 {d1 : XT} {d2 : List Bool} {d3 : List Int} {y : (XT × List Bool × List Int)} (h : b489 T.rf T.rb d1 d2 d3 = some y) : k489 T.rb d1 d2 d3 = some y := T.rb_of (κ := 489) (d := (d1, d2, d3)) ((eb489 T.rf T.rb d1 d2 d3).trans h)
noncomputable def b490 (rf : T.RF) (rb : T.RB) (d1 : XT) (d2 : List Bool) (d3 : Int) (d4 : Int) : Option (XT × List Bool × Int) :=
 bif decide (d4 ≥ 0) then
  bif inb d4 d2.length then
   (nth d2 d4.toNat).bind fun (x1 : Bool) =>
   bif inb d4 d1.1.length then
   (nth d1.1 d4.toNat).bind fun (x2 : XO) =>
   (c136 rf x2).bind fun (y3 : List Int) =>
   (k491 rb d2 y3 (!x1) 0).bind fun (z4 : List Bool × List Int × Bool) =>
   bif z4.2.2 then
   k490 rb d1 z4.1 d4 (IntKind.i64.wrap (d4 - 1))
   else
   k490 rb d1 z4.1 d3 (IntKind.i64.wrap (d4 - 1))
   else
   none
  else
   none
 else
  some (d1, d2, d3)
theorem eb490 (rf : T.RF) (rb : T.RB) (d1 : XT) (d2 : List Bool) (d3 : Int) (d4 : Int) : T.stepB rf rb 490 (d1, d2, d3, d4) = b490 rf rb d1 d2 d3 d4 := by kernel_rfl
theorem ob490 {d1 : XT} {d2 : List Bool} {d3 : Int} {d4 : Int} {y : (XT × List Bool × Int)} (h : b490 T.rf T.rb d1 d2 d3 d4 = some y) : k490 T.rb d1 d2 d3 d4 = some y := T.rb_of (κ := 490) (d := (d1, d2, d3, d4)) ((eb490 T.rf T.rb d1 d2 d3 d4).trans h)
noncomputable def b491 (rf : T.RF) (rb : T.RB) (d1 : List Bool) (d2 : List Int) (d3 : Bool) (d4 : Int) : Option (List Bool × List Int × Bool) :=
 bif decide (d4 < (((d2.length : Nat) : Int))) then
  bif d3 then
   bif inb d4 d2.length then
   (nth d2 d4.toNat).bind fun (x1 : Int) =>
   bif inb x1 d1.length then
   (nth d1 x1.toNat).bind fun (x2 : Bool) =>
   k491 rb d1 d2 x2 (IntKind.i64.wrap (d4 + 1))
   else
   none
   else
   none
  else
   k491 rb d1 d2 false (IntKind.i64.wrap (d4 + 1))
 else
  some (d1, d2, d3)
theorem eb491 (rf : T.RF) (rb : T.RB) (d1 : List Bool) (d2 : List Int) (d3 : Bool) (d4 : Int) : T.stepB rf rb 491 (d1, d2, d3, d4) = b491 rf rb d1 d2 d3 d4 := by kernel_rfl
theorem ob491 {d1 : List Bool} {d2 : List Int} {d3 : Bool} {d4 : Int} {y : (List Bool × List Int × Bool)} (h : b491 T.rf T.rb d1 d2 d3 d4 = some y) : k491 T.rb d1 d2 d3 d4 = some y := T.rb_of (κ := 491) (d := (d1, d2, d3, d4)) ((eb491 T.rf T.rb d1 d2 d3 d4).trans h)
noncomputable def r135 (rf : T.RF) (rb : T.RB) (d1 : XT) : Option (List Int) :=
 bif inb' (((d1.1.length : Nat) : Int)) most then
  bif inb' (((d1.1.length : Nat) : Int)) d1.1.length then
   (k489 rb d1 (List.replicate d1.1.length false) []).bind fun (z1 : XT × List Bool × List Int) =>
   some z1.2.2
  else
   none
 else
  none
theorem er135 (rf : T.RF) (rb : T.RB) (d1 : XT) : T.stepF rf rb 135 d1 = r135 rf rb d1 := by kernel_rfl
theorem or135 {d1 : XT} {y : (List Int)} (h : r135 T.rf T.rb d1 = some y) : c135 T.rf d1 = some y := T.rf_of (f := 135) (d := d1) ((er135 T.rf T.rb d1).trans h)
noncomputable def r128 (rf : T.RF) (rb : T.RB) (d1 : XT) : Option Int :=
 (c129 rf d1).bind fun (y1 : Bool) =>
 bif !y1 then
  some 1
 else
  (c135 rf d1).bind fun (y2 : List Int) =>
  bif decide ((((y2.length : Nat) : Int)) < (((d1.1.length : Nat) : Int))) then
   some 12
  else
   some 0
theorem er128 (rf : T.RF) (rb : T.RB) (d1 : XT) : T.stepF rf rb 128 d1 = r128 rf rb d1 := by kernel_rfl
theorem or128 {d1 : XT} {y : Int} (h : r128 T.rf T.rb d1 = some y) : c128 T.rf d1 = some y := T.rf_of (f := 128) (d := d1) ((er128 T.rf T.rb d1).trans h)
noncomputable def r125 (rf : T.RF) (rb : T.RB) (d1 : XT) : Option Bool :=
 (c126 rf d1).bind fun (y1 : Bool) =>
 bif !y1 then
  (c2 rf).bind fun (y2 : Bool) =>
  some y2
 else
  (c127 rf d1).bind fun (y3 : XT) =>
  (c82 rf y3).bind fun (y4 : Int) =>
  (c128 rf d1).bind fun (y5 : Int) =>
  bif y4 == y5 then
   (c2 rf).bind fun (y6 : Bool) =>
   some y6
  else
   some false
theorem er125 (rf : T.RF) (rb : T.RB) (d1 : XT) : T.stepF rf rb 125 d1 = r125 rf rb d1 := by kernel_rfl
theorem or125 {d1 : XT} {y : Bool} (h : r125 T.rf T.rb d1 = some y) : c125 T.rf d1 = some y := T.rf_of (f := 125) (d := d1) ((er125 T.rf T.rb d1).trans h)
noncomputable def b492 (rf : T.RF) (rb : T.RB) (d1 : List XS) (d2 : Int) (d3 : Int) : Option Int :=
 bif decide (d3 < (((d1.length : Nat) : Int))) then
  bif inb d3 d1.length then
   (nth d1 d3.toNat).bind fun (x1 : XS) =>
   bif (((x1.2.2.length : Nat) : Int)) == 0 then
   (k493 rb d1 (IntKind.i64.wrap (d2 + 1)) d3 0).bind fun (z2 : Int) =>
   k492 rb d1 z2 (IntKind.i64.wrap (d3 + 1))
   else
   (k493 rb d1 d2 d3 0).bind fun (z3 : Int) =>
   k492 rb d1 z3 (IntKind.i64.wrap (d3 + 1))
  else
   none
 else
  some d2
theorem eb492 (rf : T.RF) (rb : T.RB) (d1 : List XS) (d2 : Int) (d3 : Int) : T.stepB rf rb 492 (d1, d2, d3) = b492 rf rb d1 d2 d3 := by kernel_rfl
noncomputable def b493 (rf : T.RF) (rb : T.RB) (d1 : List XS) (d2 : Int) (d3 : Int) (d4 : Int) : Option Int :=
 bif inb d3 d1.length then
  (nth d1 d3.toNat).bind fun (x1 : XS) =>
  bif decide (d4 < (((x1.2.2.length : Nat) : Int))) then
   bif inb d3 d1.length then
   (nth d1 d3.toNat).bind fun (x2 : XS) =>
   bif inb d4 x2.2.2.length then
   (nth x2.2.2 d4.toNat).bind fun (x3 : XN) =>
   bif x3.1 != 3 then
   k493 rb d1 (IntKind.i64.wrap (d2 + 1)) d3 (IntKind.i64.wrap (d4 + 1))
   else
   k493 rb d1 d2 d3 (IntKind.i64.wrap (d4 + 1))
   else
   none
   else
   none
  else
   some d2
 else
  none
theorem eb493 (rf : T.RF) (rb : T.RB) (d1 : List XS) (d2 : Int) (d3 : Int) (d4 : Int) : T.stepB rf rb 493 (d1, d2, d3, d4) = b493 rf rb d1 d2 d3 d4 := by kernel_rfl
noncomputable def r137 (rf : T.RF) (rb : T.RB) (d1 : List XS) : Option Bool :=
 (c1 rf d1 []).bind fun (y1 : Bool) =>
 bif !y1 then
  (c2 rf).bind fun (y2 : Bool) =>
  some y2
 else
  (c44 rf d1).bind fun (y3 : XT × Int) =>
  bif y3.2 != 0 then
   (c2 rf).bind fun (y4 : Bool) =>
   some y4
  else
   (k492 rb d1 0 0).bind fun (z5 : Int) =>
   bif (((y3.1.1.length : Nat) : Int)) == z5 then
   bif (((y3.1.2.1.length : Nat) : Int)) == (((d1.length : Nat) : Int)) then
   (c2 rf).bind fun (y6 : Bool) =>
   some y6
   else
   some false
   else
   some false
theorem er137 (rf : T.RF) (rb : T.RB) (d1 : List XS) : T.stepF rf rb 137 d1 = r137 rf rb d1 := by kernel_rfl
noncomputable def b494 (rf : T.RF) (rb : T.RB) (d1 : XT) (d2 : Int) : Option ((XT × Bool) ⊕ XT) :=
 bif decide (d2 < (((d1.1.length : Nat) : Int))) then
  bif inb d2 d1.1.length then
   (nth d1.1 d2.toNat).bind fun (x1 : XO) =>
   (c130 rf x1.1).bind fun (y2 : Int) =>
   bif decide (y2 < 0) then
   some (.inl (d1, false))
   else
   bif !((decide (x1.2.1 ≥ 0)) == (decide (y2 > 0))) then
   some (.inl (d1, false))
   else
   bif !((decide (x1.2.2.1 ≥ 0)) == (decide (y2 > 1))) then
   some (.inl (d1, false))
   else
   bif !((decide (x1.2.2.2.1 ≥ 0)) == (decide (y2 > 2))) then
   some (.inl (d1, false))
   else
   bif !((x1.1 == 3) == (decide (d2 < (((d1.2.2.length : Nat) : Int))))) then
   some (.inl (d1, false))
   else
   bif decide (d2 < (((d1.2.2.length : Nat) : Int))) then
   bif x1.2.2.2.2 != d2 then
   some (.inl (d1, false))
   else
   k494 rb d1 (IntKind.i64.wrap (d2 + 1))
   else
   k494 rb d1 (IntKind.i64.wrap (d2 + 1))
  else
   none
 else
  some (.inr d1)
theorem eb494 (rf : T.RF) (rb : T.RB) (d1 : XT) (d2 : Int) : T.stepB rf rb 494 (d1, d2) = b494 rf rb d1 d2 := by kernel_rfl
noncomputable def r138 (rf : T.RF) (rb : T.RB) (d1 : List XS) : Option Bool :=
 (c1 rf d1 []).bind fun (y1 : Bool) =>
 bif !y1 then
  (c2 rf).bind fun (y2 : Bool) =>
  some y2
 else
  (c44 rf d1).bind fun (y3 : XT × Int) =>
  bif y3.2 != 0 then
   (c2 rf).bind fun (y4 : Bool) =>
   some y4
  else
  bif decide ((((y3.1.1.length : Nat) : Int)) < (((y3.1.2.2.length : Nat) : Int))) then
   some false
  else
   (k494 rb y3.1 0).bind fun (z5 : (XT × Bool) ⊕ XT) =>
   match z5 with
   | .inl u6 =>
     some u6.2
   | .inr w7 =>
     (c2 rf).bind fun (y8 : Bool) =>
     some y8
theorem er138 (rf : T.RF) (rb : T.RB) (d1 : List XS) : T.stepF rf rb 138 d1 = r138 rf rb d1 := by kernel_rfl
noncomputable def r139 (rf : T.RF) (rb : T.RB) (d1 : XT) (d2 : Int) : Option Bool :=
 (c126 rf d1).bind fun (y1 : Bool) =>
 bif !y1 then
  (c2 rf).bind fun (y2 : Bool) =>
  some y2
 else
  (c127 rf d1).bind fun (y3 : XT) =>
  (c82 rf y3).bind fun (y4 : Int) =>
  bif Nat.ble d1.2.1.length most then
   bif (Nat.ble (d1.2.1.length + 1) most) && true then
   (c82 rf (y3.1, d1.2.1 ++ [d2], y3.2.2)).bind fun (y5 : Int) =>
   (c82 rf (y3.1, [], y3.2.2)).bind fun (y6 : Int) =>
   bif decide (d2 < 0) then
   bif y5 == 1 then
   bif y4 != 0 then
   (c2 rf).bind fun (y7 : Bool) =>
   some y7
   else
   bif y6 == 0 then
   (c2 rf).bind fun (y8 : Bool) =>
   some y8
   else
   some false
   else
   some false
   else
   bif decide (d2 ≥ (((d1.1.length : Nat) : Int))) then
   bif y5 == 1 then
   bif y4 != 0 then
   (c2 rf).bind fun (y9 : Bool) =>
   some y9
   else
   bif y6 == 0 then
   (c2 rf).bind fun (y10 : Bool) =>
   some y10
   else
   some false
   else
   some false
   else
   bif y5 == y4 then
   bif y4 != 0 then
   (c2 rf).bind fun (y11 : Bool) =>
   some y11
   else
   bif y6 == 0 then
   (c2 rf).bind fun (y12 : Bool) =>
   some y12
   else
   some false
   else
   some false
   else
   none
  else
   none
theorem er139 (rf : T.RF) (rb : T.RB) (d1 : XT) (d2 : Int) : T.stepF rf rb 139 (d1, d2) = r139 rf rb d1 d2 := by kernel_rfl
theorem or139 {d1 : XT} {d2 : Int} {y : Bool} (h : r139 T.rf T.rb d1 d2 = some y) : c139 T.rf d1 d2 = some y := T.rf_of (f := 139) (d := (d1, d2)) ((er139 T.rf T.rb d1 d2).trans h)
theorem place_len : tabs.placeL.length = 495 := rfl
end Go.Proofs.YtadonikkibahnaaGreat.R
