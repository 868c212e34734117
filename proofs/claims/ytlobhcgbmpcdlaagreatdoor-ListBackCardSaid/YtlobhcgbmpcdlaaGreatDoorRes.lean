import Derived.Test.YtlobhcgbmpcdlaaGreatDoorResPA
open Option (bind_some)
namespace Go.Proofs.YtlobhcgbmpcdlaaGreatDoor.R
noncomputable section
open Go Go.Bm Go.Proofs
set_option linter.unusedVariables false
set_option linter.unusedSimpArgs false
set_option maxRecDepth 100000
def b70q (rf : T.RF) (rb : T.RB) (d1 : List UInt8) (d2 : List UInt8) (d3 : Int × Int) (d4 : XR) (d5 : List UInt8) (d6 : List UInt8) (d7 : List XUn) (d8 : List XUn) : Option ((List UInt8 × List UInt8 × (Int × Int) × XR × List UInt8 × List UInt8 × List XUn × List XUn × List XUn) ⊕ (List UInt8 × List UInt8 × (Int × Int) × XR × List UInt8 × List UInt8 × List XUn × List XUn)) :=
 (c23 rf d4).bind fun y1 =>
 bif y1.2 then
  agN 1 (
   bif decide (y1.1.2.1 < (((y1.1.1.length : Nat) : Int))) then
   (c26 rf y1.1 5).bind fun y2 =>
   (c23 rf y2).bind fun y3 =>
   bif !y3.2 then
   some (.inl (([] : List UInt8), ([] : List UInt8), y3.1.2.2, y3.1, d5, d6, d7, d8, []))
   else
   some (.inr (d5, d6, (0, 0), y3.1, d5, d6, d7, d8))
   else
   (c23 rf y1.1).bind fun y4 =>
   bif !y4.2 then
   some (.inl (([] : List UInt8), ([] : List UInt8), y4.1.2.2, y4.1, d5, d6, d7, d8, []))
   else
   some (.inr (d5, d6, (0, 0), y4.1, d5, d6, d7, d8))
  )
 else
  agN 1 (
   (c23 rf y1.1).bind fun y5 =>
   bif !y5.2 then
   some (.inl (([] : List UInt8), ([] : List UInt8), y5.1.2.2, y5.1, d5, d6, d7, d8, []))
   else
   some (.inr (d5, d6, (0, 0), y5.1, d5, d6, d7, d8))
  )
def b70 (rf : T.RF) (rb : T.RB) (d1 : List UInt8) (d2 : List UInt8) (d3 : Int × Int) (d4 : XR) (d5 : List UInt8) (d6 : List UInt8) (d7 : List XUn) (d8 : List XUn) : Option ((List UInt8 × List UInt8 × (Int × Int) × XR × List UInt8 × List UInt8 × List XUn × List XUn × List XUn) ⊕ (List UInt8 × List UInt8 × (Int × Int) × XR × List UInt8 × List UInt8 × List XUn × List XUn)) :=
 (c23 rf d4).bind fun y1 =>
 bif y1.2 then
  bif decide (y1.1.2.1 < (((y1.1.1.length : Nat) : Int))) then
   (c26 rf y1.1 5).bind fun y2 =>
   (c23 rf y2).bind fun y3 =>
   bif !y3.2 then
   some (.inl (([] : List UInt8), ([] : List UInt8), y3.1.2.2, y3.1, d5, d6, d7, d8, []))
   else
   some (.inr (d5, d6, (0, 0), y3.1, d5, d6, d7, d8))
  else
   (c23 rf y1.1).bind fun y4 =>
   bif !y4.2 then
   some (.inl (([] : List UInt8), ([] : List UInt8), y4.1.2.2, y4.1, d5, d6, d7, d8, []))
   else
   some (.inr (d5, d6, (0, 0), y4.1, d5, d6, d7, d8))
 else
  (c23 rf y1.1).bind fun y5 =>
  bif !y5.2 then
   some (.inl (([] : List UInt8), ([] : List UInt8), y5.1.2.2, y5.1, d5, d6, d7, d8, []))
  else
   some (.inr (d5, d6, (0, 0), y5.1, d5, d6, d7, d8))
theorem eb70 : EqB 70 fun a b => U8 (b70q a b) := fun _ _ _ => by kernel_rfl
theorem sb70 (rf rb d1 d2 d3 d4 d5 d6 d7 d8) : b70q rf rb d1 d2 d3 d4 d5 d6 d7 d8 = b70 rf rb d1 d2 d3 d4 d5 d6 d7 d8 := by
 unfold b70q b70; simp only [agN_eq, agree_self, agree_swap]
theorem ob70 {d1 d2 d3 d4 d5 d6 d7 d8 y} (h : b70 T.rf T.rb d1 d2 d3 d4 d5 d6 d7 d8 = some y) : k70 T.rb d1 d2 d3 d4 d5 d6 d7 d8 = some y := eb70.o ((sb70 _ _ _ _ _ _ _ _ _ _).trans h)
def r3 (rf : T.RF) (rb : T.RB) (d1 : List UInt8) : Option (XPg × Int × Int) :=
 (c4 rf d1).bind fun y1 =>
 bif y1.2.1 != 0 then
  some (([], ([] : List UInt8), ([] : List UInt8)), y1.2)
 else
  (k69 rb (y1.1, 0, 0, 0) ([] : List UInt8) ([] : List UInt8) []).bind fun z2 =>
  (c28 rf z2.1 ([109, 97, 105, 110] : List UInt8)).bind fun y3 =>
  (c24 rf y3).bind fun y4 =>
  (c28 rf y4.1 ([59] : List UInt8)).bind fun y5 =>
  (c21 rf y5 ([102, 97, 108, 108, 98, 97, 99, 107] : List UInt8)).bind fun y6 =>
  bif y6.2 then
   (c24 rf y6.1).bind fun y7 =>
   (c28 rf y7.1 ([59] : List UInt8)).bind fun y8 =>
   (k70 rb ([] : List UInt8) ([] : List UInt8) (0, 0) y8 y4.2 y7.2 [] z2.2.2.2).bind fun z9 =>
   match z9 with
   | .inl u10 =>
     some ((u10.2.2.2.2.2.2.2.2, u10.1, u10.2.1), u10.2.2.1)
   | .inr w11 =>
     some ((w11.2.2.2.2.2.2.2, w11.1, w11.2.1), w11.2.2.1)
  else
   (k70 rb ([] : List UInt8) ([] : List UInt8) (0, 0) y6.1 y4.2 z2.2.2.1 [] z2.2.2.2).bind fun z12 =>
   match z12 with
   | .inl u13 =>
     some ((u13.2.2.2.2.2.2.2.2, u13.1, u13.2.1), u13.2.2.1)
   | .inr w14 =>
     some ((w14.2.2.2.2.2.2.2, w14.1, w14.2.1), w14.2.2.1)
theorem er3 : EqF 3 fun a b => r3 a b := fun _ _ _ => by kernel_rfl
theorem or3 {d1 y} (h : r3 T.rf T.rb d1 = some y) : c3 T.rf d1 = some y := er3.o h
def r69 (rf : T.RF) (rb : T.RB) (d1 : List UInt8) : Option (List UInt8) :=
 some (rowX d1)
theorem er69 : EqF 69 fun a b => r69 a b := fun _ _ _ => by kernel_rfl
theorem or69 {d1 y} (h : r69 T.rf T.rb d1 = some y) : c69 T.rf d1 = some y := er69.o h
def r70 (rf : T.RF) (rb : T.RB) (d1 : Int) : Option Bool :=
 bif decide (d1 ≥ 48) then
  some (decide (d1 ≤ 57))
 else
  some false
theorem er70 : EqF 70 fun a b => r70 a b := fun _ _ _ => by kernel_rfl
theorem or70 {d1 y} (h : r70 T.rf T.rb d1 = some y) : c70 T.rf d1 = some y := er70.o h
def r74 (rf : T.RF) (rb : T.RB) (d1 : List UInt8) : Option Bool :=
 some (!(d1 == d1))
theorem er74 : EqF 74 fun a b => r74 a b := fun _ _ _ => by kernel_rfl
theorem or74 {d1 y} (h : r74 T.rf T.rb d1 = some y) : c74 T.rf d1 = some y := er74.o h
def r73 (rf : T.RF) (rb : T.RB) (d1 : List UInt8) (d2 : List UInt8) : Option Bool :=
 (c74 rf d1).bind fun y1 =>
 bif y1 then
  (c74 rf d2).bind fun y2 =>
  bif !y2 then
   some true
  else
   some (ltB d1 d2)
 else
  some (ltB d1 d2)
theorem er73 : EqF 73 fun a b => U2 (r73 a b) := fun _ _ _ => by kernel_rfl
theorem or73 {d1 d2 y} (h : r73 T.rf T.rb d1 d2 = some y) : c73 T.rf d1 d2 = some y := er73.o h
def r75 (rf : T.RF) (rb : T.RB) (d1 : List UInt8) : Option Bool :=
 some (!(d1 == d1))
theorem er75 : EqF 75 fun a b => r75 a b := fun _ _ _ => by kernel_rfl
theorem or75 {d1 y} (h : r75 T.rf T.rb d1 = some y) : c75 T.rf d1 = some y := er75.o h
def b71 (rf : T.RF) (rb : T.RB) (d1 : List (List UInt8)) (d2 : List UInt8) (d3 : Int) (d4 : Int) : Option Int :=
 bif decide (d3 < d4) then
  bif inb (IntKind.i64.wrap (shrI IntKind.u64 (IntKind.u64.wrap (IntKind.i64.wrap (d3 + d4))) 1)) d1.length then
   (nth d1 (IntKind.i64.wrap (shrI IntKind.u64 (IntKind.u64.wrap (IntKind.i64.wrap (d3 + d4))) 1)).toNat).bind fun x1 =>
   (c73 rf x1 d2).bind fun y2 =>
   bif y2 then
   k71 rb d1 d2 (IntKind.i64.wrap ((IntKind.i64.wrap (shrI IntKind.u64 (IntKind.u64.wrap (IntKind.i64.wrap (d3 + d4))) 1)) + 1)) d4
   else
   k71 rb d1 d2 d3 (IntKind.i64.wrap (shrI IntKind.u64 (IntKind.u64.wrap (IntKind.i64.wrap (d3 + d4))) 1))
  else
   none
 else
  some d3
theorem eb71 : EqB 71 fun a b => U4 (b71 a b) := fun _ _ _ => by kernel_rfl
theorem ob71 {d1 d2 d3 d4 y} (h : b71 T.rf T.rb d1 d2 d3 d4 = some y) : k71 T.rb d1 d2 d3 d4 = some y := eb71.o h
def r72 (rf : T.RF) (rb : T.RB) (d1 : List (List UInt8)) (d2 : List UInt8) : Option (Int × Bool) :=
 (k71 rb d1 d2 0 (((d1.length : Nat) : Int))).bind fun z1 =>
 bif decide (z1 < (((d1.length : Nat) : Int))) then
  bif inb z1 d1.length then
   (nth d1 z1.toNat).bind fun x2 =>
   bif x2 == d2 then
   some (z1, true)
   else
   bif inb z1 d1.length then
   (nth d1 z1.toNat).bind fun x3 =>
   (c75 rf x3).bind fun y4 =>
   bif y4 then
   (c75 rf d2).bind fun y5 =>
   some (z1, y5)
   else
   some (z1, false)
   else
   none
  else
   none
 else
  some (z1, false)
theorem er72 : EqF 72 fun a b => U2 (r72 a b) := fun _ _ _ => by kernel_rfl
theorem or72 {d1 d2 y} (h : r72 T.rf T.rb d1 d2 = some y) : c72 T.rf d1 d2 = some y := er72.o h
def r71 (rf : T.RF) (rb : T.RB) (d1 : List UInt8) : Option Bool :=
 (c72 rf wordsX d1).bind fun y1 =>
 some y1.2
theorem er71 : EqF 71 fun a b => r71 a b := fun _ _ _ => by kernel_rfl
theorem or71 {d1 y} (h : r71 T.rf T.rb d1 = some y) : c71 T.rf d1 = some y := er71.o h
def r68 (rf : T.RF) (rb : T.RB) (d1 : List UInt8) : Option Bool :=
 bif !(d1 == ([] : List UInt8)) then
  bif decide ((((d1.length : Nat) : Int)) ≤ 40) then
   (c69 rf d1).bind fun y1 =>
   bif y1 == d1 then
   bif inb 0 d1.length then
   (nth d1 0).bind fun b2 =>
   (c70 rf (IntKind.i32.wrap (((b2.toNat : Nat) : Int)))).bind fun y3 =>
   bif !y3 then
   (c71 rf d1).bind fun y4 =>
   some (!y4)
   else
   some false
   else
   none
   else
   some false
  else
   some false
 else
  some false
theorem er68 : EqF 68 fun a b => r68 a b := fun _ _ _ => by kernel_rfl
theorem or68 {d1 y} (h : r68 T.rf T.rb d1 = some y) : c68 T.rf d1 = some y := er68.o h
def r85 (rf : T.RF) (rb : T.RB) (d1 : XPm) : Option Bool :=
 (c68 rf d1.1).bind fun y1 =>
 bif y1 then
  bif d1.2 == 1 then
   some true
  else
   some (d1.2 == 2)
 else
  some false
theorem er85 : EqF 85 fun a b => r85 a b := fun _ _ _ => by kernel_rfl
theorem or85 {d1 y} (h : r85 T.rf T.rb d1 = some y) : c85 T.rf d1 = some y := er85.o h
def r84 (rf : T.RF) (rb : T.RB) (d1 : XPm) : Option Bool :=
 (c85 rf d1).bind fun y1 =>
 some (!y1)
theorem er84 : EqF 84 fun a b => r84 a b := fun _ _ _ => by kernel_rfl
theorem or84 {d1 y} (h : r84 T.rf T.rb d1 = some y) : c84 T.rf d1 = some y := er84.o h
def b73 (rf : T.RF) (rb : T.RB) (d1 : List XPm) (d2 : Int) (d3 : Int) : Option (Int ⊕ Unit) :=
 bif decide (d3 < d2) then
  bif inb d3 d1.length then
   (nth d1 d3.toNat).bind fun x1 =>
   (c84 rf x1).bind fun y2 =>
   bif y2 then
   some (.inl d3)
   else
   k73 rb d1 d2 (IntKind.i64.wrap (d3 + 1))
  else
   none
 else
  some (.inr ())
theorem eb73 : EqB 73 fun a b => U3 (b73 a b) := fun _ _ _ => by kernel_rfl
theorem ob73 {d1 d2 d3 y} (h : b73 T.rf T.rb d1 d2 d3 = some y) : k73 T.rb d1 d2 d3 = some y := eb73.o h
def r83 (rf : T.RF) (rb : T.RB) (d1 : List XPm) : Option Int :=
 (k73 rb d1 (((d1.length : Nat) : Int)) 0).bind fun z1 =>
 match z1 with
 | .inl u2 =>
   some u2
 | .inr w3 =>
   some (-1)
theorem er83 : EqF 83 fun a b => r83 a b := fun _ _ _ => by kernel_rfl
theorem or83 {d1 y} (h : r83 T.rf T.rb d1 = some y) : c83 T.rf d1 = some y := er83.o h
def r82 (rf : T.RF) (rb : T.RB) (d1 : List XPm) : Option Bool :=
 (c83 rf d1).bind fun y1 =>
 some (decide (y1 ≥ 0))
theorem er82 : EqF 82 fun a b => r82 a b := fun _ _ _ => by kernel_rfl
theorem or82 {d1 y} (h : r82 T.rf T.rb d1 = some y) : c82 T.rf d1 = some y := er82.o h
def r81 (rf : T.RF) (rb : T.RB) (d1 : List XPm) : Option Bool :=
 bif decide ((((d1.length : Nat) : Int)) ≤ 200) then
  (c82 rf d1).bind fun y1 =>
  some (!y1)
 else
  some false
theorem er81 : EqF 81 fun a b => r81 a b := fun _ _ _ => by kernel_rfl
theorem or81 {d1 y} (h : r81 T.rf T.rb d1 = some y) : c81 T.rf d1 = some y := er81.o h
def r94 (rf : T.RF) (rb : T.RB) (d1 : XN) : Option (List Int) :=
 bif d1.1 == 26 then
  some [d1.2.1, d1.2.2.1, d1.2.2.2.1]
 else
 bif d1.1 == 28 then
  bif d1.2.2.1 != (-1) then
   some [d1.2.2.1, d1.2.1]
  else
  bif d1.1 == 27 then
   bif d1.2.1 == (-1) then
   some []
   else
   bif decide (d1.1 ≥ 6) then
   bif decide (d1.1 ≤ 20) then
   some [d1.2.1, d1.2.2.1]
   else
   bif d1.1 == 4 then
   some [d1.2.1]
   else
   bif d1.1 == 5 then
   some [d1.2.1]
   else
   bif decide (d1.1 ≥ 21) then
   bif decide (d1.1 ≤ 28) then
   some [d1.2.1]
   else
   some []
   else
   some []
   else
   bif d1.1 == 4 then
   some [d1.2.1]
   else
   bif d1.1 == 5 then
   some [d1.2.1]
   else
   bif decide (d1.1 ≥ 21) then
   bif decide (d1.1 ≤ 28) then
   some [d1.2.1]
   else
   some []
   else
   some []
  else
  bif decide (d1.1 ≥ 6) then
   bif decide (d1.1 ≤ 20) then
   some [d1.2.1, d1.2.2.1]
   else
   bif d1.1 == 4 then
   some [d1.2.1]
   else
   bif d1.1 == 5 then
   some [d1.2.1]
   else
   bif decide (d1.1 ≥ 21) then
   bif decide (d1.1 ≤ 28) then
   some [d1.2.1]
   else
   some []
   else
   some []
  else
  bif d1.1 == 4 then
   some [d1.2.1]
  else
  bif d1.1 == 5 then
   some [d1.2.1]
  else
  bif decide (d1.1 ≥ 21) then
   bif decide (d1.1 ≤ 28) then
   some [d1.2.1]
   else
   some []
  else
   some []
 else
 bif d1.1 == 27 then
  bif d1.2.1 == (-1) then
   some []
  else
  bif decide (d1.1 ≥ 6) then
   bif decide (d1.1 ≤ 20) then
   some [d1.2.1, d1.2.2.1]
   else
   bif d1.1 == 4 then
   some [d1.2.1]
   else
   bif d1.1 == 5 then
   some [d1.2.1]
   else
   bif decide (d1.1 ≥ 21) then
   bif decide (d1.1 ≤ 28) then
   some [d1.2.1]
   else
   some []
   else
   some []
  else
  bif d1.1 == 4 then
   some [d1.2.1]
  else
  bif d1.1 == 5 then
   some [d1.2.1]
  else
  bif decide (d1.1 ≥ 21) then
   bif decide (d1.1 ≤ 28) then
   some [d1.2.1]
   else
   some []
  else
   some []
 else
 bif decide (d1.1 ≥ 6) then
  bif decide (d1.1 ≤ 20) then
   some [d1.2.1, d1.2.2.1]
  else
  bif d1.1 == 4 then
   some [d1.2.1]
  else
  bif d1.1 == 5 then
   some [d1.2.1]
  else
  bif decide (d1.1 ≥ 21) then
   bif decide (d1.1 ≤ 28) then
   some [d1.2.1]
   else
   some []
  else
   some []
 else
 bif d1.1 == 4 then
  some [d1.2.1]
 else
 bif d1.1 == 5 then
  some [d1.2.1]
 else
 bif decide (d1.1 ≥ 21) then
  bif decide (d1.1 ≤ 28) then
   some [d1.2.1]
  else
   some []
 else
  some []
theorem er94 : EqF 94 fun a b => r94 a b := fun _ _ _ => by kernel_rfl
theorem or94 {d1 y} (h : r94 T.rf T.rb d1 = some y) : c94 T.rf d1 = some y := er94.o h
def r95 (rf : T.RF) (rb : T.RB) (d1 : XN) (d2 : List Int) : Option XN :=
 bif d1.1 == 28 then
  bif (((d2.length : Nat) : Int)) == 2 then
   bif inb 0 d2.length then
   (nth d2 0).bind fun x1 =>
   bif inb 1 d2.length then
   (nth d2 1).bind fun x2 =>
   some (d1.1, x2, x1, d1.2.2.2)
   else
   none
   else
   none
  else
  bif decide (0 < (((d2.length : Nat) : Int))) then
   bif inb 0 d2.length then
   (nth d2 0).bind fun x3 =>
   bif decide (1 < (((d2.length : Nat) : Int))) then
   bif inb 1 d2.length then
   (nth d2 1).bind fun x4 =>
   bif decide (2 < (((d2.length : Nat) : Int))) then
   bif inb 2 d2.length then
   (nth d2 2).bind fun x5 =>
   some (d1.1, x3, x4, x5, d1.2.2.2.2)
   else
   none
   else
   some (d1.1, x3, x4, d1.2.2.2)
   else
   none
   else
   bif decide (2 < (((d2.length : Nat) : Int))) then
   bif inb 2 d2.length then
   (nth d2 2).bind fun x6 =>
   some (d1.1, x3, d1.2.2.1, x6, d1.2.2.2.2)
   else
   none
   else
   some (d1.1, x3, d1.2.2)
   else
   none
  else
  bif decide (1 < (((d2.length : Nat) : Int))) then
   bif inb 1 d2.length then
   (nth d2 1).bind fun x7 =>
   bif decide (2 < (((d2.length : Nat) : Int))) then
   bif inb 2 d2.length then
   (nth d2 2).bind fun x8 =>
   some (d1.1, d1.2.1, x7, x8, d1.2.2.2.2)
   else
   none
   else
   some (d1.1, d1.2.1, x7, d1.2.2.2)
   else
   none
  else
  bif decide (2 < (((d2.length : Nat) : Int))) then
   bif inb 2 d2.length then
   (nth d2 2).bind fun x9 =>
   some (d1.1, d1.2.1, d1.2.2.1, x9, d1.2.2.2.2)
   else
   none
  else
   some d1
 else
 bif decide (0 < (((d2.length : Nat) : Int))) then
  bif inb 0 d2.length then
   (nth d2 0).bind fun x10 =>
   bif decide (1 < (((d2.length : Nat) : Int))) then
   bif inb 1 d2.length then
   (nth d2 1).bind fun x11 =>
   bif decide (2 < (((d2.length : Nat) : Int))) then
   bif inb 2 d2.length then
   (nth d2 2).bind fun x12 =>
   some (d1.1, x10, x11, x12, d1.2.2.2.2)
   else
   none
   else
   some (d1.1, x10, x11, d1.2.2.2)
   else
   none
   else
   bif decide (2 < (((d2.length : Nat) : Int))) then
   bif inb 2 d2.length then
   (nth d2 2).bind fun x13 =>
   some (d1.1, x10, d1.2.2.1, x13, d1.2.2.2.2)
   else
   none
   else
   some (d1.1, x10, d1.2.2)
  else
   none
 else
 bif decide (1 < (((d2.length : Nat) : Int))) then
  bif inb 1 d2.length then
   (nth d2 1).bind fun x14 =>
   bif decide (2 < (((d2.length : Nat) : Int))) then
   bif inb 2 d2.length then
   (nth d2 2).bind fun x15 =>
   some (d1.1, d1.2.1, x14, x15, d1.2.2.2.2)
   else
   none
   else
   some (d1.1, d1.2.1, x14, d1.2.2.2)
  else
   none
 else
 bif decide (2 < (((d2.length : Nat) : Int))) then
  bif inb 2 d2.length then
   (nth d2 2).bind fun x16 =>
   some (d1.1, d1.2.1, d1.2.2.1, x16, d1.2.2.2.2)
  else
   none
 else
  some d1
theorem er95 : EqF 95 fun a b => U2 (r95 a b) := fun _ _ _ => by kernel_rfl
theorem or95 {d1 d2 y} (h : r95 T.rf T.rb d1 d2 = some y) : c95 T.rf d1 d2 = some y := er95.o h
def b76q (rf : T.RF) (rb : T.RB) (d1 : XN) (d2 : Int) : Option (XN × Bool) :=
 agree (
  (c94 rf d1).bind fun y1 =>
  agN 1 (
   (c95 rf (d1.1, (-1), (-1), (-1), d1.2.2.2.2) y1).bind fun y2 =>
   (k77 rb d1 y2 d2).bind fun z3 =>
   some (z3.1, z3.2.2)
  )
 ) (
  (c94 rf d1).bind fun y1 =>
  (c95 rf (d1.1, (-1), (-1), (-1), d1.2.2.2.2) y1).bind fun y2 =>
  (k77 rb d1 y2 d2).bind fun z3 =>
  some (z3.1, z3.2.2)
 )
def b76 (rf : T.RF) (rb : T.RB) (d1 : XN) (d2 : Int) : Option (XN × Bool) :=
 (c94 rf d1).bind fun y1 =>
 (c95 rf (d1.1, (-1), (-1), (-1), d1.2.2.2.2) y1).bind fun y2 =>
 (k77 rb d1 y2 d2).bind fun z3 =>
 some (z3.1, z3.2.2)
theorem eb76 : EqB 76 fun a b => U2 (b76q a b) := fun _ _ _ => by kernel_rfl
theorem sb76 (rf rb d1 d2) : b76q rf rb d1 d2 = b76 rf rb d1 d2 := by
 unfold b76q b76; simp only [agN_eq, agree_self, agree_swap]
theorem ob76 {d1 d2 y} (h : b76 T.rf T.rb d1 d2 = some y) : k76 T.rb d1 d2 = some y := eb76.o ((sb76 _ _ _ _).trans h)
def b77 (rf : T.RF) (rb : T.RB) (d1 : XN) (d2 : XN) (d3 : Int) : Option (XN × XN × Bool) :=
 bif d1.1 == 3 then
  bif decide (d1.1 ≥ 1) then
   bif decide (d1.1 ≤ 28) then
   bif (d1.1 == d2.1) && ((d1.2.1 == d2.2.1) && ((d1.2.2.1 == d2.2.2.1) && ((d1.2.2.2.1 == d2.2.2.2.1) && ((d1.2.2.2.2.1 == d2.2.2.2.2.1) && (d1.2.2.2.2.2 == d2.2.2.2.2.2))))) then
   bif decide (d1.2.2.2.2.1 ≥ 0) then
   bif decide (d1.2.2.2.2.1 ≤ d3) then
   some (d1, d2, (!(d1.2.2.2.2.2 == ([] : List UInt8))) == true)
   else
   some (d1, d2, false)
   else
   some (d1, d2, false)
   else
   some (d1, d2, false)
   else
   some (d1, d2, false)
  else
   some (d1, d2, false)
 else
 bif decide (d1.1 ≥ 1) then
  bif decide (d1.1 ≤ 28) then
   bif (d1.1 == d2.1) && ((d1.2.1 == d2.2.1) && ((d1.2.2.1 == d2.2.2.1) && ((d1.2.2.2.1 == d2.2.2.2.1) && ((d1.2.2.2.2.1 == d2.2.2.2.2.1) && (d1.2.2.2.2.2 == d2.2.2.2.2.2))))) then
   bif decide (d1.2.2.2.2.1 ≥ 0) then
   bif decide (d1.2.2.2.2.1 ≤ d3) then
   some (d1, d2, (!(d1.2.2.2.2.2 == ([] : List UInt8))) == (d1.1 == 27))
   else
   some (d1, d2, false)
   else
   some (d1, d2, false)
   else
   some (d1, d2, false)
  else
   some (d1, d2, false)
 else
  some (d1, d2, false)
theorem eb77 : EqB 77 fun a b => U3 (b77 a b) := fun _ _ _ => by kernel_rfl
theorem ob77 {d1 d2 d3 y} (h : b77 T.rf T.rb d1 d2 d3 = some y) : k77 T.rb d1 d2 d3 = some y := eb77.o h
def r93 (rf : T.RF) (rb : T.RB) (d1 : XN) : Option Bool :=
 bif d1.1 == 1 then
  (k76 rb d1 2147483647).bind fun z1 =>
  some z1.2
 else
 bif d1.1 == 2 then
  (k76 rb d1 1).bind fun z2 =>
  some z2.2
 else
 bif d1.1 == 25 then
  (k76 rb d1 1000).bind fun z3 =>
  some z3.2
 else
  (k76 rb d1 0).bind fun z4 =>
  some z4.2
theorem er93 : EqF 93 fun a b => r93 a b := fun _ _ _ => by kernel_rfl
theorem or93 {d1 y} (h : r93 T.rf T.rb d1 = some y) : c93 T.rf d1 = some y := er93.o h
def b79 (rf : T.RF) (rb : T.RB) (d1 : List Bool) (d2 : Bool) (d3 : Int) (d4 : Int) : Option (Int ⊕ Unit) :=
 bif decide (d4 < d3) then
  bif inb d4 d1.length then
   (nth d1 d4.toNat).bind fun x1 =>
   bif d2 == x1 then
   some (.inl d4)
   else
   k79 rb d1 d2 d3 (IntKind.i64.wrap (d4 + 1))
  else
   none
 else
  some (.inr ())
theorem eb79 : EqB 79 fun a b => U4 (b79 a b) := fun _ _ _ => by kernel_rfl
theorem ob79 {d1 d2 d3 d4 y} (h : b79 T.rf T.rb d1 d2 d3 d4 = some y) : k79 T.rb d1 d2 d3 d4 = some y := eb79.o h
def r97 (rf : T.RF) (rb : T.RB) (d1 : List Bool) (d2 : Bool) : Option Int :=
 (k79 rb d1 d2 (((d1.length : Nat) : Int)) 0).bind fun z1 =>
 match z1 with
 | .inl u2 =>
   some u2
 | .inr w3 =>
   some (-1)
theorem er97 : EqF 97 fun a b => U2 (r97 a b) := fun _ _ _ => by kernel_rfl
theorem or97 {d1 d2 y} (h : r97 T.rf T.rb d1 d2 = some y) : c97 T.rf d1 d2 = some y := er97.o h
def r96 (rf : T.RF) (rb : T.RB) (d1 : List Bool) (d2 : Bool) : Option Bool :=
 (c97 rf d1 d2).bind fun y1 =>
 some (decide (y1 ≥ 0))
theorem er96 : EqF 96 fun a b => U2 (r96 a b) := fun _ _ _ => by kernel_rfl
theorem or96 {d1 d2 y} (h : r96 T.rf T.rb d1 d2 = some y) : c96 T.rf d1 d2 = some y := er96.o h
def b86 (rf : T.RF) (rb : T.RB) (d1 : List Int) (d2 : List XN) (d3 : Int) (d4 : Int) : Option (List Int) :=
 bif decide (d4 < d3) then
  bif inb d4 d2.length then
   (nth d2 d4.toNat).bind fun x1 =>
   (c94 rf x1).bind fun y2 =>
   (k87 rb d1 y2 d4 (((y2.length : Nat) : Int)) 0).bind fun z3 =>
   bif inb d4 z3.1.length then
   (nth z3.1 d4.toNat).bind fun x4 =>
   bif inb d4 z3.1.length then
   bif Nat.blt d4.toNat z3.1.length then
   k86 rb (setNth z3.1 d4.toNat (IntKind.i64.wrap (x4 + 1))) d2 d3 (IntKind.i64.wrap (d4 + 1))
   else
   none
   else
   none
   else
   none
  else
   none
 else
  some d1
theorem eb86 : EqB 86 fun a b => U4 (b86 a b) := fun _ _ _ => by kernel_rfl
theorem ob86 {d1 d2 d3 d4 y} (h : b86 T.rf T.rb d1 d2 d3 d4 = some y) : k86 T.rb d1 d2 d3 d4 = some y := eb86.o h
def b87q (rf : T.RF) (rb : T.RB) (d1 : List Int) (d2 : List Int) (d3 : Int) (d4 : Int) (d5 : Int) : Option (List Int × List Int) :=
 bif decide (d5 < d4) then
  bif inb d5 d2.length then
   (nth d2 d5.toNat).bind fun x1 =>
   bif decide (x1 ≥ 0) then
   bif decide (x1 < d3) then
   bif inb d3 d1.length then
   bif inb x1 d1.length then
   agree (
   (nth d1 d3.toNat).bind fun x2 =>
   (nth d1 x1.toNat).bind fun x3 =>
   bif inb d3 d1.length then
   bif Nat.blt d3.toNat d1.length then
   k87 rb (setNth d1 d3.toNat (if x3 > x2 then x3 else x2)) d2 d3 d4 (IntKind.i64.wrap (d5 + 1))
   else
   none
   else
   none
   ) (
   (nth d1 x1.toNat).bind fun x2 =>
   (nth d1 d3.toNat).bind fun x3 =>
   bif inb d3 d1.length then
   bif Nat.blt d3.toNat d1.length then
   k87 rb (setNth d1 d3.toNat (if x2 > x3 then x2 else x3)) d2 d3 d4 (IntKind.i64.wrap (d5 + 1))
   else
   none
   else
   none
   )
   else
   none
   else
   none
   else
   k87 rb d1 d2 d3 d4 (IntKind.i64.wrap (d5 + 1))
   else
   k87 rb d1 d2 d3 d4 (IntKind.i64.wrap (d5 + 1))
  else
   none
 else
  some (d1, d2)
def b87 (rf : T.RF) (rb : T.RB) (d1 : List Int) (d2 : List Int) (d3 : Int) (d4 : Int) (d5 : Int) : Option (List Int × List Int) :=
 bif decide (d5 < d4) then
  bif inb d5 d2.length then
   (nth d2 d5.toNat).bind fun x1 =>
   bif decide (x1 ≥ 0) then
   bif decide (x1 < d3) then
   bif inb d3 d1.length then
   bif inb x1 d1.length then
   (nth d1 d3.toNat).bind fun x2 =>
   (nth d1 x1.toNat).bind fun x3 =>
   bif inb d3 d1.length then
   bif Nat.blt d3.toNat d1.length then
   k87 rb (setNth d1 d3.toNat (if x3 > x2 then x3 else x2)) d2 d3 d4 (IntKind.i64.wrap (d5 + 1))
   else
   none
   else
   none
   else
   none
   else
   none
   else
   k87 rb d1 d2 d3 d4 (IntKind.i64.wrap (d5 + 1))
   else
   k87 rb d1 d2 d3 d4 (IntKind.i64.wrap (d5 + 1))
  else
   none
 else
  some (d1, d2)
theorem eb87 : EqB 87 fun a b => U5 (b87q a b) := fun _ _ _ => by kernel_rfl
theorem sb87 (rf rb d1 d2 d3 d4 d5) : b87q rf rb d1 d2 d3 d4 d5 = b87 rf rb d1 d2 d3 d4 d5 := by
 unfold b87q b87; simp only [agN_eq, agree_self, agree_swap]
theorem ob87 {d1 d2 d3 d4 d5 y} (h : b87 T.rf T.rb d1 d2 d3 d4 d5 = some y) : k87 T.rb d1 d2 d3 d4 d5 = some y := eb87.o ((sb87 _ _ _ _ _ _ _).trans h)
def r99 (rf : T.RF) (rb : T.RB) (d1 : List XN) : Option (List Int) :=
 bif inb' (((d1.length : Nat) : Int)) most then
  bif inb' (((d1.length : Nat) : Int)) d1.length then
   (k86 rb (List.replicate d1.length (0 : Int)) d1 (((d1.length : Nat) : Int)) 0).bind fun z1 =>
   some z1
  else
   none
 else
  none
theorem er99 : EqF 99 fun a b => r99 a b := fun _ _ _ => by kernel_rfl
theorem or99 {d1 y} (h : r99 T.rf T.rb d1 = some y) : c99 T.rf d1 = some y := er99.o h
def r98 (rf : T.RF) (rb : T.RB) (d1 : List XN) : Option Int :=
 bif (((d1.length : Nat) : Int)) == 0 then
  some 0
 else
  (c99 rf d1).bind fun y1 =>
  bif inb (IntKind.i64.wrap ((((d1.length : Nat) : Int)) - 1)) y1.length then
   (nth y1 (IntKind.i64.wrap ((((d1.length : Nat) : Int)) - 1)).toNat).bind fun x2 =>
   some x2
  else
   none
theorem er98 : EqF 98 fun a b => r98 a b := fun _ _ _ => by kernel_rfl
theorem or98 {d1 y} (h : r98 T.rf T.rb d1 = some y) : c98 T.rf d1 = some y := er98.o h
def b75 (rf : T.RF) (rb : T.RB) (d1 : List Bool) (d2 : List XN) (d3 : List XN) (d4 : Int) (d5 : Int) : Option ((List Bool × Bool) ⊕ (List Bool)) :=
 bif decide (d5 < d4) then
  bif inb d5 d3.length then
   (nth d3 d5.toNat).bind fun x1 =>
   (c93 rf x1).bind fun y2 =>
   bif !y2 then
    some (.inl (d1, false))
   else
    (c94 rf x1).bind fun y3 =>
    (k78 rb d1 x1 y3 d2 d5 (((y3.length : Nat) : Int)) 0).bind fun z4 =>
    match z4 with
    | .inl u5 =>
      some (.inl (u5.1, u5.2.2.2))
    | .inr w6 =>
      k75 rb w6.1 d2 d3 d4 (IntKind.i64.wrap (d5 + 1))
  else
   none
 else
  some (.inr d1)
theorem eb75 : EqB 75 fun a b => U5 (b75 a b) := fun _ _ _ => by kernel_rfl
theorem ob75 {d1 d2 d3 d4 d5 y} (h : b75 T.rf T.rb d1 d2 d3 d4 d5 = some y) : k75 T.rb d1 d2 d3 d4 d5 = some y := eb75.o h
def b78 (rf : T.RF) (rb : T.RB) (d1 : List Bool) (d2 : XN) (d3 : List Int) (d4 : List XN) (d5 : Int) (d6 : Int) (d7 : Int) : Option ((List Bool × XN × List Int × Bool) ⊕ (List Bool × XN × List Int)) :=
 bif decide (d7 < d6) then
  bif inb d7 d3.length then
   (nth d3 d7.toNat).bind fun x1 =>
   bif decide (x1 < 0) then
   some (.inl (d1, d2, d3, false))
   else
   bif decide (x1 ≥ d5) then
   some (.inl (d1, d2, d3, false))
   else
   bif inb x1 d1.length then
   (nth d1 x1.toNat).bind fun x2 =>
   bif x2 then
   some (.inl (d1, d2, d3, false))
   else
   bif inb x1 d1.length then
   bif Nat.blt x1.toNat d1.length then
   bif d2.1 == 27 then
   bif inb x1 d4.length then
   (nth d4 x1.toNat).bind fun x3 =>
   bif !((x3.1 == 28) == true) then
   some (.inl (setNth d1 x1.toNat true, d2, d3, false))
   else
   k78 rb (setNth d1 x1.toNat true) d2 d3 d4 d5 d6 (IntKind.i64.wrap (d7 + 1))
   else
   none
   else
   bif d2.1 == 28 then
   bif d2.2.2.1 != (-1) then
   bif inb x1 d4.length then
   (nth d4 x1.toNat).bind fun x4 =>
   bif !((x4.1 == 28) == (d7 == 0)) then
   some (.inl (setNth d1 x1.toNat true, d2, d3, false))
   else
   k78 rb (setNth d1 x1.toNat true) d2 d3 d4 d5 d6 (IntKind.i64.wrap (d7 + 1))
   else
   none
   else
   bif inb x1 d4.length then
   (nth d4 x1.toNat).bind fun x5 =>
   bif !((x5.1 == 28) == false) then
   some (.inl (setNth d1 x1.toNat true, d2, d3, false))
   else
   k78 rb (setNth d1 x1.toNat true) d2 d3 d4 d5 d6 (IntKind.i64.wrap (d7 + 1))
   else
   none
   else
   bif inb x1 d4.length then
   (nth d4 x1.toNat).bind fun x6 =>
   bif !((x6.1 == 28) == false) then
   some (.inl (setNth d1 x1.toNat true, d2, d3, false))
   else
   k78 rb (setNth d1 x1.toNat true) d2 d3 d4 d5 d6 (IntKind.i64.wrap (d7 + 1))
   else
   none
   else
   none
   else
   none
   else
   none
  else
   none
 else
  some (.inr (d1, d2, d3))
theorem eb78 : EqB 78 fun a b => U7 (b78 a b) := fun _ _ _ => by kernel_rfl
theorem ob78 {d1 d2 d3 d4 d5 d6 d7 y} (h : b78 T.rf T.rb d1 d2 d3 d4 d5 d6 d7 = some y) : k78 T.rb d1 d2 d3 d4 d5 d6 d7 = some y := eb78.o h
def r92 (rf : T.RF) (rb : T.RB) (d1 : List XN) : Option Bool :=
 bif (((d1.length : Nat) : Int)) == 0 then
  some false
 else
 bif decide ((((d1.length : Nat) : Int)) > 5000) then
  some false
 else
 bif inb (IntKind.i64.wrap ((((d1.length : Nat) : Int)) - 1)) d1.length then
  (nth d1 (IntKind.i64.wrap ((((d1.length : Nat) : Int)) - 1)).toNat).bind fun x1 =>
  bif x1.1 == 28 then
   some false
  else
  bif inb' (((d1.length : Nat) : Int)) most then
   bif inb' (((d1.length : Nat) : Int)) d1.length then
    (k75 rb (List.replicate d1.length false) d1 d1 (((d1.length : Nat) : Int)) 0).bind fun z2 =>
    match z2 with
    | .inl u3 =>
      some u3.2
    | .inr w4 =>
      bif inb' (IntKind.i64.wrap ((((d1.length : Nat) : Int)) - 1)) w4.length then
       (c96 rf (sub w4 (some (0, ((IntKind.i64.wrap ((((d1.length : Nat) : Int)) - 1)).toNat - 0)))) false).bind fun y5 =>
       bif !y5 then
        (c98 rf d1).bind fun y6 =>
        some (decide (y6 ≤ 40))
       else
        some false
      else
       none
   else
    none
  else
   none
 else
  none
theorem er92 : EqF 92 fun a b => r92 a b := fun _ _ _ => by kernel_rfl
theorem or92 {d1 y} (h : r92 T.rf T.rb d1 = some y) : c92 T.rf d1 = some y := er92.o h
def r102 (rf : T.RF) (rb : T.RB) (d1 : XN) : Option Bool :=
 bif !(d1.2.2.2.2.2 == ([] : List UInt8)) then
  (c68 rf d1.2.2.2.2.2).bind fun y1 =>
  some (!y1)
 else
  some false
theorem er102 : EqF 102 fun a b => r102 a b := fun _ _ _ => by kernel_rfl
theorem or102 {d1 y} (h : r102 T.rf T.rb d1 = some y) : c102 T.rf d1 = some y := er102.o h
def b88 (rf : T.RF) (rb : T.RB) (d1 : List XN) (d2 : Int) (d3 : Int) : Option (Int ⊕ Unit) :=
 bif decide (d3 < d2) then
  bif inb d3 d1.length then
   (nth d1 d3.toNat).bind fun x1 =>
   (c102 rf x1).bind fun y2 =>
   bif y2 then
   some (.inl d3)
   else
   k88 rb d1 d2 (IntKind.i64.wrap (d3 + 1))
  else
   none
 else
  some (.inr ())
theorem eb88 : EqB 88 fun a b => U3 (b88 a b) := fun _ _ _ => by kernel_rfl
theorem ob88 {d1 d2 d3 y} (h : b88 T.rf T.rb d1 d2 d3 = some y) : k88 T.rb d1 d2 d3 = some y := eb88.o h
def r101 (rf : T.RF) (rb : T.RB) (d1 : List XN) : Option Int :=
 (k88 rb d1 (((d1.length : Nat) : Int)) 0).bind fun z1 =>
 match z1 with
 | .inl u2 =>
   some u2
 | .inr w3 =>
   some (-1)
theorem er101 : EqF 101 fun a b => r101 a b := fun _ _ _ => by kernel_rfl
theorem or101 {d1 y} (h : r101 T.rf T.rb d1 = some y) : c101 T.rf d1 = some y := er101.o h
def r100 (rf : T.RF) (rb : T.RB) (d1 : List XN) : Option Bool :=
 (c101 rf d1).bind fun y1 =>
 some (decide (y1 ≥ 0))
theorem er100 : EqF 100 fun a b => r100 a b := fun _ _ _ => by kernel_rfl
theorem or100 {d1 y} (h : r100 T.rf T.rb d1 = some y) : c100 T.rf d1 = some y := er100.o h
def r91 (rf : T.RF) (rb : T.RB) (d1 : List XN) : Option Bool :=
 (c92 rf d1).bind fun y1 =>
 bif y1 then
  (c100 rf d1).bind fun y2 =>
  some (!y2)
 else
  some false
theorem er91 : EqF 91 fun a b => r91 a b := fun _ _ _ => by kernel_rfl
theorem or91 {d1 y} (h : r91 T.rf T.rb d1 = some y) : c91 T.rf d1 = some y := er91.o h
def r90 (rf : T.RF) (rb : T.RB) (d1 : XEq) : Option Bool :=
 (c68 rf d1.1).bind fun y1 =>
 bif y1 then
  (c91 rf d1.2).bind fun y2 =>
  some y2
 else
  some false
theorem er90 : EqF 90 fun a b => r90 a b := fun _ _ _ => by kernel_rfl
theorem or90 {d1 y} (h : r90 T.rf T.rb d1 = some y) : c90 T.rf d1 = some y := er90.o h
def r89 (rf : T.RF) (rb : T.RB) (d1 : XEq) : Option Bool :=
 (c90 rf d1).bind fun y1 =>
 some (!y1)
theorem er89 : EqF 89 fun a b => r89 a b := fun _ _ _ => by kernel_rfl
theorem or89 {d1 y} (h : r89 T.rf T.rb d1 = some y) : c89 T.rf d1 = some y := er89.o h
def b74 (rf : T.RF) (rb : T.RB) (d1 : List XEq) (d2 : Int) (d3 : Int) : Option (Int ⊕ Unit) :=
 bif decide (d3 < d2) then
  bif inb d3 d1.length then
   (nth d1 d3.toNat).bind fun x1 =>
   (c89 rf x1).bind fun y2 =>
   bif y2 then
   some (.inl d3)
   else
   k74 rb d1 d2 (IntKind.i64.wrap (d3 + 1))
  else
   none
 else
  some (.inr ())
theorem eb74 : EqB 74 fun a b => U3 (b74 a b) := fun _ _ _ => by kernel_rfl
theorem ob74 {d1 d2 d3 y} (h : b74 T.rf T.rb d1 d2 d3 = some y) : k74 T.rb d1 d2 d3 = some y := eb74.o h
def r88 (rf : T.RF) (rb : T.RB) (d1 : List XEq) : Option Int :=
 (k74 rb d1 (((d1.length : Nat) : Int)) 0).bind fun z1 =>
 match z1 with
 | .inl u2 =>
   some u2
 | .inr w3 =>
   some (-1)
theorem er88 : EqF 88 fun a b => r88 a b := fun _ _ _ => by kernel_rfl
theorem or88 {d1 y} (h : r88 T.rf T.rb d1 = some y) : c88 T.rf d1 = some y := er88.o h
def r87 (rf : T.RF) (rb : T.RB) (d1 : List XEq) : Option Bool :=
 (c88 rf d1).bind fun y1 =>
 some (decide (y1 ≥ 0))
theorem er87 : EqF 87 fun a b => r87 a b := fun _ _ _ => by kernel_rfl
theorem or87 {d1 y} (h : r87 T.rf T.rb d1 = some y) : c87 T.rf d1 = some y := er87.o h
def r86 (rf : T.RF) (rb : T.RB) (d1 : List XEq) : Option Bool :=
 bif decide ((((d1.length : Nat) : Int)) ≤ 200) then
  (c87 rf d1).bind fun y1 =>
  some (!y1)
 else
  some false
theorem er86 : EqF 86 fun a b => r86 a b := fun _ _ _ => by kernel_rfl
theorem or86 {d1 y} (h : r86 T.rf T.rb d1 = some y) : c86 T.rf d1 = some y := er86.o h
def r111 (rf : T.RF) (rb : T.RB) (d1 : List XN) : Option Bool :=
 (c91 rf d1).bind fun y1 =>
 some (!y1)
theorem er111 : EqF 111 fun a b => r111 a b := fun _ _ _ => by kernel_rfl
theorem or111 {d1 y} (h : r111 T.rf T.rb d1 = some y) : c111 T.rf d1 = some y := er111.o h
def b90 (rf : T.RF) (rb : T.RB) (d1 : List (List XN)) (d2 : Int) (d3 : Int) : Option (Int ⊕ Unit) :=
 bif decide (d3 < d2) then
  bif inb d3 d1.length then
   (nth d1 d3.toNat).bind fun x1 =>
   (c111 rf x1).bind fun y2 =>
   bif y2 then
   some (.inl d3)
   else
   k90 rb d1 d2 (IntKind.i64.wrap (d3 + 1))
  else
   none
 else
  some (.inr ())
theorem eb90 : EqB 90 fun a b => U3 (b90 a b) := fun _ _ _ => by kernel_rfl
theorem ob90 {d1 d2 d3 y} (h : b90 T.rf T.rb d1 d2 d3 = some y) : k90 T.rb d1 d2 d3 = some y := eb90.o h
def r110 (rf : T.RF) (rb : T.RB) (d1 : List (List XN)) : Option Int :=
 (k90 rb d1 (((d1.length : Nat) : Int)) 0).bind fun z1 =>
 match z1 with
 | .inl u2 =>
   some u2
 | .inr w3 =>
   some (-1)
theorem er110 : EqF 110 fun a b => r110 a b := fun _ _ _ => by kernel_rfl
theorem or110 {d1 y} (h : r110 T.rf T.rb d1 = some y) : c110 T.rf d1 = some y := er110.o h
def r109 (rf : T.RF) (rb : T.RB) (d1 : List (List XN)) : Option Bool :=
 (c110 rf d1).bind fun y1 =>
 some (decide (y1 ≥ 0))
theorem er109 : EqF 109 fun a b => r109 a b := fun _ _ _ => by kernel_rfl
theorem or109 {d1 y} (h : r109 T.rf T.rb d1 = some y) : c109 T.rf d1 = some y := er109.o h
def r108 (rf : T.RF) (rb : T.RB) (d1 : List (List XN)) : Option Bool :=
 bif decide ((((d1.length : Nat) : Int)) ≤ 200) then
  (c109 rf d1).bind fun y1 =>
  some (!y1)
 else
  some false
theorem er108 : EqF 108 fun a b => r108 a b := fun _ _ _ => by kernel_rfl
theorem or108 {d1 y} (h : r108 T.rf T.rb d1 = some y) : c108 T.rf d1 = some y := er108.o h
def r107 (rf : T.RF) (rb : T.RB) (d1 : XIt) : Option Bool :=
 (c68 rf d1.2.1).bind fun y1 =>
 bif d1.2.2.1 == 1 then
  bif d1.1 == 1 then
   bif d1.1 == 1 then
   bif d1.2.1 == ([] : List UInt8) then
   bif d1.2.2.1 == 0 then
   (c91 rf d1.2.2.2.1).bind fun y2 =>
   bif y2 then
   some ((IntKind.i64.wrap ((((d1.2.2.2.2.1.length : Nat) : Int)) + (((d1.2.2.2.2.2.length : Nat) : Int)))) == 0)
   else
   some false
   else
   some false
   else
   some false
   else
   bif d1.1 == 3 then
   bif y1 then
   (c91 rf d1.2.2.2.1).bind fun y3 =>
   bif y3 then
   some ((IntKind.i64.wrap ((((d1.2.2.2.2.1.length : Nat) : Int)) + (((d1.2.2.2.2.2.length : Nat) : Int)))) == 0)
   else
   some false
   else
   some false
   else
   bif d1.1 == 4 then
   bif y1 then
   bif d1.2.2.1 == 0 then
   (c91 rf d1.2.2.2.1).bind fun y4 =>
   bif y4 then
   (c91 rf d1.2.2.2.2.1).bind fun y5 =>
   bif y5 then
   some ((((d1.2.2.2.2.2.length : Nat) : Int)) == 0)
   else
   some false
   else
   some false
   else
   some false
   else
   some false
   else
   bif d1.1 == 5 then
   bif y1 then
   bif d1.2.2.1 == 0 then
   bif (IntKind.i64.wrap ((((d1.2.2.2.1.length : Nat) : Int)) + (((d1.2.2.2.2.1.length : Nat) : Int)))) == 0 then
   (c108 rf d1.2.2.2.2.2).bind fun y6 =>
   some y6
   else
   some false
   else
   some false
   else
   some false
   else
   some false
  else
  bif d1.1 == 2 then
   bif d1.2.1 == ([] : List UInt8) then
   bif d1.2.2.1 == 0 then
   (c91 rf d1.2.2.2.1).bind fun y7 =>
   bif y7 then
   some ((IntKind.i64.wrap ((((d1.2.2.2.2.1.length : Nat) : Int)) + (((d1.2.2.2.2.2.length : Nat) : Int)))) == 0)
   else
   some false
   else
   some false
   else
   some false
  else
  bif d1.1 == 3 then
   bif y1 then
   (c91 rf d1.2.2.2.1).bind fun y8 =>
   bif y8 then
   some ((IntKind.i64.wrap ((((d1.2.2.2.2.1.length : Nat) : Int)) + (((d1.2.2.2.2.2.length : Nat) : Int)))) == 0)
   else
   some false
   else
   some false
  else
  bif d1.1 == 4 then
   bif y1 then
   bif d1.2.2.1 == 0 then
   (c91 rf d1.2.2.2.1).bind fun y9 =>
   bif y9 then
   (c91 rf d1.2.2.2.2.1).bind fun y10 =>
   bif y10 then
   some ((((d1.2.2.2.2.2.length : Nat) : Int)) == 0)
   else
   some false
   else
   some false
   else
   some false
   else
   some false
  else
  bif d1.1 == 5 then
   bif y1 then
   bif d1.2.2.1 == 0 then
   bif (IntKind.i64.wrap ((((d1.2.2.2.1.length : Nat) : Int)) + (((d1.2.2.2.2.1.length : Nat) : Int)))) == 0 then
   (c108 rf d1.2.2.2.2.2).bind fun y11 =>
   some y11
   else
   some false
   else
   some false
   else
   some false
  else
   some false
 else
 bif d1.1 == 1 then
  bif d1.1 == 1 then
   bif d1.2.1 == ([] : List UInt8) then
   bif d1.2.2.1 == 0 then
   (c91 rf d1.2.2.2.1).bind fun y12 =>
   bif y12 then
   some ((IntKind.i64.wrap ((((d1.2.2.2.2.1.length : Nat) : Int)) + (((d1.2.2.2.2.2.length : Nat) : Int)))) == 0)
   else
   some false
   else
   some false
   else
   some false
  else
  bif d1.1 == 3 then
   bif y1 then
   bif d1.2.2.1 == 2 then
   (c91 rf d1.2.2.2.1).bind fun y13 =>
   bif y13 then
   some ((IntKind.i64.wrap ((((d1.2.2.2.2.1.length : Nat) : Int)) + (((d1.2.2.2.2.2.length : Nat) : Int)))) == 0)
   else
   some false
   else
   some false
   else
   some false
  else
  bif d1.1 == 4 then
   bif y1 then
   bif d1.2.2.1 == 0 then
   (c91 rf d1.2.2.2.1).bind fun y14 =>
   bif y14 then
   (c91 rf d1.2.2.2.2.1).bind fun y15 =>
   bif y15 then
   some ((((d1.2.2.2.2.2.length : Nat) : Int)) == 0)
   else
   some false
   else
   some false
   else
   some false
   else
   some false
  else
  bif d1.1 == 5 then
   bif y1 then
   bif d1.2.2.1 == 0 then
   bif (IntKind.i64.wrap ((((d1.2.2.2.1.length : Nat) : Int)) + (((d1.2.2.2.2.1.length : Nat) : Int)))) == 0 then
   (c108 rf d1.2.2.2.2.2).bind fun y16 =>
   some y16
   else
   some false
   else
   some false
   else
   some false
  else
   some false
 else
 bif d1.1 == 2 then
  bif d1.2.1 == ([] : List UInt8) then
   bif d1.2.2.1 == 0 then
   (c91 rf d1.2.2.2.1).bind fun y17 =>
   bif y17 then
   some ((IntKind.i64.wrap ((((d1.2.2.2.2.1.length : Nat) : Int)) + (((d1.2.2.2.2.2.length : Nat) : Int)))) == 0)
   else
   some false
   else
   some false
  else
   some false
 else
 bif d1.1 == 3 then
  bif y1 then
   bif d1.2.2.1 == 2 then
   (c91 rf d1.2.2.2.1).bind fun y18 =>
   bif y18 then
   some ((IntKind.i64.wrap ((((d1.2.2.2.2.1.length : Nat) : Int)) + (((d1.2.2.2.2.2.length : Nat) : Int)))) == 0)
   else
   some false
   else
   some false
  else
   some false
 else
 bif d1.1 == 4 then
  bif y1 then
   bif d1.2.2.1 == 0 then
   (c91 rf d1.2.2.2.1).bind fun y19 =>
   bif y19 then
   (c91 rf d1.2.2.2.2.1).bind fun y20 =>
   bif y20 then
   some ((((d1.2.2.2.2.2.length : Nat) : Int)) == 0)
   else
   some false
   else
   some false
   else
   some false
  else
   some false
 else
 bif d1.1 == 5 then
  bif y1 then
   bif d1.2.2.1 == 0 then
   bif (IntKind.i64.wrap ((((d1.2.2.2.1.length : Nat) : Int)) + (((d1.2.2.2.2.1.length : Nat) : Int)))) == 0 then
   (c108 rf d1.2.2.2.2.2).bind fun y21 =>
   some y21
   else
   some false
   else
   some false
  else
   some false
 else
  some false
theorem er107 : EqF 107 fun a b => r107 a b := fun _ _ _ => by kernel_rfl
theorem or107 {d1 y} (h : r107 T.rf T.rb d1 = some y) : c107 T.rf d1 = some y := er107.o h
def r106 (rf : T.RF) (rb : T.RB) (d1 : XIt) : Option Bool :=
 (c107 rf d1).bind fun y1 =>
 some (!y1)
theorem er106 : EqF 106 fun a b => r106 a b := fun _ _ _ => by kernel_rfl
theorem or106 {d1 y} (h : r106 T.rf T.rb d1 = some y) : c106 T.rf d1 = some y := er106.o h
def b89 (rf : T.RF) (rb : T.RB) (d1 : List XIt) (d2 : Int) (d3 : Int) : Option (Int ⊕ Unit) :=
 bif decide (d3 < d2) then
  bif inb d3 d1.length then
   (nth d1 d3.toNat).bind fun x1 =>
   (c106 rf x1).bind fun y2 =>
   bif y2 then
   some (.inl d3)
   else
   k89 rb d1 d2 (IntKind.i64.wrap (d3 + 1))
  else
   none
 else
  some (.inr ())
theorem eb89 : EqB 89 fun a b => U3 (b89 a b) := fun _ _ _ => by kernel_rfl
theorem ob89 {d1 d2 d3 y} (h : b89 T.rf T.rb d1 d2 d3 = some y) : k89 T.rb d1 d2 d3 = some y := eb89.o h
def r105 (rf : T.RF) (rb : T.RB) (d1 : List XIt) : Option Int :=
 (k89 rb d1 (((d1.length : Nat) : Int)) 0).bind fun z1 =>
 match z1 with
 | .inl u2 =>
   some u2
 | .inr w3 =>
   some (-1)
theorem er105 : EqF 105 fun a b => r105 a b := fun _ _ _ => by kernel_rfl
theorem or105 {d1 y} (h : r105 T.rf T.rb d1 = some y) : c105 T.rf d1 = some y := er105.o h
def r104 (rf : T.RF) (rb : T.RB) (d1 : List XIt) : Option Bool :=
 (c105 rf d1).bind fun y1 =>
 some (decide (y1 ≥ 0))
theorem er104 : EqF 104 fun a b => r104 a b := fun _ _ _ => by kernel_rfl
theorem or104 {d1 y} (h : r104 T.rf T.rb d1 = some y) : c104 T.rf d1 = some y := er104.o h
def r103 (rf : T.RF) (rb : T.RB) (d1 : List XIt) : Option Bool :=
 bif decide ((((d1.length : Nat) : Int)) ≤ 200) then
  (c104 rf d1).bind fun y1 =>
  some (!y1)
 else
  some false
theorem er103 : EqF 103 fun a b => r103 a b := fun _ _ _ => by kernel_rfl
theorem or103 {d1 y} (h : r103 T.rf T.rb d1 = some y) : c103 T.rf d1 = some y := er103.o h
def r80 (rf : T.RF) (rb : T.RB) (d1 : XUn) : Option Bool :=
 (c68 rf d1.2.1).bind fun y1 =>
 bif !y1 then
  some false
 else
  (c81 rf d1.2.2.1).bind fun y2 =>
  bif !y2 then
   some false
  else
   (c81 rf d1.2.2.2.2.2.1).bind fun y3 =>
   bif !y3 then
   some false
   else
   (c86 rf d1.2.2.2.2.2.2.1).bind fun y4 =>
   bif !y4 then
   some false
   else
   (c103 rf d1.2.2.2.2.2.2.2).bind fun y5 =>
   bif !y5 then
   some false
   else
   bif d1.1 then
   bif (d1.2.2.2.1 == ([] : List UInt8)) && (d1.2.2.2.2.1 == 0) then
   some ((IntKind.i64.wrap ((((d1.2.2.2.2.2.1.length : Nat) : Int)) + (((d1.2.2.2.2.2.2.1.length : Nat) : Int)))) == 0)
   else
   some false
   else
   (c85 rf (d1.2.2.2.1, d1.2.2.2.2.1)).bind fun y6 =>
   some y6
theorem er80 : EqF 80 fun a b => r80 a b := fun _ _ _ => by kernel_rfl
theorem or80 {d1 y} (h : r80 T.rf T.rb d1 = some y) : c80 T.rf d1 = some y := er80.o h
def r79 (rf : T.RF) (rb : T.RB) (d1 : XUn) : Option Bool :=
 (c80 rf d1).bind fun y1 =>
 some (!y1)
theorem er79 : EqF 79 fun a b => r79 a b := fun _ _ _ => by kernel_rfl
theorem or79 {d1 y} (h : r79 T.rf T.rb d1 = some y) : c79 T.rf d1 = some y := er79.o h
def b72 (rf : T.RF) (rb : T.RB) (d1 : List XUn) (d2 : Int) (d3 : Int) : Option (Int ⊕ Unit) :=
 bif decide (d3 < d2) then
  bif inb d3 d1.length then
   (nth d1 d3.toNat).bind fun x1 =>
   (c79 rf x1).bind fun y2 =>
   bif y2 then
   some (.inl d3)
   else
   k72 rb d1 d2 (IntKind.i64.wrap (d3 + 1))
  else
   none
 else
  some (.inr ())
theorem eb72 : EqB 72 fun a b => U3 (b72 a b) := fun _ _ _ => by kernel_rfl
theorem ob72 {d1 d2 d3 y} (h : b72 T.rf T.rb d1 d2 d3 = some y) : k72 T.rb d1 d2 d3 = some y := eb72.o h
def r78 (rf : T.RF) (rb : T.RB) (d1 : List XUn) : Option Int :=
 (k72 rb d1 (((d1.length : Nat) : Int)) 0).bind fun z1 =>
 match z1 with
 | .inl u2 =>
   some u2
 | .inr w3 =>
   some (-1)
theorem er78 : EqF 78 fun a b => r78 a b := fun _ _ _ => by kernel_rfl
theorem or78 {d1 y} (h : r78 T.rf T.rb d1 = some y) : c78 T.rf d1 = some y := er78.o h
def r77 (rf : T.RF) (rb : T.RB) (d1 : List XUn) : Option Bool :=
 (c78 rf d1).bind fun y1 =>
 some (decide (y1 ≥ 0))
theorem er77 : EqF 77 fun a b => r77 a b := fun _ _ _ => by kernel_rfl
theorem or77 {d1 y} (h : r77 T.rf T.rb d1 = some y) : c77 T.rf d1 = some y := er77.o h
def r76 (rf : T.RF) (rb : T.RB) (d1 : List XUn) : Option Bool :=
 bif decide ((((d1.length : Nat) : Int)) ≤ 200) then
  (c77 rf d1).bind fun y1 =>
  some (!y1)
 else
  some false
theorem er76 : EqF 76 fun a b => r76 a b := fun _ _ _ => by kernel_rfl
theorem or76 {d1 y} (h : r76 T.rf T.rb d1 = some y) : c76 T.rf d1 = some y := er76.o h
def r67 (rf : T.RF) (rb : T.RB) (d1 : XPg) : Option Bool :=
 (c68 rf d1.2.1).bind fun y1 =>
 bif y1 then
  bif d1.2.2 == ([] : List UInt8) then
   (c76 rf d1.1).bind fun y2 =>
   some y2
  else
   (c68 rf d1.2.2).bind fun y3 =>
   bif y3 then
   (c76 rf d1.1).bind fun y4 =>
   some y4
   else
   some false
 else
  some false
theorem er67 : EqF 67 fun a b => r67 a b := fun _ _ _ => by kernel_rfl
theorem or67 {d1 y} (h : r67 T.rf T.rb d1 = some y) : c67 T.rf d1 = some y := er67.o h
def b93 (rf : T.RF) (rb : T.RB) (d1 : List XK) (d2 : List (List UInt8)) (d3 : Int) (d4 : Int) : Option (List XK) :=
 bif decide (d4 < d3) then
  bif inb d4 d2.length then
   (nth d2 d4.toNat).bind fun x1 =>
   bif (Nat.ble (d1.length + 1) most) && true then
   k93 rb (d1 ++ [(0, x1, 0)]) d2 d3 (IntKind.i64.wrap (d4 + 1))
   else
   none
  else
   none
 else
  some d1
theorem eb93 : EqB 93 fun a b => U4 (b93 a b) := fun _ _ _ => by kernel_rfl
theorem ob93 {d1 d2 d3 d4 y} (h : b93 T.rf T.rb d1 d2 d3 d4 = some y) : k93 T.rb d1 d2 d3 d4 = some y := eb93.o h
def r113 (rf : T.RF) (rb : T.RB) (d1 : List XK) (d2 : List (List UInt8)) : Option (List XK) :=
 (k93 rb d1 d2 (((d2.length : Nat) : Int)) 0).bind fun z1 =>
 some z1
theorem er113 : EqF 113 fun a b => U2 (r113 a b) := fun _ _ _ => by kernel_rfl
theorem or113 {d1 d2 y} (h : r113 T.rf T.rb d1 d2 = some y) : c113 T.rf d1 d2 = some y := er113.o h
def r116 (rf : T.RF) (rb : T.RB) (d1 : List XK) (d2 : XPm) : Option (List XK) :=
 (c113 rf d1 [d2.1, ([58] : List UInt8)]).bind fun y1 =>
 bif d2.2 == 1 then
  (c113 rf y1 [([98, 111, 111, 108] : List UInt8)]).bind fun y2 =>
  some y2
 else
  (c113 rf y1 [([105, 110, 116] : List UInt8)]).bind fun y3 =>
  some y3
theorem er116 : EqF 116 fun a b => U2 (r116 a b) := fun _ _ _ => by kernel_rfl
theorem or116 {d1 d2 y} (h : r116 T.rf T.rb d1 d2 = some y) : c116 T.rf d1 d2 = some y := er116.o h
def b95 (rf : T.RF) (rb : T.RB) (d1 : List XK) (d2 : List UInt8) (d3 : List XPm) (d4 : Int) (d5 : Int) : Option (List XK) :=
 bif decide (d5 < d4) then
  bif inb d5 d3.length then
   (nth d3 d5.toNat).bind fun x1 =>
   bif decide (d5 > 0) then
   (c113 rf d1 [d2]).bind fun y2 =>
   (c116 rf y2 x1).bind fun y3 =>
   k95 rb y3 d2 d3 d4 (IntKind.i64.wrap (d5 + 1))
   else
   (c116 rf d1 x1).bind fun y4 =>
   k95 rb y4 d2 d3 d4 (IntKind.i64.wrap (d5 + 1))
  else
   none
 else
  some d1
theorem eb95 : EqB 95 fun a b => U5 (b95 a b) := fun _ _ _ => by kernel_rfl
theorem ob95 {d1 d2 d3 d4 d5 y} (h : b95 T.rf T.rb d1 d2 d3 d4 d5 = some y) : k95 T.rb d1 d2 d3 d4 d5 = some y := eb95.o h
def r115 (rf : T.RF) (rb : T.RB) (d1 : List XK) (d2 : List XPm) (d3 : List UInt8) : Option (List XK) :=
 (k95 rb d1 d3 d2 (((d2.length : Nat) : Int)) 0).bind fun z1 =>
 some z1
theorem er115 : EqF 115 fun a b => U3 (r115 a b) := fun _ _ _ => by kernel_rfl
theorem or115 {d1 d2 d3 y} (h : r115 T.rf T.rb d1 d2 d3 = some y) : c115 T.rf d1 d2 d3 = some y := er115.o h
def r114 (rf : T.RF) (rb : T.RB) (d1 : List XK) (d2 : List XPm) : Option (List XK) :=
 (c113 rf d1 [([40] : List UInt8)]).bind fun y1 =>
 (c115 rf y1 d2 ([59] : List UInt8)).bind fun y2 =>
 (c113 rf y2 [([41] : List UInt8)]).bind fun y3 =>
 some y3
theorem er114 : EqF 114 fun a b => U2 (r114 a b) := fun _ _ _ => by kernel_rfl
theorem or114 {d1 d2 y} (h : r114 T.rf T.rb d1 d2 = some y) : c114 T.rf d1 d2 = some y := er114.o h
def r122 (rf : T.RF) (rb : T.RB) : Option (List UInt8 × Int × List UInt8 × Int × List UInt8 × Int × List UInt8 × Int × List UInt8 × Int × List UInt8 × Int × List UInt8 × Int × List UInt8 × Int × List UInt8 × Int × List UInt8 × Int × List UInt8 × Int × List UInt8 × Int × List UInt8 × Int × List UInt8 × Int × List UInt8 × Int × List UInt8 × Int × List UInt8 × Int × List UInt8 × Int × List UInt8 × Int × List UInt8 × Int × List UInt8 × Int × List UInt8 × Int × List UInt8 × Int × List UInt8 × Int × List UInt8 × Int × List UInt8 × Int × List UInt8 × XK) :=
 some (([] : List UInt8), (-1), ([] : List UInt8), 10, ([] : List UInt8), 10, ([] : List UInt8), 10, ([110, 111, 116] : List UInt8), 9, ([45] : List UInt8), 9, ([97, 110, 100] : List UInt8), 5, ([111, 114] : List UInt8), 4, ([120, 111, 114] : List UInt8), 4, ([61, 62] : List UInt8), 2, ([61] : List UInt8), 6, ([60, 62] : List UInt8), 6, ([60] : List UInt8), 6, ([60, 61] : List UInt8), 6, ([43] : List UInt8), 7, ([45] : List UInt8), 7, ([42] : List UInt8), 8, ([100, 105, 118] : List UInt8), 8, ([109, 111, 100] : List UInt8), 8, ([45, 62] : List UInt8), 1, ([115, 105, 110, 99, 101] : List UInt8), 3, ([112, 114, 101] : List UInt8), 9, ([111, 110, 99, 101] : List UInt8), 9, ([104, 105, 115, 116] : List UInt8), 9, ([112, 114, 101, 118] : List UInt8), 9, ([119, 105, 116, 104, 105, 110] : List UInt8), 9, ([105, 102] : List UInt8), 0, ([] : List UInt8), 10)
theorem er122 : EqF 122 fun a b => U0 (r122 a b) := fun _ _ _ => by kernel_rfl
theorem or122 { y} (h : r122 T.rf T.rb = some y) : c122 T.rf = some y := er122.o h
def r121 (rf : T.RF) (rb : T.RB) (d1 : Int) : Option XPm :=
 bif decide (d1 < 0) then
  some (([] : List UInt8), (-1))
 else
 bif decide (d1 ≥ 28) then
  some (([] : List UInt8), (-1))
 else
  (c122 rf).bind fun y1 =>
  bif inb d1 28 then
   (nth [(y1.1, y1.2.1), (y1.2.2.1, y1.2.2.2.1), (y1.2.2.2.2.1, y1.2.2.2.2.2.1), (y1.2.2.2.2.2.2.1, y1.2.2.2.2.2.2.2.1), (y1.2.2.2.2.2.2.2.2.1, y1.2.2.2.2.2.2.2.2.2.1), (y1.2.2.2.2.2.2.2.2.2.2.1, y1.2.2.2.2.2.2.2.2.2.2.2.1), (y1.2.2.2.2.2.2.2.2.2.2.2.2.1, y1.2.2.2.2.2.2.2.2.2.2.2.2.2.1), (y1.2.2.2.2.2.2.2.2.2.2.2.2.2.2.1, y1.2.2.2.2.2.2.2.2.2.2.2.2.2.2.2.1), (y1.2.2.2.2.2.2.2.2.2.2.2.2.2.2.2.2.1, y1.2.2.2.2.2.2.2.2.2.2.2.2.2.2.2.2.2.1), (y1.2.2.2.2.2.2.2.2.2.2.2.2.2.2.2.2.2.2.1, y1.2.2.2.2.2.2.2.2.2.2.2.2.2.2.2.2.2.2.2.1), (y1.2.2.2.2.2.2.2.2.2.2.2.2.2.2.2.2.2.2.2.2.1, y1.2.2.2.2.2.2.2.2.2.2.2.2.2.2.2.2.2.2.2.2.2.1), (y1.2.2.2.2.2.2.2.2.2.2.2.2.2.2.2.2.2.2.2.2.2.2.1, y1.2.2.2.2.2.2.2.2.2.2.2.2.2.2.2.2.2.2.2.2.2.2.2.1), (y1.2.2.2.2.2.2.2.2.2.2.2.2.2.2.2.2.2.2.2.2.2.2.2.2.1, y1.2.2.2.2.2.2.2.2.2.2.2.2.2.2.2.2.2.2.2.2.2.2.2.2.2.1), (y1.2.2.2.2.2.2.2.2.2.2.2.2.2.2.2.2.2.2.2.2.2.2.2.2.2.2.1, y1.2.2.2.2.2.2.2.2.2.2.2.2.2.2.2.2.2.2.2.2.2.2.2.2.2.2.2.1), (y1.2.2.2.2.2.2.2.2.2.2.2.2.2.2.2.2.2.2.2.2.2.2.2.2.2.2.2.2.1, y1.2.2.2.2.2.2.2.2.2.2.2.2.2.2.2.2.2.2.2.2.2.2.2.2.2.2.2.2.2.1), (y1.2.2.2.2.2.2.2.2.2.2.2.2.2.2.2.2.2.2.2.2.2.2.2.2.2.2.2.2.2.2.1, y1.2.2.2.2.2.2.2.2.2.2.2.2.2.2.2.2.2.2.2.2.2.2.2.2.2.2.2.2.2.2.2.1), (y1.2.2.2.2.2.2.2.2.2.2.2.2.2.2.2.2.2.2.2.2.2.2.2.2.2.2.2.2.2.2.2.2.1, y1.2.2.2.2.2.2.2.2.2.2.2.2.2.2.2.2.2.2.2.2.2.2.2.2.2.2.2.2.2.2.2.2.2.1), (y1.2.2.2.2.2.2.2.2.2.2.2.2.2.2.2.2.2.2.2.2.2.2.2.2.2.2.2.2.2.2.2.2.2.2.1, y1.2.2.2.2.2.2.2.2.2.2.2.2.2.2.2.2.2.2.2.2.2.2.2.2.2.2.2.2.2.2.2.2.2.2.2.1), (y1.2.2.2.2.2.2.2.2.2.2.2.2.2.2.2.2.2.2.2.2.2.2.2.2.2.2.2.2.2.2.2.2.2.2.2.2.1, y1.2.2.2.2.2.2.2.2.2.2.2.2.2.2.2.2.2.2.2.2.2.2.2.2.2.2.2.2.2.2.2.2.2.2.2.2.2.1), (y1.2.2.2.2.2.2.2.2.2.2.2.2.2.2.2.2.2.2.2.2.2.2.2.2.2.2.2.2.2.2.2.2.2.2.2.2.2.2.1, y1.2.2.2.2.2.2.2.2.2.2.2.2.2.2.2.2.2.2.2.2.2.2.2.2.2.2.2.2.2.2.2.2.2.2.2.2.2.2.2.1), (y1.2.2.2.2.2.2.2.2.2.2.2.2.2.2.2.2.2.2.2.2.2.2.2.2.2.2.2.2.2.2.2.2.2.2.2.2.2.2.2.2.1, y1.2.2.2.2.2.2.2.2.2.2.2.2.2.2.2.2.2.2.2.2.2.2.2.2.2.2.2.2.2.2.2.2.2.2.2.2.2.2.2.2.2.1), (y1.2.2.2.2.2.2.2.2.2.2.2.2.2.2.2.2.2.2.2.2.2.2.2.2.2.2.2.2.2.2.2.2.2.2.2.2.2.2.2.2.2.2.1, y1.2.2.2.2.2.2.2.2.2.2.2.2.2.2.2.2.2.2.2.2.2.2.2.2.2.2.2.2.2.2.2.2.2.2.2.2.2.2.2.2.2.2.2.1), (y1.2.2.2.2.2.2.2.2.2.2.2.2.2.2.2.2.2.2.2.2.2.2.2.2.2.2.2.2.2.2.2.2.2.2.2.2.2.2.2.2.2.2.2.2.1, y1.2.2.2.2.2.2.2.2.2.2.2.2.2.2.2.2.2.2.2.2.2.2.2.2.2.2.2.2.2.2.2.2.2.2.2.2.2.2.2.2.2.2.2.2.2.1), (y1.2.2.2.2.2.2.2.2.2.2.2.2.2.2.2.2.2.2.2.2.2.2.2.2.2.2.2.2.2.2.2.2.2.2.2.2.2.2.2.2.2.2.2.2.2.2.1, y1.2.2.2.2.2.2.2.2.2.2.2.2.2.2.2.2.2.2.2.2.2.2.2.2.2.2.2.2.2.2.2.2.2.2.2.2.2.2.2.2.2.2.2.2.2.2.2.1), (y1.2.2.2.2.2.2.2.2.2.2.2.2.2.2.2.2.2.2.2.2.2.2.2.2.2.2.2.2.2.2.2.2.2.2.2.2.2.2.2.2.2.2.2.2.2.2.2.2.1, y1.2.2.2.2.2.2.2.2.2.2.2.2.2.2.2.2.2.2.2.2.2.2.2.2.2.2.2.2.2.2.2.2.2.2.2.2.2.2.2.2.2.2.2.2.2.2.2.2.2.1), (y1.2.2.2.2.2.2.2.2.2.2.2.2.2.2.2.2.2.2.2.2.2.2.2.2.2.2.2.2.2.2.2.2.2.2.2.2.2.2.2.2.2.2.2.2.2.2.2.2.2.2.1, y1.2.2.2.2.2.2.2.2.2.2.2.2.2.2.2.2.2.2.2.2.2.2.2.2.2.2.2.2.2.2.2.2.2.2.2.2.2.2.2.2.2.2.2.2.2.2.2.2.2.2.2.1), (y1.2.2.2.2.2.2.2.2.2.2.2.2.2.2.2.2.2.2.2.2.2.2.2.2.2.2.2.2.2.2.2.2.2.2.2.2.2.2.2.2.2.2.2.2.2.2.2.2.2.2.2.2.1, y1.2.2.2.2.2.2.2.2.2.2.2.2.2.2.2.2.2.2.2.2.2.2.2.2.2.2.2.2.2.2.2.2.2.2.2.2.2.2.2.2.2.2.2.2.2.2.2.2.2.2.2.2.2.1), y1.2.2.2.2.2.2.2.2.2.2.2.2.2.2.2.2.2.2.2.2.2.2.2.2.2.2.2.2.2.2.2.2.2.2.2.2.2.2.2.2.2.2.2.2.2.2.2.2.2.2.2.2.2.2] d1.toNat).bind fun x2 =>
   some x2
  else
   none
theorem er121 : EqF 121 fun a b => r121 a b := fun _ _ _ => by kernel_rfl
theorem or121 {d1 y} (h : r121 T.rf T.rb d1 = some y) : c121 T.rf d1 = some y := er121.o h
def r123 (rf : T.RF) (rb : T.RB) (d1 : Int) : Option (List UInt8) :=
 bif fits64 d1 then
  some (itoaX d1)
 else
  none
theorem er123 : EqF 123 fun a b => r123 a b := fun _ _ _ => by kernel_rfl
theorem or123 {d1 y} (h : r123 T.rf T.rb d1 = some y) : c123 T.rf d1 = some y := er123.o h
def b99 (rf : T.RF) (rb : T.RB) (d1 : List XN) (d2 : List XK) (d3 : List (List UInt8)) (d4 : Int) (d5 : Int) : Option (List XN × List XK) :=
 bif decide (d5 < d4) then
  bif inb d5 d3.length then
   (nth d3 d5.toNat).bind fun x1 =>
   bif (Nat.ble (d2.length + 1) most) && true then
   k99 rb d1 (d2 ++ [(0, x1, 0)]) d3 d4 (IntKind.i64.wrap (d5 + 1))
   else
   none
  else
   none
 else
  some (d1, d2)
theorem eb99 : EqB 99 fun a b => U5 (b99 a b) := fun _ _ _ => by kernel_rfl
theorem ob99 {d1 d2 d3 d4 d5 y} (h : b99 T.rf T.rb d1 d2 d3 d4 d5 = some y) : k99 T.rb d1 d2 d3 d4 d5 = some y := eb99.o h
def r124 (rf : T.RF) (rb : T.RB) (d1 : List XN) (d2 : List XK) (d3 : List (List UInt8)) : Option (List XN × List XK) :=
 (k99 rb d1 d2 d3 (((d3.length : Nat) : Int)) 0).bind fun z1 =>
 some z1
theorem er124 : EqF 124 fun a b => U3 (r124 a b) := fun _ _ _ => by kernel_rfl
theorem or124 {d1 d2 d3 y} (h : r124 T.rf T.rb d1 d2 d3 = some y) : c124 T.rf d1 d2 d3 = some y := er124.o h
def r126 (rf : T.RF) (rb : T.RB) (d1 : Bool) : Option (List UInt8) :=
 bif d1 then
  some ([116, 114, 117, 101] : List UInt8)
 else
  some ([102, 97, 108, 115, 101] : List UInt8)
theorem er126 : EqF 126 fun a b => r126 a b := fun _ _ _ => by kernel_rfl
theorem or126 {d1 y} (h : r126 T.rf T.rb d1 = some y) : c126 T.rf d1 = some y := er126.o h
def r125 (rf : T.RF) (rb : T.RB) (d1 : Bool) : Option (List UInt8) :=
 (c126 rf d1).bind fun y1 =>
 some y1
theorem er125 : EqF 125 fun a b => r125 a b := fun _ _ _ => by kernel_rfl
theorem or125 {d1 y} (h : r125 T.rf T.rb d1 = some y) : c125 T.rf d1 = some y := er125.o h
def r127 (rf : T.RF) (rb : T.RB) (d1 : List XN) (d2 : List XK) (d3 : Int) : Option (List XN × List XK) :=
 bif inb d3 d1.length then
  (nth d1 d3.toNat).bind fun x1 =>
  bif decide (x1.2.2.1 ≥ 0) then
   (c127 rf d1 d2 x1.2.2.1).bind fun y2 =>
   (c124 rf y2.1 y2.2 [([44] : List UInt8)]).bind fun y3 =>
   bif inb d3 y3.1.length then
   (nth y3.1 d3.toNat).bind fun x4 =>
   (c120 rf y3.1 y3.2 x4.2.1).bind fun y5 =>
   some y5
   else
   none
  else
  bif inb d3 d1.length then
   (nth d1 d3.toNat).bind fun x6 =>
   (c120 rf d1 d2 x6.2.1).bind fun y7 =>
   some y7
  else
   none
 else
  none
theorem er127 : EqF 127 fun a b => U3 (r127 a b) := fun _ _ _ => by kernel_rfl
theorem or127 {d1 d2 d3 y} (h : r127 T.rf T.rb d1 d2 d3 = some y) : c127 T.rf d1 d2 d3 = some y := er127.o h
def r129 (rf : T.RF) (rb : T.RB) (d1 : Int) : Option Int :=
 (c121 rf d1).bind fun y1 =>
 some y1.2
theorem er129 : EqF 129 fun a b => r129 a b := fun _ _ _ => by kernel_rfl
theorem or129 {d1 y} (h : r129 T.rf T.rb d1 = some y) : c129 T.rf d1 = some y := er129.o h
def r128 (rf : T.RF) (rb : T.RB) (d1 : List XN) (d2 : List XK) (d3 : Int) (d4 : Int) : Option (List XN × List XK) :=
 bif inb d3 d1.length then
  (nth d1 d3.toNat).bind fun x1 =>
  (c129 rf x1.1).bind fun y2 =>
  bif decide (y2 ≥ d4) then
   (c120 rf d1 d2 d3).bind fun y3 =>
   some y3
  else
   (c124 rf d1 d2 [([40] : List UInt8)]).bind fun y4 =>
   (c120 rf y4.1 y4.2 d3).bind fun y5 =>
   (c124 rf y5.1 y5.2 [([41] : List UInt8)]).bind fun y6 =>
   some y6
 else
  none
theorem er128 : EqF 128 fun a b => U4 (r128 a b) := fun _ _ _ => by kernel_rfl
theorem or128 {d1 d2 d3 d4 y} (h : r128 T.rf T.rb d1 d2 d3 d4 = some y) : c128 T.rf d1 d2 d3 d4 = some y := er128.o h
def r120 (rf : T.RF) (rb : T.RB) (d1 : List XN) (d2 : List XK) (d3 : Int) : Option (List XN × List XK) :=
 bif inb d3 d1.length then
  (nth d1 d3.toNat).bind fun x1 =>
  (c121 rf x1.1).bind fun y2 =>
  bif x1.1 == 1 then
   (c123 rf x1.2.2.2.2.1).bind fun y3 =>
   (c124 rf d1 d2 [y3]).bind fun y4 =>
   some y4
  else
  bif x1.1 == 2 then
   (c125 rf (x1.2.2.2.2.1 == 1)).bind fun y5 =>
   (c124 rf d1 d2 [y5]).bind fun y6 =>
   some y6
  else
  bif x1.1 == 3 then
   (c124 rf d1 d2 [x1.2.2.2.2.2]).bind fun y7 =>
   some y7
  else
  bif x1.1 == 27 then
   (c124 rf d1 d2 [x1.2.2.2.2.2, ([40] : List UInt8)]).bind fun y8 =>
   bif decide (x1.2.1 ≥ 0) then
   (c127 rf y8.1 y8.2 x1.2.1).bind fun y9 =>
   (c124 rf y9.1 y9.2 [([41] : List UInt8)]).bind fun y10 =>
   some y10
   else
   (c124 rf y8.1 y8.2 [([41] : List UInt8)]).bind fun y11 =>
   some y11
  else
  bif x1.1 == 26 then
   (c124 rf d1 d2 [y2.1]).bind fun y12 =>
   (c120 rf y12.1 y12.2 x1.2.1).bind fun y13 =>
   (c124 rf y13.1 y13.2 [([116, 104, 101, 110] : List UInt8)]).bind fun y14 =>
   (c120 rf y14.1 y14.2 x1.2.2.1).bind fun y15 =>
   (c124 rf y15.1 y15.2 [([101, 108, 115, 101] : List UInt8)]).bind fun y16 =>
   (c120 rf y16.1 y16.2 x1.2.2.2.1).bind fun y17 =>
   some y17
  else
  bif y2.2 == 9 then
   (c124 rf d1 d2 [y2.1]).bind fun y18 =>
   bif x1.1 == 25 then
   (c123 rf x1.2.2.2.2.1).bind fun y19 =>
   (c124 rf y18.1 y18.2 [y19]).bind fun y20 =>
   (c128 rf y20.1 y20.2 x1.2.1 9).bind fun y21 =>
   some y21
   else
   (c128 rf y18.1 y18.2 x1.2.1 9).bind fun y22 =>
   some y22
  else
  bif decide (y2.2 ≤ 2) then
   bif y2.2 == 6 then
   (c128 rf d1 d2 x1.2.1 y2.2).bind fun y23 =>
   (c124 rf y23.1 y23.2 [y2.1]).bind fun y24 =>
   (c128 rf y24.1 y24.2 x1.2.2.1 y2.2).bind fun y25 =>
   some y25
   else
   (c128 rf d1 d2 x1.2.1 (IntKind.i64.wrap (y2.2 + 1))).bind fun y26 =>
   (c124 rf y26.1 y26.2 [y2.1]).bind fun y27 =>
   (c128 rf y27.1 y27.2 x1.2.2.1 y2.2).bind fun y28 =>
   some y28
  else
  bif y2.2 == 6 then
   (c128 rf d1 d2 x1.2.1 (IntKind.i64.wrap (y2.2 + 1))).bind fun y29 =>
   (c124 rf y29.1 y29.2 [y2.1]).bind fun y30 =>
   (c128 rf y30.1 y30.2 x1.2.2.1 (IntKind.i64.wrap (y2.2 + 1))).bind fun y31 =>
   some y31
  else
   (c128 rf d1 d2 x1.2.1 y2.2).bind fun y32 =>
   (c124 rf y32.1 y32.2 [y2.1]).bind fun y33 =>
   (c128 rf y33.1 y33.2 x1.2.2.1 (IntKind.i64.wrap (y2.2 + 1))).bind fun y34 =>
   some y34
 else
  none
theorem er120 : EqF 120 fun a b => U3 (r120 a b) := fun _ _ _ => by kernel_rfl
theorem or120 {d1 d2 d3 y} (h : r120 T.rf T.rb d1 d2 d3 = some y) : c120 T.rf d1 d2 d3 = some y := er120.o h
def r130 (rf : T.RF) (rb : T.RB) (d1 : List XK) : Option (List UInt8) :=
 bif Nat.ble (joinX d1).length most then
  some (joinX d1)
 else
  none
theorem er130 : EqF 130 fun a b => r130 a b := fun _ _ _ => by kernel_rfl
theorem or130 {d1 y} (h : r130 T.rf T.rb d1 = some y) : c130 T.rf d1 = some y := er130.o h
def r119 (rf : T.RF) (rb : T.RB) (d1 : List XN) : Option (List UInt8) :=
 (c91 rf d1).bind fun y1 =>
 bif !y1 then
  some ([] : List UInt8)
 else
  (c120 rf d1 [] (IntKind.i64.wrap ((((d1.length : Nat) : Int)) - 1))).bind fun y2 =>
  (c130 rf y2.2).bind fun y3 =>
  some y3
theorem er119 : EqF 119 fun a b => r119 a b := fun _ _ _ => by kernel_rfl
theorem or119 {d1 y} (h : r119 T.rf T.rb d1 = some y) : c119 T.rf d1 = some y := er119.o h
def r118 (rf : T.RF) (rb : T.RB) (d1 : List XK) (d2 : List XN) : Option (List XK) :=
 (c119 rf d2).bind fun y1 =>
 (c113 rf d1 [y1]).bind fun y2 =>
 some y2
theorem er118 : EqF 118 fun a b => U2 (r118 a b) := fun _ _ _ => by kernel_rfl
theorem or118 {d1 d2 y} (h : r118 T.rf T.rb d1 d2 = some y) : c118 T.rf d1 d2 = some y := er118.o h
def b101 (rf : T.RF) (rb : T.RB) (d1 : List XK) (d2 : List UInt8) (d3 : List (List XN)) (d4 : Int) (d5 : Int) : Option (List XK) :=
 bif decide (d5 < d4) then
  bif inb d5 d3.length then
   (nth d3 d5.toNat).bind fun x1 =>
   bif decide (d5 > 0) then
   (c113 rf d1 [d2]).bind fun y2 =>
   (c118 rf y2 x1).bind fun y3 =>
   k101 rb y3 d2 d3 d4 (IntKind.i64.wrap (d5 + 1))
   else
   (c118 rf d1 x1).bind fun y4 =>
   k101 rb y4 d2 d3 d4 (IntKind.i64.wrap (d5 + 1))
  else
   none
 else
  some d1
theorem eb101 : EqB 101 fun a b => U5 (b101 a b) := fun _ _ _ => by kernel_rfl
theorem ob101 {d1 d2 d3 d4 d5 y} (h : b101 T.rf T.rb d1 d2 d3 d4 d5 = some y) : k101 T.rb d1 d2 d3 d4 d5 = some y := eb101.o h
def r131 (rf : T.RF) (rb : T.RB) (d1 : List XK) (d2 : List (List XN)) (d3 : List UInt8) : Option (List XK) :=
 (k101 rb d1 d3 d2 (((d2.length : Nat) : Int)) 0).bind fun z1 =>
 some z1
theorem er131 : EqF 131 fun a b => U3 (r131 a b) := fun _ _ _ => by kernel_rfl
theorem or131 {d1 d2 d3 y} (h : r131 T.rf T.rb d1 d2 d3 = some y) : c131 T.rf d1 d2 d3 = some y := er131.o h
def r117 (rf : T.RF) (rb : T.RB) (d1 : List XK) (d2 : XIt) : Option (List XK) :=
 bif d2.1 == 1 then
  (c113 rf d1 [([97, 115, 115, 117, 109, 101] : List UInt8)]).bind fun y1 =>
  (c118 rf y1 d2.2.2.2.1).bind fun y2 =>
  (c113 rf y2 [([59] : List UInt8)]).bind fun y3 =>
  some y3
 else
 bif d2.1 == 2 then
  (c113 rf d1 [([103, 117, 97, 114, 97, 110, 116, 101, 101] : List UInt8)]).bind fun y4 =>
  (c118 rf y4 d2.2.2.2.1).bind fun y5 =>
  (c113 rf y5 [([59] : List UInt8)]).bind fun y6 =>
  some y6
 else
 bif d2.1 == 3 then
  (c113 rf d1 [([103, 104, 111, 115, 116] : List UInt8)]).bind fun y7 =>
  (c116 rf y7 (d2.2.1, d2.2.2.1)).bind fun y8 =>
  (c113 rf y8 [([61] : List UInt8)]).bind fun y9 =>
  (c118 rf y9 d2.2.2.2.1).bind fun y10 =>
  (c113 rf y10 [([59] : List UInt8)]).bind fun y11 =>
  some y11
 else
 bif d2.1 == 4 then
  (c113 rf d1 [([109, 111, 100, 101] : List UInt8), d2.2.1, ([114, 101, 113, 117, 105, 114, 101] : List UInt8)]).bind fun y12 =>
  (c118 rf y12 d2.2.2.2.1).bind fun y13 =>
  (c113 rf y13 [([101, 110, 115, 117, 114, 101] : List UInt8)]).bind fun y14 =>
  (c118 rf y14 d2.2.2.2.2.1).bind fun y15 =>
  (c113 rf y15 [([59] : List UInt8)]).bind fun y16 =>
  some y16
 else
 bif d2.1 == 5 then
  (c113 rf d1 [([105, 109, 112, 111, 114, 116] : List UInt8), d2.2.1, ([40] : List UInt8)]).bind fun y17 =>
  (c131 rf y17 d2.2.2.2.2.2 ([44] : List UInt8)).bind fun y18 =>
  (c113 rf y18 [([41] : List UInt8)]).bind fun y19 =>
  (c113 rf y19 [([59] : List UInt8)]).bind fun y20 =>
  some y20
 else
  (c113 rf d1 [([59] : List UInt8)]).bind fun y21 =>
  some y21
theorem er117 : EqF 117 fun a b => U2 (r117 a b) := fun _ _ _ => by kernel_rfl
theorem or117 {d1 d2 y} (h : r117 T.rf T.rb d1 d2 = some y) : c117 T.rf d1 d2 = some y := er117.o h
def b106 (rf : T.RF) (rb : T.RB) (d1 : XUn) (d2 : List XK) : Option ((XUn × List XK) ⊕ (XUn × List XK)) :=
 (k107 rb d2 d1.2.2.2.2.2.2.2 (((d1.2.2.2.2.2.2.2.length : Nat) : Int)) 0).bind fun z1 =>
 bif d1.1 then
  (c113 rf z1 [([101, 110, 100] : List UInt8)]).bind fun y2 =>
  (k108 rb d1 y2).bind fun z3 =>
  match z3 with
  | .inl u4 =>
    some (.inl u4)
  | .inr w5 =>
    some (.inr w5)
 else
 bif decide ((((d1.2.2.2.2.2.2.2.length : Nat) : Int)) > 0) then
  (c113 rf z1 [([101, 110, 100] : List UInt8)]).bind fun y6 =>
  (k108 rb d1 y6).bind fun z7 =>
  match z7 with
  | .inl u8 =>
    some (.inl u8)
  | .inr w9 =>
    some (.inr w9)
 else
  (k108 rb d1 z1).bind fun z10 =>
  match z10 with
  | .inl u11 =>
    some (.inl u11)
  | .inr w12 =>
    some (.inr w12)
theorem eb106 : EqB 106 fun a b => U2 (b106 a b) := fun _ _ _ => by kernel_rfl
theorem ob106 {d1 d2 y} (h : b106 T.rf T.rb d1 d2 = some y) : k106 T.rb d1 d2 = some y := eb106.o h
def b107 (rf : T.RF) (rb : T.RB) (d1 : List XK) (d2 : List XIt) (d3 : Int) (d4 : Int) : Option (List XK) :=
 bif decide (d4 < d3) then
  bif inb d4 d2.length then
   (nth d2 d4.toNat).bind fun x1 =>
   (c117 rf d1 x1).bind fun y2 =>
   k107 rb y2 d2 d3 (IntKind.i64.wrap (d4 + 1))
  else
   none
 else
  some d1
theorem eb107 : EqB 107 fun a b => U4 (b107 a b) := fun _ _ _ => by kernel_rfl
theorem ob107 {d1 d2 d3 d4 y} (h : b107 T.rf T.rb d1 d2 d3 d4 = some y) : k107 T.rb d1 d2 d3 d4 = some y := eb107.o h
def b108 (rf : T.RF) (rb : T.RB) (d1 : XUn) (d2 : List XK) : Option ((XUn × List XK) ⊕ (XUn × List XK)) :=
 bif d1.1 then
  some (.inl (d1, d2))
 else
 bif decide ((((d1.2.2.2.2.2.1.length : Nat) : Int)) > 0) then
  (c113 rf d2 [([118, 97, 114] : List UInt8)]).bind fun y1 =>
  (c115 rf y1 d1.2.2.2.2.2.1 ([59] : List UInt8)).bind fun y2 =>
  (c113 rf y2 [([59] : List UInt8)]).bind fun y3 =>
  (c113 rf y3 [([108, 101, 116] : List UInt8)]).bind fun y4 =>
  (k109 rb y4 d1.2.2.2.2.2.2.1 (((d1.2.2.2.2.2.2.1.length : Nat) : Int)) 0).bind fun z5 =>
  (c113 rf z5 [([116, 101, 108] : List UInt8)]).bind fun y6 =>
  some (.inr (d1, y6))
 else
  (c113 rf d2 [([108, 101, 116] : List UInt8)]).bind fun y7 =>
  (k109 rb y7 d1.2.2.2.2.2.2.1 (((d1.2.2.2.2.2.2.1.length : Nat) : Int)) 0).bind fun z8 =>
  (c113 rf z8 [([116, 101, 108] : List UInt8)]).bind fun y9 =>
  some (.inr (d1, y9))
theorem eb108 : EqB 108 fun a b => U2 (b108 a b) := fun _ _ _ => by kernel_rfl
theorem ob108 {d1 d2 y} (h : b108 T.rf T.rb d1 d2 = some y) : k108 T.rb d1 d2 = some y := eb108.o h
def b109 (rf : T.RF) (rb : T.RB) (d1 : List XK) (d2 : List XEq) (d3 : Int) (d4 : Int) : Option (List XK) :=
 bif decide (d4 < d3) then
  bif inb d4 d2.length then
   (nth d2 d4.toNat).bind fun x1 =>
   (c113 rf d1 [x1.1, ([61] : List UInt8)]).bind fun y2 =>
   (c118 rf y2 x1.2).bind fun y3 =>
   (c113 rf y3 [([59] : List UInt8)]).bind fun y4 =>
   k109 rb y4 d2 d3 (IntKind.i64.wrap (d4 + 1))
  else
   none
 else
  some d1
theorem eb109 : EqB 109 fun a b => U4 (b109 a b) := fun _ _ _ => by kernel_rfl
theorem ob109 {d1 d2 d3 d4 y} (h : b109 T.rf T.rb d1 d2 d3 d4 = some y) : k109 T.rb d1 d2 d3 d4 = some y := eb109.o h
def r112 (rf : T.RF) (rb : T.RB) (d1 : List XK) (d2 : XUn) : Option (List XK) :=
 bif d2.1 then
  (c113 rf d1 [([99, 111, 110, 116, 114, 97, 99, 116] : List UInt8), d2.2.1]).bind fun y1 =>
  (c114 rf y1 d2.2.2.1).bind fun y2 =>
  (k106 rb d2 y2).bind fun z3 =>
  match z3 with
  | .inl u4 =>
    some u4.2
  | .inr w5 =>
    some w5.2
 else
  (c113 rf d1 [([110, 111, 100, 101] : List UInt8), d2.2.1]).bind fun y6 =>
  (c114 rf y6 d2.2.2.1).bind fun y7 =>
  (c113 rf y7 [([114, 101, 116, 117, 114, 110, 115] : List UInt8)]).bind fun y8 =>
  (c114 rf y8 [(d2.2.2.2.1, d2.2.2.2.2.1)]).bind fun y9 =>
  bif decide ((((d2.2.2.2.2.2.2.2.length : Nat) : Int)) > 0) then
   (c113 rf y9 [([99, 111, 110, 116, 114, 97, 99, 116] : List UInt8)]).bind fun y10 =>
   (k106 rb d2 y10).bind fun z11 =>
   match z11 with
   | .inl u12 =>
     some u12.2
   | .inr w13 =>
     some w13.2
  else
   (k106 rb d2 y9).bind fun z14 =>
   match z14 with
   | .inl u15 =>
     some u15.2
   | .inr w16 =>
     some w16.2
theorem er112 : EqF 112 fun a b => U2 (r112 a b) := fun _ _ _ => by kernel_rfl
theorem or112 {d1 d2 y} (h : r112 T.rf T.rb d1 d2 = some y) : c112 T.rf d1 d2 = some y := er112.o h
def b110 (rf : T.RF) (rb : T.RB) (d1 : List XK) (d2 : List XUn) (d3 : Int) (d4 : Int) : Option (List XK) :=
 bif decide (d4 < d3) then
  bif inb d4 d2.length then
   (nth d2 d4.toNat).bind fun x1 =>
   (c112 rf d1 x1).bind fun y2 =>
   k110 rb y2 d2 d3 (IntKind.i64.wrap (d4 + 1))
  else
   none
 else
  some d1
theorem eb110 : EqB 110 fun a b => U4 (b110 a b) := fun _ _ _ => by kernel_rfl
theorem ob110 {d1 d2 d3 d4 y} (h : b110 T.rf T.rb d1 d2 d3 d4 = some y) : k110 T.rb d1 d2 d3 d4 = some y := eb110.o h
def r66 (rf : T.RF) (rb : T.RB) (d1 : XPg) : Option (List UInt8) :=
 (c67 rf d1).bind fun y1 =>
 bif !y1 then
  some ([] : List UInt8)
 else
  (k110 rb [] d1.1 (((d1.1.length : Nat) : Int)) 0).bind fun z2 =>
  (c113 rf z2 [([109, 97, 105, 110] : List UInt8), d1.2.1, ([59] : List UInt8)]).bind fun y3 =>
  bif !(d1.2.2 == ([] : List UInt8)) then
   (c113 rf y3 [([102, 97, 108, 108, 98, 97, 99, 107] : List UInt8), d1.2.2, ([59] : List UInt8)]).bind fun y4 =>
   (c130 rf y4).bind fun y5 =>
   some y5
  else
   (c130 rf y3).bind fun y6 =>
   some y6
theorem er66 : EqF 66 fun a b => r66 a b := fun _ _ _ => by kernel_rfl
theorem or66 {d1 y} (h : r66 T.rf T.rb d1 = some y) : c66 T.rf d1 = some y := er66.o h
def r133q (rf : T.RF) (rb : T.RB) (d1 : List XUn) : Option (List XUn) :=
 bif d1.isEmpty then
  agree (
   some []
  ) (
   bif (Nat.ble (0 + d1.length) most) && true then
   some ([] ++ d1)
   else
   none
  )
 else
 bif (Nat.ble (0 + d1.length) most) && true then
  some ([] ++ d1)
 else
  none
def r133 (rf : T.RF) (rb : T.RB) (d1 : List XUn) : Option (List XUn) :=
 bif (Nat.ble (0 + d1.length) most) && true then
  some ([] ++ d1)
 else
  none
theorem er133 : EqF 133 fun a b => r133q a b := fun _ _ _ => by kernel_rfl
theorem sr133 (rf rb d1) : r133q rf rb d1 = r133 rf rb d1 := by
 unfold r133q r133; cases d1 <;> first | exact agree_self _ | rfl
theorem or133 {d1 y} (h : r133 T.rf T.rb d1 = some y) : c133 T.rf d1 = some y := er133.o ((sr133 _ _ _).trans h)
def r134q (rf : T.RF) (rb : T.RB) (d1 : List XPm) : Option (List XPm) :=
 bif d1.isEmpty then
  agree (
   some []
  ) (
   bif (Nat.ble (0 + d1.length) most) && true then
   some ([] ++ d1)
   else
   none
  )
 else
 bif (Nat.ble (0 + d1.length) most) && true then
  some ([] ++ d1)
 else
  none
def r134 (rf : T.RF) (rb : T.RB) (d1 : List XPm) : Option (List XPm) :=
 bif (Nat.ble (0 + d1.length) most) && true then
  some ([] ++ d1)
 else
  none
theorem er134 : EqF 134 fun a b => r134q a b := fun _ _ _ => by kernel_rfl
theorem sr134 (rf rb d1) : r134q rf rb d1 = r134 rf rb d1 := by
 unfold r134q r134; cases d1 <;> first | exact agree_self _ | rfl
theorem or134 {d1 y} (h : r134 T.rf T.rb d1 = some y) : c134 T.rf d1 = some y := er134.o ((sr134 _ _ _).trans h)
def r135q (rf : T.RF) (rb : T.RB) (d1 : List XEq) : Option (List XEq) :=
 bif d1.isEmpty then
  agree (
   some []
  ) (
   bif (Nat.ble (0 + d1.length) most) && true then
   some ([] ++ d1)
   else
   none
  )
 else
 bif (Nat.ble (0 + d1.length) most) && true then
  some ([] ++ d1)
 else
  none
def r135 (rf : T.RF) (rb : T.RB) (d1 : List XEq) : Option (List XEq) :=
 bif (Nat.ble (0 + d1.length) most) && true then
  some ([] ++ d1)
 else
  none
theorem er135 : EqF 135 fun a b => r135q a b := fun _ _ _ => by kernel_rfl
theorem sr135 (rf rb d1) : r135q rf rb d1 = r135 rf rb d1 := by
 unfold r135q r135; cases d1 <;> first | exact agree_self _ | rfl
theorem or135 {d1 y} (h : r135 T.rf T.rb d1 = some y) : c135 T.rf d1 = some y := er135.o ((sr135 _ _ _).trans h)
def r136q (rf : T.RF) (rb : T.RB) (d1 : List XIt) : Option (List XIt) :=
 bif d1.isEmpty then
  agree (
   some []
  ) (
   bif (Nat.ble (0 + d1.length) most) && true then
   some ([] ++ d1)
   else
   none
  )
 else
 bif (Nat.ble (0 + d1.length) most) && true then
  some ([] ++ d1)
 else
  none
def r136 (rf : T.RF) (rb : T.RB) (d1 : List XIt) : Option (List XIt) :=
 bif (Nat.ble (0 + d1.length) most) && true then
  some ([] ++ d1)
 else
  none
theorem er136 : EqF 136 fun a b => r136q a b := fun _ _ _ => by kernel_rfl
theorem sr136 (rf rb d1) : r136q rf rb d1 = r136 rf rb d1 := by
 unfold r136q r136; cases d1 <;> first | exact agree_self _ | rfl
theorem or136 {d1 y} (h : r136 T.rf T.rb d1 = some y) : c136 T.rf d1 = some y := er136.o ((sr136 _ _ _).trans h)
def b120 (rf : T.RF) (rb : T.RB) (d1 : List XN) (d2 : List Int) (d3 : List XN) (d4 : Int) (d5 : Int) : Option (List Int × List XN) :=
 bif decide (d5 < d4) then
  bif inb d5 d2.length then
   (nth d2 d5.toNat).bind fun x1 =>
   (c139 rf d1 d3 x1).bind fun y2 =>
   bif inb d5 d2.length then
   bif Nat.blt d5.toNat d2.length then
   k120 rb y2 (setNth d2 d5.toNat (IntKind.i64.wrap ((((y2.length : Nat) : Int)) - 1))) d3 d4 (IntKind.i64.wrap (d5 + 1))
   else
   none
   else
   none
  else
   none
 else
  some (d2, d1)
theorem eb120 : EqB 120 fun a b => U5 (b120 a b) := fun _ _ _ => by kernel_rfl
theorem ob120 {d1 d2 d3 d4 d5 y} (h : b120 T.rf T.rb d1 d2 d3 d4 d5 = some y) : k120 T.rb d1 d2 d3 d4 d5 = some y := eb120.o h
def r139 (rf : T.RF) (rb : T.RB) (d1 : List XN) (d2 : List XN) (d3 : Int) : Option (List XN) :=
 bif inb d3 d2.length then
  (nth d2 d3.toNat).bind fun x1 =>
  (c94 rf x1).bind fun y2 =>
  (k120 rb d1 y2 d2 (((y2.length : Nat) : Int)) 0).bind fun z3 =>
  bif inb d3 d2.length then
   (nth d2 d3.toNat).bind fun x4 =>
   (c95 rf x4 z3.1).bind fun y5 =>
   bif (Nat.ble (z3.2.length + 1) most) && true then
   some (z3.2 ++ [y5])
   else
   none
  else
   none
 else
  none
theorem er139 : EqF 139 fun a b => U3 (r139 a b) := fun _ _ _ => by kernel_rfl
theorem or139 {d1 d2 d3 y} (h : r139 T.rf T.rb d1 d2 d3 = some y) : c139 T.rf d1 d2 d3 = some y := er139.o h
def r138 (rf : T.RF) (rb : T.RB) (d1 : List XN) (d2 : Int) : Option (List XN) :=
 bif decide (d2 < 0) then
  some []
 else
 bif decide (d2 ≥ (((d1.length : Nat) : Int))) then
  some []
 else
  (c92 rf d1).bind fun y1 =>
  bif !y1 then
   some []
  else
   (c139 rf [] d1 d2).bind fun y2 =>
   some y2
theorem er138 : EqF 138 fun a b => U2 (r138 a b) := fun _ _ _ => by kernel_rfl
theorem or138 {d1 d2 y} (h : r138 T.rf T.rb d1 d2 = some y) : c138 T.rf d1 d2 = some y := er138.o h
def r137 (rf : T.RF) (rb : T.RB) (d1 : List XN) : Option (List XN) :=
 (c138 rf d1 (IntKind.i64.wrap ((((d1.length : Nat) : Int)) - 1))).bind fun y1 =>
 some y1
theorem er137 : EqF 137 fun a b => r137 a b := fun _ _ _ => by kernel_rfl
theorem or137 {d1 y} (h : r137 T.rf T.rb d1 = some y) : c137 T.rf d1 = some y := er137.o h
def r140q (rf : T.RF) (rb : T.RB) (d1 : List (List XN)) : Option (List (List XN)) :=
 bif d1.isEmpty then
  agree (
   some []
  ) (
   bif (Nat.ble (0 + d1.length) most) && true then
   some ([] ++ d1)
   else
   none
  )
 else
 bif (Nat.ble (0 + d1.length) most) && true then
  some ([] ++ d1)
 else
  none
def r140 (rf : T.RF) (rb : T.RB) (d1 : List (List XN)) : Option (List (List XN)) :=
 bif (Nat.ble (0 + d1.length) most) && true then
  some ([] ++ d1)
 else
  none
theorem er140 : EqF 140 fun a b => r140q a b := fun _ _ _ => by kernel_rfl
theorem sr140 (rf rb d1) : r140q rf rb d1 = r140 rf rb d1 := by
 unfold r140q r140; cases d1 <;> first | exact agree_self _ | rfl
theorem or140 {d1 y} (h : r140 T.rf T.rb d1 = some y) : c140 T.rf d1 = some y := er140.o ((sr140 _ _ _).trans h)
def b170w0 (rf : T.RF) (rb : T.RB) (d1 : List UInt8) (d2 : List UInt8) (d3 : List XUn) (d4 : Int) (d5 : Int) (w1 : XUn) (w2 : List XPm) (w3 : List XPm) (w4 : List XEq) : Option (List UInt8 × List UInt8 × List XUn) :=
 (c136 rf w1.2.2.2.2.2.2.2).bind fun q5 =>
 (nth d3 d5.toNat).bind fun q6 =>
 bif Nat.beq d5.toNat (d3.take d5.toNat).length && true then
  bif Nat.beq d5.toNat (d3.take d5.toNat).length && true then
   bif Nat.beq d5.toNat (d3.take d5.toNat).length && true then
   (k171 rb (d3.take d5.toNat) q6.1 q6.2.1 q6.2.2.2.1 q6.2.2.2.2.1 (d3.drop (d5.toNat + 1)) w2 w3 w4 q5 (((d5.toNat : Nat) : Int))).bind fun q7 =>
   k170 rb d1 d2 (q7.1 ++ (q7.2.1, q7.2.2.1, q7.2.2.2.2.2.2.1, q7.2.2.2.1, q7.2.2.2.2.1, q7.2.2.2.2.2.2.2) :: q7.2.2.2.2.2.1) d4 (IntKind.i64.wrap (d5 + 1))
   else
   none
  else
   none
 else
  none
def b170w1 (rf : T.RF) (rb : T.RB) (d1 : List UInt8) (d2 : List UInt8) (d3 : List XUn) (d4 : Int) (d5 : Int) (w1 : XUn) (w2 : XUn) (w3 : List XPm) : Option (List UInt8 × List UInt8 × List XUn) :=
 agree (
  (c134 rf w1.2.2.2.2.2.1).bind fun q4 =>
  agree (
   (c135 rf w2.2.2.2.2.2.2.1).bind fun q5 =>
   (nth d3 d5.toNat).bind fun q6 =>
   b170w0 rf rb d1 d2 d3 d4 d5 q6 w3 q4 q5
  ) (
   (nth d3 d5.toNat).bind fun q5 =>
   (c135 rf w2.2.2.2.2.2.2.1).bind fun q6 =>
   b170w0 rf rb d1 d2 d3 d4 d5 q5 w3 q4 q6
  )
 ) (
  (nth d3 d5.toNat).bind fun q4 =>
  (c134 rf w1.2.2.2.2.2.1).bind fun q5 =>
  (c135 rf w2.2.2.2.2.2.2.1).bind fun q6 =>
  b170w0 rf rb d1 d2 d3 d4 d5 q4 w3 q5 q6
 )
def b170w2 (rf : T.RF) (rb : T.RB) (d1 : List UInt8) (d2 : List UInt8) (d3 : List XUn) (d4 : Int) (d5 : Int) (w1 : XUn) (w2 : XUn) (w3 : XUn) (w4 : List XPm) : Option (List UInt8 × List UInt8 × List XUn) :=
 (c134 rf w1.2.2.2.2.2.1).bind fun q5 =>
 (c135 rf w2.2.2.2.2.2.2.1).bind fun q6 =>
 b170w0 rf rb d1 d2 d3 d4 d5 w3 w4 q5 q6
def b170w3 (rf : T.RF) (rb : T.RB) (d1 : List UInt8) (d2 : List UInt8) (d3 : List XUn) (d4 : Int) (d5 : Int) (w1 : XUn) (w2 : XUn) (w3 : List XPm) : Option (List UInt8 × List UInt8 × List XUn) :=
 agree (
  (c134 rf w1.2.2.2.2.2.1).bind fun q4 =>
  (nth d3 d5.toNat).bind fun q5 =>
  (c135 rf q5.2.2.2.2.2.2.1).bind fun q6 =>
  b170w0 rf rb d1 d2 d3 d4 d5 w2 w3 q4 q6
 ) (
  (nth d3 d5.toNat).bind fun q4 =>
  b170w2 rf rb d1 d2 d3 d4 d5 w1 q4 w2 w3
 )
def b170w4 (rf : T.RF) (rb : T.RB) (d1 : List UInt8) (d2 : List UInt8) (d3 : List XUn) (d4 : Int) (d5 : Int) (w1 : XUn) (w2 : List XPm) : Option (List UInt8 × List UInt8 × List XUn) :=
 agree (
  (c134 rf w1.2.2.2.2.2.1).bind fun q3 =>
  agree (
   (nth d3 d5.toNat).bind fun q4 =>
   agree (
   (c135 rf q4.2.2.2.2.2.2.1).bind fun q5 =>
   (nth d3 d5.toNat).bind fun q6 =>
   b170w0 rf rb d1 d2 d3 d4 d5 q6 w2 q3 q5
   ) (
   (nth d3 d5.toNat).bind fun q5 =>
   (c135 rf q4.2.2.2.2.2.2.1).bind fun q6 =>
   b170w0 rf rb d1 d2 d3 d4 d5 q5 w2 q3 q6
   )
  ) (
   (nth d3 d5.toNat).bind fun q4 =>
   (nth d3 d5.toNat).bind fun q5 =>
   (c135 rf q5.2.2.2.2.2.2.1).bind fun q6 =>
   b170w0 rf rb d1 d2 d3 d4 d5 q4 w2 q3 q6
  )
 ) (
  agree (
   (nth d3 d5.toNat).bind fun q3 =>
   b170w1 rf rb d1 d2 d3 d4 d5 w1 q3 w2
  ) (
   (nth d3 d5.toNat).bind fun q3 =>
   b170w3 rf rb d1 d2 d3 d4 d5 w1 q3 w2
  )
 )
def b170w5 (rf : T.RF) (rb : T.RB) (d1 : List UInt8) (d2 : List UInt8) (d3 : List XUn) (d4 : Int) (d5 : Int) (w1 : XUn) (w2 : XUn) (w3 : XUn) : Option (List UInt8 × List UInt8 × List XUn) :=
 agree (
  (c134 rf w1.2.2.1).bind fun q4 =>
  (nth d3 d5.toNat).bind fun q5 =>
  b170w2 rf rb d1 d2 d3 d4 d5 q5 w2 w3 q4
 ) (
  (nth d3 d5.toNat).bind fun q4 =>
  (c134 rf w1.2.2.1).bind fun q5 =>
  b170w2 rf rb d1 d2 d3 d4 d5 q4 w2 w3 q5
 )
def b170w6 (rf : T.RF) (rb : T.RB) (d1 : List UInt8) (d2 : List UInt8) (d3 : List XUn) (d4 : Int) (d5 : Int) (w1 : XUn) (w2 : XUn) (w3 : XUn) : Option (List UInt8 × List UInt8 × List XUn) :=
 agree (
  (c134 rf w1.2.2.1).bind fun q4 =>
  b170w1 rf rb d1 d2 d3 d4 d5 w2 w3 q4
 ) (
  (nth d3 d5.toNat).bind fun q4 =>
  (c134 rf w1.2.2.1).bind fun q5 =>
  b170w2 rf rb d1 d2 d3 d4 d5 w2 w3 q4 q5
 )
def b170w7 (rf : T.RF) (rb : T.RB) (d1 : List UInt8) (d2 : List UInt8) (d3 : List XUn) (d4 : Int) (d5 : Int) (w1 : XUn) (w2 : XUn) (w3 : XUn) : Option (List UInt8 × List UInt8 × List XUn) :=
 agree (
  (c134 rf w1.2.2.1).bind fun q4 =>
  b170w3 rf rb d1 d2 d3 d4 d5 w2 w3 q4
 ) (
  (nth d3 d5.toNat).bind fun q4 =>
  (c134 rf w1.2.2.1).bind fun q5 =>
  b170w2 rf rb d1 d2 d3 d4 d5 w2 q4 w3 q5
 )
def b170q (rf : T.RF) (rb : T.RB) (d1 : List UInt8) (d2 : List UInt8) (d3 : List XUn) (d4 : Int) (d5 : Int) : Option (List UInt8 × List UInt8 × List XUn) :=
 bif decide (d5 < d4) then
  bif inb d5 d3.length then
   agree (
   (nth d3 d5.toNat).bind fun x1 =>
   agree (
   (c134 rf x1.2.2.1).bind fun y2 =>
   agree (
   (nth d3 d5.toNat).bind fun x3 =>
   b170w4 rf rb d1 d2 d3 d4 d5 x3 y2
   ) (
   agree (
   (nth d3 d5.toNat).bind fun x3 =>
   agree (
   (nth d3 d5.toNat).bind fun x4 =>
   b170w1 rf rb d1 d2 d3 d4 d5 x4 x3 y2
   ) (
   (nth d3 d5.toNat).bind fun x4 =>
   (nth d3 d5.toNat).bind fun x5 =>
   b170w2 rf rb d1 d2 d3 d4 d5 x5 x3 x4 y2
   )
   ) (
   (nth d3 d5.toNat).bind fun x3 =>
   agree (
   (nth d3 d5.toNat).bind fun x4 =>
   b170w3 rf rb d1 d2 d3 d4 d5 x4 x3 y2
   ) (
   (nth d3 d5.toNat).bind fun x4 =>
   (nth d3 d5.toNat).bind fun x5 =>
   b170w2 rf rb d1 d2 d3 d4 d5 x5 x4 x3 y2
   )
   )
   )
   ) (
   agree (
   (nth d3 d5.toNat).bind fun x2 =>
   agree (
   (c134 rf x1.2.2.1).bind fun y3 =>
   b170w4 rf rb d1 d2 d3 d4 d5 x2 y3
   ) (
   agree (
   (nth d3 d5.toNat).bind fun x3 =>
   b170w6 rf rb d1 d2 d3 d4 d5 x1 x2 x3
   ) (
   (nth d3 d5.toNat).bind fun x3 =>
   b170w7 rf rb d1 d2 d3 d4 d5 x1 x2 x3
   )
   )
   ) (
   agree (
   (nth d3 d5.toNat).bind fun x2 =>
   agree (
   (c134 rf x1.2.2.1).bind fun y3 =>
   agree (
   (nth d3 d5.toNat).bind fun x4 =>
   b170w1 rf rb d1 d2 d3 d4 d5 x4 x2 y3
   ) (
   (nth d3 d5.toNat).bind fun x4 =>
   (nth d3 d5.toNat).bind fun x5 =>
   b170w2 rf rb d1 d2 d3 d4 d5 x5 x2 x4 y3
   )
   ) (
   agree (
   (nth d3 d5.toNat).bind fun x3 =>
   b170w6 rf rb d1 d2 d3 d4 d5 x1 x3 x2
   ) (
   (nth d3 d5.toNat).bind fun x3 =>
   b170w5 rf rb d1 d2 d3 d4 d5 x1 x2 x3
   )
   )
   ) (
   (nth d3 d5.toNat).bind fun x2 =>
   agree (
   (c134 rf x1.2.2.1).bind fun y3 =>
   agree (
   (nth d3 d5.toNat).bind fun x4 =>
   b170w3 rf rb d1 d2 d3 d4 d5 x4 x2 y3
   ) (
   (nth d3 d5.toNat).bind fun x4 =>
   (nth d3 d5.toNat).bind fun x5 =>
   b170w2 rf rb d1 d2 d3 d4 d5 x5 x4 x2 y3
   )
   ) (
   agree (
   (nth d3 d5.toNat).bind fun x3 =>
   b170w7 rf rb d1 d2 d3 d4 d5 x1 x3 x2
   ) (
   (nth d3 d5.toNat).bind fun x3 =>
   b170w5 rf rb d1 d2 d3 d4 d5 x1 x3 x2
   )
   )
   )
   )
   )
   ) (
   agree (
   (nth d3 d5.toNat).bind fun x1 =>
   agree (
   (nth d3 d5.toNat).bind fun x2 =>
   agree (
   (c134 rf x2.2.2.1).bind fun y3 =>
   b170w4 rf rb d1 d2 d3 d4 d5 x1 y3
   ) (
   agree (
   (nth d3 d5.toNat).bind fun x3 =>
   b170w6 rf rb d1 d2 d3 d4 d5 x2 x1 x3
   ) (
   (nth d3 d5.toNat).bind fun x3 =>
   b170w7 rf rb d1 d2 d3 d4 d5 x2 x1 x3
   )
   )
   ) (
   agree (
   (nth d3 d5.toNat).bind fun x2 =>
   agree (
   (nth d3 d5.toNat).bind fun x3 =>
   b170w6 rf rb d1 d2 d3 d4 d5 x3 x1 x2
   ) (
   (nth d3 d5.toNat).bind fun x3 =>
   (nth d3 d5.toNat).bind fun x4 =>
   (c134 rf x4.2.2.1).bind fun y5 =>
   b170w2 rf rb d1 d2 d3 d4 d5 x1 x2 x3 y5
   )
   ) (
   (nth d3 d5.toNat).bind fun x2 =>
   agree (
   (nth d3 d5.toNat).bind fun x3 =>
   b170w7 rf rb d1 d2 d3 d4 d5 x3 x1 x2
   ) (
   (nth d3 d5.toNat).bind fun x3 =>
   (nth d3 d5.toNat).bind fun x4 =>
   (c134 rf x4.2.2.1).bind fun y5 =>
   b170w2 rf rb d1 d2 d3 d4 d5 x1 x3 x2 y5
   )
   )
   )
   ) (
   agree (
   (nth d3 d5.toNat).bind fun x1 =>
   agree (
   (nth d3 d5.toNat).bind fun x2 =>
   agree (
   (c134 rf x2.2.2.1).bind fun y3 =>
   agree (
   (nth d3 d5.toNat).bind fun x4 =>
   b170w1 rf rb d1 d2 d3 d4 d5 x4 x1 y3
   ) (
   (nth d3 d5.toNat).bind fun x4 =>
   (nth d3 d5.toNat).bind fun x5 =>
   b170w2 rf rb d1 d2 d3 d4 d5 x5 x1 x4 y3
   )
   ) (
   agree (
   (nth d3 d5.toNat).bind fun x3 =>
   b170w6 rf rb d1 d2 d3 d4 d5 x2 x3 x1
   ) (
   (nth d3 d5.toNat).bind fun x3 =>
   b170w5 rf rb d1 d2 d3 d4 d5 x2 x1 x3
   )
   )
   ) (
   agree (
   (nth d3 d5.toNat).bind fun x2 =>
   agree (
   (nth d3 d5.toNat).bind fun x3 =>
   b170w6 rf rb d1 d2 d3 d4 d5 x3 x2 x1
   ) (
   (nth d3 d5.toNat).bind fun x3 =>
   (nth d3 d5.toNat).bind fun x4 =>
   (c134 rf x4.2.2.1).bind fun y5 =>
   b170w2 rf rb d1 d2 d3 d4 d5 x2 x1 x3 y5
   )
   ) (
   (nth d3 d5.toNat).bind fun x2 =>
   agree (
   (nth d3 d5.toNat).bind fun x3 =>
   b170w5 rf rb d1 d2 d3 d4 d5 x3 x1 x2
   ) (
   (nth d3 d5.toNat).bind fun x3 =>
   (nth d3 d5.toNat).bind fun x4 =>
   (c134 rf x4.2.2.1).bind fun y5 =>
   b170w2 rf rb d1 d2 d3 d4 d5 x3 x1 x2 y5
   )
   )
   )
   ) (
   (nth d3 d5.toNat).bind fun x1 =>
   agree (
   (nth d3 d5.toNat).bind fun x2 =>
   agree (
   (c134 rf x2.2.2.1).bind fun y3 =>
   agree (
   (nth d3 d5.toNat).bind fun x4 =>
   b170w3 rf rb d1 d2 d3 d4 d5 x4 x1 y3
   ) (
   (nth d3 d5.toNat).bind fun x4 =>
   (nth d3 d5.toNat).bind fun x5 =>
   b170w2 rf rb d1 d2 d3 d4 d5 x5 x4 x1 y3
   )
   ) (
   agree (
   (nth d3 d5.toNat).bind fun x3 =>
   b170w7 rf rb d1 d2 d3 d4 d5 x2 x3 x1
   ) (
   (nth d3 d5.toNat).bind fun x3 =>
   b170w5 rf rb d1 d2 d3 d4 d5 x2 x3 x1
   )
   )
   ) (
   agree (
   (nth d3 d5.toNat).bind fun x2 =>
   agree (
   (nth d3 d5.toNat).bind fun x3 =>
   b170w7 rf rb d1 d2 d3 d4 d5 x3 x2 x1
   ) (
   (nth d3 d5.toNat).bind fun x3 =>
   (nth d3 d5.toNat).bind fun x4 =>
   (c134 rf x4.2.2.1).bind fun y5 =>
   b170w2 rf rb d1 d2 d3 d4 d5 x2 x3 x1 y5
   )
   ) (
   (nth d3 d5.toNat).bind fun x2 =>
   agree (
   (nth d3 d5.toNat).bind fun x3 =>
   b170w5 rf rb d1 d2 d3 d4 d5 x3 x2 x1
   ) (
   (nth d3 d5.toNat).bind fun x3 =>
   (nth d3 d5.toNat).bind fun x4 =>
   (c134 rf x4.2.2.1).bind fun y5 =>
   b170w2 rf rb d1 d2 d3 d4 d5 x3 x2 x1 y5
   )
   )
   )
   )
   )
   )
  else
   none
 else
  some (d1, d2, d3)
def b170 (rf : T.RF) (rb : T.RB) (d1 : List UInt8) (d2 : List UInt8) (d3 : List XUn) (d4 : Int) (d5 : Int) : Option (List UInt8 × List UInt8 × List XUn) :=
 bif decide (d5 < d4) then
  bif inb d5 d3.length then
   (nth d3 d5.toNat).bind fun f1 =>
   bif Nat.beq d5.toNat (d3.take d5.toNat).length && true then
   (c134 rf f1.2.2.1).bind fun q1 =>
   (c134 rf f1.2.2.2.2.2.1).bind fun q2 =>
   (c135 rf f1.2.2.2.2.2.2.1).bind fun q3 =>
   (c136 rf f1.2.2.2.2.2.2.2).bind fun q4 =>
   (k171 rb (d3.take d5.toNat) f1.1 f1.2.1 f1.2.2.2.1 f1.2.2.2.2.1 (d3.drop (d5.toNat + 1)) q1 q2 q3 q4 (((d5.toNat : Nat) : Int))).bind fun q5 =>
   k170 rb d1 d2 (q5.1 ++ (q5.2.1, q5.2.2.1, q5.2.2.2.2.2.2.1, q5.2.2.2.1, q5.2.2.2.2.1, q5.2.2.2.2.2.2.2) :: q5.2.2.2.2.2.1) d4 (IntKind.i64.wrap (d5 + 1))
   else
   none
  else
   none
 else
  some (d1, d2, d3)
theorem eb170 : EqB 170 fun a b => U5 (b170q a b) := fun _ _ _ => by kernel_rfl
theorem sb170 (rf rb d1 d2 d3 d4 d5) : b170q rf rb d1 d2 d3 d4 d5 = b170 rf rb d1 d2 d3 d4 d5 := by
 unfold b170q b170 b170w7 b170w6 b170w5 b170w4 b170w3 b170w2 b170w1 b170w0; cases hh0 : nth d3 d5.toNat <;> cases hh1 : Nat.beq d5.toNat (d3.take d5.toNat).length && true <;> simp only [hh0, hh1, bind_some, Option.bind_none, Option.bind_fun_none, cond_true, cond_false, agN_eq, agree_self]
theorem ob170 {d1 d2 d3 d4 d5 y} (h : b170 T.rf T.rb d1 d2 d3 d4 d5 = some y) : k170 T.rb d1 d2 d3 d4 d5 = some y := eb170.o ((sb170 _ _ _ _ _ _ _).trans h)
def b171 (rf : T.RF) (rb : T.RB) (d1 : List XUn) (d2 : Bool) (d3 : List UInt8) (d4 : List UInt8) (d5 : Int) (d6 : List XUn) (d7 : List XPm) (d8 : List XPm) (d9 : List XEq) (d10 : List XIt) (d11 : Int) : Option (List XUn × Bool × List UInt8 × List UInt8 × Int × List XUn × List XPm × List XPm × List XEq × List XIt) :=
 bif Nat.beq d11.toNat d1.length then
  (k172 rb d1 d2 d3 d4 d5 d6 d7 d8 d9 d10 (((d11.toNat : Nat) : Int)) (((d9.length : Nat) : Int)) 0).bind fun z1 =>
  bif Nat.beq d11.toNat z1.1.length then
   (k173 rb z1.1 z1.2.1 z1.2.2.1 z1.2.2.2.1 z1.2.2.2.2.1 z1.2.2.2.2.2.1 z1.2.2.2.2.2.2.1 z1.2.2.2.2.2.2.2.1 z1.2.2.2.2.2.2.2.2.1 z1.2.2.2.2.2.2.2.2.2 (((d11.toNat : Nat) : Int)) (((z1.2.2.2.2.2.2.2.2.2.length : Nat) : Int)) 0).bind fun z2 =>
   some z2
  else
   none
 else
  none
theorem eb171 : EqB 171 fun a b => U11 (b171 a b) := fun _ _ _ => by kernel_rfl
theorem ob171 {d1 d2 d3 d4 d5 d6 d7 d8 d9 d10 d11 y} (h : b171 T.rf T.rb d1 d2 d3 d4 d5 d6 d7 d8 d9 d10 d11 = some y) : k171 T.rb d1 d2 d3 d4 d5 d6 d7 d8 d9 d10 d11 = some y := eb171.o h
def b172w0 (rf : T.RF) (rb : T.RB) (d1 : List XUn) (d2 : Bool) (d3 : List UInt8) (d4 : List UInt8) (d5 : Int) (d6 : List XUn) (d7 : List XPm) (d8 : List XPm) (d9 : List XEq) (d10 : List XIt) (d11 : Int) (d12 : Int) (d13 : Int) (w1 : List XN) : Option (List XUn × Bool × List UInt8 × List UInt8 × Int × List XUn × List XPm × List XPm × List XEq × List XIt) :=
 bif inb d13 d9.length then
  (nth d9 d13.toNat).bind fun q2 =>
  k172 rb d1 d2 d3 d4 d5 d6 d7 d8 ((d9.take d13.toNat) ++ (q2.1, w1) :: (d9.drop (d13.toNat + 1))) d10 (((d11.toNat : Nat) : Int)) d12 (IntKind.i64.wrap (d13 + 1))
 else
  none
def b172q (rf : T.RF) (rb : T.RB) (d1 : List XUn) (d2 : Bool) (d3 : List UInt8) (d4 : List UInt8) (d5 : Int) (d6 : List XUn) (d7 : List XPm) (d8 : List XPm) (d9 : List XEq) (d10 : List XIt) (d11 : Int) (d12 : Int) (d13 : Int) : Option (List XUn × Bool × List UInt8 × List UInt8 × Int × List XUn × List XPm × List XPm × List XEq × List XIt) :=
 bif decide (d13 < d12) then
  agree (
   bif Nat.beq d11.toNat d1.length then
   bif Nat.beq d11.toNat d1.length then
   bif inb d13 d9.length then
   (nth d9 d13.toNat).bind fun x1 =>
   (c137 rf x1.2).bind fun y2 =>
   b172w0 rf rb d1 d2 d3 d4 d5 d6 d7 d8 d9 d10 d11 d12 d13 y2
   else
   none
   else
   none
   else
   none
  ) (
   bif Nat.beq d11.toNat d1.length then
   bif inb d13 d9.length then
   agree (
   bif Nat.beq d11.toNat d1.length then
   (nth d9 d13.toNat).bind fun x1 =>
   (c137 rf x1.2).bind fun y2 =>
   b172w0 rf rb d1 d2 d3 d4 d5 d6 d7 d8 d9 d10 d11 d12 d13 y2
   else
   none
   ) (
   (nth d9 d13.toNat).bind fun x1 =>
   agree (
   bif Nat.beq d11.toNat d1.length then
   (c137 rf x1.2).bind fun y2 =>
   b172w0 rf rb d1 d2 d3 d4 d5 d6 d7 d8 d9 d10 d11 d12 d13 y2
   else
   none
   ) (
   (c137 rf x1.2).bind fun y2 =>
   bif Nat.beq d11.toNat d1.length then
   b172w0 rf rb d1 d2 d3 d4 d5 d6 d7 d8 d9 d10 d11 d12 d13 y2
   else
   none
   )
   )
   else
   none
   else
   none
  )
 else
  some (d1, d2, d3, d4, d5, d6, d7, d8, d9, d10)
def b172 (rf : T.RF) (rb : T.RB) (d1 : List XUn) (d2 : Bool) (d3 : List UInt8) (d4 : List UInt8) (d5 : Int) (d6 : List XUn) (d7 : List XPm) (d8 : List XPm) (d9 : List XEq) (d10 : List XIt) (d11 : Int) (d12 : Int) (d13 : Int) : Option (List XUn × Bool × List UInt8 × List UInt8 × Int × List XUn × List XPm × List XPm × List XEq × List XIt) :=
 bif decide (d13 < d12) then
  bif Nat.beq d11.toNat d1.length then
   bif inb d13 d9.length then
   (nth d9 d13.toNat).bind fun f1 =>
   (c137 rf f1.2).bind fun q1 =>
   k172 rb d1 d2 d3 d4 d5 d6 d7 d8 ((d9.take d13.toNat) ++ (f1.1, q1) :: (d9.drop (d13.toNat + 1))) d10 (((d11.toNat : Nat) : Int)) d12 (IntKind.i64.wrap (d13 + 1))
   else
   none
  else
   none
 else
  some (d1, d2, d3, d4, d5, d6, d7, d8, d9, d10)
theorem eb172 : EqB 172 fun a b => U13 (b172q a b) := fun _ _ _ => by kernel_rfl
theorem sb172 (rf rb d1 d2 d3 d4 d5 d6 d7 d8 d9 d10 d11 d12 d13) : b172q rf rb d1 d2 d3 d4 d5 d6 d7 d8 d9 d10 d11 d12 d13 = b172 rf rb d1 d2 d3 d4 d5 d6 d7 d8 d9 d10 d11 d12 d13 := by
 unfold b172q b172 b172w0; cases hh0 : Nat.beq d11.toNat d1.length <;> cases hh1 : inb d13 d9.length <;> cases hh2 : nth d9 d13.toNat <;> simp only [hh0, hh1, hh2, bind_some, Option.bind_none, Option.bind_fun_none, cond_true, cond_false, agN_eq, agree_self]
theorem ob172 {d1 d2 d3 d4 d5 d6 d7 d8 d9 d10 d11 d12 d13 y} (h : b172 T.rf T.rb d1 d2 d3 d4 d5 d6 d7 d8 d9 d10 d11 d12 d13 = some y) : k172 T.rb d1 d2 d3 d4 d5 d6 d7 d8 d9 d10 d11 d12 d13 = some y := eb172.o ((sb172 _ _ _ _ _ _ _ _ _ _ _ _ _ _ _).trans h)
def b173w0 (rf : T.RF) (rb : T.RB) (d1 : List XUn) (d2 : Bool) (d3 : List UInt8) (d4 : List UInt8) (d5 : Int) (d6 : List XUn) (d7 : List XPm) (d8 : List XPm) (d9 : List XEq) (d10 : List XIt) (d11 : Int) (d12 : Int) (d13 : Int) (w1 : XIt) (w2 : List XN) (w3 : List XN) : Option (List XUn × Bool × List UInt8 × List UInt8 × Int × List XUn × List XPm × List XPm × List XEq × List XIt) :=
 (c140 rf w1.2.2.2.2.2).bind fun q4 =>
 (nth d10 d13.toNat).bind fun q5 =>
 bif Nat.beq d13.toNat (d10.take d13.toNat).length && true then
  bif Nat.beq d13.toNat (d10.take d13.toNat).length && true then
   (k174 rb (d10.take d13.toNat) q5.1 q5.2.1 q5.2.2.1 (d10.drop (d13.toNat + 1)) w2 w3 q4 (((d13.toNat : Nat) : Int))).bind fun q6 =>
   k173 rb d1 d2 d3 d4 d5 d6 d7 d8 d9 (q6.1 ++ (q6.2.1, q6.2.2.1, q6.2.2.2.1, q6.2.2.2.2.2) :: q6.2.2.2.2.1) (((d11.toNat : Nat) : Int)) d12 (IntKind.i64.wrap (d13 + 1))
  else
   none
 else
  none
def b173w1 (rf : T.RF) (rb : T.RB) (d1 : List XUn) (d2 : Bool) (d3 : List UInt8) (d4 : List UInt8) (d5 : Int) (d6 : List XUn) (d7 : List XPm) (d8 : List XPm) (d9 : List XEq) (d10 : List XIt) (d11 : Int) (d12 : Int) (d13 : Int) (w1 : XIt) (w2 : XIt) (w3 : List XN) : Option (List XUn × Bool × List UInt8 × List UInt8 × Int × List XUn × List XPm × List XPm × List XEq × List XIt) :=
 (c137 rf w1.2.2.2.2.1).bind fun q4 =>
 b173w0 rf rb d1 d2 d3 d4 d5 d6 d7 d8 d9 d10 d11 d12 d13 w2 w3 q4
def b173q (rf : T.RF) (rb : T.RB) (d1 : List XUn) (d2 : Bool) (d3 : List UInt8) (d4 : List UInt8) (d5 : Int) (d6 : List XUn) (d7 : List XPm) (d8 : List XPm) (d9 : List XEq) (d10 : List XIt) (d11 : Int) (d12 : Int) (d13 : Int) : Option (List XUn × Bool × List UInt8 × List UInt8 × Int × List XUn × List XPm × List XPm × List XEq × List XIt) :=
 bif decide (d13 < d12) then
  bif Nat.beq d11.toNat d1.length then
   bif inb d13 d10.length then
   agree (
   (nth d10 d13.toNat).bind fun x1 =>
   agree (
   (c137 rf x1.2.2.2.1).bind fun y2 =>
   agree (
   (nth d10 d13.toNat).bind fun x3 =>
   agree (
   (c137 rf x3.2.2.2.2.1).bind fun y4 =>
   (nth d10 d13.toNat).bind fun x5 =>
   b173w0 rf rb d1 d2 d3 d4 d5 d6 d7 d8 d9 d10 d11 d12 d13 x5 y2 y4
   ) (
   (nth d10 d13.toNat).bind fun x4 =>
   b173w1 rf rb d1 d2 d3 d4 d5 d6 d7 d8 d9 d10 d11 d12 d13 x3 x4 y2
   )
   ) (
   (nth d10 d13.toNat).bind fun x3 =>
   (nth d10 d13.toNat).bind fun x4 =>
   b173w1 rf rb d1 d2 d3 d4 d5 d6 d7 d8 d9 d10 d11 d12 d13 x4 x3 y2
   )
   ) (
   agree (
   (nth d10 d13.toNat).bind fun x2 =>
   agree (
   (c137 rf x1.2.2.2.1).bind fun y3 =>
   agree (
   (c137 rf x2.2.2.2.2.1).bind fun y4 =>
   (nth d10 d13.toNat).bind fun x5 =>
   b173w0 rf rb d1 d2 d3 d4 d5 d6 d7 d8 d9 d10 d11 d12 d13 x5 y3 y4
   ) (
   (nth d10 d13.toNat).bind fun x4 =>
   b173w1 rf rb d1 d2 d3 d4 d5 d6 d7 d8 d9 d10 d11 d12 d13 x2 x4 y3
   )
   ) (
   (nth d10 d13.toNat).bind fun x3 =>
   (c137 rf x1.2.2.2.1).bind fun y4 =>
   b173w1 rf rb d1 d2 d3 d4 d5 d6 d7 d8 d9 d10 d11 d12 d13 x2 x3 y4
   )
   ) (
   (nth d10 d13.toNat).bind fun x2 =>
   agree (
   (c137 rf x1.2.2.2.1).bind fun y3 =>
   (nth d10 d13.toNat).bind fun x4 =>
   b173w1 rf rb d1 d2 d3 d4 d5 d6 d7 d8 d9 d10 d11 d12 d13 x4 x2 y3
   ) (
   (nth d10 d13.toNat).bind fun x3 =>
   (c137 rf x1.2.2.2.1).bind fun y4 =>
   b173w1 rf rb d1 d2 d3 d4 d5 d6 d7 d8 d9 d10 d11 d12 d13 x3 x2 y4
   )
   )
   )
   ) (
   agree (
   (nth d10 d13.toNat).bind fun x1 =>
   agree (
   (nth d10 d13.toNat).bind fun x2 =>
   agree (
   (c137 rf x2.2.2.2.1).bind fun y3 =>
   agree (
   (c137 rf x1.2.2.2.2.1).bind fun y4 =>
   (nth d10 d13.toNat).bind fun x5 =>
   b173w0 rf rb d1 d2 d3 d4 d5 d6 d7 d8 d9 d10 d11 d12 d13 x5 y3 y4
   ) (
   (nth d10 d13.toNat).bind fun x4 =>
   b173w1 rf rb d1 d2 d3 d4 d5 d6 d7 d8 d9 d10 d11 d12 d13 x1 x4 y3
   )
   ) (
   (nth d10 d13.toNat).bind fun x3 =>
   (c137 rf x2.2.2.2.1).bind fun y4 =>
   b173w1 rf rb d1 d2 d3 d4 d5 d6 d7 d8 d9 d10 d11 d12 d13 x1 x3 y4
   )
   ) (
   (nth d10 d13.toNat).bind fun x2 =>
   (nth d10 d13.toNat).bind fun x3 =>
   (c137 rf x3.2.2.2.1).bind fun y4 =>
   b173w1 rf rb d1 d2 d3 d4 d5 d6 d7 d8 d9 d10 d11 d12 d13 x1 x2 y4
   )
   ) (
   (nth d10 d13.toNat).bind fun x1 =>
   agree (
   (nth d10 d13.toNat).bind fun x2 =>
   agree (
   (c137 rf x2.2.2.2.1).bind fun y3 =>
   (nth d10 d13.toNat).bind fun x4 =>
   b173w1 rf rb d1 d2 d3 d4 d5 d6 d7 d8 d9 d10 d11 d12 d13 x4 x1 y3
   ) (
   (nth d10 d13.toNat).bind fun x3 =>
   (c137 rf x2.2.2.2.1).bind fun y4 =>
   b173w1 rf rb d1 d2 d3 d4 d5 d6 d7 d8 d9 d10 d11 d12 d13 x3 x1 y4
   )
   ) (
   (nth d10 d13.toNat).bind fun x2 =>
   (nth d10 d13.toNat).bind fun x3 =>
   (c137 rf x3.2.2.2.1).bind fun y4 =>
   b173w1 rf rb d1 d2 d3 d4 d5 d6 d7 d8 d9 d10 d11 d12 d13 x2 x1 y4
   )
   )
   )
   else
   none
  else
   none
 else
  some (d1, d2, d3, d4, d5, d6, d7, d8, d9, d10)
def b173 (rf : T.RF) (rb : T.RB) (d1 : List XUn) (d2 : Bool) (d3 : List UInt8) (d4 : List UInt8) (d5 : Int) (d6 : List XUn) (d7 : List XPm) (d8 : List XPm) (d9 : List XEq) (d10 : List XIt) (d11 : Int) (d12 : Int) (d13 : Int) : Option (List XUn × Bool × List UInt8 × List UInt8 × Int × List XUn × List XPm × List XPm × List XEq × List XIt) :=
 bif decide (d13 < d12) then
  bif Nat.beq d11.toNat d1.length then
   bif inb d13 d10.length then
   (nth d10 d13.toNat).bind fun f1 =>
   bif Nat.beq d13.toNat (d10.take d13.toNat).length && true then
   (c137 rf f1.2.2.2.1).bind fun q1 =>
   (c137 rf f1.2.2.2.2.1).bind fun q2 =>
   (c140 rf f1.2.2.2.2.2).bind fun q3 =>
   (k174 rb (d10.take d13.toNat) f1.1 f1.2.1 f1.2.2.1 (d10.drop (d13.toNat + 1)) q1 q2 q3 (((d13.toNat : Nat) : Int))).bind fun q4 =>
   k173 rb d1 d2 d3 d4 d5 d6 d7 d8 d9 (q4.1 ++ (q4.2.1, q4.2.2.1, q4.2.2.2.1, q4.2.2.2.2.2) :: q4.2.2.2.2.1) (((d11.toNat : Nat) : Int)) d12 (IntKind.i64.wrap (d13 + 1))
   else
   none
   else
   none
  else
   none
 else
  some (d1, d2, d3, d4, d5, d6, d7, d8, d9, d10)
theorem eb173 : EqB 173 fun a b => U13 (b173q a b) := fun _ _ _ => by kernel_rfl
theorem sb173 (rf rb d1 d2 d3 d4 d5 d6 d7 d8 d9 d10 d11 d12 d13) : b173q rf rb d1 d2 d3 d4 d5 d6 d7 d8 d9 d10 d11 d12 d13 = b173 rf rb d1 d2 d3 d4 d5 d6 d7 d8 d9 d10 d11 d12 d13 := by
 unfold b173q b173 b173w1 b173w0; cases hh0 : nth d10 d13.toNat <;> cases hh1 : Nat.beq d13.toNat (d10.take d13.toNat).length && true <;> simp only [hh0, hh1, bind_some, Option.bind_none, Option.bind_fun_none, cond_true, cond_false, agN_eq, agree_self]
theorem ob173 {d1 d2 d3 d4 d5 d6 d7 d8 d9 d10 d11 d12 d13 y} (h : b173 T.rf T.rb d1 d2 d3 d4 d5 d6 d7 d8 d9 d10 d11 d12 d13 = some y) : k173 T.rb d1 d2 d3 d4 d5 d6 d7 d8 d9 d10 d11 d12 d13 = some y := eb173.o ((sb173 _ _ _ _ _ _ _ _ _ _ _ _ _ _ _).trans h)
def b174 (rf : T.RF) (rb : T.RB) (d1 : List XIt) (d2 : Int) (d3 : List UInt8) (d4 : Int) (d5 : List XIt) (d6 : List XN) (d7 : List XN) (d8 : List (List XN)) (d9 : Int) : Option (List XIt × Int × List UInt8 × Int × List XIt × List XN × List XN × List (List XN)) :=
 bif Nat.beq d9.toNat d1.length then
  (k175 rb d1 d2 d3 d4 d5 d6 d7 d8 (((d9.toNat : Nat) : Int)) (((d8.length : Nat) : Int)) 0).bind fun z1 =>
  some z1
 else
  none
theorem eb174 : EqB 174 fun a b => U9 (b174 a b) := fun _ _ _ => by kernel_rfl
theorem ob174 {d1 d2 d3 d4 d5 d6 d7 d8 d9 y} (h : b174 T.rf T.rb d1 d2 d3 d4 d5 d6 d7 d8 d9 = some y) : k174 T.rb d1 d2 d3 d4 d5 d6 d7 d8 d9 = some y := eb174.o h
def b175q (rf : T.RF) (rb : T.RB) (d1 : List XIt) (d2 : Int) (d3 : List UInt8) (d4 : Int) (d5 : List XIt) (d6 : List XN) (d7 : List XN) (d8 : List (List XN)) (d9 : Int) (d10 : Int) (d11 : Int) : Option (List XIt × Int × List UInt8 × Int × List XIt × List XN × List XN × List (List XN)) :=
 bif decide (d11 < d10) then
  agree (
   bif Nat.beq d9.toNat d1.length then
   bif Nat.beq d9.toNat d1.length then
   bif inb d11 d8.length then
   (nth d8 d11.toNat).bind fun x1 =>
   (c137 rf x1).bind fun y2 =>
   bif inb d11 d8.length then
   bif Nat.blt d11.toNat d8.length then
   k175 rb d1 d2 d3 d4 d5 d6 d7 (setNth d8 d11.toNat y2) (((d9.toNat : Nat) : Int)) d10 (IntKind.i64.wrap (d11 + 1))
   else
   none
   else
   none
   else
   none
   else
   none
   else
   none
  ) (
   bif Nat.beq d9.toNat d1.length then
   bif inb d11 d8.length then
   agree (
   bif Nat.beq d9.toNat d1.length then
   (nth d8 d11.toNat).bind fun x1 =>
   (c137 rf x1).bind fun y2 =>
   bif inb d11 d8.length then
   bif Nat.blt d11.toNat d8.length then
   k175 rb d1 d2 d3 d4 d5 d6 d7 (setNth d8 d11.toNat y2) (((d9.toNat : Nat) : Int)) d10 (IntKind.i64.wrap (d11 + 1))
   else
   none
   else
   none
   else
   none
   ) (
   (nth d8 d11.toNat).bind fun x1 =>
   agree (
   bif Nat.beq d9.toNat d1.length then
   (c137 rf x1).bind fun y2 =>
   bif inb d11 d8.length then
   bif Nat.blt d11.toNat d8.length then
   k175 rb d1 d2 d3 d4 d5 d6 d7 (setNth d8 d11.toNat y2) (((d9.toNat : Nat) : Int)) d10 (IntKind.i64.wrap (d11 + 1))
   else
   none
   else
   none
   else
   none
   ) (
   (c137 rf x1).bind fun y2 =>
   bif Nat.beq d9.toNat d1.length then
   bif inb d11 d8.length then
   bif Nat.blt d11.toNat d8.length then
   k175 rb d1 d2 d3 d4 d5 d6 d7 (setNth d8 d11.toNat y2) (((d9.toNat : Nat) : Int)) d10 (IntKind.i64.wrap (d11 + 1))
   else
   none
   else
   none
   else
   none
   )
   )
   else
   none
   else
   none
  )
 else
  some (d1, d2, d3, d4, d5, d6, d7, d8)
def b175 (rf : T.RF) (rb : T.RB) (d1 : List XIt) (d2 : Int) (d3 : List UInt8) (d4 : Int) (d5 : List XIt) (d6 : List XN) (d7 : List XN) (d8 : List (List XN)) (d9 : Int) (d10 : Int) (d11 : Int) : Option (List XIt × Int × List UInt8 × Int × List XIt × List XN × List XN × List (List XN)) :=
 bif decide (d11 < d10) then
  bif Nat.beq d9.toNat d1.length then
   bif inb d11 d8.length then
   (nth d8 d11.toNat).bind fun f1 =>
   bif Nat.blt d11.toNat d8.length then
   (c137 rf f1).bind fun q1 =>
   k175 rb d1 d2 d3 d4 d5 d6 d7 (setNth d8 d11.toNat q1) (((d9.toNat : Nat) : Int)) d10 (IntKind.i64.wrap (d11 + 1))
   else
   none
   else
   none
  else
   none
 else
  some (d1, d2, d3, d4, d5, d6, d7, d8)
theorem eb175 : EqB 175 fun a b => U11 (b175q a b) := fun _ _ _ => by kernel_rfl
theorem sb175 (rf rb d1 d2 d3 d4 d5 d6 d7 d8 d9 d10 d11) : b175q rf rb d1 d2 d3 d4 d5 d6 d7 d8 d9 d10 d11 = b175 rf rb d1 d2 d3 d4 d5 d6 d7 d8 d9 d10 d11 := by
 unfold b175q b175; cases hh0 : Nat.beq d9.toNat d1.length <;> cases hh1 : inb d11 d8.length <;> cases hh2 : nth d8 d11.toNat <;> cases hh3 : Nat.blt d11.toNat d8.length <;> simp only [hh0, hh1, hh2, hh3, bind_some, Option.bind_none, Option.bind_fun_none, cond_true, cond_false, agN_eq, agree_self]
theorem ob175 {d1 d2 d3 d4 d5 d6 d7 d8 d9 d10 d11 y} (h : b175 T.rf T.rb d1 d2 d3 d4 d5 d6 d7 d8 d9 d10 d11 = some y) : k175 T.rb d1 d2 d3 d4 d5 d6 d7 d8 d9 d10 d11 = some y := eb175.o ((sb175 _ _ _ _ _ _ _ _ _ _ _ _ _).trans h)
def r132 (rf : T.RF) (rb : T.RB) (d1 : XPg) : Option XPg :=
 (c133 rf d1.1).bind fun y1 =>
 (k170 rb d1.2.1 d1.2.2 y1 (((y1.length : Nat) : Int)) 0).bind fun z2 =>
 some (z2.2.2, z2.1, z2.2.1)
theorem er132 : EqF 132 fun a b => r132 a b := fun _ _ _ => by kernel_rfl
theorem or132 {d1 y} (h : r132 T.rf T.rb d1 = some y) : c132 T.rf d1 = some y := er132.o h
def r146 (rf : T.RF) (rb : T.RB) (d1 : XN) : Option Bool :=
 (c49 rf d1).bind fun y1 =>
 bif d1.1 == 27 then
  bif d1.2.2.1 == (-1) then
   some (d1.2.2.2.1 == (-1))
  else
   some false
 else
 bif d1.1 == 28 then
  some (d1.2.2.2.1 == (-1))
 else
 bif decide ((((y1.length : Nat) : Int)) > 0) then
  bif decide ((((y1.length : Nat) : Int)) > 1) then
   bif decide ((((y1.length : Nat) : Int)) > 2) then
   some true
   else
   some (d1.2.2.2.1 == (-1))
  else
  bif d1.2.2.1 == (-1) then
   bif decide ((((y1.length : Nat) : Int)) > 2) then
   some true
   else
   some (d1.2.2.2.1 == (-1))
  else
   some false
 else
 bif d1.2.1 == (-1) then
  bif decide ((((y1.length : Nat) : Int)) > 1) then
   bif decide ((((y1.length : Nat) : Int)) > 2) then
   some true
   else
   some (d1.2.2.2.1 == (-1))
  else
  bif d1.2.2.1 == (-1) then
   bif decide ((((y1.length : Nat) : Int)) > 2) then
   some true
   else
   some (d1.2.2.2.1 == (-1))
  else
   some false
 else
  some false
theorem er146 : EqF 146 fun a b => r146 a b := fun _ _ _ => by kernel_rfl
def r147 (rf : T.RF) (rb : T.RB) (d1 : XN) : Option Bool :=
 bif d1.1 == 3 then
  bif !((!(d1.2.2.2.2.2 == ([] : List UInt8))) == true) then
   some false
  else
  bif d1.1 == 1 then
   bif decide (d1.2.2.2.2.1 ≥ 0) then
   some (decide (d1.2.2.2.2.1 ≤ 2147483647))
   else
   some false
  else
  bif d1.1 == 2 then
   bif d1.2.2.2.2.1 == 0 then
   some true
   else
   some (d1.2.2.2.2.1 == 1)
  else
  bif d1.1 == 25 then
   bif decide (d1.2.2.2.2.1 ≥ 0) then
   some (decide (d1.2.2.2.2.1 ≤ 1000))
   else
   some false
  else
   some (d1.2.2.2.2.1 == 0)
 else
 bif !((!(d1.2.2.2.2.2 == ([] : List UInt8))) == (d1.1 == 27)) then
  some false
 else
 bif d1.1 == 1 then
  bif decide (d1.2.2.2.2.1 ≥ 0) then
   some (decide (d1.2.2.2.2.1 ≤ 2147483647))
  else
   some false
 else
 bif d1.1 == 2 then
  bif d1.2.2.2.2.1 == 0 then
   some true
  else
   some (d1.2.2.2.2.1 == 1)
 else
 bif d1.1 == 25 then
  bif decide (d1.2.2.2.2.1 ≥ 0) then
   some (decide (d1.2.2.2.2.1 ≤ 1000))
  else
   some false
 else
  some (d1.2.2.2.2.1 == 0)
theorem er147 : EqF 147 fun a b => r147 a b := fun _ _ _ => by kernel_rfl
theorem or147 {d1 y} (h : r147 T.rf T.rb d1 = some y) : c147 T.rf d1 = some y := er147.o h
def b180 (rf : T.RF) (rb : T.RB) (d1 : XN) (d2 : List Int) (d3 : List XN) (d4 : Int) : Option ((XN × List Int × Bool) ⊕ (XN × List Int)) :=
 bif decide (d4 < (((d2.length : Nat) : Int))) then
  bif inb d4 d2.length then
   (nth d2 d4.toNat).bind fun x1 =>
   bif inb x1 d3.length then
   (nth d3 x1.toNat).bind fun x2 =>
   bif d1.1 == 27 then
   bif !((x2.1 == 28) == true) then
   some (.inl (d1, d2, false))
   else
   k180 rb d1 d2 d3 (IntKind.i64.wrap (d4 + 1))
   else
   bif d1.1 == 28 then
   bif (((d2.length : Nat) : Int)) == 2 then
   bif !((x2.1 == 28) == (d4 == 0)) then
   some (.inl (d1, d2, false))
   else
   k180 rb d1 d2 d3 (IntKind.i64.wrap (d4 + 1))
   else
   bif !((x2.1 == 28) == false) then
   some (.inl (d1, d2, false))
   else
   k180 rb d1 d2 d3 (IntKind.i64.wrap (d4 + 1))
   else
   bif !((x2.1 == 28) == false) then
   some (.inl (d1, d2, false))
   else
   k180 rb d1 d2 d3 (IntKind.i64.wrap (d4 + 1))
   else
   none
  else
   none
 else
  some (.inr (d1, d2))
theorem eb180 : EqB 180 fun a b => U4 (b180 a b) := fun _ _ _ => by kernel_rfl
def r148 (rf : T.RF) (rb : T.RB) (d1 : List XN) (d2 : Int) : Option Bool :=
 bif inb d2 d1.length then
  (nth d1 d2.toNat).bind fun x1 =>
  (c49 rf x1).bind fun y2 =>
  (k180 rb x1 y2 d1 0).bind fun z3 =>
  match z3 with
  | .inl u4 =>
    some u4.2.2
  | .inr w5 =>
    some true
 else
  none
theorem er148 : EqF 148 fun a b => U2 (r148 a b) := fun _ _ _ => by kernel_rfl
def b178 (rf : T.RF) (rb : T.RB) (d1 : List Int) (d2 : List XN) (d3 : Int) : Option ((List Int × Bool) ⊕ (List Int)) :=
 bif decide (d3 < (((d2.length : Nat) : Int))) then
  bif inb d3 d2.length then
   (nth d2 d3.toNat).bind fun x1 =>
   bif decide (x1.1 < 1) then
    some (.inl (d1, false))
   else
   bif inb d3 d2.length then
    (nth d2 d3.toNat).bind fun x2 =>
    bif decide (x2.1 > 28) then
     some (.inl (d1, false))
    else
    bif inb d3 d2.length then
     (nth d2 d3.toNat).bind fun x3 =>
     (c146 rf x3).bind fun y4 =>
     bif !y4 then
      some (.inl (d1, false))
     else
     bif inb d3 d2.length then
      (nth d2 d3.toNat).bind fun x5 =>
      (c147 rf x5).bind fun y6 =>
      bif !y6 then
       some (.inl (d1, false))
      else
      bif inb d3 d2.length then
       (nth d2 d3.toNat).bind fun x7 =>
       (c49 rf x7).bind fun y8 =>
       (k179 rb d1 y8 d3 0).bind fun z9 =>
       match z9 with
       | .inl u10 =>
         some (.inl (u10.1, u10.2.2))
       | .inr w11 =>
         (c148 rf d2 d3).bind fun y12 =>
         bif !y12 then
          some (.inl (w11.1, false))
         else
          k178 rb w11.1 d2 (IntKind.i64.wrap (d3 + 1))
      else
       none
     else
      none
    else
     none
   else
    none
  else
   none
 else
  some (.inr d1)
theorem eb178 : EqB 178 fun a b => U3 (b178 a b) := fun _ _ _ => by kernel_rfl
def b179 (rf : T.RF) (rb : T.RB) (d1 : List Int) (d2 : List Int) (d3 : Int) (d4 : Int) : Option ((List Int × List Int × Bool) ⊕ (List Int × List Int)) :=
 bif decide (d4 < (((d2.length : Nat) : Int))) then
  bif inb d4 d2.length then
   (nth d2 d4.toNat).bind fun x1 =>
   bif decide (x1 < 0) then
   some (.inl (d1, d2, false))
   else
   bif inb d4 d2.length then
   (nth d2 d4.toNat).bind fun x2 =>
   bif decide (x2 ≥ d3) then
   some (.inl (d1, d2, false))
   else
   bif inb d4 d2.length then
   (nth d2 d4.toNat).bind fun x3 =>
   bif inb x3 d1.length then
   (nth d1 x3.toNat).bind fun x4 =>
   bif inb x3 d1.length then
   bif Nat.blt x3.toNat d1.length then
   k179 rb (setNth d1 x3.toNat (IntKind.i64.wrap (x4 + 1))) d2 d3 (IntKind.i64.wrap (d4 + 1))
   else
   none
   else
   none
   else
   none
   else
   none
   else
   none
  else
   none
 else
  some (.inr (d1, d2))
theorem eb179 : EqB 179 fun a b => U4 (b179 a b) := fun _ _ _ => by kernel_rfl
def b181 (rf : T.RF) (rb : T.RB) (d1 : List Int) (d2 : List XN) (d3 : Int) : Option ((List Int × Bool) ⊕ (List Int)) :=
 bif decide (d3 < (IntKind.i64.wrap ((((d2.length : Nat) : Int)) - 1))) then
  bif inb d3 d1.length then
   (nth d1 d3.toNat).bind fun x1 =>
   bif x1 != 1 then
   some (.inl (d1, false))
   else
   k181 rb d1 d2 (IntKind.i64.wrap (d3 + 1))
  else
   none
 else
  some (.inr d1)
theorem eb181 : EqB 181 fun a b => U3 (b181 a b) := fun _ _ _ => by kernel_rfl
def r145 (rf : T.RF) (rb : T.RB) (d1 : List XN) : Option Bool :=
 bif decide ((((d1.length : Nat) : Int)) < 1) then
  some false
 else
 bif decide ((((d1.length : Nat) : Int)) > 5000) then
  some false
 else
 bif inb' (((d1.length : Nat) : Int)) most then
  bif inb' (((d1.length : Nat) : Int)) d1.length then
   (k178 rb (List.replicate d1.length (0 : Int)) d1 0).bind fun z1 =>
   match z1 with
   | .inl u2 =>
     some u2.2
   | .inr w3 =>
     (k181 rb w3 d1 0).bind fun z4 =>
     match z4 with
     | .inl u5 =>
       some u5.2
     | .inr w6 =>
       bif inb (IntKind.i64.wrap ((((d1.length : Nat) : Int)) - 1)) d1.length then
        (nth d1 (IntKind.i64.wrap ((((d1.length : Nat) : Int)) - 1)).toNat).bind fun x7 =>
        bif x7.1 != 28 then
         (c62 rf d1).bind fun y8 =>
         some (decide (y8 ≤ 40))
        else
         some false
       else
        none
  else
   none
 else
  none
theorem er145 : EqF 145 fun a b => r145 a b := fun _ _ _ => by kernel_rfl
def b183 (rf : T.RF) (rb : T.RB) (d1 : List XN) (d2 : List Int) (d3 : List Int) (d4 : List XN) (d5 : Int) : Option (List Int × List XN × List Int) :=
 bif decide (d5 < (((d2.length : Nat) : Int))) then
  bif inb d5 d2.length then
   (nth d2 d5.toNat).bind fun x1 =>
   (c149 rf d1 d4 x1).bind fun y2 =>
   bif (Nat.ble (d3.length + 1) most) && true then
   k183 rb y2 d2 (d3 ++ [IntKind.i64.wrap ((((y2.length : Nat) : Int)) - 1)]) d4 (IntKind.i64.wrap (d5 + 1))
   else
   none
  else
   none
 else
  some (d2, d1, d3)
theorem eb183 : EqB 183 fun a b => U5 (b183 a b) := fun _ _ _ => by kernel_rfl
def r149 (rf : T.RF) (rb : T.RB) (d1 : List XN) (d2 : List XN) (d3 : Int) : Option (List XN) :=
 bif inb d3 d2.length then
  (nth d2 d3.toNat).bind fun x1 =>
  (c49 rf x1).bind fun y2 =>
  (k183 rb d1 y2 [] d2 0).bind fun z3 =>
  bif inb d3 d2.length then
   (nth d2 d3.toNat).bind fun x4 =>
   (c52 rf x4 z3.2.2).bind fun y5 =>
   bif (Nat.ble (z3.2.1.length + 1) most) && true then
   some (z3.2.1 ++ [y5])
   else
   none
  else
   none
 else
  none
theorem er149 : EqF 149 fun a b => U3 (r149 a b) := fun _ _ _ => by kernel_rfl
def r144 (rf : T.RF) (rb : T.RB) (d1 : List XN) (d2 : Int) : Option (List XN) :=
 (c145 rf d1).bind fun y1 =>
 bif !y1 then
  some []
 else
 bif decide (d2 < 0) then
  some []
 else
 bif decide (d2 ≥ (((d1.length : Nat) : Int))) then
  some []
 else
  (c149 rf [] d1 d2).bind fun y2 =>
  some y2
theorem er144 : EqF 144 fun a b => U2 (r144 a b) := fun _ _ _ => by kernel_rfl
def r143 (rf : T.RF) (rb : T.RB) (d1 : List XN) : Option (List XN) :=
 (c144 rf d1 (IntKind.i64.wrap ((((d1.length : Nat) : Int)) - 1))).bind fun y1 =>
 some y1
theorem er143 : EqF 143 fun a b => r143 a b := fun _ _ _ => by kernel_rfl
def b198q (rf : T.RF) (rb : T.RB) (d1 : XUn) (d2 : Bool) (d3 : List UInt8) (d4 : List UInt8) (d5 : Int) (d6 : List XPm) (d7 : List XPm) (d8 : List XEq) (d9 : List XIt) (d10 : Int) : Option (XUn × Bool × List UInt8 × List UInt8 × Int × List XPm × List XPm × List XIt × List XEq) :=
 bif decide (d10 < (((d1.2.2.2.2.2.2.1.length : Nat) : Int))) then
  bif inb d10 d1.2.2.2.2.2.2.1.length then
   (nth d1.2.2.2.2.2.2.1 d10.toNat).bind fun x1 =>
   bif inb d10 d1.2.2.2.2.2.2.1.length then
   (nth d1.2.2.2.2.2.2.1 d10.toNat).bind fun x2 =>
   agree (
   (c143 rf x2.2).bind fun y3 =>
   bif (Nat.ble (d8.length + 1) most) && true then
   k198 rb d1 d2 d3 d4 d5 d6 d7 (d8 ++ [(x1.1, y3)]) d9 (IntKind.i64.wrap (d10 + 1))
   else
   none
   ) (
   (c143 rf x2.2).bind fun y3 =>
   agN 1 (
   bif (Nat.ble (d8.length + 1) most) && true then
   k198 rb d1 d2 d3 d4 d5 d6 d7 (d8 ++ [(x1.1, y3)]) d9 (IntKind.i64.wrap (d10 + 1))
   else
   none
   )
   )
   else
   none
  else
   none
 else
  some (d1, d2, d3, d4, d5, d6, d7, d9, d8)
def b198 (rf : T.RF) (rb : T.RB) (d1 : XUn) (d2 : Bool) (d3 : List UInt8) (d4 : List UInt8) (d5 : Int) (d6 : List XPm) (d7 : List XPm) (d8 : List XEq) (d9 : List XIt) (d10 : Int) : Option (XUn × Bool × List UInt8 × List UInt8 × Int × List XPm × List XPm × List XIt × List XEq) :=
 bif decide (d10 < (((d1.2.2.2.2.2.2.1.length : Nat) : Int))) then
  bif inb d10 d1.2.2.2.2.2.2.1.length then
   (nth d1.2.2.2.2.2.2.1 d10.toNat).bind fun x1 =>
   bif inb d10 d1.2.2.2.2.2.2.1.length then
   (nth d1.2.2.2.2.2.2.1 d10.toNat).bind fun x2 =>
   (c143 rf x2.2).bind fun y3 =>
   bif (Nat.ble (d8.length + 1) most) && true then
   k198 rb d1 d2 d3 d4 d5 d6 d7 (d8 ++ [(x1.1, y3)]) d9 (IntKind.i64.wrap (d10 + 1))
   else
   none
   else
   none
  else
   none
 else
  some (d1, d2, d3, d4, d5, d6, d7, d9, d8)
theorem eb198 : EqB 198 fun a b => U10 (b198q a b) := fun _ _ _ => by kernel_rfl
theorem sb198 (rf rb d1 d2 d3 d4 d5 d6 d7 d8 d9 d10) : b198q rf rb d1 d2 d3 d4 d5 d6 d7 d8 d9 d10 = b198 rf rb d1 d2 d3 d4 d5 d6 d7 d8 d9 d10 := by
 unfold b198q b198; simp only [agN_eq, agree_self, agree_swap]
def b199 (rf : T.RF) (rb : T.RB) (d1 : XUn) (d2 : Bool) (d3 : List UInt8) (d4 : List UInt8) (d5 : Int) (d6 : List XPm) (d7 : List XPm) (d8 : List XEq) (d9 : List XIt) (d10 : Int) : Option (XUn × Bool × List UInt8 × List UInt8 × Int × List XPm × List XPm × List XEq × List XIt) :=
 bif decide (d10 < (((d1.2.2.2.2.2.2.2.length : Nat) : Int))) then
  bif inb d10 d1.2.2.2.2.2.2.2.length then
   (nth d1.2.2.2.2.2.2.2 d10.toNat).bind fun x1 =>
   (c143 rf x1.2.2.2.1).bind fun y2 =>
   (c143 rf x1.2.2.2.2.1).bind fun y3 =>
   (k200 rb d1 x1.1 x1.2.1 x1.2.2.1 y2 y3 [] d10 0).bind fun z4 =>
   bif (Nat.ble (d9.length + 1) most) && true then
   k199 rb z4.1 d2 d3 d4 d5 d6 d7 d8 (d9 ++ [z4.2]) (IntKind.i64.wrap (d10 + 1))
   else
   none
  else
   none
 else
  some (d1, d2, d3, d4, d5, d6, d7, d8, d9)
theorem eb199 : EqB 199 fun a b => U10 (b199 a b) := fun _ _ _ => by kernel_rfl
def b200q (rf : T.RF) (rb : T.RB) (d1 : XUn) (d2 : Int) (d3 : List UInt8) (d4 : Int) (d5 : List XN) (d6 : List XN) (d7 : List (List XN)) (d8 : Int) (d9 : Int) : Option (XUn × XIt) :=
 bif inb d8 d1.2.2.2.2.2.2.2.length then
  (nth d1.2.2.2.2.2.2.2 d8.toNat).bind fun x1 =>
  bif decide (d9 < (((x1.2.2.2.2.2.length : Nat) : Int))) then
   bif inb d8 d1.2.2.2.2.2.2.2.length then
   (nth d1.2.2.2.2.2.2.2 d8.toNat).bind fun x2 =>
   bif inb d9 x2.2.2.2.2.2.length then
   (nth x2.2.2.2.2.2 d9.toNat).bind fun x3 =>
   agree (
   (c143 rf x3).bind fun y4 =>
   bif (Nat.ble (d7.length + 1) most) && true then
   k200 rb d1 d2 d3 d4 d5 d6 (d7 ++ [y4]) d8 (IntKind.i64.wrap (d9 + 1))
   else
   none
   ) (
   (c143 rf x3).bind fun y4 =>
   agN 1 (
   bif (Nat.ble (d7.length + 1) most) && true then
   k200 rb d1 d2 d3 d4 d5 d6 (d7 ++ [y4]) d8 (IntKind.i64.wrap (d9 + 1))
   else
   none
   )
   )
   else
   none
   else
   none
  else
   some (d1, d2, d3, d4, d5, d6, d7)
 else
  none
def b200 (rf : T.RF) (rb : T.RB) (d1 : XUn) (d2 : Int) (d3 : List UInt8) (d4 : Int) (d5 : List XN) (d6 : List XN) (d7 : List (List XN)) (d8 : Int) (d9 : Int) : Option (XUn × XIt) :=
 bif inb d8 d1.2.2.2.2.2.2.2.length then
  (nth d1.2.2.2.2.2.2.2 d8.toNat).bind fun x1 =>
  bif decide (d9 < (((x1.2.2.2.2.2.length : Nat) : Int))) then
   bif inb d8 d1.2.2.2.2.2.2.2.length then
   (nth d1.2.2.2.2.2.2.2 d8.toNat).bind fun x2 =>
   bif inb d9 x2.2.2.2.2.2.length then
   (nth x2.2.2.2.2.2 d9.toNat).bind fun x3 =>
   (c143 rf x3).bind fun y4 =>
   bif (Nat.ble (d7.length + 1) most) && true then
   k200 rb d1 d2 d3 d4 d5 d6 (d7 ++ [y4]) d8 (IntKind.i64.wrap (d9 + 1))
   else
   none
   else
   none
   else
   none
  else
   some (d1, d2, d3, d4, d5, d6, d7)
 else
  none
theorem eb200 : EqB 200 fun a b => U9 (b200q a b) := fun _ _ _ => by kernel_rfl
theorem sb200 (rf rb d1 d2 d3 d4 d5 d6 d7 d8 d9) : b200q rf rb d1 d2 d3 d4 d5 d6 d7 d8 d9 = b200 rf rb d1 d2 d3 d4 d5 d6 d7 d8 d9 := by
 unfold b200q b200; simp only [agN_eq, agree_self, agree_swap]
def r142 (rf : T.RF) (rb : T.RB) (d1 : XUn) : Option XUn :=
 bif Nat.ble d1.2.2.1.length most then
  bif Nat.ble d1.2.2.2.2.2.1.length most then
   (k198 rb d1 d1.1 d1.2.1 d1.2.2.2.1 d1.2.2.2.2.1 d1.2.2.1 d1.2.2.2.2.2.1 [] [] 0).bind fun z1 =>
   (k199 rb z1.1 z1.2.1 z1.2.2.1 z1.2.2.2.1 z1.2.2.2.2.1 z1.2.2.2.2.2.1 z1.2.2.2.2.2.2.1 z1.2.2.2.2.2.2.2.2 z1.2.2.2.2.2.2.2.1 0).bind fun z2 =>
   some (z2.2.1, z2.2.2.1, z2.2.2.2.2.2.1, z2.2.2.2.1, z2.2.2.2.2.1, z2.2.2.2.2.2.2)
  else
   none
 else
  none
theorem er142 : EqF 142 fun a b => r142 a b := fun _ _ _ => by kernel_rfl
def b203q (rf : T.RF) (rb : T.RB) (d1 : XPg) (d2 : List UInt8) (d3 : List UInt8) (d4 : List XUn) (d5 : Int) : Option (XPg × List UInt8 × List UInt8 × List XUn) :=
 bif decide (d5 < (((d1.1.length : Nat) : Int))) then
  bif inb d5 d1.1.length then
   (nth d1.1 d5.toNat).bind fun x1 =>
   agree (
   (c142 rf x1).bind fun y2 =>
   bif (Nat.ble (d4.length + 1) most) && true then
   k203 rb d1 d2 d3 (d4 ++ [y2]) (IntKind.i64.wrap (d5 + 1))
   else
   none
   ) (
   (c142 rf x1).bind fun y2 =>
   agN 1 (
   bif (Nat.ble (d4.length + 1) most) && true then
   k203 rb d1 d2 d3 (d4 ++ [y2]) (IntKind.i64.wrap (d5 + 1))
   else
   none
   )
   )
  else
   none
 else
  some (d1, d2, d3, d4)
def b203 (rf : T.RF) (rb : T.RB) (d1 : XPg) (d2 : List UInt8) (d3 : List UInt8) (d4 : List XUn) (d5 : Int) : Option (XPg × List UInt8 × List UInt8 × List XUn) :=
 bif decide (d5 < (((d1.1.length : Nat) : Int))) then
  bif inb d5 d1.1.length then
   (nth d1.1 d5.toNat).bind fun x1 =>
   (c142 rf x1).bind fun y2 =>
   bif (Nat.ble (d4.length + 1) most) && true then
   k203 rb d1 d2 d3 (d4 ++ [y2]) (IntKind.i64.wrap (d5 + 1))
   else
   none
  else
   none
 else
  some (d1, d2, d3, d4)
theorem eb203 : EqB 203 fun a b => U5 (b203q a b) := fun _ _ _ => by kernel_rfl
theorem sb203 (rf rb d1 d2 d3 d4 d5) : b203q rf rb d1 d2 d3 d4 d5 = b203 rf rb d1 d2 d3 d4 d5 := by
 unfold b203q b203; simp only [agN_eq, agree_self, agree_swap]
def r141 (rf : T.RF) (rb : T.RB) (d1 : XPg) : Option XPg :=
 (k203 rb d1 d1.2.1 d1.2.2 [] 0).bind fun z1 =>
 some (z1.2.2.2, z1.2.1, z1.2.2.1)
theorem er141 : EqF 141 fun a b => r141 a b := fun _ _ _ => by kernel_rfl
def b205 (rf : T.RF) (rb : T.RB) (d1 : List XPm) (d2 : List XPm) (d3 : Int) : Option (Bool ⊕ Unit) :=
 bif decide (d3 < (((d1.length : Nat) : Int))) then
  bif inb d3 d1.length then
   (nth d1 d3.toNat).bind fun x1 =>
   bif inb d3 d2.length then
   (nth d2 d3.toNat).bind fun x2 =>
   bif !((x1.1 == x2.1) && (x1.2 == x2.2)) then
   some (.inl false)
   else
   k205 rb d1 d2 (IntKind.i64.wrap (d3 + 1))
   else
   none
  else
   none
 else
  some (.inr ())
theorem eb205 : EqB 205 fun a b => U3 (b205 a b) := fun _ _ _ => by kernel_rfl
theorem ob205 {d1 d2 d3 y} (h : b205 T.rf T.rb d1 d2 d3 = some y) : k205 T.rb d1 d2 d3 = some y := eb205.o h
def r152 (rf : T.RF) (rb : T.RB) (d1 : List XPm) (d2 : List XPm) : Option Bool :=
 bif (((d1.length : Nat) : Int)) != (((d2.length : Nat) : Int)) then
  some false
 else
  (k205 rb d1 d2 0).bind fun z1 =>
  match z1 with
  | .inl u2 =>
    some u2
  | .inr w3 =>
    some true
theorem er152 : EqF 152 fun a b => U2 (r152 a b) := fun _ _ _ => by kernel_rfl
theorem or152 {d1 d2 y} (h : r152 T.rf T.rb d1 d2 = some y) : c152 T.rf d1 d2 = some y := er152.o h
def b207 (rf : T.RF) (rb : T.RB) (d1 : List XN) (d2 : List XN) (d3 : Int) : Option (Bool ⊕ Unit) :=
 bif decide (d3 < (((d1.length : Nat) : Int))) then
  bif inb d3 d1.length then
   (nth d1 d3.toNat).bind fun x1 =>
   bif inb d3 d2.length then
   (nth d2 d3.toNat).bind fun x2 =>
   bif !((x1.1 == x2.1) && ((x1.2.1 == x2.2.1) && ((x1.2.2.1 == x2.2.2.1) && ((x1.2.2.2.1 == x2.2.2.2.1) && ((x1.2.2.2.2.1 == x2.2.2.2.2.1) && (x1.2.2.2.2.2 == x2.2.2.2.2.2)))))) then
   some (.inl false)
   else
   k207 rb d1 d2 (IntKind.i64.wrap (d3 + 1))
   else
   none
  else
   none
 else
  some (.inr ())
theorem eb207 : EqB 207 fun a b => U3 (b207 a b) := fun _ _ _ => by kernel_rfl
theorem ob207 {d1 d2 d3 y} (h : b207 T.rf T.rb d1 d2 d3 = some y) : k207 T.rb d1 d2 d3 = some y := eb207.o h
def r153 (rf : T.RF) (rb : T.RB) (d1 : List XN) (d2 : List XN) : Option Bool :=
 bif (((d1.length : Nat) : Int)) != (((d2.length : Nat) : Int)) then
  some false
 else
  (k207 rb d1 d2 0).bind fun z1 =>
  match z1 with
  | .inl u2 =>
    some u2
  | .inr w3 =>
    some true
theorem er153 : EqF 153 fun a b => U2 (r153 a b) := fun _ _ _ => by kernel_rfl
theorem or153 {d1 d2 y} (h : r153 T.rf T.rb d1 d2 = some y) : c153 T.rf d1 d2 = some y := er153.o h
def b209 (rf : T.RF) (rb : T.RB) (d1 : List (List XN)) (d2 : List (List XN)) (d3 : Int) : Option (Bool ⊕ Unit) :=
 bif decide (d3 < (((d1.length : Nat) : Int))) then
  bif inb d3 d1.length then
   (nth d1 d3.toNat).bind fun x1 =>
   bif inb d3 d2.length then
   (nth d2 d3.toNat).bind fun x2 =>
   (c153 rf x1 x2).bind fun y3 =>
   bif !y3 then
   some (.inl false)
   else
   k209 rb d1 d2 (IntKind.i64.wrap (d3 + 1))
   else
   none
  else
   none
 else
  some (.inr ())
theorem eb209 : EqB 209 fun a b => U3 (b209 a b) := fun _ _ _ => by kernel_rfl
theorem ob209 {d1 d2 d3 y} (h : b209 T.rf T.rb d1 d2 d3 = some y) : k209 T.rb d1 d2 d3 = some y := eb209.o h
def r154 (rf : T.RF) (rb : T.RB) (d1 : List (List XN)) (d2 : List (List XN)) : Option Bool :=
 bif (((d1.length : Nat) : Int)) != (((d2.length : Nat) : Int)) then
  some false
 else
  (k209 rb d1 d2 0).bind fun z1 =>
  match z1 with
  | .inl u2 =>
    some u2
  | .inr w3 =>
    some true
theorem er154 : EqF 154 fun a b => U2 (r154 a b) := fun _ _ _ => by kernel_rfl
theorem or154 {d1 d2 y} (h : r154 T.rf T.rb d1 d2 = some y) : c154 T.rf d1 d2 = some y := er154.o h
def b206 (rf : T.RF) (rb : T.RB) (d1 : XUn) (d2 : XUn) (d3 : Int) : Option ((XUn × XUn × Bool) ⊕ (XUn × XUn)) :=
 bif decide (d3 < (((d1.2.2.2.2.2.2.1.length : Nat) : Int))) then
  bif inb d3 d1.2.2.2.2.2.2.1.length then
   (nth d1.2.2.2.2.2.2.1 d3.toNat).bind fun x1 =>
   bif inb d3 d2.2.2.2.2.2.2.1.length then
   (nth d2.2.2.2.2.2.2.1 d3.toNat).bind fun x2 =>
   bif !(x1.1 == x2.1) then
   some (.inl (d1, d2, false))
   else
   bif inb d3 d1.2.2.2.2.2.2.1.length then
   (nth d1.2.2.2.2.2.2.1 d3.toNat).bind fun x3 =>
   bif inb d3 d2.2.2.2.2.2.2.1.length then
   (nth d2.2.2.2.2.2.2.1 d3.toNat).bind fun x4 =>
   (c153 rf x3.2 x4.2).bind fun y5 =>
   bif !y5 then
   some (.inl (d1, d2, false))
   else
   k206 rb d1 d2 (IntKind.i64.wrap (d3 + 1))
   else
   none
   else
   none
   else
   none
  else
   none
 else
  some (.inr (d1, d2))
theorem eb206 : EqB 206 fun a b => U3 (b206 a b) := fun _ _ _ => by kernel_rfl
theorem ob206 {d1 d2 d3 y} (h : b206 T.rf T.rb d1 d2 d3 = some y) : k206 T.rb d1 d2 d3 = some y := eb206.o h
def b208 (rf : T.RF) (rb : T.RB) (d1 : XUn) (d2 : XUn) (d3 : Int) : Option ((XUn × XUn × Bool) ⊕ (XUn × XUn)) :=
 bif decide (d3 < (((d1.2.2.2.2.2.2.2.length : Nat) : Int))) then
  bif inb d3 d1.2.2.2.2.2.2.2.length then
   (nth d1.2.2.2.2.2.2.2 d3.toNat).bind fun x1 =>
   bif inb d3 d2.2.2.2.2.2.2.2.length then
   (nth d2.2.2.2.2.2.2.2 d3.toNat).bind fun x2 =>
   bif x1.1 != x2.1 then
   some (.inl (d1, d2, false))
   else
   bif !(x1.2.1 == x2.2.1) then
   some (.inl (d1, d2, false))
   else
   bif x1.2.2.1 != x2.2.2.1 then
   some (.inl (d1, d2, false))
   else
   (c153 rf x1.2.2.2.1 x2.2.2.2.1).bind fun y3 =>
   bif !y3 then
   some (.inl (d1, d2, false))
   else
   (c153 rf x1.2.2.2.2.1 x2.2.2.2.2.1).bind fun y4 =>
   bif !y4 then
   some (.inl (d1, d2, false))
   else
   (c154 rf x1.2.2.2.2.2 x2.2.2.2.2.2).bind fun y5 =>
   bif !y5 then
   some (.inl (d1, d2, false))
   else
   k208 rb d1 d2 (IntKind.i64.wrap (d3 + 1))
   else
   none
  else
   none
 else
  some (.inr (d1, d2))
theorem eb208 : EqB 208 fun a b => U3 (b208 a b) := fun _ _ _ => by kernel_rfl
theorem ob208 {d1 d2 d3 y} (h : b208 T.rf T.rb d1 d2 d3 = some y) : k208 T.rb d1 d2 d3 = some y := eb208.o h
def r151 (rf : T.RF) (rb : T.RB) (d1 : XUn) (d2 : XUn) : Option Bool :=
 bif !(d1.1 == d2.1) then
  some false
 else
 bif !(d1.2.1 == d2.2.1) then
  some false
 else
  (c152 rf d1.2.2.1 d2.2.2.1).bind fun y1 =>
  bif !y1 then
   some false
  else
  bif !((d1.2.2.2.1 == d2.2.2.2.1) && (d1.2.2.2.2.1 == d2.2.2.2.2.1)) then
   some false
  else
   (c152 rf d1.2.2.2.2.2.1 d2.2.2.2.2.2.1).bind fun y2 =>
   bif !y2 then
    some false
   else
   bif (((d1.2.2.2.2.2.2.1.length : Nat) : Int)) != (((d2.2.2.2.2.2.2.1.length : Nat) : Int)) then
    some false
   else
   bif (((d1.2.2.2.2.2.2.2.length : Nat) : Int)) != (((d2.2.2.2.2.2.2.2.length : Nat) : Int)) then
    some false
   else
    (k206 rb d1 d2 0).bind fun z3 =>
    match z3 with
    | .inl u4 =>
      some u4.2.2
    | .inr w5 =>
      (k208 rb w5.1 w5.2 0).bind fun z6 =>
      match z6 with
      | .inl u7 =>
        some u7.2.2
      | .inr w8 =>
        some true
theorem er151 : EqF 151 fun a b => U2 (r151 a b) := fun _ _ _ => by kernel_rfl
theorem or151 {d1 d2 y} (h : r151 T.rf T.rb d1 d2 = some y) : c151 T.rf d1 d2 = some y := er151.o h
def b204 (rf : T.RF) (rb : T.RB) (d1 : XPg) (d2 : XPg) (d3 : Int) : Option ((XPg × XPg × Bool) ⊕ (XPg × XPg)) :=
 bif decide (d3 < (((d1.1.length : Nat) : Int))) then
  bif inb d3 d1.1.length then
   (nth d1.1 d3.toNat).bind fun x1 =>
   bif inb d3 d2.1.length then
   (nth d2.1 d3.toNat).bind fun x2 =>
   (c151 rf x1 x2).bind fun y3 =>
   bif !y3 then
   some (.inl (d1, d2, false))
   else
   k204 rb d1 d2 (IntKind.i64.wrap (d3 + 1))
   else
   none
  else
   none
 else
  some (.inr (d1, d2))
theorem eb204 : EqB 204 fun a b => U3 (b204 a b) := fun _ _ _ => by kernel_rfl
theorem ob204 {d1 d2 d3 y} (h : b204 T.rf T.rb d1 d2 d3 = some y) : k204 T.rb d1 d2 d3 = some y := eb204.o h
def r150 (rf : T.RF) (rb : T.RB) (d1 : XPg) (d2 : XPg) : Option Bool :=
 bif !(d1.2.1 == d2.2.1) then
  some false
 else
 bif !(d1.2.2 == d2.2.2) then
  some false
 else
 bif (((d1.1.length : Nat) : Int)) != (((d2.1.length : Nat) : Int)) then
  some false
 else
  (k204 rb d1 d2 0).bind fun z1 =>
  match z1 with
  | .inl u2 =>
    some u2.2.2
  | .inr w3 =>
    some true
theorem er150 : EqF 150 fun a b => U2 (r150 a b) := fun _ _ _ => by kernel_rfl
theorem or150 {d1 d2 y} (h : r150 T.rf T.rb d1 d2 = some y) : c150 T.rf d1 d2 = some y := er150.o h
def r2 (rf : T.RF) (rb : T.RB) : Option Bool :=
 (c3 rf ([99, 111, 110, 116, 114, 97, 99, 116, 32, 107, 40, 97, 58, 105, 110, 116, 41, 32, 97, 115, 115, 117, 109, 101, 32, 97, 62, 49, 59, 32, 101, 110, 100, 32, 110, 111, 100, 101, 32, 102, 40, 97, 58, 105, 110, 116, 41, 32, 114, 101, 116, 117, 114, 110, 115, 40, 99, 58, 105, 110, 116, 41, 32, 99, 111, 110, 116, 114, 97, 99, 116, 32, 105, 109, 112, 111, 114, 116, 32, 107, 40, 97, 41, 59, 32, 101, 110, 100, 32, 108, 101, 116, 32, 99, 61, 97, 59, 32, 116, 101, 108, 32, 109, 97, 105, 110, 32, 102, 59] : List UInt8)).bind fun y1 =>
 (c66 rf y1.1).bind fun y2 =>
 (c132 rf y1.1).bind fun y3 =>
 bif y2 == ([99, 111, 110, 116, 114, 97, 99, 116, 32, 107, 32, 40, 32, 97, 32, 58, 32, 105, 110, 116, 32, 41, 32, 97, 115, 115, 117, 109, 101, 32, 49, 32, 60, 32, 97, 32, 59, 32, 101, 110, 100, 32, 110, 111, 100, 101, 32, 102, 32, 40, 32, 97, 32, 58, 32, 105, 110, 116, 32, 41, 32, 114, 101, 116, 117, 114, 110, 115, 32, 40, 32, 99, 32, 58, 32, 105, 110, 116, 32, 41, 32, 99, 111, 110, 116, 114, 97, 99, 116, 32, 105, 109, 112, 111, 114, 116, 32, 107, 32, 40, 32, 97, 32, 41, 32, 59, 32, 101, 110, 100, 32, 108, 101, 116, 32, 99, 32, 61, 32, 97, 32, 59, 32, 116, 101, 108, 32, 109, 97, 105, 110, 32, 102, 32, 59] : List UInt8) then
  (c67 rf y1.1).bind fun y4 =>
  bif y4 then
   (c67 rf ([], ([] : List UInt8), ([] : List UInt8))).bind fun y5 =>
   bif !y5 then
   (c141 rf y1.1).bind fun y6 =>
   (c150 rf y3 y6).bind fun y7 =>
   bif y7 then
   (c66 rf ([], ([102] : List UInt8), ([103] : List UInt8))).bind fun y8 =>
   some (y8 == ([109, 97, 105, 110, 32, 102, 32, 59, 32, 102, 97, 108, 108, 98, 97, 99, 107, 32, 103, 32, 59] : List UInt8))
   else
   some false
   else
   some false
  else
   some false
 else
  some false
theorem er2 : EqF 2 fun a b => U0 (r2 a b) := fun _ _ _ => by kernel_rfl
def r0 (rf : T.RF) (rb : T.RB) (d1 : XPg) : Option Bool :=
 (c1 rf d1).bind fun y1 =>
 bif !y1 then
  (c2 rf).bind fun y2 =>
  some y2
 else
  (c66 rf d1).bind fun y3 =>
  (c67 rf d1).bind fun y4 =>
  bif !y4 then
   bif y3 == ([] : List UInt8) then
   (c2 rf).bind fun y5 =>
   some y5
   else
   some false
  else
   (c3 rf y3).bind fun y6 =>
   bif y6.2.1 == 7 then
   bif decide ((((y3.length : Nat) : Int)) > 100000) then
   (c2 rf).bind fun y7 =>
   some y7
   else
   bif y6.2.1 == 0 then
   (c132 rf d1).bind fun y8 =>
   (c150 rf y6.1 y8).bind fun y9 =>
   bif y9 then
   (c2 rf).bind fun y10 =>
   some y10
   else
   some false
   else
   some false
   else
   bif y6.2.1 == 0 then
   (c132 rf d1).bind fun y11 =>
   (c150 rf y6.1 y11).bind fun y12 =>
   bif y12 then
   (c2 rf).bind fun y13 =>
   some y13
   else
   some false
   else
   some false
theorem er0 : EqF 0 fun a b => r0 a b := fun _ _ _ => by kernel_rfl
theorem or0 {d1 y} (h : r0 T.rf T.rb d1 = some y) : c0 T.rf d1 = some y := er0.o h
def r155 (rf : T.RF) (rb : T.RB) (d1 : List UInt8) : Option Bool :=
 bif decide ((((d1.length : Nat) : Int)) > 1500) then
  (c2 rf).bind fun y1 =>
  some y1
 else
  (c3 rf d1).bind fun y2 =>
  bif y2.2.1 != 0 then
   (c2 rf).bind fun y3 =>
   some y3
  else
   (c66 rf y2.1).bind fun y4 =>
   (c3 rf y4).bind fun y5 =>
   (c67 rf y2.1).bind fun y6 =>
   bif y6 then
   bif y5.2.1 == 0 then
   (c66 rf y5.1).bind fun y7 =>
   bif y7 == y4 then
   (c2 rf).bind fun y8 =>
   some y8
   else
   some false
   else
   some false
   else
   some false
theorem er155 : EqF 155 fun a b => r155 a b := fun _ _ _ => by kernel_rfl
theorem or155 {d1 y} (h : r155 T.rf T.rb d1 = some y) : c155 T.rf d1 = some y := er155.o h
def r156 (rf : T.RF) (rb : T.RB) (d1 : XPg) : Option Bool :=
 (c1 rf d1).bind fun y1 =>
 bif !y1 then
  (c2 rf).bind fun y2 =>
  some y2
 else
  (c132 rf d1).bind fun y3 =>
  (c132 rf y3).bind fun y4 =>
  (c150 rf y4 y3).bind fun y5 =>
  bif !y5 then
   some false
  else
  bif (((y3.1.length : Nat) : Int)) != (((d1.1.length : Nat) : Int)) then
   some false
  else
   (c67 rf d1).bind fun y6 =>
   bif !y6 then
   (c2 rf).bind fun y7 =>
   some y7
   else
   (c66 rf y3).bind fun y8 =>
   (c66 rf d1).bind fun y9 =>
   bif y8 == y9 then
   (c2 rf).bind fun y10 =>
   some y10
   else
   some false
theorem er156 : EqF 156 fun a b => r156 a b := fun _ _ _ => by kernel_rfl
theorem or156 {d1 y} (h : r156 T.rf T.rb d1 = some y) : c156 T.rf d1 = some y := er156.o h
def r157 (rf : T.RF) (rb : T.RB) (d1 : XPg) (d2 : XPg) : Option Bool :=
 (c1 rf d1).bind fun y1 =>
 bif !y1 then
  (c2 rf).bind fun y2 =>
  some y2
 else
  (c1 rf d2).bind fun y3 =>
  bif !y3 then
   (c2 rf).bind fun y4 =>
   some y4
  else
   (c67 rf d1).bind fun y5 =>
   bif !y5 then
   (c2 rf).bind fun y6 =>
   some y6
   else
   (c67 rf d2).bind fun y7 =>
   bif !y7 then
   (c2 rf).bind fun y8 =>
   some y8
   else
   (c66 rf d1).bind fun y9 =>
   (c66 rf d2).bind fun y10 =>
   (c132 rf d1).bind fun y11 =>
   (c132 rf d2).bind fun y12 =>
   (c150 rf y11 y12).bind fun y13 =>
   bif (y9 == y10) == y13 then
   (c2 rf).bind fun y14 =>
   some y14
   else
   some false
theorem er157 : EqF 157 fun a b => U2 (r157 a b) := fun _ _ _ => by kernel_rfl
theorem or157 {d1 d2 y} (h : r157 T.rf T.rb d1 d2 = some y) : c157 T.rf d1 d2 = some y := er157.o h
def r158 (rf : T.RF) (rb : T.RB) (d1 : XPg) : Option Bool :=
 (c1 rf d1).bind fun y1 =>
 bif !y1 then
  (c2 rf).bind fun y2 =>
  some y2
 else
  (c67 rf d1).bind fun y3 =>
  bif !y3 then
   (c2 rf).bind fun y4 =>
   some y4
  else
  bif decide ((((d1.1.length : Nat) : Int)) < 1) then
   (c2 rf).bind fun y5 =>
   some y5
  else
  bif inb' 1 d1.1.length then
   (c66 rf d1).bind fun y6 =>
   (c66 rf (sub d1.1 (some (1, (d1.1.length - 1))), d1.2)).bind fun y7 =>
   (c67 rf (sub d1.1 (some (1, (d1.1.length - 1))), d1.2)).bind fun y8 =>
   bif y8 then
   bif decide ((((y7.length : Nat) : Int)) < (((y6.length : Nat) : Int))) then
   bif inb' (IntKind.i64.wrap ((((y6.length : Nat) : Int)) - (((y7.length : Nat) : Int)))) y6.length then
   bif (sub y6 (some ((IntKind.i64.wrap ((((y6.length : Nat) : Int)) - (((y7.length : Nat) : Int)))).toNat, (y6.length - (IntKind.i64.wrap ((((y6.length : Nat) : Int)) - (((y7.length : Nat) : Int)))).toNat)))) == y7 then
   (c2 rf).bind fun y9 =>
   some y9
   else
   some false
   else
   none
   else
   some false
   else
   some false
  else
   none
theorem er158 : EqF 158 fun a b => r158 a b := fun _ _ _ => by kernel_rfl
theorem or158 {d1 y} (h : r158 T.rf T.rb d1 = some y) : c158 T.rf d1 = some y := er158.o h
theorem place_len : tabs.placeL.length = 210 := rfl
end
end Go.Proofs.YtlobhcgbmpcdlaaGreatDoor.R
