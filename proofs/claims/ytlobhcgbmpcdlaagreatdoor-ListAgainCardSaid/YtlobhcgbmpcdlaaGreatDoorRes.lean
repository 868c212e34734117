import Derived.Test.YtlobhcgbmpcdlaaGreatDoorResPA
open Option (bind_some)
namespace Go.Proofs.YtlobhcgbmpcdlaaGreatDoor.R
noncomputable section
open Go Go.Bm Go.Proofs
set_option linter.unusedVariables false
set_option linter.unusedSimpArgs false
set_option maxRecDepth 100000
def c4L (rf : T.RF) (rb : T.RB) (d1 : List UInt8) (d2 : List UInt8) (d3 : Int × Int) (d4 : XR) (d5 : List UInt8) (d6 : List UInt8) (d7 : List XUn) (d8 : List XUn) : Option ((List UInt8 × List UInt8 × (Int × Int) × XR × List UInt8 × List UInt8 × List XUn × List XUn × List XUn) ⊕ (List UInt8 × List UInt8 × (Int × Int) × XR × List UInt8 × List UInt8 × List XUn × List XUn)) :=
 (c23 rf d4).bind fun y1 =>
 bif y1.2 then
  agN 1 (
   bif decide (y1.1.2.1 < (((y1.1.1.length : Nat) : Int))) then
   (c26 rf y1.1 5).bind fun y2 =>
   (c23 rf y2).bind fun y3 =>
   bif !y3.2 then
   some (.inl (([] : List UInt8), ([] : List UInt8), y3.1.2.2, y3.1, d5, d6, d7, d8, []))
   else
   some (.inr (d5, d6, (0, 0), y3.1, d5, d6, d7, d8))
   else
   (c23 rf y1.1).bind fun y4 =>
   bif !y4.2 then
   some (.inl (([] : List UInt8), ([] : List UInt8), y4.1.2.2, y4.1, d5, d6, d7, d8, []))
   else
   some (.inr (d5, d6, (0, 0), y4.1, d5, d6, d7, d8))
  )
 else
  agN 1 (
   (c23 rf y1.1).bind fun y5 =>
   bif !y5.2 then
   some (.inl (([] : List UInt8), ([] : List UInt8), y5.1.2.2, y5.1, d5, d6, d7, d8, []))
   else
   some (.inr (d5, d6, (0, 0), y5.1, d5, d6, d7, d8))
  )
def b70 (rf : T.RF) (rb : T.RB) (d1 : List UInt8) (d2 : List UInt8) (d3 : Int × Int) (d4 : XR) (d5 : List UInt8) (d6 : List UInt8) (d7 : List XUn) (d8 : List XUn) : Option ((List UInt8 × List UInt8 × (Int × Int) × XR × List UInt8 × List UInt8 × List XUn × List XUn × List XUn) ⊕ (List UInt8 × List UInt8 × (Int × Int) × XR × List UInt8 × List UInt8 × List XUn × List XUn)) :=
 (c23 rf d4).bind fun y1 =>
 bif y1.2 then
  bif decide (y1.1.2.1 < (((y1.1.1.length : Nat) : Int))) then
   (c26 rf y1.1 5).bind fun y2 =>
   (c23 rf y2).bind fun y3 =>
   bif !y3.2 then
   some (.inl (([] : List UInt8), ([] : List UInt8), y3.1.2.2, y3.1, d5, d6, d7, d8, []))
   else
   some (.inr (d5, d6, (0, 0), y3.1, d5, d6, d7, d8))
  else
   (c23 rf y1.1).bind fun y4 =>
   bif !y4.2 then
   some (.inl (([] : List UInt8), ([] : List UInt8), y4.1.2.2, y4.1, d5, d6, d7, d8, []))
   else
   some (.inr (d5, d6, (0, 0), y4.1, d5, d6, d7, d8))
 else
  (c23 rf y1.1).bind fun y5 =>
  bif !y5.2 then
   some (.inl (([] : List UInt8), ([] : List UInt8), y5.1.2.2, y5.1, d5, d6, d7, d8, []))
  else
   some (.inr (d5, d6, (0, 0), y5.1, d5, d6, d7, d8))
theorem c7T : EqB 70 fun a b => U8 (c4L a b) := fun _ _ _ => by kernel_rfl
theorem d3e (rf rb d1 d2 d3 d4 d5 d6 d7 d8) : c4L rf rb d1 d2 d3 d4 d5 d6 d7 d8 = b70 rf rb d1 d2 d3 d4 d5 d6 d7 d8 := by
 unfold c4L b70; simp only [G3, m9, B5]
theorem c5H {d1 d2 d3 d4 d5 d6 d7 d8 y} (h : b70 T.rf T.rb d1 d2 d3 d4 d5 d6 d7 d8 = some y) : k70 T.rb d1 d2 d3 d4 d5 d6 d7 d8 = some y := c7T.o ((d3e _ _ _ _ _ _ _ _ _ _).trans h)
def r3 (rf : T.RF) (rb : T.RB) (d1 : List UInt8) : Option (XPg × Int × Int) :=
 (c4 rf d1).bind fun y1 =>
 bif y1.2.1 != 0 then
  some (([], ([] : List UInt8), ([] : List UInt8)), y1.2)
 else
  (k69 rb (y1.1, 0, 0, 0) ([] : List UInt8) ([] : List UInt8) []).bind fun z2 =>
  (c28 rf z2.1 ([109, 97, 105, 110] : List UInt8)).bind fun y3 =>
  (c24 rf y3).bind fun y4 =>
  (c28 rf y4.1 ([59] : List UInt8)).bind fun y5 =>
  (c21 rf y5 ([102, 97, 108, 108, 98, 97, 99, 107] : List UInt8)).bind fun y6 =>
  bif y6.2 then
   (c24 rf y6.1).bind fun y7 =>
   (c28 rf y7.1 ([59] : List UInt8)).bind fun y8 =>
   (k70 rb ([] : List UInt8) ([] : List UInt8) (0, 0) y8 y4.2 y7.2 [] z2.2.2.2).bind fun z9 =>
   match z9 with
   | .inl u10 =>
     some ((u10.2.2.2.2.2.2.2.2, u10.1, u10.2.1), u10.2.2.1)
   | .inr w11 =>
     some ((w11.2.2.2.2.2.2.2, w11.1, w11.2.1), w11.2.2.1)
  else
   (k70 rb ([] : List UInt8) ([] : List UInt8) (0, 0) y6.1 y4.2 z2.2.2.1 [] z2.2.2.2).bind fun z12 =>
   match z12 with
   | .inl u13 =>
     some ((u13.2.2.2.2.2.2.2.2, u13.1, u13.2.1), u13.2.2.1)
   | .inr w14 =>
     some ((w14.2.2.2.2.2.2.2, w14.1, w14.2.1), w14.2.2.1)
theorem er3 : EqF 3 fun a b => r3 a b := fun _ _ _ => by kernel_rfl
theorem or3 {d1 y} (h : r3 T.rf T.rb d1 = some y) : c3 T.rf d1 = some y := er3.o h
def r69 (rf : T.RF) (rb : T.RB) (d1 : List UInt8) : Option (List UInt8) :=
 some (a2v d1)
theorem c9x : EqF 69 fun a b => r69 a b := fun _ _ _ => by kernel_rfl
theorem d5R {d1 y} (h : r69 T.rf T.rb d1 = some y) : c69 T.rf d1 = some y := c9x.o h
def r70 (rf : T.RF) (rb : T.RB) (d1 : Int) : Option Bool :=
 bif decide (d1 ≥ 48) then
  some (decide (d1 ≤ 57))
 else
  some false
theorem c9y : EqF 70 fun a b => r70 a b := fun _ _ _ => by kernel_rfl
theorem d5S {d1 y} (h : r70 T.rf T.rb d1 = some y) : c70 T.rf d1 = some y := c9y.o h
def r74 (rf : T.RF) (rb : T.RB) (d1 : List UInt8) : Option Bool :=
 some (!(d1 == d1))
theorem c9C : EqF 74 fun a b => r74 a b := fun _ _ _ => by kernel_rfl
theorem d5V {d1 y} (h : r74 T.rf T.rb d1 = some y) : c74 T.rf d1 = some y := c9C.o h
def r73 (rf : T.RF) (rb : T.RB) (d1 : List UInt8) (d2 : List UInt8) : Option Bool :=
 (c74 rf d1).bind fun y1 =>
 bif y1 then
  (c74 rf d2).bind fun y2 =>
  bif !y2 then
   some true
  else
   some (ltB d1 d2)
 else
  some (ltB d1 d2)
theorem c9B : EqF 73 fun a b => U2 (r73 a b) := fun _ _ _ => by kernel_rfl
theorem d5U {d1 d2 y} (h : r73 T.rf T.rb d1 d2 = some y) : c73 T.rf d1 d2 = some y := c9B.o h
def r75 (rf : T.RF) (rb : T.RB) (d1 : List UInt8) : Option Bool :=
 some (!(d1 == d1))
theorem c9D : EqF 75 fun a b => r75 a b := fun _ _ _ => by kernel_rfl
theorem d5W {d1 y} (h : r75 T.rf T.rb d1 = some y) : c75 T.rf d1 = some y := c9D.o h
def b71 (rf : T.RF) (rb : T.RB) (d1 : List (List UInt8)) (d2 : List UInt8) (d3 : Int) (d4 : Int) : Option Int :=
 bif decide (d3 < d4) then
  bif inb (IntKind.i64.wrap (b1z IntKind.u64 (IntKind.u64.wrap (IntKind.i64.wrap (d3 + d4))) 1)) d1.length then
   (nth d1 (IntKind.i64.wrap (b1z IntKind.u64 (IntKind.u64.wrap (IntKind.i64.wrap (d3 + d4))) 1)).toNat).bind fun x1 =>
   (c73 rf x1 d2).bind fun y2 =>
   bif y2 then
   k71 rb d1 d2 (IntKind.i64.wrap ((IntKind.i64.wrap (b1z IntKind.u64 (IntKind.u64.wrap (IntKind.i64.wrap (d3 + d4))) 1)) + 1)) d4
   else
   k71 rb d1 d2 d3 (IntKind.i64.wrap (b1z IntKind.u64 (IntKind.u64.wrap (IntKind.i64.wrap (d3 + d4))) 1))
  else
   none
 else
  some d3
theorem c7U : EqB 71 fun a b => U4 (b71 a b) := fun _ _ _ => by kernel_rfl
theorem c1j {d1 d2 d3 d4 y} (h : b71 T.rf T.rb d1 d2 d3 d4 = some y) : k71 T.rb d1 d2 d3 d4 = some y := c7U.o h
def r72 (rf : T.RF) (rb : T.RB) (d1 : List (List UInt8)) (d2 : List UInt8) : Option (Int × Bool) :=
 (k71 rb d1 d2 0 (((d1.length : Nat) : Int))).bind fun z1 =>
 bif decide (z1 < (((d1.length : Nat) : Int))) then
  bif inb z1 d1.length then
   (nth d1 z1.toNat).bind fun x2 =>
   bif x2 == d2 then
   some (z1, true)
   else
   bif inb z1 d1.length then
   (nth d1 z1.toNat).bind fun x3 =>
   (c75 rf x3).bind fun y4 =>
   bif y4 then
   (c75 rf d2).bind fun y5 =>
   some (z1, y5)
   else
   some (z1, false)
   else
   none
  else
   none
 else
  some (z1, false)
theorem c9A : EqF 72 fun a b => U2 (r72 a b) := fun _ _ _ => by kernel_rfl
theorem d2J {d1 d2 y} (h : r72 T.rf T.rb d1 d2 = some y) : c72 T.rf d1 d2 = some y := c9A.o h
def r71 (rf : T.RF) (rb : T.RB) (d1 : List UInt8) : Option Bool :=
 (c72 rf B3 d1).bind fun y1 =>
 some y1.2
theorem c9z : EqF 71 fun a b => r71 a b := fun _ _ _ => by kernel_rfl
theorem d5T {d1 y} (h : r71 T.rf T.rb d1 = some y) : c71 T.rf d1 = some y := c9z.o h
def r68 (rf : T.RF) (rb : T.RB) (d1 : List UInt8) : Option Bool :=
 bif !(d1 == ([] : List UInt8)) then
  bif decide ((((d1.length : Nat) : Int)) ≤ 40) then
   (c69 rf d1).bind fun y1 =>
   bif y1 == d1 then
   bif inb 0 d1.length then
   (nth d1 0).bind fun b2 =>
   (c70 rf (IntKind.i32.wrap (((b2.toNat : Nat) : Int)))).bind fun y3 =>
   bif !y3 then
   (c71 rf d1).bind fun y4 =>
   some (!y4)
   else
   some false
   else
   none
   else
   some false
  else
   some false
 else
  some false
theorem c9w : EqF 68 fun a b => r68 a b := fun _ _ _ => by kernel_rfl
theorem d5Q {d1 y} (h : r68 T.rf T.rb d1 = some y) : c68 T.rf d1 = some y := c9w.o h
def r85 (rf : T.RF) (rb : T.RB) (d1 : XPm) : Option Bool :=
 (c68 rf d1.1).bind fun y1 =>
 bif y1 then
  bif d1.2 == 1 then
   some true
  else
   some (d1.2 == 2)
 else
  some false
theorem c9N : EqF 85 fun a b => r85 a b := fun _ _ _ => by kernel_rfl
theorem d6e {d1 y} (h : r85 T.rf T.rb d1 = some y) : c85 T.rf d1 = some y := c9N.o h
def r84 (rf : T.RF) (rb : T.RB) (d1 : XPm) : Option Bool :=
 (c85 rf d1).bind fun y1 =>
 some (!y1)
theorem c9M : EqF 84 fun a b => r84 a b := fun _ _ _ => by kernel_rfl
theorem d6d {d1 y} (h : r84 T.rf T.rb d1 = some y) : c84 T.rf d1 = some y := c9M.o h
def b73 (rf : T.RF) (rb : T.RB) (d1 : List XPm) (d2 : Int) (d3 : Int) : Option (Int ⊕ Unit) :=
 bif decide (d3 < d2) then
  bif inb d3 d1.length then
   (nth d1 d3.toNat).bind fun x1 =>
   (c84 rf x1).bind fun y2 =>
   bif y2 then
   some (.inl d3)
   else
   k73 rb d1 d2 (IntKind.i64.wrap (d3 + 1))
  else
   none
 else
  some (.inr ())
theorem c7W : EqB 73 fun a b => U3 (b73 a b) := fun _ _ _ => by kernel_rfl
theorem c5J {d1 d2 d3 y} (h : b73 T.rf T.rb d1 d2 d3 = some y) : k73 T.rb d1 d2 d3 = some y := c7W.o h
def r83 (rf : T.RF) (rb : T.RB) (d1 : List XPm) : Option Int :=
 (k73 rb d1 (((d1.length : Nat) : Int)) 0).bind fun z1 =>
 match z1 with
 | .inl u2 =>
   some u2
 | .inr w3 =>
   some (-1)
theorem c9L : EqF 83 fun a b => r83 a b := fun _ _ _ => by kernel_rfl
theorem d2L {d1 y} (h : r83 T.rf T.rb d1 = some y) : c83 T.rf d1 = some y := c9L.o h
def r82 (rf : T.RF) (rb : T.RB) (d1 : List XPm) : Option Bool :=
 (c83 rf d1).bind fun y1 =>
 some (decide (y1 ≥ 0))
theorem c9K : EqF 82 fun a b => r82 a b := fun _ _ _ => by kernel_rfl
theorem d6c {d1 y} (h : r82 T.rf T.rb d1 = some y) : c82 T.rf d1 = some y := c9K.o h
def r81 (rf : T.RF) (rb : T.RB) (d1 : List XPm) : Option Bool :=
 bif decide ((((d1.length : Nat) : Int)) ≤ 200) then
  (c82 rf d1).bind fun y1 =>
  some (!y1)
 else
  some false
theorem c9J : EqF 81 fun a b => r81 a b := fun _ _ _ => by kernel_rfl
theorem d6b {d1 y} (h : r81 T.rf T.rb d1 = some y) : c81 T.rf d1 = some y := c9J.o h
def r94 (rf : T.RF) (rb : T.RB) (d1 : XN) : Option (List Int) :=
 bif d1.1 == 26 then
  some [d1.2.1, d1.2.2.1, d1.2.2.2.1]
 else
 bif d1.1 == 28 then
  bif d1.2.2.1 != (-1) then
   some [d1.2.2.1, d1.2.1]
  else
  bif d1.1 == 27 then
   bif d1.2.1 == (-1) then
   some []
   else
   bif decide (d1.1 ≥ 6) then
   bif decide (d1.1 ≤ 20) then
   some [d1.2.1, d1.2.2.1]
   else
   bif d1.1 == 4 then
   some [d1.2.1]
   else
   bif d1.1 == 5 then
   some [d1.2.1]
   else
   bif decide (d1.1 ≥ 21) then
   bif decide (d1.1 ≤ 28) then
   some [d1.2.1]
   else
   some []
   else
   some []
   else
   bif d1.1 == 4 then
   some [d1.2.1]
   else
   bif d1.1 == 5 then
   some [d1.2.1]
   else
   bif decide (d1.1 ≥ 21) then
   bif decide (d1.1 ≤ 28) then
   some [d1.2.1]
   else
   some []
   else
   some []
  else
  bif decide (d1.1 ≥ 6) then
   bif decide (d1.1 ≤ 20) then
   some [d1.2.1, d1.2.2.1]
   else
   bif d1.1 == 4 then
   some [d1.2.1]
   else
   bif d1.1 == 5 then
   some [d1.2.1]
   else
   bif decide (d1.1 ≥ 21) then
   bif decide (d1.1 ≤ 28) then
   some [d1.2.1]
   else
   some []
   else
   some []
  else
  bif d1.1 == 4 then
   some [d1.2.1]
  else
  bif d1.1 == 5 then
   some [d1.2.1]
  else
  bif decide (d1.1 ≥ 21) then
   bif decide (d1.1 ≤ 28) then
   some [d1.2.1]
   else
   some []
  else
   some []
 else
 bif d1.1 == 27 then
  bif d1.2.1 == (-1) then
   some []
  else
  bif decide (d1.1 ≥ 6) then
   bif decide (d1.1 ≤ 20) then
   some [d1.2.1, d1.2.2.1]
   else
   bif d1.1 == 4 then
   some [d1.2.1]
   else
   bif d1.1 == 5 then
   some [d1.2.1]
   else
   bif decide (d1.1 ≥ 21) then
   bif decide (d1.1 ≤ 28) then
   some [d1.2.1]
   else
   some []
   else
   some []
  else
  bif d1.1 == 4 then
   some [d1.2.1]
  else
  bif d1.1 == 5 then
   some [d1.2.1]
  else
  bif decide (d1.1 ≥ 21) then
   bif decide (d1.1 ≤ 28) then
   some [d1.2.1]
   else
   some []
  else
   some []
 else
 bif decide (d1.1 ≥ 6) then
  bif decide (d1.1 ≤ 20) then
   some [d1.2.1, d1.2.2.1]
  else
  bif d1.1 == 4 then
   some [d1.2.1]
  else
  bif d1.1 == 5 then
   some [d1.2.1]
  else
  bif decide (d1.1 ≥ 21) then
   bif decide (d1.1 ≤ 28) then
   some [d1.2.1]
   else
   some []
  else
   some []
 else
 bif d1.1 == 4 then
  some [d1.2.1]
 else
 bif d1.1 == 5 then
  some [d1.2.1]
 else
 bif decide (d1.1 ≥ 21) then
  bif decide (d1.1 ≤ 28) then
   some [d1.2.1]
  else
   some []
 else
  some []
theorem c9W : EqF 94 fun a b => r94 a b := fun _ _ _ => by kernel_rfl
theorem d6m {d1 y} (h : r94 T.rf T.rb d1 = some y) : c94 T.rf d1 = some y := c9W.o h
def r95 (rf : T.RF) (rb : T.RB) (d1 : XN) (d2 : List Int) : Option XN :=
 bif d1.1 == 28 then
  bif (((d2.length : Nat) : Int)) == 2 then
   bif inb 0 d2.length then
   (nth d2 0).bind fun x1 =>
   bif inb 1 d2.length then
   (nth d2 1).bind fun x2 =>
   some (d1.1, x2, x1, d1.2.2.2)
   else
   none
   else
   none
  else
  bif decide (0 < (((d2.length : Nat) : Int))) then
   bif inb 0 d2.length then
   (nth d2 0).bind fun x3 =>
   bif decide (1 < (((d2.length : Nat) : Int))) then
   bif inb 1 d2.length then
   (nth d2 1).bind fun x4 =>
   bif decide (2 < (((d2.length : Nat) : Int))) then
   bif inb 2 d2.length then
   (nth d2 2).bind fun x5 =>
   some (d1.1, x3, x4, x5, d1.2.2.2.2)
   else
   none
   else
   some (d1.1, x3, x4, d1.2.2.2)
   else
   none
   else
   bif decide (2 < (((d2.length : Nat) : Int))) then
   bif inb 2 d2.length then
   (nth d2 2).bind fun x6 =>
   some (d1.1, x3, d1.2.2.1, x6, d1.2.2.2.2)
   else
   none
   else
   some (d1.1, x3, d1.2.2)
   else
   none
  else
  bif decide (1 < (((d2.length : Nat) : Int))) then
   bif inb 1 d2.length then
   (nth d2 1).bind fun x7 =>
   bif decide (2 < (((d2.length : Nat) : Int))) then
   bif inb 2 d2.length then
   (nth d2 2).bind fun x8 =>
   some (d1.1, d1.2.1, x7, x8, d1.2.2.2.2)
   else
   none
   else
   some (d1.1, d1.2.1, x7, d1.2.2.2)
   else
   none
  else
  bif decide (2 < (((d2.length : Nat) : Int))) then
   bif inb 2 d2.length then
   (nth d2 2).bind fun x9 =>
   some (d1.1, d1.2.1, d1.2.2.1, x9, d1.2.2.2.2)
   else
   none
  else
   some d1
 else
 bif decide (0 < (((d2.length : Nat) : Int))) then
  bif inb 0 d2.length then
   (nth d2 0).bind fun x10 =>
   bif decide (1 < (((d2.length : Nat) : Int))) then
   bif inb 1 d2.length then
   (nth d2 1).bind fun x11 =>
   bif decide (2 < (((d2.length : Nat) : Int))) then
   bif inb 2 d2.length then
   (nth d2 2).bind fun x12 =>
   some (d1.1, x10, x11, x12, d1.2.2.2.2)
   else
   none
   else
   some (d1.1, x10, x11, d1.2.2.2)
   else
   none
   else
   bif decide (2 < (((d2.length : Nat) : Int))) then
   bif inb 2 d2.length then
   (nth d2 2).bind fun x13 =>
   some (d1.1, x10, d1.2.2.1, x13, d1.2.2.2.2)
   else
   none
   else
   some (d1.1, x10, d1.2.2)
  else
   none
 else
 bif decide (1 < (((d2.length : Nat) : Int))) then
  bif inb 1 d2.length then
   (nth d2 1).bind fun x14 =>
   bif decide (2 < (((d2.length : Nat) : Int))) then
   bif inb 2 d2.length then
   (nth d2 2).bind fun x15 =>
   some (d1.1, d1.2.1, x14, x15, d1.2.2.2.2)
   else
   none
   else
   some (d1.1, d1.2.1, x14, d1.2.2.2)
  else
   none
 else
 bif decide (2 < (((d2.length : Nat) : Int))) then
  bif inb 2 d2.length then
   (nth d2 2).bind fun x16 =>
   some (d1.1, d1.2.1, d1.2.2.1, x16, d1.2.2.2.2)
  else
   none
 else
  some d1
theorem c9X : EqF 95 fun a b => U2 (r95 a b) := fun _ _ _ => by kernel_rfl
theorem d6n {d1 d2 y} (h : r95 T.rf T.rb d1 d2 = some y) : c95 T.rf d1 d2 = some y := c9X.o h
def c4M (rf : T.RF) (rb : T.RB) (d1 : XN) (d2 : Int) : Option (XN × Bool) :=
 l8 (
  (c94 rf d1).bind fun y1 =>
  agN 1 (
   (c95 rf (d1.1, (-1), (-1), (-1), d1.2.2.2.2) y1).bind fun y2 =>
   (k77 rb d1 y2 d2).bind fun z3 =>
   some (z3.1, z3.2.2)
  )
 ) (
  (c94 rf d1).bind fun y1 =>
  (c95 rf (d1.1, (-1), (-1), (-1), d1.2.2.2.2) y1).bind fun y2 =>
  (k77 rb d1 y2 d2).bind fun z3 =>
  some (z3.1, z3.2.2)
 )
def b76 (rf : T.RF) (rb : T.RB) (d1 : XN) (d2 : Int) : Option (XN × Bool) :=
 (c94 rf d1).bind fun y1 =>
 (c95 rf (d1.1, (-1), (-1), (-1), d1.2.2.2.2) y1).bind fun y2 =>
 (k77 rb d1 y2 d2).bind fun z3 =>
 some (z3.1, z3.2.2)
theorem c7Z : EqB 76 fun a b => U2 (c4M a b) := fun _ _ _ => by kernel_rfl
theorem d3f (rf rb d1 d2) : c4M rf rb d1 d2 = b76 rf rb d1 d2 := by
 unfold c4M b76; simp only [G3, m9, B5]
theorem d5u {d1 d2 y} (h : b76 T.rf T.rb d1 d2 = some y) : k76 T.rb d1 d2 = some y := c7Z.o ((d3f _ _ _ _).trans h)
def b77 (rf : T.RF) (rb : T.RB) (d1 : XN) (d2 : XN) (d3 : Int) : Option (XN × XN × Bool) :=
 bif d1.1 == 3 then
  bif decide (d1.1 ≥ 1) then
   bif decide (d1.1 ≤ 28) then
   bif (d1.1 == d2.1) && ((d1.2.1 == d2.2.1) && ((d1.2.2.1 == d2.2.2.1) && ((d1.2.2.2.1 == d2.2.2.2.1) && ((d1.2.2.2.2.1 == d2.2.2.2.2.1) && (d1.2.2.2.2.2 == d2.2.2.2.2.2))))) then
   bif decide (d1.2.2.2.2.1 ≥ 0) then
   bif decide (d1.2.2.2.2.1 ≤ d3) then
   some (d1, d2, (!(d1.2.2.2.2.2 == ([] : List UInt8))) == true)
   else
   some (d1, d2, false)
   else
   some (d1, d2, false)
   else
   some (d1, d2, false)
   else
   some (d1, d2, false)
  else
   some (d1, d2, false)
 else
 bif decide (d1.1 ≥ 1) then
  bif decide (d1.1 ≤ 28) then
   bif (d1.1 == d2.1) && ((d1.2.1 == d2.2.1) && ((d1.2.2.1 == d2.2.2.1) && ((d1.2.2.2.1 == d2.2.2.2.1) && ((d1.2.2.2.2.1 == d2.2.2.2.2.1) && (d1.2.2.2.2.2 == d2.2.2.2.2.2))))) then
   bif decide (d1.2.2.2.2.1 ≥ 0) then
   bif decide (d1.2.2.2.2.1 ≤ d3) then
   some (d1, d2, (!(d1.2.2.2.2.2 == ([] : List UInt8))) == (d1.1 == 27))
   else
   some (d1, d2, false)
   else
   some (d1, d2, false)
   else
   some (d1, d2, false)
  else
   some (d1, d2, false)
 else
  some (d1, d2, false)
theorem c8a : EqB 77 fun a b => U3 (b77 a b) := fun _ _ _ => by kernel_rfl
theorem d5v {d1 d2 d3 y} (h : b77 T.rf T.rb d1 d2 d3 = some y) : k77 T.rb d1 d2 d3 = some y := c8a.o h
def r93 (rf : T.RF) (rb : T.RB) (d1 : XN) : Option Bool :=
 bif d1.1 == 1 then
  (k76 rb d1 2147483647).bind fun z1 =>
  some z1.2
 else
 bif d1.1 == 2 then
  (k76 rb d1 1).bind fun z2 =>
  some z2.2
 else
 bif d1.1 == 25 then
  (k76 rb d1 1000).bind fun z3 =>
  some z3.2
 else
  (k76 rb d1 0).bind fun z4 =>
  some z4.2
theorem c9V : EqF 93 fun a b => r93 a b := fun _ _ _ => by kernel_rfl
theorem d6l {d1 y} (h : r93 T.rf T.rb d1 = some y) : c93 T.rf d1 = some y := c9V.o h
def b79 (rf : T.RF) (rb : T.RB) (d1 : List Bool) (d2 : Bool) (d3 : Int) (d4 : Int) : Option (Int ⊕ Unit) :=
 bif decide (d4 < d3) then
  bif inb d4 d1.length then
   (nth d1 d4.toNat).bind fun x1 =>
   bif d2 == x1 then
   some (.inl d4)
   else
   k79 rb d1 d2 d3 (IntKind.i64.wrap (d4 + 1))
  else
   none
 else
  some (.inr ())
theorem c8c : EqB 79 fun a b => U4 (b79 a b) := fun _ _ _ => by kernel_rfl
theorem c5L {d1 d2 d3 d4 y} (h : b79 T.rf T.rb d1 d2 d3 d4 = some y) : k79 T.rb d1 d2 d3 d4 = some y := c8c.o h
def r97 (rf : T.RF) (rb : T.RB) (d1 : List Bool) (d2 : Bool) : Option Int :=
 (k79 rb d1 d2 (((d1.length : Nat) : Int)) 0).bind fun z1 =>
 match z1 with
 | .inl u2 =>
   some u2
 | .inr w3 =>
   some (-1)
theorem c9Z : EqF 97 fun a b => U2 (r97 a b) := fun _ _ _ => by kernel_rfl
theorem d6p {d1 d2 y} (h : r97 T.rf T.rb d1 d2 = some y) : c97 T.rf d1 d2 = some y := c9Z.o h
def r96 (rf : T.RF) (rb : T.RB) (d1 : List Bool) (d2 : Bool) : Option Bool :=
 (c97 rf d1 d2).bind fun y1 =>
 some (decide (y1 ≥ 0))
theorem c9Y : EqF 96 fun a b => U2 (r96 a b) := fun _ _ _ => by kernel_rfl
theorem d6o {d1 d2 y} (h : r96 T.rf T.rb d1 d2 = some y) : c96 T.rf d1 d2 = some y := c9Y.o h
def b86 (rf : T.RF) (rb : T.RB) (d1 : List Int) (d2 : List XN) (d3 : Int) (d4 : Int) : Option (List Int) :=
 bif decide (d4 < d3) then
  bif inb d4 d2.length then
   (nth d2 d4.toNat).bind fun x1 =>
   (c94 rf x1).bind fun y2 =>
   (k87 rb d1 y2 d4 (((y2.length : Nat) : Int)) 0).bind fun z3 =>
   bif inb d4 z3.1.length then
   (nth z3.1 d4.toNat).bind fun x4 =>
   bif inb d4 z3.1.length then
   bif Nat.blt d4.toNat z3.1.length then
   k86 rb (s6 z3.1 d4.toNat (IntKind.i64.wrap (x4 + 1))) d2 d3 (IntKind.i64.wrap (d4 + 1))
   else
   none
   else
   none
   else
   none
  else
   none
 else
  some d1
theorem c8d : EqB 86 fun a b => U4 (b86 a b) := fun _ _ _ => by kernel_rfl
theorem d1R {d1 d2 d3 d4 y} (h : b86 T.rf T.rb d1 d2 d3 d4 = some y) : k86 T.rb d1 d2 d3 d4 = some y := c8d.o h
def c4N (rf : T.RF) (rb : T.RB) (d1 : List Int) (d2 : List Int) (d3 : Int) (d4 : Int) (d5 : Int) : Option (List Int × List Int) :=
 bif decide (d5 < d4) then
  bif inb d5 d2.length then
   (nth d2 d5.toNat).bind fun x1 =>
   bif decide (x1 ≥ 0) then
   bif decide (x1 < d3) then
   bif inb d3 d1.length then
   bif inb x1 d1.length then
   l8 (
   (nth d1 d3.toNat).bind fun x2 =>
   (nth d1 x1.toNat).bind fun x3 =>
   bif inb d3 d1.length then
   bif Nat.blt d3.toNat d1.length then
   k87 rb (s6 d1 d3.toNat (if x3 > x2 then x3 else x2)) d2 d3 d4 (IntKind.i64.wrap (d5 + 1))
   else
   none
   else
   none
   ) (
   (nth d1 x1.toNat).bind fun x2 =>
   (nth d1 d3.toNat).bind fun x3 =>
   bif inb d3 d1.length then
   bif Nat.blt d3.toNat d1.length then
   k87 rb (s6 d1 d3.toNat (if x2 > x3 then x2 else x3)) d2 d3 d4 (IntKind.i64.wrap (d5 + 1))
   else
   none
   else
   none
   )
   else
   none
   else
   none
   else
   k87 rb d1 d2 d3 d4 (IntKind.i64.wrap (d5 + 1))
   else
   k87 rb d1 d2 d3 d4 (IntKind.i64.wrap (d5 + 1))
  else
   none
 else
  some (d1, d2)
def b87 (rf : T.RF) (rb : T.RB) (d1 : List Int) (d2 : List Int) (d3 : Int) (d4 : Int) (d5 : Int) : Option (List Int × List Int) :=
 bif decide (d5 < d4) then
  bif inb d5 d2.length then
   (nth d2 d5.toNat).bind fun x1 =>
   bif decide (x1 ≥ 0) then
   bif decide (x1 < d3) then
   bif inb d3 d1.length then
   bif inb x1 d1.length then
   (nth d1 d3.toNat).bind fun x2 =>
   (nth d1 x1.toNat).bind fun x3 =>
   bif inb d3 d1.length then
   bif Nat.blt d3.toNat d1.length then
   k87 rb (s6 d1 d3.toNat (if x3 > x2 then x3 else x2)) d2 d3 d4 (IntKind.i64.wrap (d5 + 1))
   else
   none
   else
   none
   else
   none
   else
   none
   else
   k87 rb d1 d2 d3 d4 (IntKind.i64.wrap (d5 + 1))
   else
   k87 rb d1 d2 d3 d4 (IntKind.i64.wrap (d5 + 1))
  else
   none
 else
  some (d1, d2)
theorem c8e : EqB 87 fun a b => U5 (c4N a b) := fun _ _ _ => by kernel_rfl
theorem d3g (rf rb d1 d2 d3 d4 d5) : c4N rf rb d1 d2 d3 d4 d5 = b87 rf rb d1 d2 d3 d4 d5 := by
 unfold c4N b87; simp only [G3, m9, B5]
theorem d1S {d1 d2 d3 d4 d5 y} (h : b87 T.rf T.rb d1 d2 d3 d4 d5 = some y) : k87 T.rb d1 d2 d3 d4 d5 = some y := c8e.o ((d3g _ _ _ _ _ _ _).trans h)
def r99 (rf : T.RF) (rb : T.RB) (d1 : List XN) : Option (List Int) :=
 bif G5 (((d1.length : Nat) : Int)) v8 then
  bif G5 (((d1.length : Nat) : Int)) d1.length then
   (k86 rb (List.replicate d1.length (0 : Int)) d1 (((d1.length : Nat) : Int)) 0).bind fun z1 =>
   some z1
  else
   none
 else
  none
theorem d0b : EqF 99 fun a b => r99 a b := fun _ _ _ => by kernel_rfl
theorem d6r {d1 y} (h : r99 T.rf T.rb d1 = some y) : c99 T.rf d1 = some y := d0b.o h
def r98 (rf : T.RF) (rb : T.RB) (d1 : List XN) : Option Int :=
 bif (((d1.length : Nat) : Int)) == 0 then
  some 0
 else
  (c99 rf d1).bind fun y1 =>
  bif inb (IntKind.i64.wrap ((((d1.length : Nat) : Int)) - 1)) y1.length then
   (nth y1 (IntKind.i64.wrap ((((d1.length : Nat) : Int)) - 1)).toNat).bind fun x2 =>
   some x2
  else
   none
theorem d0a : EqF 98 fun a b => r98 a b := fun _ _ _ => by kernel_rfl
theorem d6q {d1 y} (h : r98 T.rf T.rb d1 = some y) : c98 T.rf d1 = some y := d0a.o h
def b75 (rf : T.RF) (rb : T.RB) (d1 : List Bool) (d2 : List XN) (d3 : List XN) (d4 : Int) (d5 : Int) : Option ((List Bool × Bool) ⊕ (List Bool)) :=
 bif decide (d5 < d4) then
  bif inb d5 d3.length then
   (nth d3 d5.toNat).bind fun x1 =>
   (c93 rf x1).bind fun y2 =>
   bif !y2 then
    some (.inl (d1, false))
   else
    (c94 rf x1).bind fun y3 =>
    (k78 rb d1 x1 y3 d2 d5 (((y3.length : Nat) : Int)) 0).bind fun z4 =>
    match z4 with
    | .inl u5 =>
      some (.inl (u5.1, u5.2.2.2))
    | .inr w6 =>
      k75 rb w6.1 d2 d3 d4 (IntKind.i64.wrap (d5 + 1))
  else
   none
 else
  some (.inr d1)
theorem c7Y : EqB 75 fun a b => U5 (b75 a b) := fun _ _ _ => by kernel_rfl
theorem b9d {d1 d2 d3 d4 d5 y} (h : b75 T.rf T.rb d1 d2 d3 d4 d5 = some y) : k75 T.rb d1 d2 d3 d4 d5 = some y := c7Y.o h
def b78 (rf : T.RF) (rb : T.RB) (d1 : List Bool) (d2 : XN) (d3 : List Int) (d4 : List XN) (d5 : Int) (d6 : Int) (d7 : Int) : Option ((List Bool × XN × List Int × Bool) ⊕ (List Bool × XN × List Int)) :=
 bif decide (d7 < d6) then
  bif inb d7 d3.length then
   (nth d3 d7.toNat).bind fun x1 =>
   bif decide (x1 < 0) then
   some (.inl (d1, d2, d3, false))
   else
   bif decide (x1 ≥ d5) then
   some (.inl (d1, d2, d3, false))
   else
   bif inb x1 d1.length then
   (nth d1 x1.toNat).bind fun x2 =>
   bif x2 then
   some (.inl (d1, d2, d3, false))
   else
   bif inb x1 d1.length then
   bif Nat.blt x1.toNat d1.length then
   bif d2.1 == 27 then
   bif inb x1 d4.length then
   (nth d4 x1.toNat).bind fun x3 =>
   bif !((x3.1 == 28) == true) then
   some (.inl (s6 d1 x1.toNat true, d2, d3, false))
   else
   k78 rb (s6 d1 x1.toNat true) d2 d3 d4 d5 d6 (IntKind.i64.wrap (d7 + 1))
   else
   none
   else
   bif d2.1 == 28 then
   bif d2.2.2.1 != (-1) then
   bif inb x1 d4.length then
   (nth d4 x1.toNat).bind fun x4 =>
   bif !((x4.1 == 28) == (d7 == 0)) then
   some (.inl (s6 d1 x1.toNat true, d2, d3, false))
   else
   k78 rb (s6 d1 x1.toNat true) d2 d3 d4 d5 d6 (IntKind.i64.wrap (d7 + 1))
   else
   none
   else
   bif inb x1 d4.length then
   (nth d4 x1.toNat).bind fun x5 =>
   bif !((x5.1 == 28) == false) then
   some (.inl (s6 d1 x1.toNat true, d2, d3, false))
   else
   k78 rb (s6 d1 x1.toNat true) d2 d3 d4 d5 d6 (IntKind.i64.wrap (d7 + 1))
   else
   none
   else
   bif inb x1 d4.length then
   (nth d4 x1.toNat).bind fun x6 =>
   bif !((x6.1 == 28) == false) then
   some (.inl (s6 d1 x1.toNat true, d2, d3, false))
   else
   k78 rb (s6 d1 x1.toNat true) d2 d3 d4 d5 d6 (IntKind.i64.wrap (d7 + 1))
   else
   none
   else
   none
   else
   none
   else
   none
  else
   none
 else
  some (.inr (d1, d2, d3))
theorem c8b : EqB 78 fun a b => U7 (b78 a b) := fun _ _ _ => by kernel_rfl
theorem c1k {d1 d2 d3 d4 d5 d6 d7 y} (h : b78 T.rf T.rb d1 d2 d3 d4 d5 d6 d7 = some y) : k78 T.rb d1 d2 d3 d4 d5 d6 d7 = some y := c8b.o h
def r92 (rf : T.RF) (rb : T.RB) (d1 : List XN) : Option Bool :=
 bif (((d1.length : Nat) : Int)) == 0 then
  some false
 else
 bif decide ((((d1.length : Nat) : Int)) > 5000) then
  some false
 else
 bif inb (IntKind.i64.wrap ((((d1.length : Nat) : Int)) - 1)) d1.length then
  (nth d1 (IntKind.i64.wrap ((((d1.length : Nat) : Int)) - 1)).toNat).bind fun x1 =>
  bif x1.1 == 28 then
   some false
  else
  bif G5 (((d1.length : Nat) : Int)) v8 then
   bif G5 (((d1.length : Nat) : Int)) d1.length then
    (k75 rb (List.replicate d1.length false) d1 d1 (((d1.length : Nat) : Int)) 0).bind fun z2 =>
    match z2 with
    | .inl u3 =>
      some u3.2
    | .inr w4 =>
      bif G5 (IntKind.i64.wrap ((((d1.length : Nat) : Int)) - 1)) w4.length then
       (c96 rf (sub w4 (some (0, ((IntKind.i64.wrap ((((d1.length : Nat) : Int)) - 1)).toNat - 0)))) false).bind fun y5 =>
       bif !y5 then
        (c98 rf d1).bind fun y6 =>
        some (decide (y6 ≤ 40))
       else
        some false
      else
       none
   else
    none
  else
   none
 else
  none
theorem c9U : EqF 92 fun a b => r92 a b := fun _ _ _ => by kernel_rfl
theorem d6k {d1 y} (h : r92 T.rf T.rb d1 = some y) : c92 T.rf d1 = some y := c9U.o h
def c1w (rf : T.RF) (rb : T.RB) (d1 : XN) : Option Bool :=
 bif !(d1.2.2.2.2.2 == ([] : List UInt8)) then
  (c68 rf d1.2.2.2.2.2).bind fun y1 =>
  some (!y1)
 else
  some false
theorem c2M : EqF 102 fun a b => c1w a b := fun _ _ _ => by kernel_rfl
theorem d1Y {d1 y} (h : c1w T.rf T.rb d1 = some y) : c4P T.rf d1 = some y := c2M.o h
def b88 (rf : T.RF) (rb : T.RB) (d1 : List XN) (d2 : Int) (d3 : Int) : Option (Int ⊕ Unit) :=
 bif decide (d3 < d2) then
  bif inb d3 d1.length then
   (nth d1 d3.toNat).bind fun x1 =>
   (c4P rf x1).bind fun y2 =>
   bif y2 then
   some (.inl d3)
   else
   k88 rb d1 d2 (IntKind.i64.wrap (d3 + 1))
  else
   none
 else
  some (.inr ())
theorem c8f : EqB 88 fun a b => U3 (b88 a b) := fun _ _ _ => by kernel_rfl
theorem c5M {d1 d2 d3 y} (h : b88 T.rf T.rb d1 d2 d3 = some y) : k88 T.rb d1 d2 d3 = some y := c8f.o h
def b9p (rf : T.RF) (rb : T.RB) (d1 : List XN) : Option Int :=
 (k88 rb d1 (((d1.length : Nat) : Int)) 0).bind fun z1 =>
 match z1 with
 | .inl u2 =>
   some u2
 | .inr w3 =>
   some (-1)
theorem c2L : EqF 101 fun a b => b9p a b := fun _ _ _ => by kernel_rfl
theorem c3W {d1 y} (h : b9p T.rf T.rb d1 = some y) : c0A T.rf d1 = some y := c2L.o h
def b9o (rf : T.RF) (rb : T.RB) (d1 : List XN) : Option Bool :=
 (c0A rf d1).bind fun y1 =>
 some (decide (y1 ≥ 0))
theorem c2K : EqF 100 fun a b => b9o a b := fun _ _ _ => by kernel_rfl
theorem d1X {d1 y} (h : b9o T.rf T.rb d1 = some y) : c4O T.rf d1 = some y := c2K.o h
def r91 (rf : T.RF) (rb : T.RB) (d1 : List XN) : Option Bool :=
 (c92 rf d1).bind fun y1 =>
 bif y1 then
  (c4O rf d1).bind fun y2 =>
  some (!y2)
 else
  some false
theorem c9T : EqF 91 fun a b => r91 a b := fun _ _ _ => by kernel_rfl
theorem d6j {d1 y} (h : r91 T.rf T.rb d1 = some y) : c91 T.rf d1 = some y := c9T.o h
def r90 (rf : T.RF) (rb : T.RB) (d1 : XEq) : Option Bool :=
 (c68 rf d1.1).bind fun y1 =>
 bif y1 then
  (c91 rf d1.2).bind fun y2 =>
  some y2
 else
  some false
theorem c9S : EqF 90 fun a b => r90 a b := fun _ _ _ => by kernel_rfl
theorem d6i {d1 y} (h : r90 T.rf T.rb d1 = some y) : c90 T.rf d1 = some y := c9S.o h
def r89 (rf : T.RF) (rb : T.RB) (d1 : XEq) : Option Bool :=
 (c90 rf d1).bind fun y1 =>
 some (!y1)
theorem c9R : EqF 89 fun a b => r89 a b := fun _ _ _ => by kernel_rfl
theorem d6h {d1 y} (h : r89 T.rf T.rb d1 = some y) : c89 T.rf d1 = some y := c9R.o h
def b74 (rf : T.RF) (rb : T.RB) (d1 : List XEq) (d2 : Int) (d3 : Int) : Option (Int ⊕ Unit) :=
 bif decide (d3 < d2) then
  bif inb d3 d1.length then
   (nth d1 d3.toNat).bind fun x1 =>
   (c89 rf x1).bind fun y2 =>
   bif y2 then
   some (.inl d3)
   else
   k74 rb d1 d2 (IntKind.i64.wrap (d3 + 1))
  else
   none
 else
  some (.inr ())
theorem c7X : EqB 74 fun a b => U3 (b74 a b) := fun _ _ _ => by kernel_rfl
theorem c5K {d1 d2 d3 y} (h : b74 T.rf T.rb d1 d2 d3 = some y) : k74 T.rb d1 d2 d3 = some y := c7X.o h
def r88 (rf : T.RF) (rb : T.RB) (d1 : List XEq) : Option Int :=
 (k74 rb d1 (((d1.length : Nat) : Int)) 0).bind fun z1 =>
 match z1 with
 | .inl u2 =>
   some u2
 | .inr w3 =>
   some (-1)
theorem c9Q : EqF 88 fun a b => r88 a b := fun _ _ _ => by kernel_rfl
theorem d2M {d1 y} (h : r88 T.rf T.rb d1 = some y) : c88 T.rf d1 = some y := c9Q.o h
def r87 (rf : T.RF) (rb : T.RB) (d1 : List XEq) : Option Bool :=
 (c88 rf d1).bind fun y1 =>
 some (decide (y1 ≥ 0))
theorem c9P : EqF 87 fun a b => r87 a b := fun _ _ _ => by kernel_rfl
theorem d6g {d1 y} (h : r87 T.rf T.rb d1 = some y) : c87 T.rf d1 = some y := c9P.o h
def r86 (rf : T.RF) (rb : T.RB) (d1 : List XEq) : Option Bool :=
 bif decide ((((d1.length : Nat) : Int)) ≤ 200) then
  (c87 rf d1).bind fun y1 =>
  some (!y1)
 else
  some false
theorem c9O : EqF 86 fun a b => r86 a b := fun _ _ _ => by kernel_rfl
theorem d6f {d1 y} (h : r86 T.rf T.rb d1 = some y) : c86 T.rf d1 = some y := c9O.o h
def c1z (rf : T.RF) (rb : T.RB) (d1 : List XN) : Option Bool :=
 (c91 rf d1).bind fun y1 =>
 some (!y1)
theorem c2V : EqF 111 fun a b => c1z a b := fun _ _ _ => by kernel_rfl
theorem d2f {d1 y} (h : c1z T.rf T.rb d1 = some y) : c4U T.rf d1 = some y := c2V.o h
def b90 (rf : T.RF) (rb : T.RB) (d1 : List (List XN)) (d2 : Int) (d3 : Int) : Option (Int ⊕ Unit) :=
 bif decide (d3 < d2) then
  bif inb d3 d1.length then
   (nth d1 d3.toNat).bind fun x1 =>
   (c4U rf x1).bind fun y2 =>
   bif y2 then
   some (.inl d3)
   else
   k90 rb d1 d2 (IntKind.i64.wrap (d3 + 1))
  else
   none
 else
  some (.inr ())
theorem c8h : EqB 90 fun a b => U3 (b90 a b) := fun _ _ _ => by kernel_rfl
theorem c5O {d1 d2 d3 y} (h : b90 T.rf T.rb d1 d2 d3 = some y) : k90 T.rb d1 d2 d3 = some y := c8h.o h
def b9v (rf : T.RF) (rb : T.RB) (d1 : List (List XN)) : Option Int :=
 (k90 rb d1 (((d1.length : Nat) : Int)) 0).bind fun z1 =>
 match z1 with
 | .inl u2 =>
   some u2
 | .inr w3 =>
   some (-1)
theorem c2U : EqF 110 fun a b => b9v a b := fun _ _ _ => by kernel_rfl
theorem c3Y {d1 y} (h : b9v T.rf T.rb d1 = some y) : c0C T.rf d1 = some y := c2U.o h
def b9u (rf : T.RF) (rb : T.RB) (d1 : List (List XN)) : Option Bool :=
 (c0C rf d1).bind fun y1 =>
 some (decide (y1 ≥ 0))
theorem c2T : EqF 109 fun a b => b9u a b := fun _ _ _ => by kernel_rfl
theorem d2e {d1 y} (h : b9u T.rf T.rb d1 = some y) : c4T T.rf d1 = some y := c2T.o h
def b9t (rf : T.RF) (rb : T.RB) (d1 : List (List XN)) : Option Bool :=
 bif decide ((((d1.length : Nat) : Int)) ≤ 200) then
  (c4T rf d1).bind fun y1 =>
  some (!y1)
 else
  some false
theorem c2S : EqF 108 fun a b => b9t a b := fun _ _ _ => by kernel_rfl
theorem d2d {d1 y} (h : b9t T.rf T.rb d1 = some y) : b6d T.rf d1 = some y := c2S.o h
def c1y (rf : T.RF) (rb : T.RB) (d1 : XIt) : Option Bool :=
 (c68 rf d1.2.1).bind fun y1 =>
 bif d1.2.2.1 == 1 then
  bif d1.1 == 1 then
   bif d1.1 == 1 then
   bif d1.2.1 == ([] : List UInt8) then
   bif d1.2.2.1 == 0 then
   (c91 rf d1.2.2.2.1).bind fun y2 =>
   bif y2 then
   some ((IntKind.i64.wrap ((((d1.2.2.2.2.1.length : Nat) : Int)) + (((d1.2.2.2.2.2.length : Nat) : Int)))) == 0)
   else
   some false
   else
   some false
   else
   some false
   else
   bif d1.1 == 3 then
   bif y1 then
   (c91 rf d1.2.2.2.1).bind fun y3 =>
   bif y3 then
   some ((IntKind.i64.wrap ((((d1.2.2.2.2.1.length : Nat) : Int)) + (((d1.2.2.2.2.2.length : Nat) : Int)))) == 0)
   else
   some false
   else
   some false
   else
   bif d1.1 == 4 then
   bif y1 then
   bif d1.2.2.1 == 0 then
   (c91 rf d1.2.2.2.1).bind fun y4 =>
   bif y4 then
   (c91 rf d1.2.2.2.2.1).bind fun y5 =>
   bif y5 then
   some ((((d1.2.2.2.2.2.length : Nat) : Int)) == 0)
   else
   some false
   else
   some false
   else
   some false
   else
   some false
   else
   bif d1.1 == 5 then
   bif y1 then
   bif d1.2.2.1 == 0 then
   bif (IntKind.i64.wrap ((((d1.2.2.2.1.length : Nat) : Int)) + (((d1.2.2.2.2.1.length : Nat) : Int)))) == 0 then
   (b6d rf d1.2.2.2.2.2).bind fun y6 =>
   some y6
   else
   some false
   else
   some false
   else
   some false
   else
   some false
  else
  bif d1.1 == 2 then
   bif d1.2.1 == ([] : List UInt8) then
   bif d1.2.2.1 == 0 then
   (c91 rf d1.2.2.2.1).bind fun y7 =>
   bif y7 then
   some ((IntKind.i64.wrap ((((d1.2.2.2.2.1.length : Nat) : Int)) + (((d1.2.2.2.2.2.length : Nat) : Int)))) == 0)
   else
   some false
   else
   some false
   else
   some false
  else
  bif d1.1 == 3 then
   bif y1 then
   (c91 rf d1.2.2.2.1).bind fun y8 =>
   bif y8 then
   some ((IntKind.i64.wrap ((((d1.2.2.2.2.1.length : Nat) : Int)) + (((d1.2.2.2.2.2.length : Nat) : Int)))) == 0)
   else
   some false
   else
   some false
  else
  bif d1.1 == 4 then
   bif y1 then
   bif d1.2.2.1 == 0 then
   (c91 rf d1.2.2.2.1).bind fun y9 =>
   bif y9 then
   (c91 rf d1.2.2.2.2.1).bind fun y10 =>
   bif y10 then
   some ((((d1.2.2.2.2.2.length : Nat) : Int)) == 0)
   else
   some false
   else
   some false
   else
   some false
   else
   some false
  else
  bif d1.1 == 5 then
   bif y1 then
   bif d1.2.2.1 == 0 then
   bif (IntKind.i64.wrap ((((d1.2.2.2.1.length : Nat) : Int)) + (((d1.2.2.2.2.1.length : Nat) : Int)))) == 0 then
   (b6d rf d1.2.2.2.2.2).bind fun y11 =>
   some y11
   else
   some false
   else
   some false
   else
   some false
  else
   some false
 else
 bif d1.1 == 1 then
  bif d1.1 == 1 then
   bif d1.2.1 == ([] : List UInt8) then
   bif d1.2.2.1 == 0 then
   (c91 rf d1.2.2.2.1).bind fun y12 =>
   bif y12 then
   some ((IntKind.i64.wrap ((((d1.2.2.2.2.1.length : Nat) : Int)) + (((d1.2.2.2.2.2.length : Nat) : Int)))) == 0)
   else
   some false
   else
   some false
   else
   some false
  else
  bif d1.1 == 3 then
   bif y1 then
   bif d1.2.2.1 == 2 then
   (c91 rf d1.2.2.2.1).bind fun y13 =>
   bif y13 then
   some ((IntKind.i64.wrap ((((d1.2.2.2.2.1.length : Nat) : Int)) + (((d1.2.2.2.2.2.length : Nat) : Int)))) == 0)
   else
   some false
   else
   some false
   else
   some false
  else
  bif d1.1 == 4 then
   bif y1 then
   bif d1.2.2.1 == 0 then
   (c91 rf d1.2.2.2.1).bind fun y14 =>
   bif y14 then
   (c91 rf d1.2.2.2.2.1).bind fun y15 =>
   bif y15 then
   some ((((d1.2.2.2.2.2.length : Nat) : Int)) == 0)
   else
   some false
   else
   some false
   else
   some false
   else
   some false
  else
  bif d1.1 == 5 then
   bif y1 then
   bif d1.2.2.1 == 0 then
   bif (IntKind.i64.wrap ((((d1.2.2.2.1.length : Nat) : Int)) + (((d1.2.2.2.2.1.length : Nat) : Int)))) == 0 then
   (b6d rf d1.2.2.2.2.2).bind fun y16 =>
   some y16
   else
   some false
   else
   some false
   else
   some false
  else
   some false
 else
 bif d1.1 == 2 then
  bif d1.2.1 == ([] : List UInt8) then
   bif d1.2.2.1 == 0 then
   (c91 rf d1.2.2.2.1).bind fun y17 =>
   bif y17 then
   some ((IntKind.i64.wrap ((((d1.2.2.2.2.1.length : Nat) : Int)) + (((d1.2.2.2.2.2.length : Nat) : Int)))) == 0)
   else
   some false
   else
   some false
  else
   some false
 else
 bif d1.1 == 3 then
  bif y1 then
   bif d1.2.2.1 == 2 then
   (c91 rf d1.2.2.2.1).bind fun y18 =>
   bif y18 then
   some ((IntKind.i64.wrap ((((d1.2.2.2.2.1.length : Nat) : Int)) + (((d1.2.2.2.2.2.length : Nat) : Int)))) == 0)
   else
   some false
   else
   some false
  else
   some false
 else
 bif d1.1 == 4 then
  bif y1 then
   bif d1.2.2.1 == 0 then
   (c91 rf d1.2.2.2.1).bind fun y19 =>
   bif y19 then
   (c91 rf d1.2.2.2.2.1).bind fun y20 =>
   bif y20 then
   some ((((d1.2.2.2.2.2.length : Nat) : Int)) == 0)
   else
   some false
   else
   some false
   else
   some false
  else
   some false
 else
 bif d1.1 == 5 then
  bif y1 then
   bif d1.2.2.1 == 0 then
   bif (IntKind.i64.wrap ((((d1.2.2.2.1.length : Nat) : Int)) + (((d1.2.2.2.2.1.length : Nat) : Int)))) == 0 then
   (b6d rf d1.2.2.2.2.2).bind fun y21 =>
   some y21
   else
   some false
   else
   some false
  else
   some false
 else
  some false
theorem c2R : EqF 107 fun a b => c1y a b := fun _ _ _ => by kernel_rfl
theorem d2c {d1 y} (h : c1y T.rf T.rb d1 = some y) : b7N T.rf d1 = some y := c2R.o h
def c1x (rf : T.RF) (rb : T.RB) (d1 : XIt) : Option Bool :=
 (b7N rf d1).bind fun y1 =>
 some (!y1)
theorem c2Q : EqF 106 fun a b => c1x a b := fun _ _ _ => by kernel_rfl
theorem d2b {d1 y} (h : c1x T.rf T.rb d1 = some y) : c4S T.rf d1 = some y := c2Q.o h
def b89 (rf : T.RF) (rb : T.RB) (d1 : List XIt) (d2 : Int) (d3 : Int) : Option (Int ⊕ Unit) :=
 bif decide (d3 < d2) then
  bif inb d3 d1.length then
   (nth d1 d3.toNat).bind fun x1 =>
   (c4S rf x1).bind fun y2 =>
   bif y2 then
   some (.inl d3)
   else
   k89 rb d1 d2 (IntKind.i64.wrap (d3 + 1))
  else
   none
 else
  some (.inr ())
theorem c8g : EqB 89 fun a b => U3 (b89 a b) := fun _ _ _ => by kernel_rfl
theorem c5N {d1 d2 d3 y} (h : b89 T.rf T.rb d1 d2 d3 = some y) : k89 T.rb d1 d2 d3 = some y := c8g.o h
def b9s (rf : T.RF) (rb : T.RB) (d1 : List XIt) : Option Int :=
 (k89 rb d1 (((d1.length : Nat) : Int)) 0).bind fun z1 =>
 match z1 with
 | .inl u2 =>
   some u2
 | .inr w3 =>
   some (-1)
theorem c2P : EqF 105 fun a b => b9s a b := fun _ _ _ => by kernel_rfl
theorem c3X {d1 y} (h : b9s T.rf T.rb d1 = some y) : c0B T.rf d1 = some y := c2P.o h
def b9r (rf : T.RF) (rb : T.RB) (d1 : List XIt) : Option Bool :=
 (c0B rf d1).bind fun y1 =>
 some (decide (y1 ≥ 0))
theorem c2O : EqF 104 fun a b => b9r a b := fun _ _ _ => by kernel_rfl
theorem d2a {d1 y} (h : b9r T.rf T.rb d1 = some y) : c4R T.rf d1 = some y := c2O.o h
def b9q (rf : T.RF) (rb : T.RB) (d1 : List XIt) : Option Bool :=
 bif decide ((((d1.length : Nat) : Int)) ≤ 200) then
  (c4R rf d1).bind fun y1 =>
  some (!y1)
 else
  some false
theorem c2N : EqF 103 fun a b => b9q a b := fun _ _ _ => by kernel_rfl
theorem d1Z {d1 y} (h : b9q T.rf T.rb d1 = some y) : c4Q T.rf d1 = some y := c2N.o h
def r80 (rf : T.RF) (rb : T.RB) (d1 : XUn) : Option Bool :=
 (c68 rf d1.2.1).bind fun y1 =>
 bif !y1 then
  some false
 else
  (c81 rf d1.2.2.1).bind fun y2 =>
  bif !y2 then
   some false
  else
   (c81 rf d1.2.2.2.2.2.1).bind fun y3 =>
   bif !y3 then
   some false
   else
   (c86 rf d1.2.2.2.2.2.2.1).bind fun y4 =>
   bif !y4 then
   some false
   else
   (c4Q rf d1.2.2.2.2.2.2.2).bind fun y5 =>
   bif !y5 then
   some false
   else
   bif d1.1 then
   bif (d1.2.2.2.1 == ([] : List UInt8)) && (d1.2.2.2.2.1 == 0) then
   some ((IntKind.i64.wrap ((((d1.2.2.2.2.2.1.length : Nat) : Int)) + (((d1.2.2.2.2.2.2.1.length : Nat) : Int)))) == 0)
   else
   some false
   else
   (c85 rf (d1.2.2.2.1, d1.2.2.2.2.1)).bind fun y6 =>
   some y6
theorem c9I : EqF 80 fun a b => r80 a b := fun _ _ _ => by kernel_rfl
theorem d6a {d1 y} (h : r80 T.rf T.rb d1 = some y) : c80 T.rf d1 = some y := c9I.o h
def r79 (rf : T.RF) (rb : T.RB) (d1 : XUn) : Option Bool :=
 (c80 rf d1).bind fun y1 =>
 some (!y1)
theorem c9H : EqF 79 fun a b => r79 a b := fun _ _ _ => by kernel_rfl
theorem d5Z {d1 y} (h : r79 T.rf T.rb d1 = some y) : c79 T.rf d1 = some y := c9H.o h
def b72 (rf : T.RF) (rb : T.RB) (d1 : List XUn) (d2 : Int) (d3 : Int) : Option (Int ⊕ Unit) :=
 bif decide (d3 < d2) then
  bif inb d3 d1.length then
   (nth d1 d3.toNat).bind fun x1 =>
   (c79 rf x1).bind fun y2 =>
   bif y2 then
   some (.inl d3)
   else
   k72 rb d1 d2 (IntKind.i64.wrap (d3 + 1))
  else
   none
 else
  some (.inr ())
theorem c7V : EqB 72 fun a b => U3 (b72 a b) := fun _ _ _ => by kernel_rfl
theorem c5I {d1 d2 d3 y} (h : b72 T.rf T.rb d1 d2 d3 = some y) : k72 T.rb d1 d2 d3 = some y := c7V.o h
def r78 (rf : T.RF) (rb : T.RB) (d1 : List XUn) : Option Int :=
 (k72 rb d1 (((d1.length : Nat) : Int)) 0).bind fun z1 =>
 match z1 with
 | .inl u2 =>
   some u2
 | .inr w3 =>
   some (-1)
theorem c9G : EqF 78 fun a b => r78 a b := fun _ _ _ => by kernel_rfl
theorem d2K {d1 y} (h : r78 T.rf T.rb d1 = some y) : c78 T.rf d1 = some y := c9G.o h
def r77 (rf : T.RF) (rb : T.RB) (d1 : List XUn) : Option Bool :=
 (c78 rf d1).bind fun y1 =>
 some (decide (y1 ≥ 0))
theorem c9F : EqF 77 fun a b => r77 a b := fun _ _ _ => by kernel_rfl
theorem d5Y {d1 y} (h : r77 T.rf T.rb d1 = some y) : c77 T.rf d1 = some y := c9F.o h
def r76 (rf : T.RF) (rb : T.RB) (d1 : List XUn) : Option Bool :=
 bif decide ((((d1.length : Nat) : Int)) ≤ 200) then
  (c77 rf d1).bind fun y1 =>
  some (!y1)
 else
  some false
theorem c9E : EqF 76 fun a b => r76 a b := fun _ _ _ => by kernel_rfl
theorem d5X {d1 y} (h : r76 T.rf T.rb d1 = some y) : c76 T.rf d1 = some y := c9E.o h
def r67 (rf : T.RF) (rb : T.RB) (d1 : XPg) : Option Bool :=
 (c68 rf d1.2.1).bind fun y1 =>
 bif y1 then
  bif d1.2.2 == ([] : List UInt8) then
   (c76 rf d1.1).bind fun y2 =>
   some y2
  else
   (c68 rf d1.2.2).bind fun y3 =>
   bif y3 then
   (c76 rf d1.1).bind fun y4 =>
   some y4
   else
   some false
 else
  some false
theorem c9v : EqF 67 fun a b => r67 a b := fun _ _ _ => by kernel_rfl
theorem d5P {d1 y} (h : r67 T.rf T.rb d1 = some y) : c67 T.rf d1 = some y := c9v.o h
def b93 (rf : T.RF) (rb : T.RB) (d1 : List XK) (d2 : List (List UInt8)) (d3 : Int) (d4 : Int) : Option (List XK) :=
 bif decide (d4 < d3) then
  bif inb d4 d2.length then
   (nth d2 d4.toNat).bind fun x1 =>
   bif (Nat.ble (d1.length + 1) v8) && true then
   k93 rb (d1 ++ [(0, x1, 0)]) d2 d3 (IntKind.i64.wrap (d4 + 1))
   else
   none
  else
   none
 else
  some d1
theorem c8i : EqB 93 fun a b => U4 (b93 a b) := fun _ _ _ => by kernel_rfl
theorem d1T {d1 d2 d3 d4 y} (h : b93 T.rf T.rb d1 d2 d3 d4 = some y) : k93 T.rb d1 d2 d3 d4 = some y := c8i.o h
def c1B (rf : T.RF) (rb : T.RB) (d1 : List XK) (d2 : List (List UInt8)) : Option (List XK) :=
 (k93 rb d1 d2 (((d2.length : Nat) : Int)) 0).bind fun z1 =>
 some z1
theorem c2X : EqF 113 fun a b => U2 (c1B a b) := fun _ _ _ => by kernel_rfl
theorem d2h {d1 d2 y} (h : c1B T.rf T.rb d1 d2 = some y) : H0 T.rf d1 d2 = some y := c2X.o h
def c1E (rf : T.RF) (rb : T.RB) (d1 : List XK) (d2 : XPm) : Option (List XK) :=
 (H0 rf d1 [d2.1, ([58] : List UInt8)]).bind fun y1 =>
 bif d2.2 == 1 then
  (H0 rf y1 [([98, 111, 111, 108] : List UInt8)]).bind fun y2 =>
  some y2
 else
  (H0 rf y1 [([105, 110, 116] : List UInt8)]).bind fun y3 =>
  some y3
theorem c3a : EqF 116 fun a b => U2 (c1E a b) := fun _ _ _ => by kernel_rfl
theorem d2k {d1 d2 y} (h : c1E T.rf T.rb d1 d2 = some y) : b6e T.rf d1 d2 = some y := c3a.o h
def b95 (rf : T.RF) (rb : T.RB) (d1 : List XK) (d2 : List UInt8) (d3 : List XPm) (d4 : Int) (d5 : Int) : Option (List XK) :=
 bif decide (d5 < d4) then
  bif inb d5 d3.length then
   (nth d3 d5.toNat).bind fun x1 =>
   bif decide (d5 > 0) then
   (H0 rf d1 [d2]).bind fun y2 =>
   (b6e rf y2 x1).bind fun y3 =>
   k95 rb y3 d2 d3 d4 (IntKind.i64.wrap (d5 + 1))
   else
   (b6e rf d1 x1).bind fun y4 =>
   k95 rb y4 d2 d3 d4 (IntKind.i64.wrap (d5 + 1))
  else
   none
 else
  some d1
theorem c8j : EqB 95 fun a b => U5 (b95 a b) := fun _ _ _ => by kernel_rfl
theorem d1U {d1 d2 d3 d4 d5 y} (h : b95 T.rf T.rb d1 d2 d3 d4 d5 = some y) : k95 T.rb d1 d2 d3 d4 d5 = some y := c8j.o h
def c1D (rf : T.RF) (rb : T.RB) (d1 : List XK) (d2 : List XPm) (d3 : List UInt8) : Option (List XK) :=
 (k95 rb d1 d3 d2 (((d2.length : Nat) : Int)) 0).bind fun z1 =>
 some z1
theorem c2Z : EqF 115 fun a b => U3 (c1D a b) := fun _ _ _ => by kernel_rfl
theorem d2j {d1 d2 d3 y} (h : c1D T.rf T.rb d1 d2 d3 = some y) : c0D T.rf d1 d2 d3 = some y := c2Z.o h
def c1C (rf : T.RF) (rb : T.RB) (d1 : List XK) (d2 : List XPm) : Option (List XK) :=
 (H0 rf d1 [([40] : List UInt8)]).bind fun y1 =>
 (c0D rf y1 d2 ([59] : List UInt8)).bind fun y2 =>
 (H0 rf y2 [([41] : List UInt8)]).bind fun y3 =>
 some y3
theorem c2Y : EqF 114 fun a b => U2 (c1C a b) := fun _ _ _ => by kernel_rfl
theorem d2i {d1 d2 y} (h : c1C T.rf T.rb d1 d2 = some y) : b7O T.rf d1 d2 = some y := c2Y.o h
def c6b (rf : T.RF) (rb : T.RB) : Option (List UInt8 × Int × List UInt8 × Int × List UInt8 × Int × List UInt8 × Int × List UInt8 × Int × List UInt8 × Int × List UInt8 × Int × List UInt8 × Int × List UInt8 × Int × List UInt8 × Int × List UInt8 × Int × List UInt8 × Int × List UInt8 × Int × List UInt8 × Int × List UInt8 × Int × List UInt8 × Int × List UInt8 × Int × List UInt8 × Int × List UInt8 × Int × List UInt8 × Int × List UInt8 × Int × List UInt8 × Int × List UInt8 × Int × List UInt8 × Int × List UInt8 × Int × List UInt8 × Int × List UInt8 × XK) :=
 some (([] : List UInt8), (-1), ([] : List UInt8), 10, ([] : List UInt8), 10, ([] : List UInt8), 10, ([110, 111, 116] : List UInt8), 9, ([45] : List UInt8), 9, ([97, 110, 100] : List UInt8), 5, ([111, 114] : List UInt8), 4, ([120, 111, 114] : List UInt8), 4, ([61, 62] : List UInt8), 2, ([61] : List UInt8), 6, ([60, 62] : List UInt8), 6, ([60] : List UInt8), 6, ([60, 61] : List UInt8), 6, ([43] : List UInt8), 7, ([45] : List UInt8), 7, ([42] : List UInt8), 8, ([100, 105, 118] : List UInt8), 8, ([109, 111, 100] : List UInt8), 8, ([45, 62] : List UInt8), 1, ([115, 105, 110, 99, 101] : List UInt8), 3, ([112, 114, 101] : List UInt8), 9, ([111, 110, 99, 101] : List UInt8), 9, ([104, 105, 115, 116] : List UInt8), 9, ([112, 114, 101, 118] : List UInt8), 9, ([119, 105, 116, 104, 105, 110] : List UInt8), 9, ([105, 102] : List UInt8), 0, ([] : List UInt8), 10)
theorem c3g : EqF 122 fun a b => U0 (c6b a b) := fun _ _ _ => by kernel_rfl
theorem d2p { y} (h : c6b T.rf T.rb = some y) : c6P T.rf = some y := c3g.o h
def b6P (rf : T.RF) (rb : T.RB) (d1 : Int) : Option XPm :=
 bif decide (d1 < 0) then
  some (([] : List UInt8), (-1))
 else
 bif decide (d1 ≥ 28) then
  some (([] : List UInt8), (-1))
 else
  (c6P rf).bind fun y1 =>
  bif inb d1 28 then
   (nth [(y1.1, y1.2.1), (y1.2.2.1, y1.2.2.2.1), (y1.2.2.2.2.1, y1.2.2.2.2.2.1), (y1.2.2.2.2.2.2.1, y1.2.2.2.2.2.2.2.1), (y1.2.2.2.2.2.2.2.2.1, y1.2.2.2.2.2.2.2.2.2.1), (y1.2.2.2.2.2.2.2.2.2.2.1, y1.2.2.2.2.2.2.2.2.2.2.2.1), (y1.2.2.2.2.2.2.2.2.2.2.2.2.1, y1.2.2.2.2.2.2.2.2.2.2.2.2.2.1), (y1.2.2.2.2.2.2.2.2.2.2.2.2.2.2.1, y1.2.2.2.2.2.2.2.2.2.2.2.2.2.2.2.1), (y1.2.2.2.2.2.2.2.2.2.2.2.2.2.2.2.2.1, y1.2.2.2.2.2.2.2.2.2.2.2.2.2.2.2.2.2.1), (y1.2.2.2.2.2.2.2.2.2.2.2.2.2.2.2.2.2.2.1, y1.2.2.2.2.2.2.2.2.2.2.2.2.2.2.2.2.2.2.2.1), (y1.2.2.2.2.2.2.2.2.2.2.2.2.2.2.2.2.2.2.2.2.1, y1.2.2.2.2.2.2.2.2.2.2.2.2.2.2.2.2.2.2.2.2.2.1), (y1.2.2.2.2.2.2.2.2.2.2.2.2.2.2.2.2.2.2.2.2.2.2.1, y1.2.2.2.2.2.2.2.2.2.2.2.2.2.2.2.2.2.2.2.2.2.2.2.1), (y1.2.2.2.2.2.2.2.2.2.2.2.2.2.2.2.2.2.2.2.2.2.2.2.2.1, y1.2.2.2.2.2.2.2.2.2.2.2.2.2.2.2.2.2.2.2.2.2.2.2.2.2.1), (y1.2.2.2.2.2.2.2.2.2.2.2.2.2.2.2.2.2.2.2.2.2.2.2.2.2.2.1, y1.2.2.2.2.2.2.2.2.2.2.2.2.2.2.2.2.2.2.2.2.2.2.2.2.2.2.2.1), (y1.2.2.2.2.2.2.2.2.2.2.2.2.2.2.2.2.2.2.2.2.2.2.2.2.2.2.2.2.1, y1.2.2.2.2.2.2.2.2.2.2.2.2.2.2.2.2.2.2.2.2.2.2.2.2.2.2.2.2.2.1), (y1.2.2.2.2.2.2.2.2.2.2.2.2.2.2.2.2.2.2.2.2.2.2.2.2.2.2.2.2.2.2.1, y1.2.2.2.2.2.2.2.2.2.2.2.2.2.2.2.2.2.2.2.2.2.2.2.2.2.2.2.2.2.2.2.1), (y1.2.2.2.2.2.2.2.2.2.2.2.2.2.2.2.2.2.2.2.2.2.2.2.2.2.2.2.2.2.2.2.2.1, y1.2.2.2.2.2.2.2.2.2.2.2.2.2.2.2.2.2.2.2.2.2.2.2.2.2.2.2.2.2.2.2.2.2.1), (y1.2.2.2.2.2.2.2.2.2.2.2.2.2.2.2.2.2.2.2.2.2.2.2.2.2.2.2.2.2.2.2.2.2.2.1, y1.2.2.2.2.2.2.2.2.2.2.2.2.2.2.2.2.2.2.2.2.2.2.2.2.2.2.2.2.2.2.2.2.2.2.2.1), (y1.2.2.2.2.2.2.2.2.2.2.2.2.2.2.2.2.2.2.2.2.2.2.2.2.2.2.2.2.2.2.2.2.2.2.2.2.1, y1.2.2.2.2.2.2.2.2.2.2.2.2.2.2.2.2.2.2.2.2.2.2.2.2.2.2.2.2.2.2.2.2.2.2.2.2.2.1), (y1.2.2.2.2.2.2.2.2.2.2.2.2.2.2.2.2.2.2.2.2.2.2.2.2.2.2.2.2.2.2.2.2.2.2.2.2.2.2.1, y1.2.2.2.2.2.2.2.2.2.2.2.2.2.2.2.2.2.2.2.2.2.2.2.2.2.2.2.2.2.2.2.2.2.2.2.2.2.2.2.1), (y1.2.2.2.2.2.2.2.2.2.2.2.2.2.2.2.2.2.2.2.2.2.2.2.2.2.2.2.2.2.2.2.2.2.2.2.2.2.2.2.2.1, y1.2.2.2.2.2.2.2.2.2.2.2.2.2.2.2.2.2.2.2.2.2.2.2.2.2.2.2.2.2.2.2.2.2.2.2.2.2.2.2.2.2.1), (y1.2.2.2.2.2.2.2.2.2.2.2.2.2.2.2.2.2.2.2.2.2.2.2.2.2.2.2.2.2.2.2.2.2.2.2.2.2.2.2.2.2.2.1, y1.2.2.2.2.2.2.2.2.2.2.2.2.2.2.2.2.2.2.2.2.2.2.2.2.2.2.2.2.2.2.2.2.2.2.2.2.2.2.2.2.2.2.2.1), (y1.2.2.2.2.2.2.2.2.2.2.2.2.2.2.2.2.2.2.2.2.2.2.2.2.2.2.2.2.2.2.2.2.2.2.2.2.2.2.2.2.2.2.2.2.1, y1.2.2.2.2.2.2.2.2.2.2.2.2.2.2.2.2.2.2.2.2.2.2.2.2.2.2.2.2.2.2.2.2.2.2.2.2.2.2.2.2.2.2.2.2.2.1), (y1.2.2.2.2.2.2.2.2.2.2.2.2.2.2.2.2.2.2.2.2.2.2.2.2.2.2.2.2.2.2.2.2.2.2.2.2.2.2.2.2.2.2.2.2.2.2.1, y1.2.2.2.2.2.2.2.2.2.2.2.2.2.2.2.2.2.2.2.2.2.2.2.2.2.2.2.2.2.2.2.2.2.2.2.2.2.2.2.2.2.2.2.2.2.2.2.1), (y1.2.2.2.2.2.2.2.2.2.2.2.2.2.2.2.2.2.2.2.2.2.2.2.2.2.2.2.2.2.2.2.2.2.2.2.2.2.2.2.2.2.2.2.2.2.2.2.2.1, y1.2.2.2.2.2.2.2.2.2.2.2.2.2.2.2.2.2.2.2.2.2.2.2.2.2.2.2.2.2.2.2.2.2.2.2.2.2.2.2.2.2.2.2.2.2.2.2.2.2.1), (y1.2.2.2.2.2.2.2.2.2.2.2.2.2.2.2.2.2.2.2.2.2.2.2.2.2.2.2.2.2.2.2.2.2.2.2.2.2.2.2.2.2.2.2.2.2.2.2.2.2.2.1, y1.2.2.2.2.2.2.2.2.2.2.2.2.2.2.2.2.2.2.2.2.2.2.2.2.2.2.2.2.2.2.2.2.2.2.2.2.2.2.2.2.2.2.2.2.2.2.2.2.2.2.2.1), (y1.2.2.2.2.2.2.2.2.2.2.2.2.2.2.2.2.2.2.2.2.2.2.2.2.2.2.2.2.2.2.2.2.2.2.2.2.2.2.2.2.2.2.2.2.2.2.2.2.2.2.2.2.1, y1.2.2.2.2.2.2.2.2.2.2.2.2.2.2.2.2.2.2.2.2.2.2.2.2.2.2.2.2.2.2.2.2.2.2.2.2.2.2.2.2.2.2.2.2.2.2.2.2.2.2.2.2.2.1), y1.2.2.2.2.2.2.2.2.2.2.2.2.2.2.2.2.2.2.2.2.2.2.2.2.2.2.2.2.2.2.2.2.2.2.2.2.2.2.2.2.2.2.2.2.2.2.2.2.2.2.2.2.2.2] d1.toNat).bind fun x2 =>
   some x2
  else
   none
theorem c3f : EqF 121 fun a b => b6P a b := fun _ _ _ => by kernel_rfl
theorem d2o {d1 y} (h : b6P T.rf T.rb d1 = some y) : c0F T.rf d1 = some y := c3f.o h
def c1H (rf : T.RF) (rb : T.RB) (d1 : Int) : Option (List UInt8) :=
 bif a5v d1 then
  some (J9 d1)
 else
  none
theorem c3h : EqF 123 fun a b => c1H a b := fun _ _ _ => by kernel_rfl
theorem d2q {d1 y} (h : c1H T.rf T.rb d1 = some y) : c0G T.rf d1 = some y := c3h.o h
def b99 (rf : T.RF) (rb : T.RB) (d1 : List XN) (d2 : List XK) (d3 : List (List UInt8)) (d4 : Int) (d5 : Int) : Option (List XN × List XK) :=
 bif decide (d5 < d4) then
  bif inb d5 d3.length then
   (nth d3 d5.toNat).bind fun x1 =>
   bif (Nat.ble (d2.length + 1) v8) && true then
   k99 rb d1 (d2 ++ [(0, x1, 0)]) d3 d4 (IntKind.i64.wrap (d5 + 1))
   else
   none
  else
   none
 else
  some (d1, d2)
theorem c8k : EqB 99 fun a b => U5 (b99 a b) := fun _ _ _ => by kernel_rfl
theorem d1V {d1 d2 d3 d4 d5 y} (h : b99 T.rf T.rb d1 d2 d3 d4 d5 = some y) : k99 T.rb d1 d2 d3 d4 d5 = some y := c8k.o h
def c1I (rf : T.RF) (rb : T.RB) (d1 : List XN) (d2 : List XK) (d3 : List (List UInt8)) : Option (List XN × List XK) :=
 (k99 rb d1 d2 d3 (((d3.length : Nat) : Int)) 0).bind fun z1 =>
 some z1
theorem c3i : EqF 124 fun a b => U3 (c1I a b) := fun _ _ _ => by kernel_rfl
theorem d2r {d1 d2 d3 y} (h : c1I T.rf T.rb d1 d2 d3 = some y) : a0b T.rf d1 d2 d3 = some y := c3i.o h
def c6c (rf : T.RF) (rb : T.RB) (d1 : Bool) : Option (List UInt8) :=
 bif d1 then
  some ([116, 114, 117, 101] : List UInt8)
 else
  some ([102, 97, 108, 115, 101] : List UInt8)
theorem c3k : EqF 126 fun a b => c6c a b := fun _ _ _ => by kernel_rfl
theorem d2t {d1 y} (h : c6c T.rf T.rb d1 = some y) : c4Y T.rf d1 = some y := c3k.o h
def c1J (rf : T.RF) (rb : T.RB) (d1 : Bool) : Option (List UInt8) :=
 (c4Y rf d1).bind fun y1 =>
 some y1
theorem c3j : EqF 125 fun a b => c1J a b := fun _ _ _ => by kernel_rfl
theorem d2s {d1 y} (h : c1J T.rf T.rb d1 = some y) : c4X T.rf d1 = some y := c3j.o h
def b9w (rf : T.RF) (rb : T.RB) (d1 : List XN) (d2 : List XK) (d3 : Int) : Option (List XN × List XK) :=
 bif inb d3 d1.length then
  (nth d1 d3.toNat).bind fun x1 =>
  bif decide (x1.2.2.1 ≥ 0) then
   (c0H rf d1 d2 x1.2.2.1).bind fun y2 =>
   (a0b rf y2.1 y2.2 [([44] : List UInt8)]).bind fun y3 =>
   bif inb d3 y3.1.length then
   (nth y3.1 d3.toNat).bind fun x4 =>
   (a7q rf y3.1 y3.2 x4.2.1).bind fun y5 =>
   some y5
   else
   none
  else
  bif inb d3 d1.length then
   (nth d1 d3.toNat).bind fun x6 =>
   (a7q rf d1 d2 x6.2.1).bind fun y7 =>
   some y7
  else
   none
 else
  none
theorem c3l : EqF 127 fun a b => U3 (b9w a b) := fun _ _ _ => by kernel_rfl
theorem c3Z {d1 d2 d3 y} (h : b9w T.rf T.rb d1 d2 d3 = some y) : c0H T.rf d1 d2 d3 = some y := c3l.o h
def c1L (rf : T.RF) (rb : T.RB) (d1 : Int) : Option Int :=
 (c0F rf d1).bind fun y1 =>
 some y1.2
theorem c3n : EqF 129 fun a b => c1L a b := fun _ _ _ => by kernel_rfl
theorem d2v {d1 y} (h : c1L T.rf T.rb d1 = some y) : c4Z T.rf d1 = some y := c3n.o h
def c1K (rf : T.RF) (rb : T.RB) (d1 : List XN) (d2 : List XK) (d3 : Int) (d4 : Int) : Option (List XN × List XK) :=
 bif inb d3 d1.length then
  (nth d1 d3.toNat).bind fun x1 =>
  (c4Z rf x1.1).bind fun y2 =>
  bif decide (y2 ≥ d4) then
   (a7q rf d1 d2 d3).bind fun y3 =>
   some y3
  else
   (a0b rf d1 d2 [([40] : List UInt8)]).bind fun y4 =>
   (a7q rf y4.1 y4.2 d3).bind fun y5 =>
   (a0b rf y5.1 y5.2 [([41] : List UInt8)]).bind fun y6 =>
   some y6
 else
  none
theorem c3m : EqF 128 fun a b => U4 (c1K a b) := fun _ _ _ => by kernel_rfl
theorem d2u {d1 d2 d3 d4 y} (h : c1K T.rf T.rb d1 d2 d3 d4 = some y) : a1O T.rf d1 d2 d3 d4 = some y := c3m.o h
def a5L (rf : T.RF) (rb : T.RB) (d1 : List XN) (d2 : List XK) (d3 : Int) : Option (List XN × List XK) :=
 bif inb d3 d1.length then
  (nth d1 d3.toNat).bind fun x1 =>
  (c0F rf x1.1).bind fun y2 =>
  bif x1.1 == 1 then
   (c0G rf x1.2.2.2.2.1).bind fun y3 =>
   (a0b rf d1 d2 [y3]).bind fun y4 =>
   some y4
  else
  bif x1.1 == 2 then
   (c4X rf (x1.2.2.2.2.1 == 1)).bind fun y5 =>
   (a0b rf d1 d2 [y5]).bind fun y6 =>
   some y6
  else
  bif x1.1 == 3 then
   (a0b rf d1 d2 [x1.2.2.2.2.2]).bind fun y7 =>
   some y7
  else
  bif x1.1 == 27 then
   (a0b rf d1 d2 [x1.2.2.2.2.2, ([40] : List UInt8)]).bind fun y8 =>
   bif decide (x1.2.1 ≥ 0) then
   (c0H rf y8.1 y8.2 x1.2.1).bind fun y9 =>
   (a0b rf y9.1 y9.2 [([41] : List UInt8)]).bind fun y10 =>
   some y10
   else
   (a0b rf y8.1 y8.2 [([41] : List UInt8)]).bind fun y11 =>
   some y11
  else
  bif x1.1 == 26 then
   (a0b rf d1 d2 [y2.1]).bind fun y12 =>
   (a7q rf y12.1 y12.2 x1.2.1).bind fun y13 =>
   (a0b rf y13.1 y13.2 [([116, 104, 101, 110] : List UInt8)]).bind fun y14 =>
   (a7q rf y14.1 y14.2 x1.2.2.1).bind fun y15 =>
   (a0b rf y15.1 y15.2 [([101, 108, 115, 101] : List UInt8)]).bind fun y16 =>
   (a7q rf y16.1 y16.2 x1.2.2.2.1).bind fun y17 =>
   some y17
  else
  bif y2.2 == 9 then
   (a0b rf d1 d2 [y2.1]).bind fun y18 =>
   bif x1.1 == 25 then
   (c0G rf x1.2.2.2.2.1).bind fun y19 =>
   (a0b rf y18.1 y18.2 [y19]).bind fun y20 =>
   (a1O rf y20.1 y20.2 x1.2.1 9).bind fun y21 =>
   some y21
   else
   (a1O rf y18.1 y18.2 x1.2.1 9).bind fun y22 =>
   some y22
  else
  bif decide (y2.2 ≤ 2) then
   bif y2.2 == 6 then
   (a1O rf d1 d2 x1.2.1 y2.2).bind fun y23 =>
   (a0b rf y23.1 y23.2 [y2.1]).bind fun y24 =>
   (a1O rf y24.1 y24.2 x1.2.2.1 y2.2).bind fun y25 =>
   some y25
   else
   (a1O rf d1 d2 x1.2.1 (IntKind.i64.wrap (y2.2 + 1))).bind fun y26 =>
   (a0b rf y26.1 y26.2 [y2.1]).bind fun y27 =>
   (a1O rf y27.1 y27.2 x1.2.2.1 y2.2).bind fun y28 =>
   some y28
  else
  bif y2.2 == 6 then
   (a1O rf d1 d2 x1.2.1 (IntKind.i64.wrap (y2.2 + 1))).bind fun y29 =>
   (a0b rf y29.1 y29.2 [y2.1]).bind fun y30 =>
   (a1O rf y30.1 y30.2 x1.2.2.1 (IntKind.i64.wrap (y2.2 + 1))).bind fun y31 =>
   some y31
  else
   (a1O rf d1 d2 x1.2.1 y2.2).bind fun y32 =>
   (a0b rf y32.1 y32.2 [y2.1]).bind fun y33 =>
   (a1O rf y33.1 y33.2 x1.2.2.1 (IntKind.i64.wrap (y2.2 + 1))).bind fun y34 =>
   some y34
 else
  none
theorem c3e : EqF 120 fun a b => U3 (a5L a b) := fun _ _ _ => by kernel_rfl
theorem b0o {d1 d2 d3 y} (h : a5L T.rf T.rb d1 d2 d3 = some y) : a7q T.rf d1 d2 d3 = some y := c3e.o h
def b9x (rf : T.RF) (rb : T.RB) (d1 : List XK) : Option (List UInt8) :=
 bif Nat.ble (C1 d1).length v8 then
  some (C1 d1)
 else
  none
theorem c3o : EqF 130 fun a b => b9x a b := fun _ _ _ => by kernel_rfl
theorem c4a {d1 y} (h : b9x T.rf T.rb d1 = some y) : b6f T.rf d1 = some y := c3o.o h
def c1G (rf : T.RF) (rb : T.RB) (d1 : List XN) : Option (List UInt8) :=
 (c91 rf d1).bind fun y1 =>
 bif !y1 then
  some ([] : List UInt8)
 else
  (a7q rf d1 [] (IntKind.i64.wrap ((((d1.length : Nat) : Int)) - 1))).bind fun y2 =>
  (b6f rf y2.2).bind fun y3 =>
  some y3
theorem c3d : EqF 119 fun a b => c1G a b := fun _ _ _ => by kernel_rfl
theorem d2n {d1 y} (h : c1G T.rf T.rb d1 = some y) : c0E T.rf d1 = some y := c3d.o h
def c1F (rf : T.RF) (rb : T.RB) (d1 : List XK) (d2 : List XN) : Option (List XK) :=
 (c0E rf d2).bind fun y1 =>
 (H0 rf d1 [y1]).bind fun y2 =>
 some y2
theorem c3c : EqF 118 fun a b => U2 (c1F a b) := fun _ _ _ => by kernel_rfl
theorem d2m {d1 d2 y} (h : c1F T.rf T.rb d1 d2 = some y) : a7p T.rf d1 d2 = some y := c3c.o h
def b7A (rf : T.RF) (rb : T.RB) (d1 : List XK) (d2 : List UInt8) (d3 : List (List XN)) (d4 : Int) (d5 : Int) : Option (List XK) :=
 bif decide (d5 < d4) then
  bif inb d5 d3.length then
   (nth d3 d5.toNat).bind fun x1 =>
   bif decide (d5 > 0) then
   (H0 rf d1 [d2]).bind fun y2 =>
   (a7p rf y2 x1).bind fun y3 =>
   b8u rb y3 d2 d3 d4 (IntKind.i64.wrap (d5 + 1))
   else
   (a7p rf d1 x1).bind fun y4 =>
   b8u rb y4 d2 d3 d4 (IntKind.i64.wrap (d5 + 1))
  else
   none
 else
  some d1
theorem c2r : EqB 101 fun a b => U5 (b7A a b) := fun _ _ _ => by kernel_rfl
theorem c3R {d1 d2 d3 d4 d5 y} (h : b7A T.rf T.rb d1 d2 d3 d4 d5 = some y) : b8u T.rb d1 d2 d3 d4 d5 = some y := c2r.o h
def c1M (rf : T.RF) (rb : T.RB) (d1 : List XK) (d2 : List (List XN)) (d3 : List UInt8) : Option (List XK) :=
 (b8u rb d1 d3 d2 (((d2.length : Nat) : Int)) 0).bind fun z1 =>
 some z1
theorem c3p : EqF 131 fun a b => U3 (c1M a b) := fun _ _ _ => by kernel_rfl
theorem d2w {d1 d2 d3 y} (h : c1M T.rf T.rb d1 d2 d3 = some y) : c5a T.rf d1 d2 d3 = some y := c3p.o h
def b2V (rf : T.RF) (rb : T.RB) (d1 : List XK) (d2 : XIt) : Option (List XK) :=
 bif d2.1 == 1 then
  (H0 rf d1 [([97, 115, 115, 117, 109, 101] : List UInt8)]).bind fun y1 =>
  (a7p rf y1 d2.2.2.2.1).bind fun y2 =>
  (H0 rf y2 [([59] : List UInt8)]).bind fun y3 =>
  some y3
 else
 bif d2.1 == 2 then
  (H0 rf d1 [([103, 117, 97, 114, 97, 110, 116, 101, 101] : List UInt8)]).bind fun y4 =>
  (a7p rf y4 d2.2.2.2.1).bind fun y5 =>
  (H0 rf y5 [([59] : List UInt8)]).bind fun y6 =>
  some y6
 else
 bif d2.1 == 3 then
  (H0 rf d1 [([103, 104, 111, 115, 116] : List UInt8)]).bind fun y7 =>
  (b6e rf y7 (d2.2.1, d2.2.2.1)).bind fun y8 =>
  (H0 rf y8 [([61] : List UInt8)]).bind fun y9 =>
  (a7p rf y9 d2.2.2.2.1).bind fun y10 =>
  (H0 rf y10 [([59] : List UInt8)]).bind fun y11 =>
  some y11
 else
 bif d2.1 == 4 then
  (H0 rf d1 [([109, 111, 100, 101] : List UInt8), d2.2.1, ([114, 101, 113, 117, 105, 114, 101] : List UInt8)]).bind fun y12 =>
  (a7p rf y12 d2.2.2.2.1).bind fun y13 =>
  (H0 rf y13 [([101, 110, 115, 117, 114, 101] : List UInt8)]).bind fun y14 =>
  (a7p rf y14 d2.2.2.2.2.1).bind fun y15 =>
  (H0 rf y15 [([59] : List UInt8)]).bind fun y16 =>
  some y16
 else
 bif d2.1 == 5 then
  (H0 rf d1 [([105, 109, 112, 111, 114, 116] : List UInt8), d2.2.1, ([40] : List UInt8)]).bind fun y17 =>
  (c5a rf y17 d2.2.2.2.2.2 ([44] : List UInt8)).bind fun y18 =>
  (H0 rf y18 [([41] : List UInt8)]).bind fun y19 =>
  (H0 rf y19 [([59] : List UInt8)]).bind fun y20 =>
  some y20
 else
  (H0 rf d1 [([59] : List UInt8)]).bind fun y21 =>
  some y21
theorem c3b : EqF 117 fun a b => U2 (b2V a b) := fun _ _ _ => by kernel_rfl
theorem d2l {d1 d2 y} (h : b2V T.rf T.rb d1 d2 = some y) : c4W T.rf d1 d2 = some y := c3b.o h
def b7B (rf : T.RF) (rb : T.RB) (d1 : XUn) (d2 : List XK) : Option ((XUn × List XK) ⊕ (XUn × List XK)) :=
 (b8w rb d2 d1.2.2.2.2.2.2.2 (((d1.2.2.2.2.2.2.2.length : Nat) : Int)) 0).bind fun z1 =>
 bif d1.1 then
  (H0 rf z1 [([101, 110, 100] : List UInt8)]).bind fun y2 =>
  (b6A rb d1 y2).bind fun z3 =>
  match z3 with
  | .inl u4 =>
    some (.inl u4)
  | .inr w5 =>
    some (.inr w5)
 else
 bif decide ((((d1.2.2.2.2.2.2.2.length : Nat) : Int)) > 0) then
  (H0 rf z1 [([101, 110, 100] : List UInt8)]).bind fun y6 =>
  (b6A rb d1 y6).bind fun z7 =>
  match z7 with
  | .inl u8 =>
    some (.inl u8)
  | .inr w9 =>
    some (.inr w9)
 else
  (b6A rb d1 z1).bind fun z10 =>
  match z10 with
  | .inl u11 =>
    some (.inl u11)
  | .inr w12 =>
    some (.inr w12)
theorem c2s : EqB 106 fun a b => U2 (b7B a b) := fun _ _ _ => by kernel_rfl
theorem c3S {d1 d2 y} (h : b7B T.rf T.rb d1 d2 = some y) : b8v T.rb d1 d2 = some y := c2s.o h
def b7C (rf : T.RF) (rb : T.RB) (d1 : List XK) (d2 : List XIt) (d3 : Int) (d4 : Int) : Option (List XK) :=
 bif decide (d4 < d3) then
  bif inb d4 d2.length then
   (nth d2 d4.toNat).bind fun x1 =>
   (c4W rf d1 x1).bind fun y2 =>
   b8w rb y2 d2 d3 (IntKind.i64.wrap (d4 + 1))
  else
   none
 else
  some d1
theorem c2t : EqB 107 fun a b => U4 (b7C a b) := fun _ _ _ => by kernel_rfl
theorem c3T {d1 d2 d3 d4 y} (h : b7C T.rf T.rb d1 d2 d3 d4 = some y) : b8w T.rb d1 d2 d3 d4 = some y := c2t.o h
def b5Z (rf : T.RF) (rb : T.RB) (d1 : XUn) (d2 : List XK) : Option ((XUn × List XK) ⊕ (XUn × List XK)) :=
 bif d1.1 then
  some (.inl (d1, d2))
 else
 bif decide ((((d1.2.2.2.2.2.1.length : Nat) : Int)) > 0) then
  (H0 rf d2 [([118, 97, 114] : List UInt8)]).bind fun y1 =>
  (c0D rf y1 d1.2.2.2.2.2.1 ([59] : List UInt8)).bind fun y2 =>
  (H0 rf y2 [([59] : List UInt8)]).bind fun y3 =>
  (H0 rf y3 [([108, 101, 116] : List UInt8)]).bind fun y4 =>
  (b6B rb y4 d1.2.2.2.2.2.2.1 (((d1.2.2.2.2.2.2.1.length : Nat) : Int)) 0).bind fun z5 =>
  (H0 rf z5 [([116, 101, 108] : List UInt8)]).bind fun y6 =>
  some (.inr (d1, y6))
 else
  (H0 rf d2 [([108, 101, 116] : List UInt8)]).bind fun y7 =>
  (b6B rb y7 d1.2.2.2.2.2.2.1 (((d1.2.2.2.2.2.2.1.length : Nat) : Int)) 0).bind fun z8 =>
  (H0 rf z8 [([116, 101, 108] : List UInt8)]).bind fun y9 =>
  some (.inr (d1, y9))
theorem c2u : EqB 108 fun a b => U2 (b5Z a b) := fun _ _ _ => by kernel_rfl
theorem b9a {d1 d2 y} (h : b5Z T.rf T.rb d1 d2 = some y) : b6A T.rb d1 d2 = some y := c2u.o h
def b7D (rf : T.RF) (rb : T.RB) (d1 : List XK) (d2 : List XEq) (d3 : Int) (d4 : Int) : Option (List XK) :=
 bif decide (d4 < d3) then
  bif inb d4 d2.length then
   (nth d2 d4.toNat).bind fun x1 =>
   (H0 rf d1 [x1.1, ([61] : List UInt8)]).bind fun y2 =>
   (a7p rf y2 x1.2).bind fun y3 =>
   (H0 rf y3 [([59] : List UInt8)]).bind fun y4 =>
   b6B rb y4 d2 d3 (IntKind.i64.wrap (d4 + 1))
  else
   none
 else
  some d1
theorem c2v : EqB 109 fun a b => U4 (b7D a b) := fun _ _ _ => by kernel_rfl
theorem c3U {d1 d2 d3 d4 y} (h : b7D T.rf T.rb d1 d2 d3 d4 = some y) : b6B T.rb d1 d2 d3 d4 = some y := c2v.o h
def c1A (rf : T.RF) (rb : T.RB) (d1 : List XK) (d2 : XUn) : Option (List XK) :=
 bif d2.1 then
  (H0 rf d1 [([99, 111, 110, 116, 114, 97, 99, 116] : List UInt8), d2.2.1]).bind fun y1 =>
  (b7O rf y1 d2.2.2.1).bind fun y2 =>
  (b8v rb d2 y2).bind fun z3 =>
  match z3 with
  | .inl u4 =>
    some u4.2
  | .inr w5 =>
    some w5.2
 else
  (H0 rf d1 [([110, 111, 100, 101] : List UInt8), d2.2.1]).bind fun y6 =>
  (b7O rf y6 d2.2.2.1).bind fun y7 =>
  (H0 rf y7 [([114, 101, 116, 117, 114, 110, 115] : List UInt8)]).bind fun y8 =>
  (b7O rf y8 [(d2.2.2.2.1, d2.2.2.2.2.1)]).bind fun y9 =>
  bif decide ((((d2.2.2.2.2.2.2.2.length : Nat) : Int)) > 0) then
   (H0 rf y9 [([99, 111, 110, 116, 114, 97, 99, 116] : List UInt8)]).bind fun y10 =>
   (b8v rb d2 y10).bind fun z11 =>
   match z11 with
   | .inl u12 =>
     some u12.2
   | .inr w13 =>
     some w13.2
  else
   (b8v rb d2 y9).bind fun z14 =>
   match z14 with
   | .inl u15 =>
     some u15.2
   | .inr w16 =>
     some w16.2
theorem c2W : EqF 112 fun a b => U2 (c1A a b) := fun _ _ _ => by kernel_rfl
theorem d2g {d1 d2 y} (h : c1A T.rf T.rb d1 d2 = some y) : c4V T.rf d1 d2 = some y := c2W.o h
def b7E (rf : T.RF) (rb : T.RB) (d1 : List XK) (d2 : List XUn) (d3 : Int) (d4 : Int) : Option (List XK) :=
 bif decide (d4 < d3) then
  bif inb d4 d2.length then
   (nth d2 d4.toNat).bind fun x1 =>
   (c4V rf d1 x1).bind fun y2 =>
   b8x rb y2 d2 d3 (IntKind.i64.wrap (d4 + 1))
  else
   none
 else
  some d1
theorem c2w : EqB 110 fun a b => U4 (b7E a b) := fun _ _ _ => by kernel_rfl
theorem c3V {d1 d2 d3 d4 y} (h : b7E T.rf T.rb d1 d2 d3 d4 = some y) : b8x T.rb d1 d2 d3 d4 = some y := c2w.o h
def r66 (rf : T.RF) (rb : T.RB) (d1 : XPg) : Option (List UInt8) :=
 (c67 rf d1).bind fun y1 =>
 bif !y1 then
  some ([] : List UInt8)
 else
  (b8x rb [] d1.1 (((d1.1.length : Nat) : Int)) 0).bind fun z2 =>
  (H0 rf z2 [([109, 97, 105, 110] : List UInt8), d1.2.1, ([59] : List UInt8)]).bind fun y3 =>
  bif !(d1.2.2 == ([] : List UInt8)) then
   (H0 rf y3 [([102, 97, 108, 108, 98, 97, 99, 107] : List UInt8), d1.2.2, ([59] : List UInt8)]).bind fun y4 =>
   (b6f rf y4).bind fun y5 =>
   some y5
  else
   (b6f rf y3).bind fun y6 =>
   some y6
theorem c9u : EqF 66 fun a b => r66 a b := fun _ _ _ => by kernel_rfl
theorem d5O {d1 y} (h : r66 T.rf T.rb d1 = some y) : c66 T.rf d1 = some y := c9u.o h
def b9y (rf : T.RF) (rb : T.RB) (d1 : List XUn) : Option (List XUn) :=
 bif d1.isEmpty then
  l8 (
   some []
  ) (
   bif (Nat.ble (0 + d1.length) v8) && true then
   some ([] ++ d1)
   else
   none
  )
 else
 bif (Nat.ble (0 + d1.length) v8) && true then
  some ([] ++ d1)
 else
  none
def c1N (rf : T.RF) (rb : T.RB) (d1 : List XUn) : Option (List XUn) :=
 bif (Nat.ble (0 + d1.length) v8) && true then
  some ([] ++ d1)
 else
  none
theorem c3r : EqF 133 fun a b => b9y a b := fun _ _ _ => by kernel_rfl
theorem c4h (rf rb d1) : b9y rf rb d1 = c1N rf rb d1 := by
 unfold b9y c1N; cases d1 <;> first | exact m9 _ | rfl
theorem d6J {d1 y} (h : c1N T.rf T.rb d1 = some y) : c6Q T.rf d1 = some y := c3r.o ((c4h _ _ _).trans h)
def b9z (rf : T.RF) (rb : T.RB) (d1 : List XPm) : Option (List XPm) :=
 bif d1.isEmpty then
  l8 (
   some []
  ) (
   bif (Nat.ble (0 + d1.length) v8) && true then
   some ([] ++ d1)
   else
   none
  )
 else
 bif (Nat.ble (0 + d1.length) v8) && true then
  some ([] ++ d1)
 else
  none
def c1O (rf : T.RF) (rb : T.RB) (d1 : List XPm) : Option (List XPm) :=
 bif (Nat.ble (0 + d1.length) v8) && true then
  some ([] ++ d1)
 else
  none
theorem c3s : EqF 134 fun a b => b9z a b := fun _ _ _ => by kernel_rfl
theorem c4i (rf rb d1) : b9z rf rb d1 = c1O rf rb d1 := by
 unfold b9z c1O; cases d1 <;> first | exact m9 _ | rfl
theorem d6K {d1 y} (h : c1O T.rf T.rb d1 = some y) : Q6 T.rf d1 = some y := c3s.o ((c4i _ _ _).trans h)
def b9A (rf : T.RF) (rb : T.RB) (d1 : List XEq) : Option (List XEq) :=
 bif d1.isEmpty then
  l8 (
   some []
  ) (
   bif (Nat.ble (0 + d1.length) v8) && true then
   some ([] ++ d1)
   else
   none
  )
 else
 bif (Nat.ble (0 + d1.length) v8) && true then
  some ([] ++ d1)
 else
  none
def c1P (rf : T.RF) (rb : T.RB) (d1 : List XEq) : Option (List XEq) :=
 bif (Nat.ble (0 + d1.length) v8) && true then
  some ([] ++ d1)
 else
  none
theorem c3t : EqF 135 fun a b => b9A a b := fun _ _ _ => by kernel_rfl
theorem c4j (rf rb d1) : b9A rf rb d1 = c1P rf rb d1 := by
 unfold b9A c1P; cases d1 <;> first | exact m9 _ | rfl
theorem d6L {d1 y} (h : c1P T.rf T.rb d1 = some y) : a9e T.rf d1 = some y := c3t.o ((c4j _ _ _).trans h)
def b9B (rf : T.RF) (rb : T.RB) (d1 : List XIt) : Option (List XIt) :=
 bif d1.isEmpty then
  l8 (
   some []
  ) (
   bif (Nat.ble (0 + d1.length) v8) && true then
   some ([] ++ d1)
   else
   none
  )
 else
 bif (Nat.ble (0 + d1.length) v8) && true then
  some ([] ++ d1)
 else
  none
def c1Q (rf : T.RF) (rb : T.RB) (d1 : List XIt) : Option (List XIt) :=
 bif (Nat.ble (0 + d1.length) v8) && true then
  some ([] ++ d1)
 else
  none
theorem c3u : EqF 136 fun a b => b9B a b := fun _ _ _ => by kernel_rfl
theorem c4k (rf rb d1) : b9B rf rb d1 = c1Q rf rb d1 := by
 unfold b9B c1Q; cases d1 <;> first | exact m9 _ | rfl
theorem d6M {d1 y} (h : c1Q T.rf T.rb d1 = some y) : c5b T.rf d1 = some y := c3u.o ((c4k _ _ _).trans h)
def c4x (rf : T.RF) (rb : T.RB) (d1 : List XN) (d2 : List Int) (d3 : List XN) (d4 : Int) (d5 : Int) : Option (List Int × List XN) :=
 bif decide (d5 < d4) then
  bif inb d5 d2.length then
   (nth d2 d5.toNat).bind fun x1 =>
   (c5c rf d1 d3 x1).bind fun y2 =>
   bif inb d5 d2.length then
   bif Nat.blt d5.toNat d2.length then
   c5o rb y2 (s6 d2 d5.toNat (IntKind.i64.wrap ((((y2.length : Nat) : Int)) - 1))) d3 d4 (IntKind.i64.wrap (d5 + 1))
   else
   none
   else
   none
  else
   none
 else
  some (d2, d1)
theorem c2x : EqB 120 fun a b => U5 (c4x a b) := fun _ _ _ => by kernel_rfl
theorem d6v {d1 d2 d3 d4 d5 y} (h : c4x T.rf T.rb d1 d2 d3 d4 d5 = some y) : c5o T.rb d1 d2 d3 d4 d5 = some y := c2x.o h
def c6g (rf : T.RF) (rb : T.RB) (d1 : List XN) (d2 : List XN) (d3 : Int) : Option (List XN) :=
 bif inb d3 d2.length then
  (nth d2 d3.toNat).bind fun x1 =>
  (c94 rf x1).bind fun y2 =>
  (c5o rb d1 y2 d2 (((y2.length : Nat) : Int)) 0).bind fun z3 =>
  bif inb d3 d2.length then
   (nth d2 d3.toNat).bind fun x4 =>
   (c95 rf x4 z3.1).bind fun y5 =>
   bif (Nat.ble (z3.2.length + 1) v8) && true then
   some (z3.2 ++ [y5])
   else
   none
  else
   none
 else
  none
theorem c3x : EqF 139 fun a b => U3 (c6g a b) := fun _ _ _ => by kernel_rfl
theorem d6P {d1 d2 d3 y} (h : c6g T.rf T.rb d1 d2 d3 = some y) : c5c T.rf d1 d2 d3 = some y := c3x.o h
def c6f (rf : T.RF) (rb : T.RB) (d1 : List XN) (d2 : Int) : Option (List XN) :=
 bif decide (d2 < 0) then
  some []
 else
 bif decide (d2 ≥ (((d1.length : Nat) : Int))) then
  some []
 else
  (c92 rf d1).bind fun y1 =>
  bif !y1 then
   some []
  else
   (c5c rf [] d1 d2).bind fun y2 =>
   some y2
theorem c3w : EqF 138 fun a b => U2 (c6f a b) := fun _ _ _ => by kernel_rfl
theorem d6O {d1 d2 y} (h : c6f T.rf T.rb d1 d2 = some y) : c6R T.rf d1 d2 = some y := c3w.o h
def c6e (rf : T.RF) (rb : T.RB) (d1 : List XN) : Option (List XN) :=
 (c6R rf d1 (IntKind.i64.wrap ((((d1.length : Nat) : Int)) - 1))).bind fun y1 =>
 some y1
theorem c3v : EqF 137 fun a b => c6e a b := fun _ _ _ => by kernel_rfl
theorem d6N {d1 y} (h : c6e T.rf T.rb d1 = some y) : P3 T.rf d1 = some y := c3v.o h
def b9C (rf : T.RF) (rb : T.RB) (d1 : List (List XN)) : Option (List (List XN)) :=
 bif d1.isEmpty then
  l8 (
   some []
  ) (
   bif (Nat.ble (0 + d1.length) v8) && true then
   some ([] ++ d1)
   else
   none
  )
 else
 bif (Nat.ble (0 + d1.length) v8) && true then
  some ([] ++ d1)
 else
  none
def c1R (rf : T.RF) (rb : T.RB) (d1 : List (List XN)) : Option (List (List XN)) :=
 bif (Nat.ble (0 + d1.length) v8) && true then
  some ([] ++ d1)
 else
  none
theorem c3y : EqF 140 fun a b => b9C a b := fun _ _ _ => by kernel_rfl
theorem c4l (rf rb d1) : b9C rf rb d1 = c1R rf rb d1 := by
 unfold b9C c1R; cases d1 <;> first | exact m9 _ | rfl
theorem d6Q {d1 y} (h : c1R T.rf T.rb d1 = some y) : c5d T.rf d1 = some y := c3y.o ((c4l _ _ _).trans h)
def a0Y (rf : T.RF) (rb : T.RB) (d1 : List UInt8) (d2 : List UInt8) (d3 : List XUn) (d4 : Int) (d5 : Int) (w1 : XUn) (w2 : List XPm) (w3 : List XPm) (w4 : List XEq) : Option (List UInt8 × List UInt8 × List XUn) :=
 (c5b rf w1.2.2.2.2.2.2.2).bind fun q5 =>
 (nth d3 d5.toNat).bind fun q6 =>
 bif Nat.beq d5.toNat (d3.take d5.toNat).length && true then
  bif Nat.beq d5.toNat (d3.take d5.toNat).length && true then
   bif Nat.beq d5.toNat (d3.take d5.toNat).length && true then
   (c5p rb (d3.take d5.toNat) q6.1 q6.2.1 q6.2.2.2.1 q6.2.2.2.2.1 (d3.drop (d5.toNat + 1)) w2 w3 w4 q5 (((d5.toNat : Nat) : Int))).bind fun q7 =>
   c0R rb d1 d2 (q7.1 ++ (q7.2.1, q7.2.2.1, q7.2.2.2.2.2.2.1, q7.2.2.2.1, q7.2.2.2.2.1, q7.2.2.2.2.2.2.2) :: q7.2.2.2.2.2.1) d4 (IntKind.i64.wrap (d5 + 1))
   else
   none
  else
   none
 else
  none
def a5i (rf : T.RF) (rb : T.RB) (d1 : List UInt8) (d2 : List UInt8) (d3 : List XUn) (d4 : Int) (d5 : Int) (w1 : XUn) (w2 : XUn) (w3 : List XPm) : Option (List UInt8 × List UInt8 × List XUn) :=
 l8 (
  (Q6 rf w1.2.2.2.2.2.1).bind fun q4 =>
  l8 (
   (a9e rf w2.2.2.2.2.2.2.1).bind fun q5 =>
   (nth d3 d5.toNat).bind fun q6 =>
   a0Y rf rb d1 d2 d3 d4 d5 q6 w3 q4 q5
  ) (
   (nth d3 d5.toNat).bind fun q5 =>
   (a9e rf w2.2.2.2.2.2.2.1).bind fun q6 =>
   a0Y rf rb d1 d2 d3 d4 d5 q5 w3 q4 q6
  )
 ) (
  (nth d3 d5.toNat).bind fun q4 =>
  (Q6 rf w1.2.2.2.2.2.1).bind fun q5 =>
  (a9e rf w2.2.2.2.2.2.2.1).bind fun q6 =>
  a0Y rf rb d1 d2 d3 d4 d5 q4 w3 q5 q6
 )
def I5 (rf : T.RF) (rb : T.RB) (d1 : List UInt8) (d2 : List UInt8) (d3 : List XUn) (d4 : Int) (d5 : Int) (w1 : XUn) (w2 : XUn) (w3 : XUn) (w4 : List XPm) : Option (List UInt8 × List UInt8 × List XUn) :=
 (Q6 rf w1.2.2.2.2.2.1).bind fun q5 =>
 (a9e rf w2.2.2.2.2.2.2.1).bind fun q6 =>
 a0Y rf rb d1 d2 d3 d4 d5 w3 w4 q5 q6
def a5j (rf : T.RF) (rb : T.RB) (d1 : List UInt8) (d2 : List UInt8) (d3 : List XUn) (d4 : Int) (d5 : Int) (w1 : XUn) (w2 : XUn) (w3 : List XPm) : Option (List UInt8 × List UInt8 × List XUn) :=
 l8 (
  (Q6 rf w1.2.2.2.2.2.1).bind fun q4 =>
  (nth d3 d5.toNat).bind fun q5 =>
  (a9e rf q5.2.2.2.2.2.2.1).bind fun q6 =>
  a0Y rf rb d1 d2 d3 d4 d5 w2 w3 q4 q6
 ) (
  (nth d3 d5.toNat).bind fun q4 =>
  I5 rf rb d1 d2 d3 d4 d5 w1 q4 w2 w3
 )
def b0L (rf : T.RF) (rb : T.RB) (d1 : List UInt8) (d2 : List UInt8) (d3 : List XUn) (d4 : Int) (d5 : Int) (w1 : XUn) (w2 : List XPm) : Option (List UInt8 × List UInt8 × List XUn) :=
 l8 (
  (Q6 rf w1.2.2.2.2.2.1).bind fun q3 =>
  l8 (
   (nth d3 d5.toNat).bind fun q4 =>
   l8 (
   (a9e rf q4.2.2.2.2.2.2.1).bind fun q5 =>
   (nth d3 d5.toNat).bind fun q6 =>
   a0Y rf rb d1 d2 d3 d4 d5 q6 w2 q3 q5
   ) (
   (nth d3 d5.toNat).bind fun q5 =>
   (a9e rf q4.2.2.2.2.2.2.1).bind fun q6 =>
   a0Y rf rb d1 d2 d3 d4 d5 q5 w2 q3 q6
   )
  ) (
   (nth d3 d5.toNat).bind fun q4 =>
   (nth d3 d5.toNat).bind fun q5 =>
   (a9e rf q5.2.2.2.2.2.2.1).bind fun q6 =>
   a0Y rf rb d1 d2 d3 d4 d5 q4 w2 q3 q6
  )
 ) (
  l8 (
   (nth d3 d5.toNat).bind fun q3 =>
   a5i rf rb d1 d2 d3 d4 d5 w1 q3 w2
  ) (
   (nth d3 d5.toNat).bind fun q3 =>
   a5j rf rb d1 d2 d3 d4 d5 w1 q3 w2
  )
 )
def a3I (rf : T.RF) (rb : T.RB) (d1 : List UInt8) (d2 : List UInt8) (d3 : List XUn) (d4 : Int) (d5 : Int) (w1 : XUn) (w2 : XUn) (w3 : XUn) : Option (List UInt8 × List UInt8 × List XUn) :=
 l8 (
  (Q6 rf w1.2.2.1).bind fun q4 =>
  (nth d3 d5.toNat).bind fun q5 =>
  I5 rf rb d1 d2 d3 d4 d5 q5 w2 w3 q4
 ) (
  (nth d3 d5.toNat).bind fun q4 =>
  (Q6 rf w1.2.2.1).bind fun q5 =>
  I5 rf rb d1 d2 d3 d4 d5 q4 w2 w3 q5
 )
def a3J (rf : T.RF) (rb : T.RB) (d1 : List UInt8) (d2 : List UInt8) (d3 : List XUn) (d4 : Int) (d5 : Int) (w1 : XUn) (w2 : XUn) (w3 : XUn) : Option (List UInt8 × List UInt8 × List XUn) :=
 l8 (
  (Q6 rf w1.2.2.1).bind fun q4 =>
  a5i rf rb d1 d2 d3 d4 d5 w2 w3 q4
 ) (
  (nth d3 d5.toNat).bind fun q4 =>
  (Q6 rf w1.2.2.1).bind fun q5 =>
  I5 rf rb d1 d2 d3 d4 d5 w2 w3 q4 q5
 )
def a3K (rf : T.RF) (rb : T.RB) (d1 : List UInt8) (d2 : List UInt8) (d3 : List XUn) (d4 : Int) (d5 : Int) (w1 : XUn) (w2 : XUn) (w3 : XUn) : Option (List UInt8 × List UInt8 × List XUn) :=
 l8 (
  (Q6 rf w1.2.2.1).bind fun q4 =>
  a5j rf rb d1 d2 d3 d4 d5 w2 w3 q4
 ) (
  (nth d3 d5.toNat).bind fun q4 =>
  (Q6 rf w1.2.2.1).bind fun q5 =>
  I5 rf rb d1 d2 d3 d4 d5 w2 q4 w3 q5
 )
def b7F (rf : T.RF) (rb : T.RB) (d1 : List UInt8) (d2 : List UInt8) (d3 : List XUn) (d4 : Int) (d5 : Int) : Option (List UInt8 × List UInt8 × List XUn) :=
 bif decide (d5 < d4) then
  bif inb d5 d3.length then
   l8 (
   (nth d3 d5.toNat).bind fun x1 =>
   l8 (
   (Q6 rf x1.2.2.1).bind fun y2 =>
   l8 (
   (nth d3 d5.toNat).bind fun x3 =>
   b0L rf rb d1 d2 d3 d4 d5 x3 y2
   ) (
   l8 (
   (nth d3 d5.toNat).bind fun x3 =>
   l8 (
   (nth d3 d5.toNat).bind fun x4 =>
   a5i rf rb d1 d2 d3 d4 d5 x4 x3 y2
   ) (
   (nth d3 d5.toNat).bind fun x4 =>
   (nth d3 d5.toNat).bind fun x5 =>
   I5 rf rb d1 d2 d3 d4 d5 x5 x3 x4 y2
   )
   ) (
   (nth d3 d5.toNat).bind fun x3 =>
   l8 (
   (nth d3 d5.toNat).bind fun x4 =>
   a5j rf rb d1 d2 d3 d4 d5 x4 x3 y2
   ) (
   (nth d3 d5.toNat).bind fun x4 =>
   (nth d3 d5.toNat).bind fun x5 =>
   I5 rf rb d1 d2 d3 d4 d5 x5 x4 x3 y2
   )
   )
   )
   ) (
   l8 (
   (nth d3 d5.toNat).bind fun x2 =>
   l8 (
   (Q6 rf x1.2.2.1).bind fun y3 =>
   b0L rf rb d1 d2 d3 d4 d5 x2 y3
   ) (
   l8 (
   (nth d3 d5.toNat).bind fun x3 =>
   a3J rf rb d1 d2 d3 d4 d5 x1 x2 x3
   ) (
   (nth d3 d5.toNat).bind fun x3 =>
   a3K rf rb d1 d2 d3 d4 d5 x1 x2 x3
   )
   )
   ) (
   l8 (
   (nth d3 d5.toNat).bind fun x2 =>
   l8 (
   (Q6 rf x1.2.2.1).bind fun y3 =>
   l8 (
   (nth d3 d5.toNat).bind fun x4 =>
   a5i rf rb d1 d2 d3 d4 d5 x4 x2 y3
   ) (
   (nth d3 d5.toNat).bind fun x4 =>
   (nth d3 d5.toNat).bind fun x5 =>
   I5 rf rb d1 d2 d3 d4 d5 x5 x2 x4 y3
   )
   ) (
   l8 (
   (nth d3 d5.toNat).bind fun x3 =>
   a3J rf rb d1 d2 d3 d4 d5 x1 x3 x2
   ) (
   (nth d3 d5.toNat).bind fun x3 =>
   a3I rf rb d1 d2 d3 d4 d5 x1 x2 x3
   )
   )
   ) (
   (nth d3 d5.toNat).bind fun x2 =>
   l8 (
   (Q6 rf x1.2.2.1).bind fun y3 =>
   l8 (
   (nth d3 d5.toNat).bind fun x4 =>
   a5j rf rb d1 d2 d3 d4 d5 x4 x2 y3
   ) (
   (nth d3 d5.toNat).bind fun x4 =>
   (nth d3 d5.toNat).bind fun x5 =>
   I5 rf rb d1 d2 d3 d4 d5 x5 x4 x2 y3
   )
   ) (
   l8 (
   (nth d3 d5.toNat).bind fun x3 =>
   a3K rf rb d1 d2 d3 d4 d5 x1 x3 x2
   ) (
   (nth d3 d5.toNat).bind fun x3 =>
   a3I rf rb d1 d2 d3 d4 d5 x1 x3 x2
   )
   )
   )
   )
   )
   ) (
   l8 (
   (nth d3 d5.toNat).bind fun x1 =>
   l8 (
   (nth d3 d5.toNat).bind fun x2 =>
   l8 (
   (Q6 rf x2.2.2.1).bind fun y3 =>
   b0L rf rb d1 d2 d3 d4 d5 x1 y3
   ) (
   l8 (
   (nth d3 d5.toNat).bind fun x3 =>
   a3J rf rb d1 d2 d3 d4 d5 x2 x1 x3
   ) (
   (nth d3 d5.toNat).bind fun x3 =>
   a3K rf rb d1 d2 d3 d4 d5 x2 x1 x3
   )
   )
   ) (
   l8 (
   (nth d3 d5.toNat).bind fun x2 =>
   l8 (
   (nth d3 d5.toNat).bind fun x3 =>
   a3J rf rb d1 d2 d3 d4 d5 x3 x1 x2
   ) (
   (nth d3 d5.toNat).bind fun x3 =>
   (nth d3 d5.toNat).bind fun x4 =>
   (Q6 rf x4.2.2.1).bind fun y5 =>
   I5 rf rb d1 d2 d3 d4 d5 x1 x2 x3 y5
   )
   ) (
   (nth d3 d5.toNat).bind fun x2 =>
   l8 (
   (nth d3 d5.toNat).bind fun x3 =>
   a3K rf rb d1 d2 d3 d4 d5 x3 x1 x2
   ) (
   (nth d3 d5.toNat).bind fun x3 =>
   (nth d3 d5.toNat).bind fun x4 =>
   (Q6 rf x4.2.2.1).bind fun y5 =>
   I5 rf rb d1 d2 d3 d4 d5 x1 x3 x2 y5
   )
   )
   )
   ) (
   l8 (
   (nth d3 d5.toNat).bind fun x1 =>
   l8 (
   (nth d3 d5.toNat).bind fun x2 =>
   l8 (
   (Q6 rf x2.2.2.1).bind fun y3 =>
   l8 (
   (nth d3 d5.toNat).bind fun x4 =>
   a5i rf rb d1 d2 d3 d4 d5 x4 x1 y3
   ) (
   (nth d3 d5.toNat).bind fun x4 =>
   (nth d3 d5.toNat).bind fun x5 =>
   I5 rf rb d1 d2 d3 d4 d5 x5 x1 x4 y3
   )
   ) (
   l8 (
   (nth d3 d5.toNat).bind fun x3 =>
   a3J rf rb d1 d2 d3 d4 d5 x2 x3 x1
   ) (
   (nth d3 d5.toNat).bind fun x3 =>
   a3I rf rb d1 d2 d3 d4 d5 x2 x1 x3
   )
   )
   ) (
   l8 (
   (nth d3 d5.toNat).bind fun x2 =>
   l8 (
   (nth d3 d5.toNat).bind fun x3 =>
   a3J rf rb d1 d2 d3 d4 d5 x3 x2 x1
   ) (
   (nth d3 d5.toNat).bind fun x3 =>
   (nth d3 d5.toNat).bind fun x4 =>
   (Q6 rf x4.2.2.1).bind fun y5 =>
   I5 rf rb d1 d2 d3 d4 d5 x2 x1 x3 y5
   )
   ) (
   (nth d3 d5.toNat).bind fun x2 =>
   l8 (
   (nth d3 d5.toNat).bind fun x3 =>
   a3I rf rb d1 d2 d3 d4 d5 x3 x1 x2
   ) (
   (nth d3 d5.toNat).bind fun x3 =>
   (nth d3 d5.toNat).bind fun x4 =>
   (Q6 rf x4.2.2.1).bind fun y5 =>
   I5 rf rb d1 d2 d3 d4 d5 x3 x1 x2 y5
   )
   )
   )
   ) (
   (nth d3 d5.toNat).bind fun x1 =>
   l8 (
   (nth d3 d5.toNat).bind fun x2 =>
   l8 (
   (Q6 rf x2.2.2.1).bind fun y3 =>
   l8 (
   (nth d3 d5.toNat).bind fun x4 =>
   a5j rf rb d1 d2 d3 d4 d5 x4 x1 y3
   ) (
   (nth d3 d5.toNat).bind fun x4 =>
   (nth d3 d5.toNat).bind fun x5 =>
   I5 rf rb d1 d2 d3 d4 d5 x5 x4 x1 y3
   )
   ) (
   l8 (
   (nth d3 d5.toNat).bind fun x3 =>
   a3K rf rb d1 d2 d3 d4 d5 x2 x3 x1
   ) (
   (nth d3 d5.toNat).bind fun x3 =>
   a3I rf rb d1 d2 d3 d4 d5 x2 x3 x1
   )
   )
   ) (
   l8 (
   (nth d3 d5.toNat).bind fun x2 =>
   l8 (
   (nth d3 d5.toNat).bind fun x3 =>
   a3K rf rb d1 d2 d3 d4 d5 x3 x2 x1
   ) (
   (nth d3 d5.toNat).bind fun x3 =>
   (nth d3 d5.toNat).bind fun x4 =>
   (Q6 rf x4.2.2.1).bind fun y5 =>
   I5 rf rb d1 d2 d3 d4 d5 x2 x3 x1 y5
   )
   ) (
   (nth d3 d5.toNat).bind fun x2 =>
   l8 (
   (nth d3 d5.toNat).bind fun x3 =>
   a3I rf rb d1 d2 d3 d4 d5 x3 x2 x1
   ) (
   (nth d3 d5.toNat).bind fun x3 =>
   (nth d3 d5.toNat).bind fun x4 =>
   (Q6 rf x4.2.2.1).bind fun y5 =>
   I5 rf rb d1 d2 d3 d4 d5 x3 x2 x1 y5
   )
   )
   )
   )
   )
   )
  else
   none
 else
  some (d1, d2, d3)
def c0v (rf : T.RF) (rb : T.RB) (d1 : List UInt8) (d2 : List UInt8) (d3 : List XUn) (d4 : Int) (d5 : Int) : Option (List UInt8 × List UInt8 × List XUn) :=
 bif decide (d5 < d4) then
  bif inb d5 d3.length then
   (nth d3 d5.toNat).bind fun f1 =>
   bif Nat.beq d5.toNat (d3.take d5.toNat).length && true then
   (Q6 rf f1.2.2.1).bind fun q1 =>
   (Q6 rf f1.2.2.2.2.2.1).bind fun q2 =>
   (a9e rf f1.2.2.2.2.2.2.1).bind fun q3 =>
   (c5b rf f1.2.2.2.2.2.2.2).bind fun q4 =>
   (c5p rb (d3.take d5.toNat) f1.1 f1.2.1 f1.2.2.2.1 f1.2.2.2.2.1 (d3.drop (d5.toNat + 1)) q1 q2 q3 q4 (((d5.toNat : Nat) : Int))).bind fun q5 =>
   c0R rb d1 d2 (q5.1 ++ (q5.2.1, q5.2.2.1, q5.2.2.2.2.2.2.1, q5.2.2.2.1, q5.2.2.2.2.1, q5.2.2.2.2.2.2.2) :: q5.2.2.2.2.2.1) d4 (IntKind.i64.wrap (d5 + 1))
   else
   none
  else
   none
 else
  some (d1, d2, d3)
theorem c2y : EqB 170 fun a b => U5 (b7F a b) := fun _ _ _ => by kernel_rfl
theorem c4d (rf rb d1 d2 d3 d4 d5) : b7F rf rb d1 d2 d3 d4 d5 = c0v rf rb d1 d2 d3 d4 d5 := by
 unfold b7F c0v a3K a3J a3I b0L a5j I5 a5i a0Y; cases hh0 : nth d3 d5.toNat <;> cases hh1 : Nat.beq d5.toNat (d3.take d5.toNat).length && true <;> simp only [hh0, hh1, bind_some, Option.bind_none, Option.bind_fun_none, cond_true, cond_false, G3, m9]
theorem d6w {d1 d2 d3 d4 d5 y} (h : c0v T.rf T.rb d1 d2 d3 d4 d5 = some y) : c0R T.rb d1 d2 d3 d4 d5 = some y := c2y.o ((c4d _ _ _ _ _ _ _).trans h)
def c4y (rf : T.RF) (rb : T.RB) (d1 : List XUn) (d2 : Bool) (d3 : List UInt8) (d4 : List UInt8) (d5 : Int) (d6 : List XUn) (d7 : List XPm) (d8 : List XPm) (d9 : List XEq) (d10 : List XIt) (d11 : Int) : Option (List XUn × Bool × List UInt8 × List UInt8 × Int × List XUn × List XPm × List XPm × List XEq × List XIt) :=
 bif Nat.beq d11.toNat d1.length then
  (c0S rb d1 d2 d3 d4 d5 d6 d7 d8 d9 d10 (((d11.toNat : Nat) : Int)) (((d9.length : Nat) : Int)) 0).bind fun z1 =>
  bif Nat.beq d11.toNat z1.1.length then
   (c0T rb z1.1 z1.2.1 z1.2.2.1 z1.2.2.2.1 z1.2.2.2.2.1 z1.2.2.2.2.2.1 z1.2.2.2.2.2.2.1 z1.2.2.2.2.2.2.2.1 z1.2.2.2.2.2.2.2.2.1 z1.2.2.2.2.2.2.2.2.2 (((d11.toNat : Nat) : Int)) (((z1.2.2.2.2.2.2.2.2.2.length : Nat) : Int)) 0).bind fun z2 =>
   some z2
  else
   none
 else
  none
theorem c2z : EqB 171 fun a b => U11 (c4y a b) := fun _ _ _ => by kernel_rfl
theorem d6x {d1 d2 d3 d4 d5 d6 d7 d8 d9 d10 d11 y} (h : c4y T.rf T.rb d1 d2 d3 d4 d5 d6 d7 d8 d9 d10 d11 = some y) : c5p T.rb d1 d2 d3 d4 d5 d6 d7 d8 d9 d10 d11 = some y := c2z.o h
def a7l (rf : T.RF) (rb : T.RB) (d1 : List XUn) (d2 : Bool) (d3 : List UInt8) (d4 : List UInt8) (d5 : Int) (d6 : List XUn) (d7 : List XPm) (d8 : List XPm) (d9 : List XEq) (d10 : List XIt) (d11 : Int) (d12 : Int) (d13 : Int) (w1 : List XN) : Option (List XUn × Bool × List UInt8 × List UInt8 × Int × List XUn × List XPm × List XPm × List XEq × List XIt) :=
 bif inb d13 d9.length then
  (nth d9 d13.toNat).bind fun q2 =>
  c0S rb d1 d2 d3 d4 d5 d6 d7 d8 ((d9.take d13.toNat) ++ (q2.1, w1) :: (d9.drop (d13.toNat + 1))) d10 (((d11.toNat : Nat) : Int)) d12 (IntKind.i64.wrap (d13 + 1))
 else
  none
def b7G (rf : T.RF) (rb : T.RB) (d1 : List XUn) (d2 : Bool) (d3 : List UInt8) (d4 : List UInt8) (d5 : Int) (d6 : List XUn) (d7 : List XPm) (d8 : List XPm) (d9 : List XEq) (d10 : List XIt) (d11 : Int) (d12 : Int) (d13 : Int) : Option (List XUn × Bool × List UInt8 × List UInt8 × Int × List XUn × List XPm × List XPm × List XEq × List XIt) :=
 bif decide (d13 < d12) then
  l8 (
   bif Nat.beq d11.toNat d1.length then
   bif Nat.beq d11.toNat d1.length then
   bif inb d13 d9.length then
   (nth d9 d13.toNat).bind fun x1 =>
   (P3 rf x1.2).bind fun y2 =>
   a7l rf rb d1 d2 d3 d4 d5 d6 d7 d8 d9 d10 d11 d12 d13 y2
   else
   none
   else
   none
   else
   none
  ) (
   bif Nat.beq d11.toNat d1.length then
   bif inb d13 d9.length then
   l8 (
   bif Nat.beq d11.toNat d1.length then
   (nth d9 d13.toNat).bind fun x1 =>
   (P3 rf x1.2).bind fun y2 =>
   a7l rf rb d1 d2 d3 d4 d5 d6 d7 d8 d9 d10 d11 d12 d13 y2
   else
   none
   ) (
   (nth d9 d13.toNat).bind fun x1 =>
   l8 (
   bif Nat.beq d11.toNat d1.length then
   (P3 rf x1.2).bind fun y2 =>
   a7l rf rb d1 d2 d3 d4 d5 d6 d7 d8 d9 d10 d11 d12 d13 y2
   else
   none
   ) (
   (P3 rf x1.2).bind fun y2 =>
   bif Nat.beq d11.toNat d1.length then
   a7l rf rb d1 d2 d3 d4 d5 d6 d7 d8 d9 d10 d11 d12 d13 y2
   else
   none
   )
   )
   else
   none
   else
   none
  )
 else
  some (d1, d2, d3, d4, d5, d6, d7, d8, d9, d10)
def c0w (rf : T.RF) (rb : T.RB) (d1 : List XUn) (d2 : Bool) (d3 : List UInt8) (d4 : List UInt8) (d5 : Int) (d6 : List XUn) (d7 : List XPm) (d8 : List XPm) (d9 : List XEq) (d10 : List XIt) (d11 : Int) (d12 : Int) (d13 : Int) : Option (List XUn × Bool × List UInt8 × List UInt8 × Int × List XUn × List XPm × List XPm × List XEq × List XIt) :=
 bif decide (d13 < d12) then
  bif Nat.beq d11.toNat d1.length then
   bif inb d13 d9.length then
   (nth d9 d13.toNat).bind fun f1 =>
   (P3 rf f1.2).bind fun q1 =>
   c0S rb d1 d2 d3 d4 d5 d6 d7 d8 ((d9.take d13.toNat) ++ (f1.1, q1) :: (d9.drop (d13.toNat + 1))) d10 (((d11.toNat : Nat) : Int)) d12 (IntKind.i64.wrap (d13 + 1))
   else
   none
  else
   none
 else
  some (d1, d2, d3, d4, d5, d6, d7, d8, d9, d10)
theorem c2A : EqB 172 fun a b => U13 (b7G a b) := fun _ _ _ => by kernel_rfl
theorem c4e (rf rb d1 d2 d3 d4 d5 d6 d7 d8 d9 d10 d11 d12 d13) : b7G rf rb d1 d2 d3 d4 d5 d6 d7 d8 d9 d10 d11 d12 d13 = c0w rf rb d1 d2 d3 d4 d5 d6 d7 d8 d9 d10 d11 d12 d13 := by
 unfold b7G c0w a7l; cases hh0 : Nat.beq d11.toNat d1.length <;> cases hh1 : inb d13 d9.length <;> cases hh2 : nth d9 d13.toNat <;> simp only [hh0, hh1, hh2, bind_some, Option.bind_none, Option.bind_fun_none, cond_true, cond_false, G3, m9]
theorem d6y {d1 d2 d3 d4 d5 d6 d7 d8 d9 d10 d11 d12 d13 y} (h : c0w T.rf T.rb d1 d2 d3 d4 d5 d6 d7 d8 d9 d10 d11 d12 d13 = some y) : c0S T.rb d1 d2 d3 d4 d5 d6 d7 d8 d9 d10 d11 d12 d13 = some y := c2A.o ((c4e _ _ _ _ _ _ _ _ _ _ _ _ _ _ _).trans h)
def a7m (rf : T.RF) (rb : T.RB) (d1 : List XUn) (d2 : Bool) (d3 : List UInt8) (d4 : List UInt8) (d5 : Int) (d6 : List XUn) (d7 : List XPm) (d8 : List XPm) (d9 : List XEq) (d10 : List XIt) (d11 : Int) (d12 : Int) (d13 : Int) (w1 : XIt) (w2 : List XN) (w3 : List XN) : Option (List XUn × Bool × List UInt8 × List UInt8 × Int × List XUn × List XPm × List XPm × List XEq × List XIt) :=
 (c5d rf w1.2.2.2.2.2).bind fun q4 =>
 (nth d10 d13.toNat).bind fun q5 =>
 bif Nat.beq d13.toNat (d10.take d13.toNat).length && true then
  bif Nat.beq d13.toNat (d10.take d13.toNat).length && true then
   (c5q rb (d10.take d13.toNat) q5.1 q5.2.1 q5.2.2.1 (d10.drop (d13.toNat + 1)) w2 w3 q4 (((d13.toNat : Nat) : Int))).bind fun q6 =>
   c0T rb d1 d2 d3 d4 d5 d6 d7 d8 d9 (q6.1 ++ (q6.2.1, q6.2.2.1, q6.2.2.2.1, q6.2.2.2.2.2) :: q6.2.2.2.2.1) (((d11.toNat : Nat) : Int)) d12 (IntKind.i64.wrap (d13 + 1))
  else
   none
 else
  none
def Q4 (rf : T.RF) (rb : T.RB) (d1 : List XUn) (d2 : Bool) (d3 : List UInt8) (d4 : List UInt8) (d5 : Int) (d6 : List XUn) (d7 : List XPm) (d8 : List XPm) (d9 : List XEq) (d10 : List XIt) (d11 : Int) (d12 : Int) (d13 : Int) (w1 : XIt) (w2 : XIt) (w3 : List XN) : Option (List XUn × Bool × List UInt8 × List UInt8 × Int × List XUn × List XPm × List XPm × List XEq × List XIt) :=
 (P3 rf w1.2.2.2.2.1).bind fun q4 =>
 a7m rf rb d1 d2 d3 d4 d5 d6 d7 d8 d9 d10 d11 d12 d13 w2 w3 q4
def b7H (rf : T.RF) (rb : T.RB) (d1 : List XUn) (d2 : Bool) (d3 : List UInt8) (d4 : List UInt8) (d5 : Int) (d6 : List XUn) (d7 : List XPm) (d8 : List XPm) (d9 : List XEq) (d10 : List XIt) (d11 : Int) (d12 : Int) (d13 : Int) : Option (List XUn × Bool × List UInt8 × List UInt8 × Int × List XUn × List XPm × List XPm × List XEq × List XIt) :=
 bif decide (d13 < d12) then
  bif Nat.beq d11.toNat d1.length then
   bif inb d13 d10.length then
   l8 (
   (nth d10 d13.toNat).bind fun x1 =>
   l8 (
   (P3 rf x1.2.2.2.1).bind fun y2 =>
   l8 (
   (nth d10 d13.toNat).bind fun x3 =>
   l8 (
   (P3 rf x3.2.2.2.2.1).bind fun y4 =>
   (nth d10 d13.toNat).bind fun x5 =>
   a7m rf rb d1 d2 d3 d4 d5 d6 d7 d8 d9 d10 d11 d12 d13 x5 y2 y4
   ) (
   (nth d10 d13.toNat).bind fun x4 =>
   Q4 rf rb d1 d2 d3 d4 d5 d6 d7 d8 d9 d10 d11 d12 d13 x3 x4 y2
   )
   ) (
   (nth d10 d13.toNat).bind fun x3 =>
   (nth d10 d13.toNat).bind fun x4 =>
   Q4 rf rb d1 d2 d3 d4 d5 d6 d7 d8 d9 d10 d11 d12 d13 x4 x3 y2
   )
   ) (
   l8 (
   (nth d10 d13.toNat).bind fun x2 =>
   l8 (
   (P3 rf x1.2.2.2.1).bind fun y3 =>
   l8 (
   (P3 rf x2.2.2.2.2.1).bind fun y4 =>
   (nth d10 d13.toNat).bind fun x5 =>
   a7m rf rb d1 d2 d3 d4 d5 d6 d7 d8 d9 d10 d11 d12 d13 x5 y3 y4
   ) (
   (nth d10 d13.toNat).bind fun x4 =>
   Q4 rf rb d1 d2 d3 d4 d5 d6 d7 d8 d9 d10 d11 d12 d13 x2 x4 y3
   )
   ) (
   (nth d10 d13.toNat).bind fun x3 =>
   (P3 rf x1.2.2.2.1).bind fun y4 =>
   Q4 rf rb d1 d2 d3 d4 d5 d6 d7 d8 d9 d10 d11 d12 d13 x2 x3 y4
   )
   ) (
   (nth d10 d13.toNat).bind fun x2 =>
   l8 (
   (P3 rf x1.2.2.2.1).bind fun y3 =>
   (nth d10 d13.toNat).bind fun x4 =>
   Q4 rf rb d1 d2 d3 d4 d5 d6 d7 d8 d9 d10 d11 d12 d13 x4 x2 y3
   ) (
   (nth d10 d13.toNat).bind fun x3 =>
   (P3 rf x1.2.2.2.1).bind fun y4 =>
   Q4 rf rb d1 d2 d3 d4 d5 d6 d7 d8 d9 d10 d11 d12 d13 x3 x2 y4
   )
   )
   )
   ) (
   l8 (
   (nth d10 d13.toNat).bind fun x1 =>
   l8 (
   (nth d10 d13.toNat).bind fun x2 =>
   l8 (
   (P3 rf x2.2.2.2.1).bind fun y3 =>
   l8 (
   (P3 rf x1.2.2.2.2.1).bind fun y4 =>
   (nth d10 d13.toNat).bind fun x5 =>
   a7m rf rb d1 d2 d3 d4 d5 d6 d7 d8 d9 d10 d11 d12 d13 x5 y3 y4
   ) (
   (nth d10 d13.toNat).bind fun x4 =>
   Q4 rf rb d1 d2 d3 d4 d5 d6 d7 d8 d9 d10 d11 d12 d13 x1 x4 y3
   )
   ) (
   (nth d10 d13.toNat).bind fun x3 =>
   (P3 rf x2.2.2.2.1).bind fun y4 =>
   Q4 rf rb d1 d2 d3 d4 d5 d6 d7 d8 d9 d10 d11 d12 d13 x1 x3 y4
   )
   ) (
   (nth d10 d13.toNat).bind fun x2 =>
   (nth d10 d13.toNat).bind fun x3 =>
   (P3 rf x3.2.2.2.1).bind fun y4 =>
   Q4 rf rb d1 d2 d3 d4 d5 d6 d7 d8 d9 d10 d11 d12 d13 x1 x2 y4
   )
   ) (
   (nth d10 d13.toNat).bind fun x1 =>
   l8 (
   (nth d10 d13.toNat).bind fun x2 =>
   l8 (
   (P3 rf x2.2.2.2.1).bind fun y3 =>
   (nth d10 d13.toNat).bind fun x4 =>
   Q4 rf rb d1 d2 d3 d4 d5 d6 d7 d8 d9 d10 d11 d12 d13 x4 x1 y3
   ) (
   (nth d10 d13.toNat).bind fun x3 =>
   (P3 rf x2.2.2.2.1).bind fun y4 =>
   Q4 rf rb d1 d2 d3 d4 d5 d6 d7 d8 d9 d10 d11 d12 d13 x3 x1 y4
   )
   ) (
   (nth d10 d13.toNat).bind fun x2 =>
   (nth d10 d13.toNat).bind fun x3 =>
   (P3 rf x3.2.2.2.1).bind fun y4 =>
   Q4 rf rb d1 d2 d3 d4 d5 d6 d7 d8 d9 d10 d11 d12 d13 x2 x1 y4
   )
   )
   )
   else
   none
  else
   none
 else
  some (d1, d2, d3, d4, d5, d6, d7, d8, d9, d10)
def c0x (rf : T.RF) (rb : T.RB) (d1 : List XUn) (d2 : Bool) (d3 : List UInt8) (d4 : List UInt8) (d5 : Int) (d6 : List XUn) (d7 : List XPm) (d8 : List XPm) (d9 : List XEq) (d10 : List XIt) (d11 : Int) (d12 : Int) (d13 : Int) : Option (List XUn × Bool × List UInt8 × List UInt8 × Int × List XUn × List XPm × List XPm × List XEq × List XIt) :=
 bif decide (d13 < d12) then
  bif Nat.beq d11.toNat d1.length then
   bif inb d13 d10.length then
   (nth d10 d13.toNat).bind fun f1 =>
   bif Nat.beq d13.toNat (d10.take d13.toNat).length && true then
   (P3 rf f1.2.2.2.1).bind fun q1 =>
   (P3 rf f1.2.2.2.2.1).bind fun q2 =>
   (c5d rf f1.2.2.2.2.2).bind fun q3 =>
   (c5q rb (d10.take d13.toNat) f1.1 f1.2.1 f1.2.2.1 (d10.drop (d13.toNat + 1)) q1 q2 q3 (((d13.toNat : Nat) : Int))).bind fun q4 =>
   c0T rb d1 d2 d3 d4 d5 d6 d7 d8 d9 (q4.1 ++ (q4.2.1, q4.2.2.1, q4.2.2.2.1, q4.2.2.2.2.2) :: q4.2.2.2.2.1) (((d11.toNat : Nat) : Int)) d12 (IntKind.i64.wrap (d13 + 1))
   else
   none
   else
   none
  else
   none
 else
  some (d1, d2, d3, d4, d5, d6, d7, d8, d9, d10)
theorem c2B : EqB 173 fun a b => U13 (b7H a b) := fun _ _ _ => by kernel_rfl
theorem c4f (rf rb d1 d2 d3 d4 d5 d6 d7 d8 d9 d10 d11 d12 d13) : b7H rf rb d1 d2 d3 d4 d5 d6 d7 d8 d9 d10 d11 d12 d13 = c0x rf rb d1 d2 d3 d4 d5 d6 d7 d8 d9 d10 d11 d12 d13 := by
 unfold b7H c0x Q4 a7m; cases hh0 : nth d10 d13.toNat <;> cases hh1 : Nat.beq d13.toNat (d10.take d13.toNat).length && true <;> simp only [hh0, hh1, bind_some, Option.bind_none, Option.bind_fun_none, cond_true, cond_false, G3, m9]
theorem d6z {d1 d2 d3 d4 d5 d6 d7 d8 d9 d10 d11 d12 d13 y} (h : c0x T.rf T.rb d1 d2 d3 d4 d5 d6 d7 d8 d9 d10 d11 d12 d13 = some y) : c0T T.rb d1 d2 d3 d4 d5 d6 d7 d8 d9 d10 d11 d12 d13 = some y := c2B.o ((c4f _ _ _ _ _ _ _ _ _ _ _ _ _ _ _).trans h)
def c4z (rf : T.RF) (rb : T.RB) (d1 : List XIt) (d2 : Int) (d3 : List UInt8) (d4 : Int) (d5 : List XIt) (d6 : List XN) (d7 : List XN) (d8 : List (List XN)) (d9 : Int) : Option (List XIt × Int × List UInt8 × Int × List XIt × List XN × List XN × List (List XN)) :=
 bif Nat.beq d9.toNat d1.length then
  (b3P rb d1 d2 d3 d4 d5 d6 d7 d8 (((d9.toNat : Nat) : Int)) (((d8.length : Nat) : Int)) 0).bind fun z1 =>
  some z1
 else
  none
theorem c2C : EqB 174 fun a b => U9 (c4z a b) := fun _ _ _ => by kernel_rfl
theorem d6A {d1 d2 d3 d4 d5 d6 d7 d8 d9 y} (h : c4z T.rf T.rb d1 d2 d3 d4 d5 d6 d7 d8 d9 = some y) : c5q T.rb d1 d2 d3 d4 d5 d6 d7 d8 d9 = some y := c2C.o h
def b7I (rf : T.RF) (rb : T.RB) (d1 : List XIt) (d2 : Int) (d3 : List UInt8) (d4 : Int) (d5 : List XIt) (d6 : List XN) (d7 : List XN) (d8 : List (List XN)) (d9 : Int) (d10 : Int) (d11 : Int) : Option (List XIt × Int × List UInt8 × Int × List XIt × List XN × List XN × List (List XN)) :=
 bif decide (d11 < d10) then
  l8 (
   bif Nat.beq d9.toNat d1.length then
   bif Nat.beq d9.toNat d1.length then
   bif inb d11 d8.length then
   (nth d8 d11.toNat).bind fun x1 =>
   (P3 rf x1).bind fun y2 =>
   bif inb d11 d8.length then
   bif Nat.blt d11.toNat d8.length then
   b3P rb d1 d2 d3 d4 d5 d6 d7 (s6 d8 d11.toNat y2) (((d9.toNat : Nat) : Int)) d10 (IntKind.i64.wrap (d11 + 1))
   else
   none
   else
   none
   else
   none
   else
   none
   else
   none
  ) (
   bif Nat.beq d9.toNat d1.length then
   bif inb d11 d8.length then
   l8 (
   bif Nat.beq d9.toNat d1.length then
   (nth d8 d11.toNat).bind fun x1 =>
   (P3 rf x1).bind fun y2 =>
   bif inb d11 d8.length then
   bif Nat.blt d11.toNat d8.length then
   b3P rb d1 d2 d3 d4 d5 d6 d7 (s6 d8 d11.toNat y2) (((d9.toNat : Nat) : Int)) d10 (IntKind.i64.wrap (d11 + 1))
   else
   none
   else
   none
   else
   none
   ) (
   (nth d8 d11.toNat).bind fun x1 =>
   l8 (
   bif Nat.beq d9.toNat d1.length then
   (P3 rf x1).bind fun y2 =>
   bif inb d11 d8.length then
   bif Nat.blt d11.toNat d8.length then
   b3P rb d1 d2 d3 d4 d5 d6 d7 (s6 d8 d11.toNat y2) (((d9.toNat : Nat) : Int)) d10 (IntKind.i64.wrap (d11 + 1))
   else
   none
   else
   none
   else
   none
   ) (
   (P3 rf x1).bind fun y2 =>
   bif Nat.beq d9.toNat d1.length then
   bif inb d11 d8.length then
   bif Nat.blt d11.toNat d8.length then
   b3P rb d1 d2 d3 d4 d5 d6 d7 (s6 d8 d11.toNat y2) (((d9.toNat : Nat) : Int)) d10 (IntKind.i64.wrap (d11 + 1))
   else
   none
   else
   none
   else
   none
   )
   )
   else
   none
   else
   none
  )
 else
  some (d1, d2, d3, d4, d5, d6, d7, d8)
def c0y (rf : T.RF) (rb : T.RB) (d1 : List XIt) (d2 : Int) (d3 : List UInt8) (d4 : Int) (d5 : List XIt) (d6 : List XN) (d7 : List XN) (d8 : List (List XN)) (d9 : Int) (d10 : Int) (d11 : Int) : Option (List XIt × Int × List UInt8 × Int × List XIt × List XN × List XN × List (List XN)) :=
 bif decide (d11 < d10) then
  bif Nat.beq d9.toNat d1.length then
   bif inb d11 d8.length then
   (nth d8 d11.toNat).bind fun f1 =>
   bif Nat.blt d11.toNat d8.length then
   (P3 rf f1).bind fun q1 =>
   b3P rb d1 d2 d3 d4 d5 d6 d7 (s6 d8 d11.toNat q1) (((d9.toNat : Nat) : Int)) d10 (IntKind.i64.wrap (d11 + 1))
   else
   none
   else
   none
  else
   none
 else
  some (d1, d2, d3, d4, d5, d6, d7, d8)
theorem c2D : EqB 175 fun a b => U11 (b7I a b) := fun _ _ _ => by kernel_rfl
theorem c4g (rf rb d1 d2 d3 d4 d5 d6 d7 d8 d9 d10 d11) : b7I rf rb d1 d2 d3 d4 d5 d6 d7 d8 d9 d10 d11 = c0y rf rb d1 d2 d3 d4 d5 d6 d7 d8 d9 d10 d11 := by
 unfold b7I c0y; cases hh0 : Nat.beq d9.toNat d1.length <;> cases hh1 : inb d11 d8.length <;> cases hh2 : nth d8 d11.toNat <;> cases hh3 : Nat.blt d11.toNat d8.length <;> simp only [hh0, hh1, hh2, hh3, bind_some, Option.bind_none, Option.bind_fun_none, cond_true, cond_false, G3, m9]
theorem d6B {d1 d2 d3 d4 d5 d6 d7 d8 d9 d10 d11 y} (h : c0y T.rf T.rb d1 d2 d3 d4 d5 d6 d7 d8 d9 d10 d11 = some y) : b3P T.rb d1 d2 d3 d4 d5 d6 d7 d8 d9 d10 d11 = some y := c2D.o ((c4g _ _ _ _ _ _ _ _ _ _ _ _ _).trans h)
def c6d (rf : T.RF) (rb : T.RB) (d1 : XPg) : Option XPg :=
 (c6Q rf d1.1).bind fun y1 =>
 (c0R rb d1.2.1 d1.2.2 y1 (((y1.length : Nat) : Int)) 0).bind fun z2 =>
 some (z2.2.2, z2.1, z2.2.1)
theorem c3q : EqF 132 fun a b => c6d a b := fun _ _ _ => by kernel_rfl
theorem d6I {d1 y} (h : c6d T.rf T.rb d1 = some y) : b1W T.rf d1 = some y := c3q.o h
def d2T (rf : T.RF) (rb : T.RB) (d1 : XN) : Option Bool :=
 (c49 rf d1).bind fun y1 =>
 bif d1.1 == 27 then
  bif d1.2.2.1 == (-1) then
   some (d1.2.2.2.1 == (-1))
  else
   some false
 else
 bif d1.1 == 28 then
  some (d1.2.2.2.1 == (-1))
 else
 bif decide ((((y1.length : Nat) : Int)) > 0) then
  bif decide ((((y1.length : Nat) : Int)) > 1) then
   bif decide ((((y1.length : Nat) : Int)) > 2) then
   some true
   else
   some (d1.2.2.2.1 == (-1))
  else
  bif d1.2.2.1 == (-1) then
   bif decide ((((y1.length : Nat) : Int)) > 2) then
   some true
   else
   some (d1.2.2.2.1 == (-1))
  else
   some false
 else
 bif d1.2.1 == (-1) then
  bif decide ((((y1.length : Nat) : Int)) > 1) then
   bif decide ((((y1.length : Nat) : Int)) > 2) then
   some true
   else
   some (d1.2.2.2.1 == (-1))
  else
  bif d1.2.2.1 == (-1) then
   bif decide ((((y1.length : Nat) : Int)) > 2) then
   some true
   else
   some (d1.2.2.2.1 == (-1))
  else
   some false
 else
  some false
theorem c8w : EqF 146 fun a b => d2T a b := fun _ _ _ => by kernel_rfl
def c1S (rf : T.RF) (rb : T.RB) (d1 : XN) : Option Bool :=
 bif d1.1 == 3 then
  bif !((!(d1.2.2.2.2.2 == ([] : List UInt8))) == true) then
   some false
  else
  bif d1.1 == 1 then
   bif decide (d1.2.2.2.2.1 ≥ 0) then
   some (decide (d1.2.2.2.2.1 ≤ 2147483647))
   else
   some false
  else
  bif d1.1 == 2 then
   bif d1.2.2.2.2.1 == 0 then
   some true
   else
   some (d1.2.2.2.2.1 == 1)
  else
  bif d1.1 == 25 then
   bif decide (d1.2.2.2.2.1 ≥ 0) then
   some (decide (d1.2.2.2.2.1 ≤ 1000))
   else
   some false
  else
   some (d1.2.2.2.2.1 == 0)
 else
 bif !((!(d1.2.2.2.2.2 == ([] : List UInt8))) == (d1.1 == 27)) then
  some false
 else
 bif d1.1 == 1 then
  bif decide (d1.2.2.2.2.1 ≥ 0) then
   some (decide (d1.2.2.2.2.1 ≤ 2147483647))
  else
   some false
 else
 bif d1.1 == 2 then
  bif d1.2.2.2.2.1 == 0 then
   some true
  else
   some (d1.2.2.2.2.1 == 1)
 else
 bif d1.1 == 25 then
  bif decide (d1.2.2.2.2.1 ≥ 0) then
   some (decide (d1.2.2.2.2.1 ≤ 1000))
  else
   some false
 else
  some (d1.2.2.2.2.1 == 0)
theorem c3z : EqF 147 fun a b => c1S a b := fun _ _ _ => by kernel_rfl
theorem d2x {d1 y} (h : c1S T.rf T.rb d1 = some y) : c5f T.rf d1 = some y := c3z.o h
def c6K (rf : T.RF) (rb : T.RB) (d1 : XN) (d2 : List Int) (d3 : List XN) (d4 : Int) : Option ((XN × List Int × Bool) ⊕ (XN × List Int)) :=
 bif decide (d4 < (((d2.length : Nat) : Int))) then
  bif inb d4 d2.length then
   (nth d2 d4.toNat).bind fun x1 =>
   bif inb x1 d3.length then
   (nth d3 x1.toNat).bind fun x2 =>
   bif d1.1 == 27 then
   bif !((x2.1 == 28) == true) then
   some (.inl (d1, d2, false))
   else
   b8y rb d1 d2 d3 (IntKind.i64.wrap (d4 + 1))
   else
   bif d1.1 == 28 then
   bif (((d2.length : Nat) : Int)) == 2 then
   bif !((x2.1 == 28) == (d4 == 0)) then
   some (.inl (d1, d2, false))
   else
   b8y rb d1 d2 d3 (IntKind.i64.wrap (d4 + 1))
   else
   bif !((x2.1 == 28) == false) then
   some (.inl (d1, d2, false))
   else
   b8y rb d1 d2 d3 (IntKind.i64.wrap (d4 + 1))
   else
   bif !((x2.1 == 28) == false) then
   some (.inl (d1, d2, false))
   else
   b8y rb d1 d2 d3 (IntKind.i64.wrap (d4 + 1))
   else
   none
  else
   none
 else
  some (.inr (d1, d2))
theorem c7v : EqB 180 fun a b => U4 (c6K a b) := fun _ _ _ => by kernel_rfl
def d2U (rf : T.RF) (rb : T.RB) (d1 : List XN) (d2 : Int) : Option Bool :=
 bif inb d2 d1.length then
  (nth d1 d2.toNat).bind fun x1 =>
  (c49 rf x1).bind fun y2 =>
  (b8y rb x1 y2 d1 0).bind fun z3 =>
  match z3 with
  | .inl u4 =>
    some u4.2.2
  | .inr w5 =>
    some true
 else
  none
theorem c8x : EqF 148 fun a b => U2 (d2U a b) := fun _ _ _ => by kernel_rfl
def c6I (rf : T.RF) (rb : T.RB) (d1 : List Int) (d2 : List XN) (d3 : Int) : Option ((List Int × Bool) ⊕ (List Int)) :=
 bif decide (d3 < (((d2.length : Nat) : Int))) then
  bif inb d3 d2.length then
   (nth d2 d3.toNat).bind fun x1 =>
   bif decide (x1.1 < 1) then
    some (.inl (d1, false))
   else
   bif inb d3 d2.length then
    (nth d2 d3.toNat).bind fun x2 =>
    bif decide (x2.1 > 28) then
     some (.inl (d1, false))
    else
    bif inb d3 d2.length then
     (nth d2 d3.toNat).bind fun x3 =>
     (d3w rf x3).bind fun y4 =>
     bif !y4 then
      some (.inl (d1, false))
     else
     bif inb d3 d2.length then
      (nth d2 d3.toNat).bind fun x5 =>
      (c5f rf x5).bind fun y6 =>
      bif !y6 then
       some (.inl (d1, false))
      else
      bif inb d3 d2.length then
       (nth d2 d3.toNat).bind fun x7 =>
       (c49 rf x7).bind fun y8 =>
       (d1u rb d1 y8 d3 0).bind fun z9 =>
       match z9 with
       | .inl u10 =>
         some (.inl (u10.1, u10.2.2))
       | .inr w11 =>
         (d3x rf d2 d3).bind fun y12 =>
         bif !y12 then
          some (.inl (w11.1, false))
         else
          d1t rb w11.1 d2 (IntKind.i64.wrap (d3 + 1))
      else
       none
     else
      none
    else
     none
   else
    none
  else
   none
 else
  some (.inr d1)
theorem c7t : EqB 178 fun a b => U3 (c6I a b) := fun _ _ _ => by kernel_rfl
def c6J (rf : T.RF) (rb : T.RB) (d1 : List Int) (d2 : List Int) (d3 : Int) (d4 : Int) : Option ((List Int × List Int × Bool) ⊕ (List Int × List Int)) :=
 bif decide (d4 < (((d2.length : Nat) : Int))) then
  bif inb d4 d2.length then
   (nth d2 d4.toNat).bind fun x1 =>
   bif decide (x1 < 0) then
   some (.inl (d1, d2, false))
   else
   bif inb d4 d2.length then
   (nth d2 d4.toNat).bind fun x2 =>
   bif decide (x2 ≥ d3) then
   some (.inl (d1, d2, false))
   else
   bif inb d4 d2.length then
   (nth d2 d4.toNat).bind fun x3 =>
   bif inb x3 d1.length then
   (nth d1 x3.toNat).bind fun x4 =>
   bif inb x3 d1.length then
   bif Nat.blt x3.toNat d1.length then
   d1u rb (s6 d1 x3.toNat (IntKind.i64.wrap (x4 + 1))) d2 d3 (IntKind.i64.wrap (d4 + 1))
   else
   none
   else
   none
   else
   none
   else
   none
   else
   none
  else
   none
 else
  some (.inr (d1, d2))
theorem c7u : EqB 179 fun a b => U4 (c6J a b) := fun _ _ _ => by kernel_rfl
def c6L (rf : T.RF) (rb : T.RB) (d1 : List Int) (d2 : List XN) (d3 : Int) : Option ((List Int × Bool) ⊕ (List Int)) :=
 bif decide (d3 < (IntKind.i64.wrap ((((d2.length : Nat) : Int)) - 1))) then
  bif inb d3 d1.length then
   (nth d1 d3.toNat).bind fun x1 =>
   bif x1 != 1 then
   some (.inl (d1, false))
   else
   d1v rb d1 d2 (IntKind.i64.wrap (d3 + 1))
  else
   none
 else
  some (.inr d1)
theorem c7w : EqB 181 fun a b => U3 (c6L a b) := fun _ _ _ => by kernel_rfl
def d2S (rf : T.RF) (rb : T.RB) (d1 : List XN) : Option Bool :=
 bif decide ((((d1.length : Nat) : Int)) < 1) then
  some false
 else
 bif decide ((((d1.length : Nat) : Int)) > 5000) then
  some false
 else
 bif G5 (((d1.length : Nat) : Int)) v8 then
  bif G5 (((d1.length : Nat) : Int)) d1.length then
   (d1t rb (List.replicate d1.length (0 : Int)) d1 0).bind fun z1 =>
   match z1 with
   | .inl u2 =>
     some u2.2
   | .inr w3 =>
     (d1v rb w3 d1 0).bind fun z4 =>
     match z4 with
     | .inl u5 =>
       some u5.2
     | .inr w6 =>
       bif inb (IntKind.i64.wrap ((((d1.length : Nat) : Int)) - 1)) d1.length then
        (nth d1 (IntKind.i64.wrap ((((d1.length : Nat) : Int)) - 1)).toNat).bind fun x7 =>
        bif x7.1 != 28 then
         (c62 rf d1).bind fun y8 =>
         some (decide (y8 ≤ 40))
        else
         some false
       else
        none
  else
   none
 else
  none
theorem c8v : EqF 145 fun a b => d2S a b := fun _ _ _ => by kernel_rfl
def c6M (rf : T.RF) (rb : T.RB) (d1 : List XN) (d2 : List Int) (d3 : List Int) (d4 : List XN) (d5 : Int) : Option (List Int × List XN × List Int) :=
 bif decide (d5 < (((d2.length : Nat) : Int))) then
  bif inb d5 d2.length then
   (nth d2 d5.toNat).bind fun x1 =>
   (c6S rf d1 d4 x1).bind fun y2 =>
   bif (Nat.ble (d3.length + 1) v8) && true then
   d1w rb y2 d2 (d3 ++ [IntKind.i64.wrap ((((y2.length : Nat) : Int)) - 1)]) d4 (IntKind.i64.wrap (d5 + 1))
   else
   none
  else
   none
 else
  some (d2, d1, d3)
theorem c7x : EqB 183 fun a b => U5 (c6M a b) := fun _ _ _ => by kernel_rfl
def d2V (rf : T.RF) (rb : T.RB) (d1 : List XN) (d2 : List XN) (d3 : Int) : Option (List XN) :=
 bif inb d3 d2.length then
  (nth d2 d3.toNat).bind fun x1 =>
  (c49 rf x1).bind fun y2 =>
  (d1w rb d1 y2 [] d2 0).bind fun z3 =>
  bif inb d3 d2.length then
   (nth d2 d3.toNat).bind fun x4 =>
   (c52 rf x4 z3.2.2).bind fun y5 =>
   bif (Nat.ble (z3.2.1.length + 1) v8) && true then
   some (z3.2.1 ++ [y5])
   else
   none
  else
   none
 else
  none
theorem c8y : EqF 149 fun a b => U3 (d2V a b) := fun _ _ _ => by kernel_rfl
def d2R (rf : T.RF) (rb : T.RB) (d1 : List XN) (d2 : Int) : Option (List XN) :=
 (d3v rf d1).bind fun y1 =>
 bif !y1 then
  some []
 else
 bif decide (d2 < 0) then
  some []
 else
 bif decide (d2 ≥ (((d1.length : Nat) : Int))) then
  some []
 else
  (c6S rf [] d1 d2).bind fun y2 =>
  some y2
theorem c8u : EqF 144 fun a b => U2 (d2R a b) := fun _ _ _ => by kernel_rfl
def d2Q (rf : T.RF) (rb : T.RB) (d1 : List XN) : Option (List XN) :=
 (d3u rf d1 (IntKind.i64.wrap ((((d1.length : Nat) : Int)) - 1))).bind fun y1 =>
 some y1
theorem c8t : EqF 143 fun a b => d2Q a b := fun _ _ _ => by kernel_rfl
def b7J (rf : T.RF) (rb : T.RB) (d1 : XUn) (d2 : Bool) (d3 : List UInt8) (d4 : List UInt8) (d5 : Int) (d6 : List XPm) (d7 : List XPm) (d8 : List XEq) (d9 : List XIt) (d10 : Int) : Option (XUn × Bool × List UInt8 × List UInt8 × Int × List XPm × List XPm × List XIt × List XEq) :=
 bif decide (d10 < (((d1.2.2.2.2.2.2.1.length : Nat) : Int))) then
  bif inb d10 d1.2.2.2.2.2.2.1.length then
   (nth d1.2.2.2.2.2.2.1 d10.toNat).bind fun x1 =>
   bif inb d10 d1.2.2.2.2.2.2.1.length then
   (nth d1.2.2.2.2.2.2.1 d10.toNat).bind fun x2 =>
   l8 (
   (b1X rf x2.2).bind fun y3 =>
   bif (Nat.ble (d8.length + 1) v8) && true then
   c0U rb d1 d2 d3 d4 d5 d6 d7 (d8 ++ [(x1.1, y3)]) d9 (IntKind.i64.wrap (d10 + 1))
   else
   none
   ) (
   (b1X rf x2.2).bind fun y3 =>
   agN 1 (
   bif (Nat.ble (d8.length + 1) v8) && true then
   c0U rb d1 d2 d3 d4 d5 d6 d7 (d8 ++ [(x1.1, y3)]) d9 (IntKind.i64.wrap (d10 + 1))
   else
   none
   )
   )
   else
   none
  else
   none
 else
  some (d1, d2, d3, d4, d5, d6, d7, d9, d8)
def c4A (rf : T.RF) (rb : T.RB) (d1 : XUn) (d2 : Bool) (d3 : List UInt8) (d4 : List UInt8) (d5 : Int) (d6 : List XPm) (d7 : List XPm) (d8 : List XEq) (d9 : List XIt) (d10 : Int) : Option (XUn × Bool × List UInt8 × List UInt8 × Int × List XPm × List XPm × List XIt × List XEq) :=
 bif decide (d10 < (((d1.2.2.2.2.2.2.1.length : Nat) : Int))) then
  bif inb d10 d1.2.2.2.2.2.2.1.length then
   (nth d1.2.2.2.2.2.2.1 d10.toNat).bind fun x1 =>
   bif inb d10 d1.2.2.2.2.2.2.1.length then
   (nth d1.2.2.2.2.2.2.1 d10.toNat).bind fun x2 =>
   (b1X rf x2.2).bind fun y3 =>
   bif (Nat.ble (d8.length + 1) v8) && true then
   c0U rb d1 d2 d3 d4 d5 d6 d7 (d8 ++ [(x1.1, y3)]) d9 (IntKind.i64.wrap (d10 + 1))
   else
   none
   else
   none
  else
   none
 else
  some (d1, d2, d3, d4, d5, d6, d7, d9, d8)
theorem c7y : EqB 198 fun a b => U10 (b7J a b) := fun _ _ _ => by kernel_rfl
theorem d2Z (rf rb d1 d2 d3 d4 d5 d6 d7 d8 d9 d10) : b7J rf rb d1 d2 d3 d4 d5 d6 d7 d8 d9 d10 = c4A rf rb d1 d2 d3 d4 d5 d6 d7 d8 d9 d10 := by
 unfold b7J c4A; simp only [G3, m9, B5]
def c6N (rf : T.RF) (rb : T.RB) (d1 : XUn) (d2 : Bool) (d3 : List UInt8) (d4 : List UInt8) (d5 : Int) (d6 : List XPm) (d7 : List XPm) (d8 : List XEq) (d9 : List XIt) (d10 : Int) : Option (XUn × Bool × List UInt8 × List UInt8 × Int × List XPm × List XPm × List XEq × List XIt) :=
 bif decide (d10 < (((d1.2.2.2.2.2.2.2.length : Nat) : Int))) then
  bif inb d10 d1.2.2.2.2.2.2.2.length then
   (nth d1.2.2.2.2.2.2.2 d10.toNat).bind fun x1 =>
   (b1X rf x1.2.2.2.1).bind fun y2 =>
   (b1X rf x1.2.2.2.2.1).bind fun y3 =>
   (c0V rb d1 x1.1 x1.2.1 x1.2.2.1 y2 y3 [] d10 0).bind fun z4 =>
   bif (Nat.ble (d9.length + 1) v8) && true then
   d1x rb z4.1 d2 d3 d4 d5 d6 d7 d8 (d9 ++ [z4.2]) (IntKind.i64.wrap (d10 + 1))
   else
   none
  else
   none
 else
  some (d1, d2, d3, d4, d5, d6, d7, d8, d9)
theorem c7z : EqB 199 fun a b => U10 (c6N a b) := fun _ _ _ => by kernel_rfl
def b7K (rf : T.RF) (rb : T.RB) (d1 : XUn) (d2 : Int) (d3 : List UInt8) (d4 : Int) (d5 : List XN) (d6 : List XN) (d7 : List (List XN)) (d8 : Int) (d9 : Int) : Option (XUn × XIt) :=
 bif inb d8 d1.2.2.2.2.2.2.2.length then
  (nth d1.2.2.2.2.2.2.2 d8.toNat).bind fun x1 =>
  bif decide (d9 < (((x1.2.2.2.2.2.length : Nat) : Int))) then
   bif inb d8 d1.2.2.2.2.2.2.2.length then
   (nth d1.2.2.2.2.2.2.2 d8.toNat).bind fun x2 =>
   bif inb d9 x2.2.2.2.2.2.length then
   (nth x2.2.2.2.2.2 d9.toNat).bind fun x3 =>
   l8 (
   (b1X rf x3).bind fun y4 =>
   bif (Nat.ble (d7.length + 1) v8) && true then
   c0V rb d1 d2 d3 d4 d5 d6 (d7 ++ [y4]) d8 (IntKind.i64.wrap (d9 + 1))
   else
   none
   ) (
   (b1X rf x3).bind fun y4 =>
   agN 1 (
   bif (Nat.ble (d7.length + 1) v8) && true then
   c0V rb d1 d2 d3 d4 d5 d6 (d7 ++ [y4]) d8 (IntKind.i64.wrap (d9 + 1))
   else
   none
   )
   )
   else
   none
   else
   none
  else
   some (d1, d2, d3, d4, d5, d6, d7)
 else
  none
def c4B (rf : T.RF) (rb : T.RB) (d1 : XUn) (d2 : Int) (d3 : List UInt8) (d4 : Int) (d5 : List XN) (d6 : List XN) (d7 : List (List XN)) (d8 : Int) (d9 : Int) : Option (XUn × XIt) :=
 bif inb d8 d1.2.2.2.2.2.2.2.length then
  (nth d1.2.2.2.2.2.2.2 d8.toNat).bind fun x1 =>
  bif decide (d9 < (((x1.2.2.2.2.2.length : Nat) : Int))) then
   bif inb d8 d1.2.2.2.2.2.2.2.length then
   (nth d1.2.2.2.2.2.2.2 d8.toNat).bind fun x2 =>
   bif inb d9 x2.2.2.2.2.2.length then
   (nth x2.2.2.2.2.2 d9.toNat).bind fun x3 =>
   (b1X rf x3).bind fun y4 =>
   bif (Nat.ble (d7.length + 1) v8) && true then
   c0V rb d1 d2 d3 d4 d5 d6 (d7 ++ [y4]) d8 (IntKind.i64.wrap (d9 + 1))
   else
   none
   else
   none
   else
   none
  else
   some (d1, d2, d3, d4, d5, d6, d7)
 else
  none
theorem c7A : EqB 200 fun a b => U9 (b7K a b) := fun _ _ _ => by kernel_rfl
theorem d3a (rf rb d1 d2 d3 d4 d5 d6 d7 d8 d9) : b7K rf rb d1 d2 d3 d4 d5 d6 d7 d8 d9 = c4B rf rb d1 d2 d3 d4 d5 d6 d7 d8 d9 := by
 unfold b7K c4B; simp only [G3, m9, B5]
def d2P (rf : T.RF) (rb : T.RB) (d1 : XUn) : Option XUn :=
 bif Nat.ble d1.2.2.1.length v8 then
  bif Nat.ble d1.2.2.2.2.2.1.length v8 then
   (c0U rb d1 d1.1 d1.2.1 d1.2.2.2.1 d1.2.2.2.2.1 d1.2.2.1 d1.2.2.2.2.2.1 [] [] 0).bind fun z1 =>
   (d1x rb z1.1 z1.2.1 z1.2.2.1 z1.2.2.2.1 z1.2.2.2.2.1 z1.2.2.2.2.2.1 z1.2.2.2.2.2.2.1 z1.2.2.2.2.2.2.2.2 z1.2.2.2.2.2.2.2.1 0).bind fun z2 =>
   some (z2.2.1, z2.2.2.1, z2.2.2.2.2.2.1, z2.2.2.2.1, z2.2.2.2.2.1, z2.2.2.2.2.2.2)
  else
   none
 else
  none
theorem c8s : EqF 142 fun a b => d2P a b := fun _ _ _ => by kernel_rfl
def b7L (rf : T.RF) (rb : T.RB) (d1 : XPg) (d2 : List UInt8) (d3 : List UInt8) (d4 : List XUn) (d5 : Int) : Option (XPg × List UInt8 × List UInt8 × List XUn) :=
 bif decide (d5 < (((d1.1.length : Nat) : Int))) then
  bif inb d5 d1.1.length then
   (nth d1.1 d5.toNat).bind fun x1 =>
   l8 (
   (c5e rf x1).bind fun y2 =>
   bif (Nat.ble (d4.length + 1) v8) && true then
   c0W rb d1 d2 d3 (d4 ++ [y2]) (IntKind.i64.wrap (d5 + 1))
   else
   none
   ) (
   (c5e rf x1).bind fun y2 =>
   agN 1 (
   bif (Nat.ble (d4.length + 1) v8) && true then
   c0W rb d1 d2 d3 (d4 ++ [y2]) (IntKind.i64.wrap (d5 + 1))
   else
   none
   )
   )
  else
   none
 else
  some (d1, d2, d3, d4)
def c4C (rf : T.RF) (rb : T.RB) (d1 : XPg) (d2 : List UInt8) (d3 : List UInt8) (d4 : List XUn) (d5 : Int) : Option (XPg × List UInt8 × List UInt8 × List XUn) :=
 bif decide (d5 < (((d1.1.length : Nat) : Int))) then
  bif inb d5 d1.1.length then
   (nth d1.1 d5.toNat).bind fun x1 =>
   (c5e rf x1).bind fun y2 =>
   bif (Nat.ble (d4.length + 1) v8) && true then
   c0W rb d1 d2 d3 (d4 ++ [y2]) (IntKind.i64.wrap (d5 + 1))
   else
   none
  else
   none
 else
  some (d1, d2, d3, d4)
theorem c7B : EqB 203 fun a b => U5 (b7L a b) := fun _ _ _ => by kernel_rfl
theorem d3b (rf rb d1 d2 d3 d4 d5) : b7L rf rb d1 d2 d3 d4 d5 = c4C rf rb d1 d2 d3 d4 d5 := by
 unfold b7L c4C; simp only [G3, m9, B5]
def d2O (rf : T.RF) (rb : T.RB) (d1 : XPg) : Option XPg :=
 (c0W rb d1 d1.2.1 d1.2.2 [] 0).bind fun z1 =>
 some (z1.2.2.2, z1.2.1, z1.2.2.1)
theorem c8r : EqF 141 fun a b => d2O a b := fun _ _ _ => by kernel_rfl
def c4E (rf : T.RF) (rb : T.RB) (d1 : List XPm) (d2 : List XPm) (d3 : Int) : Option (Bool ⊕ Unit) :=
 bif decide (d3 < (((d1.length : Nat) : Int))) then
  bif inb d3 d1.length then
   (nth d1 d3.toNat).bind fun x1 =>
   bif inb d3 d2.length then
   (nth d2 d3.toNat).bind fun x2 =>
   bif !((x1.1 == x2.1) && (x1.2 == x2.2)) then
   some (.inl false)
   else
   c5s rb d1 d2 (IntKind.i64.wrap (d3 + 1))
   else
   none
  else
   none
 else
  some (.inr ())
theorem c2F : EqB 205 fun a b => U3 (c4E a b) := fun _ _ _ => by kernel_rfl
theorem d6D {d1 d2 d3 y} (h : c4E T.rf T.rb d1 d2 d3 = some y) : c5s T.rb d1 d2 d3 = some y := c2F.o h
def c6j (rf : T.RF) (rb : T.RB) (d1 : List XPm) (d2 : List XPm) : Option Bool :=
 bif (((d1.length : Nat) : Int)) != (((d2.length : Nat) : Int)) then
  some false
 else
  (c5s rb d1 d2 0).bind fun z1 =>
  match z1 with
  | .inl u2 =>
    some u2
  | .inr w3 =>
    some true
theorem c3C : EqF 152 fun a b => U2 (c6j a b) := fun _ _ _ => by kernel_rfl
theorem d6T {d1 d2 y} (h : c6j T.rf T.rb d1 d2 = some y) : c5g T.rf d1 d2 = some y := c3C.o h
def c4G (rf : T.RF) (rb : T.RB) (d1 : List XN) (d2 : List XN) (d3 : Int) : Option (Bool ⊕ Unit) :=
 bif decide (d3 < (((d1.length : Nat) : Int))) then
  bif inb d3 d1.length then
   (nth d1 d3.toNat).bind fun x1 =>
   bif inb d3 d2.length then
   (nth d2 d3.toNat).bind fun x2 =>
   bif !((x1.1 == x2.1) && ((x1.2.1 == x2.2.1) && ((x1.2.2.1 == x2.2.2.1) && ((x1.2.2.2.1 == x2.2.2.2.1) && ((x1.2.2.2.2.1 == x2.2.2.2.2.1) && (x1.2.2.2.2.2 == x2.2.2.2.2.2)))))) then
   some (.inl false)
   else
   c5u rb d1 d2 (IntKind.i64.wrap (d3 + 1))
   else
   none
  else
   none
 else
  some (.inr ())
theorem c2H : EqB 207 fun a b => U3 (c4G a b) := fun _ _ _ => by kernel_rfl
theorem d6F {d1 d2 d3 y} (h : c4G T.rf T.rb d1 d2 d3 = some y) : c5u T.rb d1 d2 d3 = some y := c2H.o h
def c6k (rf : T.RF) (rb : T.RB) (d1 : List XN) (d2 : List XN) : Option Bool :=
 bif (((d1.length : Nat) : Int)) != (((d2.length : Nat) : Int)) then
  some false
 else
  (c5u rb d1 d2 0).bind fun z1 =>
  match z1 with
  | .inl u2 =>
    some u2
  | .inr w3 =>
    some true
theorem c3D : EqF 153 fun a b => U2 (c6k a b) := fun _ _ _ => by kernel_rfl
theorem d6U {d1 d2 y} (h : c6k T.rf T.rb d1 d2 = some y) : b7P T.rf d1 d2 = some y := c3D.o h
def c4I (rf : T.RF) (rb : T.RB) (d1 : List (List XN)) (d2 : List (List XN)) (d3 : Int) : Option (Bool ⊕ Unit) :=
 bif decide (d3 < (((d1.length : Nat) : Int))) then
  bif inb d3 d1.length then
   (nth d1 d3.toNat).bind fun x1 =>
   bif inb d3 d2.length then
   (nth d2 d3.toNat).bind fun x2 =>
   (b7P rf x1 x2).bind fun y3 =>
   bif !y3 then
   some (.inl false)
   else
   c5w rb d1 d2 (IntKind.i64.wrap (d3 + 1))
   else
   none
  else
   none
 else
  some (.inr ())
theorem c2J : EqB 209 fun a b => U3 (c4I a b) := fun _ _ _ => by kernel_rfl
theorem d6H {d1 d2 d3 y} (h : c4I T.rf T.rb d1 d2 d3 = some y) : c5w T.rb d1 d2 d3 = some y := c2J.o h
def c6l (rf : T.RF) (rb : T.RB) (d1 : List (List XN)) (d2 : List (List XN)) : Option Bool :=
 bif (((d1.length : Nat) : Int)) != (((d2.length : Nat) : Int)) then
  some false
 else
  (c5w rb d1 d2 0).bind fun z1 =>
  match z1 with
  | .inl u2 =>
    some u2
  | .inr w3 =>
    some true
theorem c3E : EqF 154 fun a b => U2 (c6l a b) := fun _ _ _ => by kernel_rfl
theorem d6V {d1 d2 y} (h : c6l T.rf T.rb d1 d2 = some y) : c6U T.rf d1 d2 = some y := c3E.o h
def c4F (rf : T.RF) (rb : T.RB) (d1 : XUn) (d2 : XUn) (d3 : Int) : Option ((XUn × XUn × Bool) ⊕ (XUn × XUn)) :=
 bif decide (d3 < (((d1.2.2.2.2.2.2.1.length : Nat) : Int))) then
  bif inb d3 d1.2.2.2.2.2.2.1.length then
   (nth d1.2.2.2.2.2.2.1 d3.toNat).bind fun x1 =>
   bif inb d3 d2.2.2.2.2.2.2.1.length then
   (nth d2.2.2.2.2.2.2.1 d3.toNat).bind fun x2 =>
   bif !(x1.1 == x2.1) then
   some (.inl (d1, d2, false))
   else
   bif inb d3 d1.2.2.2.2.2.2.1.length then
   (nth d1.2.2.2.2.2.2.1 d3.toNat).bind fun x3 =>
   bif inb d3 d2.2.2.2.2.2.2.1.length then
   (nth d2.2.2.2.2.2.2.1 d3.toNat).bind fun x4 =>
   (b7P rf x3.2 x4.2).bind fun y5 =>
   bif !y5 then
   some (.inl (d1, d2, false))
   else
   c5t rb d1 d2 (IntKind.i64.wrap (d3 + 1))
   else
   none
   else
   none
   else
   none
  else
   none
 else
  some (.inr (d1, d2))
theorem c2G : EqB 206 fun a b => U3 (c4F a b) := fun _ _ _ => by kernel_rfl
theorem d6E {d1 d2 d3 y} (h : c4F T.rf T.rb d1 d2 d3 = some y) : c5t T.rb d1 d2 d3 = some y := c2G.o h
def c4H (rf : T.RF) (rb : T.RB) (d1 : XUn) (d2 : XUn) (d3 : Int) : Option ((XUn × XUn × Bool) ⊕ (XUn × XUn)) :=
 bif decide (d3 < (((d1.2.2.2.2.2.2.2.length : Nat) : Int))) then
  bif inb d3 d1.2.2.2.2.2.2.2.length then
   (nth d1.2.2.2.2.2.2.2 d3.toNat).bind fun x1 =>
   bif inb d3 d2.2.2.2.2.2.2.2.length then
   (nth d2.2.2.2.2.2.2.2 d3.toNat).bind fun x2 =>
   bif x1.1 != x2.1 then
   some (.inl (d1, d2, false))
   else
   bif !(x1.2.1 == x2.2.1) then
   some (.inl (d1, d2, false))
   else
   bif x1.2.2.1 != x2.2.2.1 then
   some (.inl (d1, d2, false))
   else
   (b7P rf x1.2.2.2.1 x2.2.2.2.1).bind fun y3 =>
   bif !y3 then
   some (.inl (d1, d2, false))
   else
   (b7P rf x1.2.2.2.2.1 x2.2.2.2.2.1).bind fun y4 =>
   bif !y4 then
   some (.inl (d1, d2, false))
   else
   (c6U rf x1.2.2.2.2.2 x2.2.2.2.2.2).bind fun y5 =>
   bif !y5 then
   some (.inl (d1, d2, false))
   else
   c5v rb d1 d2 (IntKind.i64.wrap (d3 + 1))
   else
   none
  else
   none
 else
  some (.inr (d1, d2))
theorem c2I : EqB 208 fun a b => U3 (c4H a b) := fun _ _ _ => by kernel_rfl
theorem d6G {d1 d2 d3 y} (h : c4H T.rf T.rb d1 d2 d3 = some y) : c5v T.rb d1 d2 d3 = some y := c2I.o h
def c6i (rf : T.RF) (rb : T.RB) (d1 : XUn) (d2 : XUn) : Option Bool :=
 bif !(d1.1 == d2.1) then
  some false
 else
 bif !(d1.2.1 == d2.2.1) then
  some false
 else
  (c5g rf d1.2.2.1 d2.2.2.1).bind fun y1 =>
  bif !y1 then
   some false
  else
  bif !((d1.2.2.2.1 == d2.2.2.2.1) && (d1.2.2.2.2.1 == d2.2.2.2.2.1)) then
   some false
  else
   (c5g rf d1.2.2.2.2.2.1 d2.2.2.2.2.2.1).bind fun y2 =>
   bif !y2 then
    some false
   else
   bif (((d1.2.2.2.2.2.2.1.length : Nat) : Int)) != (((d2.2.2.2.2.2.2.1.length : Nat) : Int)) then
    some false
   else
   bif (((d1.2.2.2.2.2.2.2.length : Nat) : Int)) != (((d2.2.2.2.2.2.2.2.length : Nat) : Int)) then
    some false
   else
    (c5t rb d1 d2 0).bind fun z3 =>
    match z3 with
    | .inl u4 =>
      some u4.2.2
    | .inr w5 =>
      (c5v rb w5.1 w5.2 0).bind fun z6 =>
      match z6 with
      | .inl u7 =>
        some u7.2.2
      | .inr w8 =>
        some true
theorem c3B : EqF 151 fun a b => U2 (c6i a b) := fun _ _ _ => by kernel_rfl
theorem d6S {d1 d2 y} (h : c6i T.rf T.rb d1 d2 = some y) : c6T T.rf d1 d2 = some y := c3B.o h
def c4D (rf : T.RF) (rb : T.RB) (d1 : XPg) (d2 : XPg) (d3 : Int) : Option ((XPg × XPg × Bool) ⊕ (XPg × XPg)) :=
 bif decide (d3 < (((d1.1.length : Nat) : Int))) then
  bif inb d3 d1.1.length then
   (nth d1.1 d3.toNat).bind fun x1 =>
   bif inb d3 d2.1.length then
   (nth d2.1 d3.toNat).bind fun x2 =>
   (c6T rf x1 x2).bind fun y3 =>
   bif !y3 then
   some (.inl (d1, d2, false))
   else
   c5r rb d1 d2 (IntKind.i64.wrap (d3 + 1))
   else
   none
  else
   none
 else
  some (.inr (d1, d2))
theorem c2E : EqB 204 fun a b => U3 (c4D a b) := fun _ _ _ => by kernel_rfl
theorem d6C {d1 d2 d3 y} (h : c4D T.rf T.rb d1 d2 d3 = some y) : c5r T.rb d1 d2 d3 = some y := c2E.o h
def c6h (rf : T.RF) (rb : T.RB) (d1 : XPg) (d2 : XPg) : Option Bool :=
 bif !(d1.2.1 == d2.2.1) then
  some false
 else
 bif !(d1.2.2 == d2.2.2) then
  some false
 else
 bif (((d1.1.length : Nat) : Int)) != (((d2.1.length : Nat) : Int)) then
  some false
 else
  (c5r rb d1 d2 0).bind fun z1 =>
  match z1 with
  | .inl u2 =>
    some u2.2.2
  | .inr w3 =>
    some true
theorem c3A : EqF 150 fun a b => U2 (c6h a b) := fun _ _ _ => by kernel_rfl
theorem d6R {d1 d2 y} (h : c6h T.rf T.rb d1 d2 = some y) : b6g T.rf d1 d2 = some y := c3A.o h
def r2 (rf : T.RF) (rb : T.RB) : Option Bool :=
 (c3 rf ([99, 111, 110, 116, 114, 97, 99, 116, 32, 107, 40, 97, 58, 105, 110, 116, 41, 32, 97, 115, 115, 117, 109, 101, 32, 97, 62, 49, 59, 32, 101, 110, 100, 32, 110, 111, 100, 101, 32, 102, 40, 97, 58, 105, 110, 116, 41, 32, 114, 101, 116, 117, 114, 110, 115, 40, 99, 58, 105, 110, 116, 41, 32, 99, 111, 110, 116, 114, 97, 99, 116, 32, 105, 109, 112, 111, 114, 116, 32, 107, 40, 97, 41, 59, 32, 101, 110, 100, 32, 108, 101, 116, 32, 99, 61, 97, 59, 32, 116, 101, 108, 32, 109, 97, 105, 110, 32, 102, 59] : List UInt8)).bind fun y1 =>
 (c66 rf y1.1).bind fun y2 =>
 (b1W rf y1.1).bind fun y3 =>
 bif y2 == ([99, 111, 110, 116, 114, 97, 99, 116, 32, 107, 32, 40, 32, 97, 32, 58, 32, 105, 110, 116, 32, 41, 32, 97, 115, 115, 117, 109, 101, 32, 49, 32, 60, 32, 97, 32, 59, 32, 101, 110, 100, 32, 110, 111, 100, 101, 32, 102, 32, 40, 32, 97, 32, 58, 32, 105, 110, 116, 32, 41, 32, 114, 101, 116, 117, 114, 110, 115, 32, 40, 32, 99, 32, 58, 32, 105, 110, 116, 32, 41, 32, 99, 111, 110, 116, 114, 97, 99, 116, 32, 105, 109, 112, 111, 114, 116, 32, 107, 32, 40, 32, 97, 32, 41, 32, 59, 32, 101, 110, 100, 32, 108, 101, 116, 32, 99, 32, 61, 32, 97, 32, 59, 32, 116, 101, 108, 32, 109, 97, 105, 110, 32, 102, 32, 59] : List UInt8) then
  (c67 rf y1.1).bind fun y4 =>
  bif y4 then
   (c67 rf ([], ([] : List UInt8), ([] : List UInt8))).bind fun y5 =>
   bif !y5 then
   (d3t rf y1.1).bind fun y6 =>
   (b6g rf y3 y6).bind fun y7 =>
   bif y7 then
   (c66 rf ([], ([102] : List UInt8), ([103] : List UInt8))).bind fun y8 =>
   some (y8 == ([109, 97, 105, 110, 32, 102, 32, 59, 32, 102, 97, 108, 108, 98, 97, 99, 107, 32, 103, 32, 59] : List UInt8))
   else
   some false
   else
   some false
  else
   some false
 else
  some false
theorem er2 : EqF 2 fun a b => U0 (r2 a b) := fun _ _ _ => by kernel_rfl
def r0 (rf : T.RF) (rb : T.RB) (d1 : XPg) : Option Bool :=
 (c1 rf d1).bind fun y1 =>
 bif !y1 then
  (c2 rf).bind fun y2 =>
  some y2
 else
  (c66 rf d1).bind fun y3 =>
  (c67 rf d1).bind fun y4 =>
  bif !y4 then
   bif y3 == ([] : List UInt8) then
   (c2 rf).bind fun y5 =>
   some y5
   else
   some false
  else
   (c3 rf y3).bind fun y6 =>
   bif y6.2.1 == 7 then
   bif decide ((((y3.length : Nat) : Int)) > 100000) then
   (c2 rf).bind fun y7 =>
   some y7
   else
   bif y6.2.1 == 0 then
   (b1W rf d1).bind fun y8 =>
   (b6g rf y6.1 y8).bind fun y9 =>
   bif y9 then
   (c2 rf).bind fun y10 =>
   some y10
   else
   some false
   else
   some false
   else
   bif y6.2.1 == 0 then
   (b1W rf d1).bind fun y11 =>
   (b6g rf y6.1 y11).bind fun y12 =>
   bif y12 then
   (c2 rf).bind fun y13 =>
   some y13
   else
   some false
   else
   some false
theorem er0 : EqF 0 fun a b => r0 a b := fun _ _ _ => by kernel_rfl
theorem or0 {d1 y} (h : r0 T.rf T.rb d1 = some y) : c0 T.rf d1 = some y := er0.o h
def c1T (rf : T.RF) (rb : T.RB) (d1 : List UInt8) : Option Bool :=
 bif decide ((((d1.length : Nat) : Int)) > 1500) then
  (c2 rf).bind fun y1 =>
  some y1
 else
  (c3 rf d1).bind fun y2 =>
  bif y2.2.1 != 0 then
   (c2 rf).bind fun y3 =>
   some y3
  else
   (c66 rf y2.1).bind fun y4 =>
   (c3 rf y4).bind fun y5 =>
   (c67 rf y2.1).bind fun y6 =>
   bif y6 then
   bif y5.2.1 == 0 then
   (c66 rf y5.1).bind fun y7 =>
   bif y7 == y4 then
   (c2 rf).bind fun y8 =>
   some y8
   else
   some false
   else
   some false
   else
   some false
theorem c3F : EqF 155 fun a b => c1T a b := fun _ _ _ => by kernel_rfl
theorem d2y {d1 y} (h : c1T T.rf T.rb d1 = some y) : c6V T.rf d1 = some y := c3F.o h
def c6m (rf : T.RF) (rb : T.RB) (d1 : XPg) : Option Bool :=
 (c1 rf d1).bind fun y1 =>
 bif !y1 then
  (c2 rf).bind fun y2 =>
  some y2
 else
  (b1W rf d1).bind fun y3 =>
  (b1W rf y3).bind fun y4 =>
  (b6g rf y4 y3).bind fun y5 =>
  bif !y5 then
   some false
  else
  bif (((y3.1.length : Nat) : Int)) != (((d1.1.length : Nat) : Int)) then
   some false
  else
   (c67 rf d1).bind fun y6 =>
   bif !y6 then
   (c2 rf).bind fun y7 =>
   some y7
   else
   (c66 rf y3).bind fun y8 =>
   (c66 rf d1).bind fun y9 =>
   bif y8 == y9 then
   (c2 rf).bind fun y10 =>
   some y10
   else
   some false
theorem c3G : EqF 156 fun a b => c6m a b := fun _ _ _ => by kernel_rfl
theorem d6W {d1 y} (h : c6m T.rf T.rb d1 = some y) : d3y T.rf d1 = some y := c3G.o h
def c6n (rf : T.RF) (rb : T.RB) (d1 : XPg) (d2 : XPg) : Option Bool :=
 (c1 rf d1).bind fun y1 =>
 bif !y1 then
  (c2 rf).bind fun y2 =>
  some y2
 else
  (c1 rf d2).bind fun y3 =>
  bif !y3 then
   (c2 rf).bind fun y4 =>
   some y4
  else
   (c67 rf d1).bind fun y5 =>
   bif !y5 then
   (c2 rf).bind fun y6 =>
   some y6
   else
   (c67 rf d2).bind fun y7 =>
   bif !y7 then
   (c2 rf).bind fun y8 =>
   some y8
   else
   (c66 rf d1).bind fun y9 =>
   (c66 rf d2).bind fun y10 =>
   (b1W rf d1).bind fun y11 =>
   (b1W rf d2).bind fun y12 =>
   (b6g rf y11 y12).bind fun y13 =>
   bif (y9 == y10) == y13 then
   (c2 rf).bind fun y14 =>
   some y14
   else
   some false
theorem c3H : EqF 157 fun a b => U2 (c6n a b) := fun _ _ _ => by kernel_rfl
theorem d6X {d1 d2 y} (h : c6n T.rf T.rb d1 d2 = some y) : d3z T.rf d1 d2 = some y := c3H.o h
def c6o (rf : T.RF) (rb : T.RB) (d1 : XPg) : Option Bool :=
 (c1 rf d1).bind fun y1 =>
 bif !y1 then
  (c2 rf).bind fun y2 =>
  some y2
 else
  (c67 rf d1).bind fun y3 =>
  bif !y3 then
   (c2 rf).bind fun y4 =>
   some y4
  else
  bif decide ((((d1.1.length : Nat) : Int)) < 1) then
   (c2 rf).bind fun y5 =>
   some y5
  else
  bif G5 1 d1.1.length then
   (c66 rf d1).bind fun y6 =>
   (c66 rf (sub d1.1 (some (1, (d1.1.length - 1))), d1.2)).bind fun y7 =>
   (c67 rf (sub d1.1 (some (1, (d1.1.length - 1))), d1.2)).bind fun y8 =>
   bif y8 then
   bif decide ((((y7.length : Nat) : Int)) < (((y6.length : Nat) : Int))) then
   bif G5 (IntKind.i64.wrap ((((y6.length : Nat) : Int)) - (((y7.length : Nat) : Int)))) y6.length then
   bif (sub y6 (some ((IntKind.i64.wrap ((((y6.length : Nat) : Int)) - (((y7.length : Nat) : Int)))).toNat, (y6.length - (IntKind.i64.wrap ((((y6.length : Nat) : Int)) - (((y7.length : Nat) : Int)))).toNat)))) == y7 then
   (c2 rf).bind fun y9 =>
   some y9
   else
   some false
   else
   none
   else
   some false
   else
   some false
  else
   none
theorem c3I : EqF 158 fun a b => c6o a b := fun _ _ _ => by kernel_rfl
theorem d6Y {d1 y} (h : c6o T.rf T.rb d1 = some y) : d3A T.rf d1 = some y := c3I.o h
theorem b6O : b7b.placeL.length = 210 := rfl
end
end Go.Proofs.YtlobhcgbmpcdlaaGreatDoor.R
