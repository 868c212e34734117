import Derived.Test.YtlobhcgbmpcdlaaGreatDoorResPA
open Option (bind_some)
namespace Go.Proofs.YtlobhcgbmpcdlaaGreatDoor.R
noncomputable section
open Go Go.Bm Go.Proofs
set_option linter.unusedVariables false
set_option linter.unusedSimpArgs false
set_option maxRecDepth 100000
def b33 (rf : T.RF) (rb : T.RB) (d1 : List XK × Int × Int × Int × Int) (d2 : List XN) : Option ((List XK × Int × Int × Int × Int) × List XN) :=
 (c55 rf d1 ([111, 114] : List UInt8)).bind fun y1 =>
 bif y1.2 then
  (c55 rf y1.1 ([120, 111, 114] : List UInt8)).bind fun y2 =>
  bif y2.2 then
   (c40 rf (y2.1.1, IntKind.i64.wrap (y2.1.2.1 + 1), y2.1.2.2)).bind fun y3 =>
   (c61 rf y3.1 8 d2 y3.2).bind fun y4 =>
   k33 rb y4.1 y4.2
  else
   (c40 rf (y2.1.1, IntKind.i64.wrap (y2.1.2.1 + 1), y2.1.2.2)).bind fun y5 =>
   (c61 rf y5.1 7 d2 y5.2).bind fun y6 =>
   k33 rb y6.1 y6.2
 else
  (c55 rf y1.1 ([120, 111, 114] : List UInt8)).bind fun y7 =>
  bif y7.2 then
   (c55 rf y7.1 ([120, 111, 114] : List UInt8)).bind fun y8 =>
   bif y8.2 then
   (c40 rf (y8.1.1, IntKind.i64.wrap (y8.1.2.1 + 1), y8.1.2.2)).bind fun y9 =>
   (c61 rf y9.1 8 d2 y9.2).bind fun y10 =>
   k33 rb y10.1 y10.2
   else
   (c40 rf (y8.1.1, IntKind.i64.wrap (y8.1.2.1 + 1), y8.1.2.2)).bind fun y11 =>
   (c61 rf y11.1 7 d2 y11.2).bind fun y12 =>
   k33 rb y12.1 y12.2
  else
   some (y7.1, d2)
theorem c7a : EqB 33 fun a b => U2 (b33 a b) := fun _ _ _ => by kernel_rfl
theorem d5j {d1 d2 y} (h : b33 T.rf T.rb d1 d2 = some y) : k33 T.rb d1 d2 = some y := c7a.o h
def r39 (rf : T.RF) (rb : T.RB) (d1 : List XK × Int × Int × Int × Int) : Option ((List XK × Int × Int × Int × Int) × List XN) :=
 (c40 rf d1).bind fun y1 =>
 (k33 rb y1.1 y1.2).bind fun z2 =>
 some z2
theorem c7H : EqF 39 fun a b => r39 a b := fun _ _ _ => by kernel_rfl
theorem d5t {d1 y} (h : r39 T.rf T.rb d1 = some y) : c39 T.rf d1 = some y := c7H.o h
def b35 (rf : T.RF) (rb : T.RB) (d1 : List XK × Int × Int × Int × Int) (d2 : List XN) : Option ((List XK × Int × Int × Int × Int) × List XN) :=
 (c54 rf d1 ([115, 105, 110, 99, 101] : List UInt8)).bind fun y1 =>
 bif y1.2 then
  (c39 rf y1.1).bind fun y2 =>
  (c61 rf y2.1 20 d2 y2.2).bind fun y3 =>
  k35 rb y3.1 y3.2
 else
  some (y1.1, d2)
theorem c7b : EqB 35 fun a b => U2 (b35 a b) := fun _ _ _ => by kernel_rfl
theorem d5k {d1 d2 y} (h : b35 T.rf T.rb d1 d2 = some y) : k35 T.rb d1 d2 = some y := c7b.o h
def r38 (rf : T.RF) (rb : T.RB) (d1 : List XK × Int × Int × Int × Int) : Option ((List XK × Int × Int × Int × Int) × List XN) :=
 (c39 rf d1).bind fun y1 =>
 (k35 rb y1.1 y1.2).bind fun z2 =>
 some z2
theorem c7G : EqF 38 fun a b => r38 a b := fun _ _ _ => by kernel_rfl
theorem d5s {d1 y} (h : r38 T.rf T.rb d1 = some y) : c38 T.rf d1 = some y := c7G.o h
def r37 (rf : T.RF) (rb : T.RB) (d1 : List XK × Int × Int × Int × Int) : Option ((List XK × Int × Int × Int × Int) × List XN) :=
 (c38 rf d1).bind fun y1 =>
 (c54 rf y1.1 ([61, 62] : List UInt8)).bind fun y2 =>
 bif y2.2 then
  (c37 rf y2.1).bind fun y3 =>
  (c61 rf y3.1 9 y1.2 y3.2).bind fun y4 =>
  some y4
 else
  some (y2.1, y1.2)
theorem c7F : EqF 37 fun a b => r37 a b := fun _ _ _ => by kernel_rfl
theorem d5r {d1 y} (h : r37 T.rf T.rb d1 = some y) : c37 T.rf d1 = some y := c7F.o h
def r36 (rf : T.RF) (rb : T.RB) (d1 : List XK × Int × Int × Int × Int) : Option ((List XK × Int × Int × Int × Int) × List XN) :=
 (c37 rf d1).bind fun y1 =>
 (c54 rf y1.1 ([45, 62] : List UInt8)).bind fun y2 =>
 bif y2.2 then
  (c36 rf y2.1).bind fun y3 =>
  (c61 rf y3.1 19 y1.2 y3.2).bind fun y4 =>
  some y4
 else
  some (y2.1, y1.2)
theorem c7E : EqF 36 fun a b => r36 a b := fun _ _ _ => by kernel_rfl
theorem d5q {d1 y} (h : r36 T.rf T.rb d1 = some y) : c36 T.rf d1 = some y := c7E.o h
def b43 (rf : T.RF) (rb : T.RB) (d1 : List Int) (d2 : List XN) (d3 : Int) : Option (List Int) :=
 bif decide (d3 < (((d2.length : Nat) : Int))) then
  bif inb d3 d1.length then
   bif Nat.blt d3.toNat d1.length then
   bif inb d3 d2.length then
   (nth d2 d3.toNat).bind fun x1 =>
   (c49 rf x1).bind fun y2 =>
   (k44 rb (m5 d1 d3.toNat 1) y2 d3 0).bind fun z3 =>
   k43 rb z3.1 d2 (IntKind.i64.wrap (d3 + 1))
   else
   none
   else
   none
  else
   none
 else
  some d1
theorem c7c : EqB 43 fun a b => U3 (b43 a b) := fun _ _ _ => by kernel_rfl
theorem d0H {d1 d2 d3 y} (h : b43 T.rf T.rb d1 d2 d3 = some y) : k43 T.rb d1 d2 d3 = some y := c7c.o h
def c5q (rf : T.RF) (rb : T.RB) (d1 : List Int) (d2 : List Int) (d3 : Int) (d4 : Int) : Option (List Int × List Int) :=
 bif decide (d4 < (((d2.length : Nat) : Int))) then
  bif inb d4 d2.length then
   (nth d2 d4.toNat).bind fun x1 =>
   bif decide (x1 ≥ 0) then
   bif inb d4 d2.length then
   (nth d2 d4.toNat).bind fun x2 =>
   bif decide (x2 < d3) then
   bif inb d3 d1.length then
   bif inb d4 d2.length then
   (nth d2 d4.toNat).bind fun x3 =>
   bif inb x3 d1.length then
   j8 (
   (nth d1 d3.toNat).bind fun x4 =>
   (nth d1 x3.toNat).bind fun x5 =>
   bif inb d3 d1.length then
   bif Nat.blt d3.toNat d1.length then
   k44 rb (m5 d1 d3.toNat (if (IntKind.i64.wrap (x5 + 1)) > x4 then (IntKind.i64.wrap (x5 + 1)) else x4)) d2 d3 (IntKind.i64.wrap (d4 + 1))
   else
   none
   else
   none
   ) (
   (nth d1 x3.toNat).bind fun x4 =>
   (nth d1 d3.toNat).bind fun x5 =>
   bif inb d3 d1.length then
   bif Nat.blt d3.toNat d1.length then
   k44 rb (m5 d1 d3.toNat (if (IntKind.i64.wrap (x4 + 1)) > x5 then (IntKind.i64.wrap (x4 + 1)) else x5)) d2 d3 (IntKind.i64.wrap (d4 + 1))
   else
   none
   else
   none
   )
   else
   none
   else
   none
   else
   none
   else
   k44 rb d1 d2 d3 (IntKind.i64.wrap (d4 + 1))
   else
   none
   else
   k44 rb d1 d2 d3 (IntKind.i64.wrap (d4 + 1))
  else
   none
 else
  some (d1, d2)
def b44 (rf : T.RF) (rb : T.RB) (d1 : List Int) (d2 : List Int) (d3 : Int) (d4 : Int) : Option (List Int × List Int) :=
 bif decide (d4 < (((d2.length : Nat) : Int))) then
  bif inb d4 d2.length then
   (nth d2 d4.toNat).bind fun x1 =>
   bif decide (x1 ≥ 0) then
   bif inb d4 d2.length then
   (nth d2 d4.toNat).bind fun x2 =>
   bif decide (x2 < d3) then
   bif inb d3 d1.length then
   bif inb d4 d2.length then
   (nth d2 d4.toNat).bind fun x3 =>
   bif inb x3 d1.length then
   (nth d1 d3.toNat).bind fun x4 =>
   (nth d1 x3.toNat).bind fun x5 =>
   bif inb d3 d1.length then
   bif Nat.blt d3.toNat d1.length then
   k44 rb (m5 d1 d3.toNat (if (IntKind.i64.wrap (x5 + 1)) > x4 then (IntKind.i64.wrap (x5 + 1)) else x4)) d2 d3 (IntKind.i64.wrap (d4 + 1))
   else
   none
   else
   none
   else
   none
   else
   none
   else
   none
   else
   k44 rb d1 d2 d3 (IntKind.i64.wrap (d4 + 1))
   else
   none
   else
   k44 rb d1 d2 d3 (IntKind.i64.wrap (d4 + 1))
  else
   none
 else
  some (d1, d2)
theorem c7d : EqB 44 fun a b => U4 (c5q a b) := fun _ _ _ => by kernel_rfl
theorem d2n (rf rb d1 d2 d3 d4) : c5q rf rb d1 d2 d3 d4 = b44 rf rb d1 d2 d3 d4 := by
 unfold c5q b44; simp only [D4, l0, o8]
theorem d0I {d1 d2 d3 d4 y} (h : b44 T.rf T.rb d1 d2 d3 d4 = some y) : k44 T.rb d1 d2 d3 d4 = some y := c7d.o ((d2n _ _ _ _ _ _).trans h)
def r62 (rf : T.RF) (rb : T.RB) (d1 : List XN) : Option Int :=
 bif F4 (((d1.length : Nat) : Int)) j4 then
  bif F4 (((d1.length : Nat) : Int)) d1.length then
   (k43 rb (List.replicate d1.length (0 : Int)) d1 0).bind fun z1 =>
   bif (((d1.length : Nat) : Int)) == 0 then
   some 0
   else
   bif inb (IntKind.i64.wrap ((((d1.length : Nat) : Int)) - 1)) z1.length then
   (nth z1 (IntKind.i64.wrap ((((d1.length : Nat) : Int)) - 1)).toNat).bind fun x2 =>
   some x2
   else
   none
  else
   none
 else
  none
theorem c7Y : EqF 62 fun a b => r62 a b := fun _ _ _ => by kernel_rfl
theorem d5K {d1 y} (h : r62 T.rf T.rb d1 = some y) : c62 T.rf d1 = some y := c7Y.o h
def b46 (rf : T.RF) (rb : T.RB) (d1 : Int × Int) (d2 : List XK) (d3 : Int) : Option (((Int × Int) × List XN × Int) ⊕ ((Int × Int) × List XN × Int)) :=
 (c36 rf (d2, d3, 0, 0, 0)).bind fun y1 =>
 bif y1.1.2.2.2.1 != 0 then
  some (.inl (y1.1.2.2.2, [], 0))
 else
 bif decide ((((y1.2.length : Nat) : Int)) > 5000) then
  (c19 rf d2 d3).bind fun y2 =>
  some (.inl ((7, y2), [], 0))
 else
  (c62 rf y1.2).bind fun y3 =>
  bif decide (y3 > 40) then
   (c19 rf d2 d3).bind fun y4 =>
   some (.inl ((6, y4), [], 0))
  else
   some (.inr ((0, 0), y1.2, y1.1.2.1))
theorem d2D : EqB 46 fun a b => U3 (b46 a b) := fun _ _ _ => by kernel_rfl
def r35 (rf : T.RF) (rb : T.RB) (d1 : List XK) (d2 : Int) : Option (List XN × Int × Int × Int) :=
 bif decide (d2 < 0) then
  (k46 rb (0, 0) d1 (((d1.length : Nat) : Int))).bind fun z1 =>
  match z1 with
  | .inl u2 =>
    some (u2.2.1, u2.2.2, u2.1)
  | .inr w3 =>
    some (w3.2.1, w3.2.2, w3.1)
 else
 bif decide (d2 > (((d1.length : Nat) : Int))) then
  (k46 rb (0, 0) d1 (((d1.length : Nat) : Int))).bind fun z4 =>
  match z4 with
  | .inl u5 =>
    some (u5.2.1, u5.2.2, u5.1)
  | .inr w6 =>
    some (w6.2.1, w6.2.2, w6.1)
 else
  (k46 rb (0, 0) d1 d2).bind fun z7 =>
  match z7 with
  | .inl u8 =>
    some (u8.2.1, u8.2.2, u8.1)
  | .inr w9 =>
    some (w9.2.1, w9.2.2, w9.1)
theorem d3i : EqF 35 fun a b => U2 (r35 a b) := fun _ _ _ => by kernel_rfl
def b47 (rf : T.RF) (rb : T.RB) (d1 : List XK × Int × Int × Int) (d2 : Int × Int) (d3 : List XN) (d4 : Int) : Option ((List XK × Int × Int × Int) × (Int × Int) × List XN) :=
 bif d2.1 != 0 then
  some ((d1.1, d1.2.1, d2), d2, [])
 else
  some ((d1.1, d4, d1.2.2), d2, d3)
theorem d2E : EqB 47 fun a b => U4 (b47 a b) := fun _ _ _ => by kernel_rfl
def c6s (rf : T.RF) (rb : T.RB) (d1 : List XK × Int × Int × Int) : Option ((List XK × Int × Int × Int) × List XN) :=
 (c23 rf d1).bind fun y1 =>
 bif !y1.2 then
  some (y1.1, [])
 else
  agN 1 (
   (c35 rf y1.1.1 y1.1.2.1).bind fun y2 =>
   (k47 rb y1.1 y2.2.2 y2.1 y2.2.1).bind fun z3 =>
   some (z3.1, z3.2.2)
  )
def r34 (rf : T.RF) (rb : T.RB) (d1 : List XK × Int × Int × Int) : Option ((List XK × Int × Int × Int) × List XN) :=
 (c23 rf d1).bind fun y1 =>
 bif !y1.2 then
  some (y1.1, [])
 else
  (c35 rf y1.1.1 y1.1.2.1).bind fun y2 =>
  (k47 rb y1.1 y2.2.2 y2.1 y2.2.1).bind fun z3 =>
  some (z3.1, z3.2.2)
theorem d3h : EqF 34 fun a b => c6s a b := fun _ _ _ => by kernel_rfl
theorem d6x (rf rb d1) : c6s rf rb d1 = r34 rf rb d1 := by
 unfold c6s r34; simp only [D4, l0, o8]
def b49 (rf : T.RF) (rb : T.RB) (d1 : List XK × Int × Int × Int) (d2 : List (List XN)) : Option (((List XK × Int × Int × Int) × List (List XN)) ⊕ (List XK × Int × Int × Int)) :=
 (c23 rf d1).bind fun y1 =>
 bif y1.2 then
  (c29 rf y1.1 (((d2.length : Nat) : Int))).bind fun y2 =>
  (c34 rf y2).bind fun y3 =>
  bif (Nat.ble (d2.length + 1) j4) && true then
   (c21 rf y3.1 ([41] : List UInt8)).bind fun y4 =>
   bif y4.2 then
   some (.inl (y4.1, d2 ++ [y3.2]))
   else
   (c28 rf y4.1 ([44] : List UInt8)).bind fun y5 =>
   k49 rb y5 (d2 ++ [y3.2])
  else
   none
 else
  some (.inr y1.1)
theorem d2F : EqB 49 fun a b => U2 (b49 a b) := fun _ _ _ => by kernel_rfl
def r63 (rf : T.RF) (rb : T.RB) (d1 : List XK × Int × Int × Int) : Option ((List XK × Int × Int × Int) × List (List XN)) :=
 (c28 rf d1 ([40] : List UInt8)).bind fun y1 =>
 (c21 rf y1 ([41] : List UInt8)).bind fun y2 =>
 bif y2.2 then
  some (y2.1, [])
 else
  (k49 rb y2.1 []).bind fun z3 =>
  match z3 with
  | .inl u4 =>
    some u4
  | .inr w5 =>
    some (w5, [])
theorem d3p : EqF 63 fun a b => r63 a b := fun _ _ _ => by kernel_rfl
def r33 (rf : T.RF) (rb : T.RB) (d1 : List XK × Int × Int × Int) : Option ((List XK × Int × Int × Int) × XIt × Bool) :=
 (c21 rf d1 ([97, 115, 115, 117, 109, 101] : List UInt8)).bind fun y1 =>
 bif y1.2 then
  (c34 rf y1.1).bind fun y2 =>
  (c28 rf y2.1 ([59] : List UInt8)).bind fun y3 =>
  some (y3, (1, ([] : List UInt8), 0, y2.2, [], []), true)
 else
  (c21 rf y1.1 ([103, 117, 97, 114, 97, 110, 116, 101, 101] : List UInt8)).bind fun y4 =>
  bif y4.2 then
   (c34 rf y4.1).bind fun y5 =>
   (c28 rf y5.1 ([59] : List UInt8)).bind fun y6 =>
   some (y6, (2, ([] : List UInt8), 0, y5.2, [], []), true)
  else
   (c21 rf y4.1 ([103, 104, 111, 115, 116] : List UInt8)).bind fun y7 =>
   bif y7.2 then
   (c30 rf y7.1).bind fun y8 =>
   (c28 rf y8.1 ([61] : List UInt8)).bind fun y9 =>
   (c34 rf y9).bind fun y10 =>
   (c28 rf y10.1 ([59] : List UInt8)).bind fun y11 =>
   some (y11, (3, y8.2.1, y8.2.2, y10.2, [], []), true)
   else
   (c21 rf y7.1 ([109, 111, 100, 101] : List UInt8)).bind fun y12 =>
   bif y12.2 then
   (c24 rf y12.1).bind fun y13 =>
   (c28 rf y13.1 ([114, 101, 113, 117, 105, 114, 101] : List UInt8)).bind fun y14 =>
   (c34 rf y14).bind fun y15 =>
   (c28 rf y15.1 ([101, 110, 115, 117, 114, 101] : List UInt8)).bind fun y16 =>
   (c34 rf y16).bind fun y17 =>
   (c28 rf y17.1 ([59] : List UInt8)).bind fun y18 =>
   some (y18, (4, y13.2, 0, y15.2, y17.2, []), true)
   else
   (c21 rf y12.1 ([105, 109, 112, 111, 114, 116] : List UInt8)).bind fun y19 =>
   bif y19.2 then
   (c24 rf y19.1).bind fun y20 =>
   (c63 rf y20.1).bind fun y21 =>
   (c28 rf y21.1 ([59] : List UInt8)).bind fun y22 =>
   some (y22, (5, y20.2, 0, [], [], y21.2), true)
   else
   some (y19.1, (0, ([] : List UInt8), 0, [], [], []), false)
theorem d3g : EqF 33 fun a b => r33 a b := fun _ _ _ => by kernel_rfl
def b50 (rf : T.RF) (rb : T.RB) (d1 : List XK × Int × Int × Int) (d2 : List XIt) : Option ((List XK × Int × Int × Int) × List XIt) :=
 (c32 rf d1).bind fun y1 =>
 bif y1.2 then
  (c29 rf y1.1 (((d2.length : Nat) : Int))).bind fun y2 =>
  (c33 rf y2).bind fun y3 =>
  bif y3.2.2 then
   bif (Nat.ble (d2.length + 1) j4) && true then
   k50 rb y3.1 (d2 ++ [y3.2.1])
   else
   none
  else
   k50 rb y3.1 d2
 else
  some (y1.1, d2)
theorem d2G : EqB 50 fun a b => U2 (b50 a b) := fun _ _ _ => by kernel_rfl
def r31 (rf : T.RF) (rb : T.RB) (d1 : List XK × Int × Int × Int) : Option ((List XK × Int × Int × Int) × List XIt) :=
 (k50 rb d1 []).bind fun z1 =>
 (c28 rf z1.1 ([101, 110, 100] : List UInt8)).bind fun y2 =>
 some (y2, z1.2)
theorem d3e : EqF 31 fun a b => r31 a b := fun _ _ _ => by kernel_rfl
def b52 (rf : T.RF) (rb : T.RB) (d1 : List XK × Int × Int × Int) (d2 : List XPm) : Option (((List XK × Int × Int × Int) × List XPm) ⊕ (List XK × Int × Int × Int)) :=
 (c23 rf d1).bind fun y1 =>
 bif y1.2 then
  (c29 rf y1.1 (((d2.length : Nat) : Int))).bind fun y2 =>
  (c30 rf y2).bind fun y3 =>
  bif (Nat.ble (d2.length + 1) j4) && true then
   (c28 rf y3.1 ([59] : List UInt8)).bind fun y4 =>
   (c25 rf y4).bind fun y5 =>
   bif !y5.2 then
   some (.inl (y5.1, d2 ++ [y3.2]))
   else
   k52 rb y5.1 (d2 ++ [y3.2])
  else
   none
 else
  some (.inr y1.1)
theorem d2H : EqB 52 fun a b => U2 (b52 a b) := fun _ _ _ => by kernel_rfl
def r64 (rf : T.RF) (rb : T.RB) (d1 : List XK × Int × Int × Int) : Option ((List XK × Int × Int × Int) × List XPm) :=
 (k52 rb d1 []).bind fun z1 =>
 match z1 with
 | .inl u2 =>
   some u2
 | .inr w3 =>
   some (w3, [])
theorem d3q : EqF 64 fun a b => r64 a b := fun _ _ _ => by kernel_rfl
def b54 (rf : T.RF) (rb : T.RB) (d1 : List XK × Int × Int × Int) (d2 : List XEq) : Option ((List XK × Int × Int × Int) × List XEq) :=
 (c25 rf d1).bind fun y1 =>
 bif y1.2 then
  (c29 rf y1.1 (((d2.length : Nat) : Int))).bind fun y2 =>
  (c24 rf y2).bind fun y3 =>
  (c28 rf y3.1 ([61] : List UInt8)).bind fun y4 =>
  (c34 rf y4).bind fun y5 =>
  (c28 rf y5.1 ([59] : List UInt8)).bind fun y6 =>
  bif (Nat.ble (d2.length + 1) j4) && true then
   k54 rb y6 (d2 ++ [(y3.2, y5.2)])
  else
   none
 else
  some (y1.1, d2)
theorem d2I : EqB 54 fun a b => U2 (b54 a b) := fun _ _ _ => by kernel_rfl
def r65 (rf : T.RF) (rb : T.RB) (d1 : List XK × Int × Int × Int) : Option ((List XK × Int × Int × Int) × List XEq) :=
 (k54 rb d1 []).bind fun z1 =>
 (c28 rf z1.1 ([116, 101, 108] : List UInt8)).bind fun y2 =>
 some (y2, z1.2)
theorem d3r : EqF 65 fun a b => r65 a b := fun _ _ _ => by kernel_rfl
def r20 (rf : T.RF) (rb : T.RB) (d1 : List XK × Int × Int × Int) : Option ((List XK × Int × Int × Int) × XUn) :=
 (c21 rf d1 ([99, 111, 110, 116, 114, 97, 99, 116] : List UInt8)).bind fun y1 =>
 bif y1.2 then
  (c24 rf y1.1).bind fun y2 =>
  (c27 rf y2.1).bind fun y3 =>
  (c31 rf y3.1).bind fun y4 =>
  some (y4.1, true, y2.2, y3.2, ([] : List UInt8), 0, [], [], y4.2)
 else
  (c28 rf y1.1 ([110, 111, 100, 101] : List UInt8)).bind fun y5 =>
  (c24 rf y5).bind fun y6 =>
  (c27 rf y6.1).bind fun y7 =>
  (c28 rf y7.1 ([114, 101, 116, 117, 114, 110, 115] : List UInt8)).bind fun y8 =>
  (c28 rf y8 ([40] : List UInt8)).bind fun y9 =>
  (c30 rf y9).bind fun y10 =>
  (c28 rf y10.1 ([41] : List UInt8)).bind fun y11 =>
  (c21 rf y11 ([99, 111, 110, 116, 114, 97, 99, 116] : List UInt8)).bind fun y12 =>
  bif y12.2 then
   (c31 rf y12.1).bind fun y13 =>
   (c21 rf y13.1 ([118, 97, 114] : List UInt8)).bind fun y14 =>
   bif y14.2 then
   (c64 rf y14.1).bind fun y15 =>
   (c28 rf y15.1 ([108, 101, 116] : List UInt8)).bind fun y16 =>
   (c65 rf y16).bind fun y17 =>
   some (y17.1, false, y6.2, y7.2, y10.2.1, y10.2.2, y15.2, y17.2, y13.2)
   else
   (c28 rf y14.1 ([108, 101, 116] : List UInt8)).bind fun y18 =>
   (c65 rf y18).bind fun y19 =>
   some (y19.1, false, y6.2, y7.2, y10.2.1, y10.2.2, [], y19.2, y13.2)
  else
   (c21 rf y12.1 ([118, 97, 114] : List UInt8)).bind fun y20 =>
   bif y20.2 then
   (c64 rf y20.1).bind fun y21 =>
   (c28 rf y21.1 ([108, 101, 116] : List UInt8)).bind fun y22 =>
   (c65 rf y22).bind fun y23 =>
   some (y23.1, false, y6.2, y7.2, y10.2.1, y10.2.2, y21.2, y23.2, [])
   else
   (c28 rf y20.1 ([108, 101, 116] : List UInt8)).bind fun y24 =>
   (c65 rf y24).bind fun y25 =>
   some (y25.1, false, y6.2, y7.2, y10.2.1, y10.2.2, [], y25.2, [])
theorem d2T : EqF 20 fun a b => r20 a b := fun _ _ _ => by kernel_rfl
def c5r (rf : T.RF) (rb : T.RB) (d1 : List XK × Int × Int × Int) (d2 : List UInt8) (d3 : List UInt8) (d4 : List XUn) : Option ((List XK × Int × Int × Int) × List UInt8 × List UInt8 × List XUn) :=
 (c22 rf d1 ([110, 111, 100, 101] : List UInt8)).bind fun y1 =>
 bif y1.2 then
  (c29 rf y1.1 (((d4.length : Nat) : Int))).bind fun y2 =>
  j8 (
   (c20 rf y2).bind fun y3 =>
   bif (Nat.ble (d4.length + 1) j4) && true then
   k69 rb y3.1 d2 d3 (d4 ++ [y3.2])
   else
   none
  ) (
   (c20 rf y2).bind fun y3 =>
   agN 1 (
   bif (Nat.ble (d4.length + 1) j4) && true then
   k69 rb y3.1 d2 d3 (d4 ++ [y3.2])
   else
   none
   )
  )
 else
  (c22 rf y1.1 ([99, 111, 110, 116, 114, 97, 99, 116] : List UInt8)).bind fun y4 =>
  bif y4.2 then
   (c29 rf y4.1 (((d4.length : Nat) : Int))).bind fun y5 =>
   j8 (
   (c20 rf y5).bind fun y6 =>
   bif (Nat.ble (d4.length + 1) j4) && true then
   k69 rb y6.1 d2 d3 (d4 ++ [y6.2])
   else
   none
   ) (
   (c20 rf y5).bind fun y6 =>
   agN 1 (
   bif (Nat.ble (d4.length + 1) j4) && true then
   k69 rb y6.1 d2 d3 (d4 ++ [y6.2])
   else
   none
   )
   )
  else
   some (y4.1, d2, d3, d4)
def b69 (rf : T.RF) (rb : T.RB) (d1 : List XK × Int × Int × Int) (d2 : List UInt8) (d3 : List UInt8) (d4 : List XUn) : Option ((List XK × Int × Int × Int) × List UInt8 × List UInt8 × List XUn) :=
 (c22 rf d1 ([110, 111, 100, 101] : List UInt8)).bind fun y1 =>
 bif y1.2 then
  (c29 rf y1.1 (((d4.length : Nat) : Int))).bind fun y2 =>
  (c20 rf y2).bind fun y3 =>
  bif (Nat.ble (d4.length + 1) j4) && true then
   k69 rb y3.1 d2 d3 (d4 ++ [y3.2])
  else
   none
 else
  (c22 rf y1.1 ([99, 111, 110, 116, 114, 97, 99, 116] : List UInt8)).bind fun y4 =>
  bif y4.2 then
   (c29 rf y4.1 (((d4.length : Nat) : Int))).bind fun y5 =>
   (c20 rf y5).bind fun y6 =>
   bif (Nat.ble (d4.length + 1) j4) && true then
   k69 rb y6.1 d2 d3 (d4 ++ [y6.2])
   else
   none
  else
   some (y4.1, d2, d3, d4)
theorem d2J : EqB 69 fun a b => U4 (c5r a b) := fun _ _ _ => by kernel_rfl
theorem d6q (rf rb d1 d2 d3 d4) : c5r rf rb d1 d2 d3 d4 = b69 rf rb d1 d2 d3 d4 := by
 unfold c5r b69; simp only [D4, l0, o8]
def c5s (rf : T.RF) (rb : T.RB) (d1 : List UInt8) (d2 : List UInt8) (d3 : Int × Int) (d4 : List XK × Int × Int × Int) (d5 : List UInt8) (d6 : List UInt8) (d7 : List XUn) (d8 : List XUn) : Option ((List UInt8 × List UInt8 × (Int × Int) × (List XK × Int × Int × Int) × List UInt8 × List UInt8 × List XUn × List XUn × List XUn) ⊕ (List UInt8 × List UInt8 × (Int × Int) × (List XK × Int × Int × Int) × List UInt8 × List UInt8 × List XUn × List XUn)) :=
 (c23 rf d4).bind fun y1 =>
 bif y1.2 then
  agN 1 (
   bif decide (y1.1.2.1 < (((y1.1.1.length : Nat) : Int))) then
   (c26 rf y1.1 5).bind fun y2 =>
   (c23 rf y2).bind fun y3 =>
   bif !y3.2 then
   some (.inl (([] : List UInt8), ([] : List UInt8), y3.1.2.2, y3.1, d5, d6, d7, d8, []))
   else
   some (.inr (d5, d6, (0, 0), y3.1, d5, d6, d7, d8))
   else
   (c23 rf y1.1).bind fun y4 =>
   bif !y4.2 then
   some (.inl (([] : List UInt8), ([] : List UInt8), y4.1.2.2, y4.1, d5, d6, d7, d8, []))
   else
   some (.inr (d5, d6, (0, 0), y4.1, d5, d6, d7, d8))
  )
 else
  agN 1 (
   (c23 rf y1.1).bind fun y5 =>
   bif !y5.2 then
   some (.inl (([] : List UInt8), ([] : List UInt8), y5.1.2.2, y5.1, d5, d6, d7, d8, []))
   else
   some (.inr (d5, d6, (0, 0), y5.1, d5, d6, d7, d8))
  )
def b70 (rf : T.RF) (rb : T.RB) (d1 : List UInt8) (d2 : List UInt8) (d3 : Int × Int) (d4 : List XK × Int × Int × Int) (d5 : List UInt8) (d6 : List UInt8) (d7 : List XUn) (d8 : List XUn) : Option ((List UInt8 × List UInt8 × (Int × Int) × (List XK × Int × Int × Int) × List UInt8 × List UInt8 × List XUn × List XUn × List XUn) ⊕ (List UInt8 × List UInt8 × (Int × Int) × (List XK × Int × Int × Int) × List UInt8 × List UInt8 × List XUn × List XUn)) :=
 (c23 rf d4).bind fun y1 =>
 bif y1.2 then
  bif decide (y1.1.2.1 < (((y1.1.1.length : Nat) : Int))) then
   (c26 rf y1.1 5).bind fun y2 =>
   (c23 rf y2).bind fun y3 =>
   bif !y3.2 then
   some (.inl (([] : List UInt8), ([] : List UInt8), y3.1.2.2, y3.1, d5, d6, d7, d8, []))
   else
   some (.inr (d5, d6, (0, 0), y3.1, d5, d6, d7, d8))
  else
   (c23 rf y1.1).bind fun y4 =>
   bif !y4.2 then
   some (.inl (([] : List UInt8), ([] : List UInt8), y4.1.2.2, y4.1, d5, d6, d7, d8, []))
   else
   some (.inr (d5, d6, (0, 0), y4.1, d5, d6, d7, d8))
 else
  (c23 rf y1.1).bind fun y5 =>
  bif !y5.2 then
   some (.inl (([] : List UInt8), ([] : List UInt8), y5.1.2.2, y5.1, d5, d6, d7, d8, []))
  else
   some (.inr (d5, d6, (0, 0), y5.1, d5, d6, d7, d8))
theorem d2K : EqB 70 fun a b => U8 (c5s a b) := fun _ _ _ => by kernel_rfl
theorem d6r (rf rb d1 d2 d3 d4 d5 d6 d7 d8) : c5s rf rb d1 d2 d3 d4 d5 d6 d7 d8 = b70 rf rb d1 d2 d3 d4 d5 d6 d7 d8 := by
 unfold c5s b70; simp only [D4, l0, o8]
def r3 (rf : T.RF) (rb : T.RB) (d1 : List UInt8) : Option (XPg × Int × Int) :=
 (c4 rf d1).bind fun y1 =>
 bif y1.2.1 != 0 then
  some (([], ([] : List UInt8), ([] : List UInt8)), y1.2)
 else
  (k69 rb (y1.1, 0, 0, 0) ([] : List UInt8) ([] : List UInt8) []).bind fun z2 =>
  (c28 rf z2.1 ([109, 97, 105, 110] : List UInt8)).bind fun y3 =>
  (c24 rf y3).bind fun y4 =>
  (c28 rf y4.1 ([59] : List UInt8)).bind fun y5 =>
  (c21 rf y5 ([102, 97, 108, 108, 98, 97, 99, 107] : List UInt8)).bind fun y6 =>
  bif y6.2 then
   (c24 rf y6.1).bind fun y7 =>
   (c28 rf y7.1 ([59] : List UInt8)).bind fun y8 =>
   (k70 rb ([] : List UInt8) ([] : List UInt8) (0, 0) y8 y4.2 y7.2 [] z2.2.2.2).bind fun z9 =>
   match z9 with
   | .inl u10 =>
     some ((u10.2.2.2.2.2.2.2.2, u10.1, u10.2.1), u10.2.2.1)
   | .inr w11 =>
     some ((w11.2.2.2.2.2.2.2, w11.1, w11.2.1), w11.2.2.1)
  else
   (k70 rb ([] : List UInt8) ([] : List UInt8) (0, 0) y6.1 y4.2 z2.2.2.1 [] z2.2.2.2).bind fun z12 =>
   match z12 with
   | .inl u13 =>
     some ((u13.2.2.2.2.2.2.2.2, u13.1, u13.2.1), u13.2.2.1)
   | .inr w14 =>
     some ((w14.2.2.2.2.2.2.2, w14.1, w14.2.1), w14.2.2.1)
theorem er3 : EqF 3 fun a b => r3 a b := fun _ _ _ => by kernel_rfl
def r69 (rf : T.RF) (rb : T.RB) (d1 : List UInt8) : Option (List UInt8) :=
 some (a1t d1)
theorem c8c : EqF 69 fun a b => r69 a b := fun _ _ _ => by kernel_rfl
theorem d5O {d1 y} (h : r69 T.rf T.rb d1 = some y) : c69 T.rf d1 = some y := c8c.o h
def r70 (rf : T.RF) (rb : T.RB) (d1 : Int) : Option Bool :=
 bif decide (d1 ≥ 48) then
  some (decide (d1 ≤ 57))
 else
  some false
theorem c8d : EqF 70 fun a b => r70 a b := fun _ _ _ => by kernel_rfl
theorem d5P {d1 y} (h : r70 T.rf T.rb d1 = some y) : c70 T.rf d1 = some y := c8d.o h
def r74 (rf : T.RF) (rb : T.RB) (d1 : List UInt8) : Option Bool :=
 some (!(d1 == d1))
theorem c8h : EqF 74 fun a b => r74 a b := fun _ _ _ => by kernel_rfl
theorem d5S {d1 y} (h : r74 T.rf T.rb d1 = some y) : c74 T.rf d1 = some y := c8h.o h
def r73 (rf : T.RF) (rb : T.RB) (d1 : List UInt8) (d2 : List UInt8) : Option Bool :=
 (c74 rf d1).bind fun y1 =>
 bif y1 then
  (c74 rf d2).bind fun y2 =>
  bif !y2 then
   some true
  else
   some (ltB d1 d2)
 else
  some (ltB d1 d2)
theorem c8g : EqF 73 fun a b => U2 (r73 a b) := fun _ _ _ => by kernel_rfl
theorem d5R {d1 d2 y} (h : r73 T.rf T.rb d1 d2 = some y) : c73 T.rf d1 d2 = some y := c8g.o h
def r75 (rf : T.RF) (rb : T.RB) (d1 : List UInt8) : Option Bool :=
 some (!(d1 == d1))
theorem c8i : EqF 75 fun a b => r75 a b := fun _ _ _ => by kernel_rfl
theorem d5T {d1 y} (h : r75 T.rf T.rb d1 = some y) : c75 T.rf d1 = some y := c8i.o h
def b71 (rf : T.RF) (rb : T.RB) (d1 : List (List UInt8)) (d2 : List UInt8) (d3 : Int) (d4 : Int) : Option Int :=
 bif decide (d3 < d4) then
  bif inb (IntKind.i64.wrap (b0b IntKind.u64 (IntKind.u64.wrap (IntKind.i64.wrap (d3 + d4))) 1)) d1.length then
   (nth d1 (IntKind.i64.wrap (b0b IntKind.u64 (IntKind.u64.wrap (IntKind.i64.wrap (d3 + d4))) 1)).toNat).bind fun x1 =>
   (c73 rf x1 d2).bind fun y2 =>
   bif y2 then
   k71 rb d1 d2 (IntKind.i64.wrap ((IntKind.i64.wrap (b0b IntKind.u64 (IntKind.u64.wrap (IntKind.i64.wrap (d3 + d4))) 1)) + 1)) d4
   else
   k71 rb d1 d2 d3 (IntKind.i64.wrap (b0b IntKind.u64 (IntKind.u64.wrap (IntKind.i64.wrap (d3 + d4))) 1))
  else
   none
 else
  some d3
theorem c7e : EqB 71 fun a b => U4 (b71 a b) := fun _ _ _ => by kernel_rfl
theorem c0y {d1 d2 d3 d4 y} (h : b71 T.rf T.rb d1 d2 d3 d4 = some y) : k71 T.rb d1 d2 d3 d4 = some y := c7e.o h
def r72 (rf : T.RF) (rb : T.RB) (d1 : List (List UInt8)) (d2 : List UInt8) : Option (Int × Bool) :=
 (k71 rb d1 d2 0 (((d1.length : Nat) : Int))).bind fun z1 =>
 bif decide (z1 < (((d1.length : Nat) : Int))) then
  bif inb z1 d1.length then
   (nth d1 z1.toNat).bind fun x2 =>
   bif x2 == d2 then
   some (z1, true)
   else
   bif inb z1 d1.length then
   (nth d1 z1.toNat).bind fun x3 =>
   (c75 rf x3).bind fun y4 =>
   bif y4 then
   (c75 rf d2).bind fun y5 =>
   some (z1, y5)
   else
   some (z1, false)
   else
   none
  else
   none
 else
  some (z1, false)
theorem c8f : EqF 72 fun a b => U2 (r72 a b) := fun _ _ _ => by kernel_rfl
theorem d1W {d1 d2 y} (h : r72 T.rf T.rb d1 d2 = some y) : c72 T.rf d1 d2 = some y := c8f.o h
def r71 (rf : T.RF) (rb : T.RB) (d1 : List UInt8) : Option Bool :=
 (c72 rf o7 d1).bind fun y1 =>
 some y1.2
theorem c8e : EqF 71 fun a b => r71 a b := fun _ _ _ => by kernel_rfl
theorem d5Q {d1 y} (h : r71 T.rf T.rb d1 = some y) : c71 T.rf d1 = some y := c8e.o h
def r68 (rf : T.RF) (rb : T.RB) (d1 : List UInt8) : Option Bool :=
 bif !(d1 == ([] : List UInt8)) then
  bif decide ((((d1.length : Nat) : Int)) ≤ 40) then
   (c69 rf d1).bind fun y1 =>
   bif y1 == d1 then
   bif inb 0 d1.length then
   (nth d1 0).bind fun b2 =>
   (c70 rf (IntKind.i32.wrap (((b2.toNat : Nat) : Int)))).bind fun y3 =>
   bif !y3 then
   (c71 rf d1).bind fun y4 =>
   some (!y4)
   else
   some false
   else
   none
   else
   some false
  else
   some false
 else
  some false
theorem c8b : EqF 68 fun a b => r68 a b := fun _ _ _ => by kernel_rfl
theorem d5N {d1 y} (h : r68 T.rf T.rb d1 = some y) : c68 T.rf d1 = some y := c8b.o h
def r85 (rf : T.RF) (rb : T.RB) (d1 : XPm) : Option Bool :=
 (c68 rf d1.1).bind fun y1 =>
 bif y1 then
  bif d1.2 == 1 then
   some true
  else
   some (d1.2 == 2)
 else
  some false
theorem c8s : EqF 85 fun a b => r85 a b := fun _ _ _ => by kernel_rfl
theorem d6b {d1 y} (h : r85 T.rf T.rb d1 = some y) : c85 T.rf d1 = some y := c8s.o h
def r84 (rf : T.RF) (rb : T.RB) (d1 : XPm) : Option Bool :=
 (c85 rf d1).bind fun y1 =>
 some (!y1)
theorem c8r : EqF 84 fun a b => r84 a b := fun _ _ _ => by kernel_rfl
theorem d6a {d1 y} (h : r84 T.rf T.rb d1 = some y) : c84 T.rf d1 = some y := c8r.o h
def b73 (rf : T.RF) (rb : T.RB) (d1 : List XPm) (d2 : Int) (d3 : Int) : Option (Int ⊕ Unit) :=
 bif decide (d3 < d2) then
  bif inb d3 d1.length then
   (nth d1 d3.toNat).bind fun x1 =>
   (c84 rf x1).bind fun y2 =>
   bif y2 then
   some (.inl d3)
   else
   k73 rb d1 d2 (IntKind.i64.wrap (d3 + 1))
  else
   none
 else
  some (.inr ())
theorem c7g : EqB 73 fun a b => U3 (b73 a b) := fun _ _ _ => by kernel_rfl
theorem c6d {d1 d2 d3 y} (h : b73 T.rf T.rb d1 d2 d3 = some y) : k73 T.rb d1 d2 d3 = some y := c7g.o h
def r83 (rf : T.RF) (rb : T.RB) (d1 : List XPm) : Option Int :=
 (k73 rb d1 (((d1.length : Nat) : Int)) 0).bind fun z1 =>
 match z1 with
 | .inl u2 =>
   some u2
 | .inr w3 =>
   some (-1)
theorem c8q : EqF 83 fun a b => r83 a b := fun _ _ _ => by kernel_rfl
theorem d1Y {d1 y} (h : r83 T.rf T.rb d1 = some y) : c83 T.rf d1 = some y := c8q.o h
def r82 (rf : T.RF) (rb : T.RB) (d1 : List XPm) : Option Bool :=
 (c83 rf d1).bind fun y1 =>
 some (decide (y1 ≥ 0))
theorem c8p : EqF 82 fun a b => r82 a b := fun _ _ _ => by kernel_rfl
theorem d5Z {d1 y} (h : r82 T.rf T.rb d1 = some y) : c82 T.rf d1 = some y := c8p.o h
def r81 (rf : T.RF) (rb : T.RB) (d1 : List XPm) : Option Bool :=
 bif decide ((((d1.length : Nat) : Int)) ≤ 200) then
  (c82 rf d1).bind fun y1 =>
  some (!y1)
 else
  some false
theorem c8o : EqF 81 fun a b => r81 a b := fun _ _ _ => by kernel_rfl
theorem d5Y {d1 y} (h : r81 T.rf T.rb d1 = some y) : c81 T.rf d1 = some y := c8o.o h
def r94 (rf : T.RF) (rb : T.RB) (d1 : XN) : Option (List Int) :=
 bif d1.1 == 26 then
  some [d1.2.1, d1.2.2.1, d1.2.2.2.1]
 else
 bif d1.1 == 28 then
  bif d1.2.2.1 != (-1) then
   some [d1.2.2.1, d1.2.1]
  else
  bif d1.1 == 27 then
   bif d1.2.1 == (-1) then
   some []
   else
   bif decide (d1.1 ≥ 6) then
   bif decide (d1.1 ≤ 20) then
   some [d1.2.1, d1.2.2.1]
   else
   bif d1.1 == 4 then
   some [d1.2.1]
   else
   bif d1.1 == 5 then
   some [d1.2.1]
   else
   bif decide (d1.1 ≥ 21) then
   bif decide (d1.1 ≤ 28) then
   some [d1.2.1]
   else
   some []
   else
   some []
   else
   bif d1.1 == 4 then
   some [d1.2.1]
   else
   bif d1.1 == 5 then
   some [d1.2.1]
   else
   bif decide (d1.1 ≥ 21) then
   bif decide (d1.1 ≤ 28) then
   some [d1.2.1]
   else
   some []
   else
   some []
  else
  bif decide (d1.1 ≥ 6) then
   bif decide (d1.1 ≤ 20) then
   some [d1.2.1, d1.2.2.1]
   else
   bif d1.1 == 4 then
   some [d1.2.1]
   else
   bif d1.1 == 5 then
   some [d1.2.1]
   else
   bif decide (d1.1 ≥ 21) then
   bif decide (d1.1 ≤ 28) then
   some [d1.2.1]
   else
   some []
   else
   some []
  else
  bif d1.1 == 4 then
   some [d1.2.1]
  else
  bif d1.1 == 5 then
   some [d1.2.1]
  else
  bif decide (d1.1 ≥ 21) then
   bif decide (d1.1 ≤ 28) then
   some [d1.2.1]
   else
   some []
  else
   some []
 else
 bif d1.1 == 27 then
  bif d1.2.1 == (-1) then
   some []
  else
  bif decide (d1.1 ≥ 6) then
   bif decide (d1.1 ≤ 20) then
   some [d1.2.1, d1.2.2.1]
   else
   bif d1.1 == 4 then
   some [d1.2.1]
   else
   bif d1.1 == 5 then
   some [d1.2.1]
   else
   bif decide (d1.1 ≥ 21) then
   bif decide (d1.1 ≤ 28) then
   some [d1.2.1]
   else
   some []
   else
   some []
  else
  bif d1.1 == 4 then
   some [d1.2.1]
  else
  bif d1.1 == 5 then
   some [d1.2.1]
  else
  bif decide (d1.1 ≥ 21) then
   bif decide (d1.1 ≤ 28) then
   some [d1.2.1]
   else
   some []
  else
   some []
 else
 bif decide (d1.1 ≥ 6) then
  bif decide (d1.1 ≤ 20) then
   some [d1.2.1, d1.2.2.1]
  else
  bif d1.1 == 4 then
   some [d1.2.1]
  else
  bif d1.1 == 5 then
   some [d1.2.1]
  else
  bif decide (d1.1 ≥ 21) then
   bif decide (d1.1 ≤ 28) then
   some [d1.2.1]
   else
   some []
  else
   some []
 else
 bif d1.1 == 4 then
  some [d1.2.1]
 else
 bif d1.1 == 5 then
  some [d1.2.1]
 else
 bif decide (d1.1 ≥ 21) then
  bif decide (d1.1 ≤ 28) then
   some [d1.2.1]
  else
   some []
 else
  some []
theorem c8B : EqF 94 fun a b => r94 a b := fun _ _ _ => by kernel_rfl
theorem d6j {d1 y} (h : r94 T.rf T.rb d1 = some y) : c94 T.rf d1 = some y := c8B.o h
def r95 (rf : T.RF) (rb : T.RB) (d1 : XN) (d2 : List Int) : Option XN :=
 bif d1.1 == 28 then
  bif (((d2.length : Nat) : Int)) == 2 then
   bif inb 0 d2.length then
   (nth d2 0).bind fun x1 =>
   bif inb 1 d2.length then
   (nth d2 1).bind fun x2 =>
   some (d1.1, x2, x1, d1.2.2.2)
   else
   none
   else
   none
  else
  bif decide (0 < (((d2.length : Nat) : Int))) then
   bif inb 0 d2.length then
   (nth d2 0).bind fun x3 =>
   bif decide (1 < (((d2.length : Nat) : Int))) then
   bif inb 1 d2.length then
   (nth d2 1).bind fun x4 =>
   bif decide (2 < (((d2.length : Nat) : Int))) then
   bif inb 2 d2.length then
   (nth d2 2).bind fun x5 =>
   some (d1.1, x3, x4, x5, d1.2.2.2.2)
   else
   none
   else
   some (d1.1, x3, x4, d1.2.2.2)
   else
   none
   else
   bif decide (2 < (((d2.length : Nat) : Int))) then
   bif inb 2 d2.length then
   (nth d2 2).bind fun x6 =>
   some (d1.1, x3, d1.2.2.1, x6, d1.2.2.2.2)
   else
   none
   else
   some (d1.1, x3, d1.2.2)
   else
   none
  else
  bif decide (1 < (((d2.length : Nat) : Int))) then
   bif inb 1 d2.length then
   (nth d2 1).bind fun x7 =>
   bif decide (2 < (((d2.length : Nat) : Int))) then
   bif inb 2 d2.length then
   (nth d2 2).bind fun x8 =>
   some (d1.1, d1.2.1, x7, x8, d1.2.2.2.2)
   else
   none
   else
   some (d1.1, d1.2.1, x7, d1.2.2.2)
   else
   none
  else
  bif decide (2 < (((d2.length : Nat) : Int))) then
   bif inb 2 d2.length then
   (nth d2 2).bind fun x9 =>
   some (d1.1, d1.2.1, d1.2.2.1, x9, d1.2.2.2.2)
   else
   none
  else
   some d1
 else
 bif decide (0 < (((d2.length : Nat) : Int))) then
  bif inb 0 d2.length then
   (nth d2 0).bind fun x10 =>
   bif decide (1 < (((d2.length : Nat) : Int))) then
   bif inb 1 d2.length then
   (nth d2 1).bind fun x11 =>
   bif decide (2 < (((d2.length : Nat) : Int))) then
   bif inb 2 d2.length then
   (nth d2 2).bind fun x12 =>
   some (d1.1, x10, x11, x12, d1.2.2.2.2)
   else
   none
   else
   some (d1.1, x10, x11, d1.2.2.2)
   else
   none
   else
   bif decide (2 < (((d2.length : Nat) : Int))) then
   bif inb 2 d2.length then
   (nth d2 2).bind fun x13 =>
   some (d1.1, x10, d1.2.2.1, x13, d1.2.2.2.2)
   else
   none
   else
   some (d1.1, x10, d1.2.2)
  else
   none
 else
 bif decide (1 < (((d2.length : Nat) : Int))) then
  bif inb 1 d2.length then
   (nth d2 1).bind fun x14 =>
   bif decide (2 < (((d2.length : Nat) : Int))) then
   bif inb 2 d2.length then
   (nth d2 2).bind fun x15 =>
   some (d1.1, d1.2.1, x14, x15, d1.2.2.2.2)
   else
   none
   else
   some (d1.1, d1.2.1, x14, d1.2.2.2)
  else
   none
 else
 bif decide (2 < (((d2.length : Nat) : Int))) then
  bif inb 2 d2.length then
   (nth d2 2).bind fun x16 =>
   some (d1.1, d1.2.1, d1.2.2.1, x16, d1.2.2.2.2)
  else
   none
 else
  some d1
theorem c8C : EqF 95 fun a b => U2 (r95 a b) := fun _ _ _ => by kernel_rfl
theorem d6k {d1 d2 y} (h : r95 T.rf T.rb d1 d2 = some y) : c95 T.rf d1 d2 = some y := c8C.o h
def c5t (rf : T.RF) (rb : T.RB) (d1 : XN) (d2 : Int) : Option (XN × Bool) :=
 j8 (
  (c94 rf d1).bind fun y1 =>
  agN 1 (
   (c95 rf (d1.1, (-1), (-1), (-1), d1.2.2.2.2) y1).bind fun y2 =>
   (k77 rb d1 y2 d2).bind fun z3 =>
   some (z3.1, z3.2.2)
  )
 ) (
  (c94 rf d1).bind fun y1 =>
  (c95 rf (d1.1, (-1), (-1), (-1), d1.2.2.2.2) y1).bind fun y2 =>
  (k77 rb d1 y2 d2).bind fun z3 =>
  some (z3.1, z3.2.2)
 )
def b76 (rf : T.RF) (rb : T.RB) (d1 : XN) (d2 : Int) : Option (XN × Bool) :=
 (c94 rf d1).bind fun y1 =>
 (c95 rf (d1.1, (-1), (-1), (-1), d1.2.2.2.2) y1).bind fun y2 =>
 (k77 rb d1 y2 d2).bind fun z3 =>
 some (z3.1, z3.2.2)
theorem c7j : EqB 76 fun a b => U2 (c5t a b) := fun _ _ _ => by kernel_rfl
theorem d2o (rf rb d1 d2) : c5t rf rb d1 d2 = b76 rf rb d1 d2 := by
 unfold c5t b76; simp only [D4, l0, o8]
theorem d5l {d1 d2 y} (h : b76 T.rf T.rb d1 d2 = some y) : k76 T.rb d1 d2 = some y := c7j.o ((d2o _ _ _ _).trans h)
def b77 (rf : T.RF) (rb : T.RB) (d1 : XN) (d2 : XN) (d3 : Int) : Option (XN × XN × Bool) :=
 bif d1.1 == 3 then
  bif decide (d1.1 ≥ 1) then
   bif decide (d1.1 ≤ 28) then
   bif (d1.1 == d2.1) && ((d1.2.1 == d2.2.1) && ((d1.2.2.1 == d2.2.2.1) && ((d1.2.2.2.1 == d2.2.2.2.1) && ((d1.2.2.2.2.1 == d2.2.2.2.2.1) && (d1.2.2.2.2.2 == d2.2.2.2.2.2))))) then
   bif decide (d1.2.2.2.2.1 ≥ 0) then
   bif decide (d1.2.2.2.2.1 ≤ d3) then
   some (d1, d2, (!(d1.2.2.2.2.2 == ([] : List UInt8))) == true)
   else
   some (d1, d2, false)
   else
   some (d1, d2, false)
   else
   some (d1, d2, false)
   else
   some (d1, d2, false)
  else
   some (d1, d2, false)
 else
 bif decide (d1.1 ≥ 1) then
  bif decide (d1.1 ≤ 28) then
   bif (d1.1 == d2.1) && ((d1.2.1 == d2.2.1) && ((d1.2.2.1 == d2.2.2.1) && ((d1.2.2.2.1 == d2.2.2.2.1) && ((d1.2.2.2.2.1 == d2.2.2.2.2.1) && (d1.2.2.2.2.2 == d2.2.2.2.2.2))))) then
   bif decide (d1.2.2.2.2.1 ≥ 0) then
   bif decide (d1.2.2.2.2.1 ≤ d3) then
   some (d1, d2, (!(d1.2.2.2.2.2 == ([] : List UInt8))) == (d1.1 == 27))
   else
   some (d1, d2, false)
   else
   some (d1, d2, false)
   else
   some (d1, d2, false)
  else
   some (d1, d2, false)
 else
  some (d1, d2, false)
theorem c7k : EqB 77 fun a b => U3 (b77 a b) := fun _ _ _ => by kernel_rfl
theorem d5m {d1 d2 d3 y} (h : b77 T.rf T.rb d1 d2 d3 = some y) : k77 T.rb d1 d2 d3 = some y := c7k.o h
def r93 (rf : T.RF) (rb : T.RB) (d1 : XN) : Option Bool :=
 bif d1.1 == 1 then
  (k76 rb d1 2147483647).bind fun z1 =>
  some z1.2
 else
 bif d1.1 == 2 then
  (k76 rb d1 1).bind fun z2 =>
  some z2.2
 else
 bif d1.1 == 25 then
  (k76 rb d1 1000).bind fun z3 =>
  some z3.2
 else
  (k76 rb d1 0).bind fun z4 =>
  some z4.2
theorem c8A : EqF 93 fun a b => r93 a b := fun _ _ _ => by kernel_rfl
theorem d6i {d1 y} (h : r93 T.rf T.rb d1 = some y) : c93 T.rf d1 = some y := c8A.o h
def b79 (rf : T.RF) (rb : T.RB) (d1 : List Bool) (d2 : Bool) (d3 : Int) (d4 : Int) : Option (Int ⊕ Unit) :=
 bif decide (d4 < d3) then
  bif inb d4 d1.length then
   (nth d1 d4.toNat).bind fun x1 =>
   bif d2 == x1 then
   some (.inl d4)
   else
   k79 rb d1 d2 d3 (IntKind.i64.wrap (d4 + 1))
  else
   none
 else
  some (.inr ())
theorem c7m : EqB 79 fun a b => U4 (b79 a b) := fun _ _ _ => by kernel_rfl
theorem c6f {d1 d2 d3 d4 y} (h : b79 T.rf T.rb d1 d2 d3 d4 = some y) : k79 T.rb d1 d2 d3 d4 = some y := c7m.o h
def r97 (rf : T.RF) (rb : T.RB) (d1 : List Bool) (d2 : Bool) : Option Int :=
 (k79 rb d1 d2 (((d1.length : Nat) : Int)) 0).bind fun z1 =>
 match z1 with
 | .inl u2 =>
   some u2
 | .inr w3 =>
   some (-1)
theorem c8E : EqF 97 fun a b => U2 (r97 a b) := fun _ _ _ => by kernel_rfl
theorem d6m {d1 d2 y} (h : r97 T.rf T.rb d1 d2 = some y) : c97 T.rf d1 d2 = some y := c8E.o h
def r96 (rf : T.RF) (rb : T.RB) (d1 : List Bool) (d2 : Bool) : Option Bool :=
 (c97 rf d1 d2).bind fun y1 =>
 some (decide (y1 ≥ 0))
theorem c8D : EqF 96 fun a b => U2 (r96 a b) := fun _ _ _ => by kernel_rfl
theorem d6l {d1 d2 y} (h : r96 T.rf T.rb d1 d2 = some y) : c96 T.rf d1 d2 = some y := c8D.o h
def b86 (rf : T.RF) (rb : T.RB) (d1 : List Int) (d2 : List XN) (d3 : Int) (d4 : Int) : Option (List Int) :=
 bif decide (d4 < d3) then
  bif inb d4 d2.length then
   (nth d2 d4.toNat).bind fun x1 =>
   (c94 rf x1).bind fun y2 =>
   (k87 rb d1 y2 d4 (((y2.length : Nat) : Int)) 0).bind fun z3 =>
   bif inb d4 z3.1.length then
   (nth z3.1 d4.toNat).bind fun x4 =>
   bif inb d4 z3.1.length then
   bif Nat.blt d4.toNat z3.1.length then
   k86 rb (m5 z3.1 d4.toNat (IntKind.i64.wrap (x4 + 1))) d2 d3 (IntKind.i64.wrap (d4 + 1))
   else
   none
   else
   none
   else
   none
  else
   none
 else
  some d1
theorem c7n : EqB 86 fun a b => U4 (b86 a b) := fun _ _ _ => by kernel_rfl
theorem d0J {d1 d2 d3 d4 y} (h : b86 T.rf T.rb d1 d2 d3 d4 = some y) : k86 T.rb d1 d2 d3 d4 = some y := c7n.o h
def c5u (rf : T.RF) (rb : T.RB) (d1 : List Int) (d2 : List Int) (d3 : Int) (d4 : Int) (d5 : Int) : Option (List Int × List Int) :=
 bif decide (d5 < d4) then
  bif inb d5 d2.length then
   (nth d2 d5.toNat).bind fun x1 =>
   bif decide (x1 ≥ 0) then
   bif decide (x1 < d3) then
   bif inb d3 d1.length then
   bif inb x1 d1.length then
   j8 (
   (nth d1 d3.toNat).bind fun x2 =>
   (nth d1 x1.toNat).bind fun x3 =>
   bif inb d3 d1.length then
   bif Nat.blt d3.toNat d1.length then
   k87 rb (m5 d1 d3.toNat (if x3 > x2 then x3 else x2)) d2 d3 d4 (IntKind.i64.wrap (d5 + 1))
   else
   none
   else
   none
   ) (
   (nth d1 x1.toNat).bind fun x2 =>
   (nth d1 d3.toNat).bind fun x3 =>
   bif inb d3 d1.length then
   bif Nat.blt d3.toNat d1.length then
   k87 rb (m5 d1 d3.toNat (if x2 > x3 then x2 else x3)) d2 d3 d4 (IntKind.i64.wrap (d5 + 1))
   else
   none
   else
   none
   )
   else
   none
   else
   none
   else
   k87 rb d1 d2 d3 d4 (IntKind.i64.wrap (d5 + 1))
   else
   k87 rb d1 d2 d3 d4 (IntKind.i64.wrap (d5 + 1))
  else
   none
 else
  some (d1, d2)
def b87 (rf : T.RF) (rb : T.RB) (d1 : List Int) (d2 : List Int) (d3 : Int) (d4 : Int) (d5 : Int) : Option (List Int × List Int) :=
 bif decide (d5 < d4) then
  bif inb d5 d2.length then
   (nth d2 d5.toNat).bind fun x1 =>
   bif decide (x1 ≥ 0) then
   bif decide (x1 < d3) then
   bif inb d3 d1.length then
   bif inb x1 d1.length then
   (nth d1 d3.toNat).bind fun x2 =>
   (nth d1 x1.toNat).bind fun x3 =>
   bif inb d3 d1.length then
   bif Nat.blt d3.toNat d1.length then
   k87 rb (m5 d1 d3.toNat (if x3 > x2 then x3 else x2)) d2 d3 d4 (IntKind.i64.wrap (d5 + 1))
   else
   none
   else
   none
   else
   none
   else
   none
   else
   k87 rb d1 d2 d3 d4 (IntKind.i64.wrap (d5 + 1))
   else
   k87 rb d1 d2 d3 d4 (IntKind.i64.wrap (d5 + 1))
  else
   none
 else
  some (d1, d2)
theorem c7o : EqB 87 fun a b => U5 (c5u a b) := fun _ _ _ => by kernel_rfl
theorem d2p (rf rb d1 d2 d3 d4 d5) : c5u rf rb d1 d2 d3 d4 d5 = b87 rf rb d1 d2 d3 d4 d5 := by
 unfold c5u b87; simp only [D4, l0, o8]
theorem d0K {d1 d2 d3 d4 d5 y} (h : b87 T.rf T.rb d1 d2 d3 d4 d5 = some y) : k87 T.rb d1 d2 d3 d4 d5 = some y := c7o.o ((d2p _ _ _ _ _ _ _).trans h)
def r99 (rf : T.RF) (rb : T.RB) (d1 : List XN) : Option (List Int) :=
 bif F4 (((d1.length : Nat) : Int)) j4 then
  bif F4 (((d1.length : Nat) : Int)) d1.length then
   (k86 rb (List.replicate d1.length (0 : Int)) d1 (((d1.length : Nat) : Int)) 0).bind fun z1 =>
   some z1
  else
   none
 else
  none
theorem c8G : EqF 99 fun a b => r99 a b := fun _ _ _ => by kernel_rfl
theorem d6o {d1 y} (h : r99 T.rf T.rb d1 = some y) : c99 T.rf d1 = some y := c8G.o h
def r98 (rf : T.RF) (rb : T.RB) (d1 : List XN) : Option Int :=
 bif (((d1.length : Nat) : Int)) == 0 then
  some 0
 else
  (c99 rf d1).bind fun y1 =>
  bif inb (IntKind.i64.wrap ((((d1.length : Nat) : Int)) - 1)) y1.length then
   (nth y1 (IntKind.i64.wrap ((((d1.length : Nat) : Int)) - 1)).toNat).bind fun x2 =>
   some x2
  else
   none
theorem c8F : EqF 98 fun a b => r98 a b := fun _ _ _ => by kernel_rfl
theorem d6n {d1 y} (h : r98 T.rf T.rb d1 = some y) : c98 T.rf d1 = some y := c8F.o h
def b75 (rf : T.RF) (rb : T.RB) (d1 : List Bool) (d2 : List XN) (d3 : List XN) (d4 : Int) (d5 : Int) : Option ((List Bool × Bool) ⊕ (List Bool)) :=
 bif decide (d5 < d4) then
  bif inb d5 d3.length then
   (nth d3 d5.toNat).bind fun x1 =>
   (c93 rf x1).bind fun y2 =>
   bif !y2 then
    some (.inl (d1, false))
   else
    (c94 rf x1).bind fun y3 =>
    (k78 rb d1 x1 y3 d2 d5 (((y3.length : Nat) : Int)) 0).bind fun z4 =>
    match z4 with
    | .inl u5 =>
      some (.inl (u5.1, u5.2.2.2))
    | .inr w6 =>
      k75 rb w6.1 d2 d3 d4 (IntKind.i64.wrap (d5 + 1))
  else
   none
 else
  some (.inr d1)
theorem c7i : EqB 75 fun a b => U5 (b75 a b) := fun _ _ _ => by kernel_rfl
theorem b7R {d1 d2 d3 d4 d5 y} (h : b75 T.rf T.rb d1 d2 d3 d4 d5 = some y) : k75 T.rb d1 d2 d3 d4 d5 = some y := c7i.o h
def b78 (rf : T.RF) (rb : T.RB) (d1 : List Bool) (d2 : XN) (d3 : List Int) (d4 : List XN) (d5 : Int) (d6 : Int) (d7 : Int) : Option ((List Bool × XN × List Int × Bool) ⊕ (List Bool × XN × List Int)) :=
 bif decide (d7 < d6) then
  bif inb d7 d3.length then
   (nth d3 d7.toNat).bind fun x1 =>
   bif decide (x1 < 0) then
   some (.inl (d1, d2, d3, false))
   else
   bif decide (x1 ≥ d5) then
   some (.inl (d1, d2, d3, false))
   else
   bif inb x1 d1.length then
   (nth d1 x1.toNat).bind fun x2 =>
   bif x2 then
   some (.inl (d1, d2, d3, false))
   else
   bif inb x1 d1.length then
   bif Nat.blt x1.toNat d1.length then
   bif d2.1 == 27 then
   bif inb x1 d4.length then
   (nth d4 x1.toNat).bind fun x3 =>
   bif !((x3.1 == 28) == true) then
   some (.inl (m5 d1 x1.toNat true, d2, d3, false))
   else
   k78 rb (m5 d1 x1.toNat true) d2 d3 d4 d5 d6 (IntKind.i64.wrap (d7 + 1))
   else
   none
   else
   bif d2.1 == 28 then
   bif d2.2.2.1 != (-1) then
   bif inb x1 d4.length then
   (nth d4 x1.toNat).bind fun x4 =>
   bif !((x4.1 == 28) == (d7 == 0)) then
   some (.inl (m5 d1 x1.toNat true, d2, d3, false))
   else
   k78 rb (m5 d1 x1.toNat true) d2 d3 d4 d5 d6 (IntKind.i64.wrap (d7 + 1))
   else
   none
   else
   bif inb x1 d4.length then
   (nth d4 x1.toNat).bind fun x5 =>
   bif !((x5.1 == 28) == false) then
   some (.inl (m5 d1 x1.toNat true, d2, d3, false))
   else
   k78 rb (m5 d1 x1.toNat true) d2 d3 d4 d5 d6 (IntKind.i64.wrap (d7 + 1))
   else
   none
   else
   bif inb x1 d4.length then
   (nth d4 x1.toNat).bind fun x6 =>
   bif !((x6.1 == 28) == false) then
   some (.inl (m5 d1 x1.toNat true, d2, d3, false))
   else
   k78 rb (m5 d1 x1.toNat true) d2 d3 d4 d5 d6 (IntKind.i64.wrap (d7 + 1))
   else
   none
   else
   none
   else
   none
   else
   none
  else
   none
 else
  some (.inr (d1, d2, d3))
theorem c7l : EqB 78 fun a b => U7 (b78 a b) := fun _ _ _ => by kernel_rfl
theorem c0z {d1 d2 d3 d4 d5 d6 d7 y} (h : b78 T.rf T.rb d1 d2 d3 d4 d5 d6 d7 = some y) : k78 T.rb d1 d2 d3 d4 d5 d6 d7 = some y := c7l.o h
def r92 (rf : T.RF) (rb : T.RB) (d1 : List XN) : Option Bool :=
 bif (((d1.length : Nat) : Int)) == 0 then
  some false
 else
 bif decide ((((d1.length : Nat) : Int)) > 5000) then
  some false
 else
 bif inb (IntKind.i64.wrap ((((d1.length : Nat) : Int)) - 1)) d1.length then
  (nth d1 (IntKind.i64.wrap ((((d1.length : Nat) : Int)) - 1)).toNat).bind fun x1 =>
  bif x1.1 == 28 then
   some false
  else
  bif F4 (((d1.length : Nat) : Int)) j4 then
   bif F4 (((d1.length : Nat) : Int)) d1.length then
    (k75 rb (List.replicate d1.length false) d1 d1 (((d1.length : Nat) : Int)) 0).bind fun z2 =>
    match z2 with
    | .inl u3 =>
      some u3.2
    | .inr w4 =>
      bif F4 (IntKind.i64.wrap ((((d1.length : Nat) : Int)) - 1)) w4.length then
       (c96 rf (sub w4 (some (0, ((IntKind.i64.wrap ((((d1.length : Nat) : Int)) - 1)).toNat - 0)))) false).bind fun y5 =>
       bif !y5 then
        (c98 rf d1).bind fun y6 =>
        some (decide (y6 ≤ 40))
       else
        some false
      else
       none
   else
    none
  else
   none
 else
  none
theorem c8z : EqF 92 fun a b => r92 a b := fun _ _ _ => by kernel_rfl
theorem d6h {d1 y} (h : r92 T.rf T.rb d1 = some y) : c92 T.rf d1 = some y := c8z.o h
def c0I (rf : T.RF) (rb : T.RB) (d1 : XN) : Option Bool :=
 bif !(d1.2.2.2.2.2 == ([] : List UInt8)) then
  (c68 rf d1.2.2.2.2.2).bind fun y1 =>
  some (!y1)
 else
  some false
theorem c2F : EqF 102 fun a b => c0I a b := fun _ _ _ => by kernel_rfl
theorem d0Q {d1 y} (h : c0I T.rf T.rb d1 = some y) : c5x T.rf d1 = some y := c2F.o h
def b88 (rf : T.RF) (rb : T.RB) (d1 : List XN) (d2 : Int) (d3 : Int) : Option (Int ⊕ Unit) :=
 bif decide (d3 < d2) then
  bif inb d3 d1.length then
   (nth d1 d3.toNat).bind fun x1 =>
   (c5x rf x1).bind fun y2 =>
   bif y2 then
   some (.inl d3)
   else
   k88 rb d1 d2 (IntKind.i64.wrap (d3 + 1))
  else
   none
 else
  some (.inr ())
theorem c7p : EqB 88 fun a b => U3 (b88 a b) := fun _ _ _ => by kernel_rfl
theorem c6g {d1 d2 d3 y} (h : b88 T.rf T.rb d1 d2 d3 = some y) : k88 T.rb d1 d2 d3 = some y := c7p.o h
def b8a (rf : T.RF) (rb : T.RB) (d1 : List XN) : Option Int :=
 (k88 rb d1 (((d1.length : Nat) : Int)) 0).bind fun z1 =>
 match z1 with
 | .inl u2 =>
   some u2
 | .inr w3 =>
   some (-1)
theorem c2E : EqF 101 fun a b => b8a a b := fun _ _ _ => by kernel_rfl
theorem c4H {d1 y} (h : b8a T.rf T.rb d1 = some y) : b9q T.rf d1 = some y := c2E.o h
def b7Z (rf : T.RF) (rb : T.RB) (d1 : List XN) : Option Bool :=
 (b9q rf d1).bind fun y1 =>
 some (decide (y1 ≥ 0))
theorem c2D : EqF 100 fun a b => b7Z a b := fun _ _ _ => by kernel_rfl
theorem d0P {d1 y} (h : b7Z T.rf T.rb d1 = some y) : c5w T.rf d1 = some y := c2D.o h
def r91 (rf : T.RF) (rb : T.RB) (d1 : List XN) : Option Bool :=
 (c92 rf d1).bind fun y1 =>
 bif y1 then
  (c5w rf d1).bind fun y2 =>
  some (!y2)
 else
  some false
theorem c8y : EqF 91 fun a b => r91 a b := fun _ _ _ => by kernel_rfl
theorem d6g {d1 y} (h : r91 T.rf T.rb d1 = some y) : c91 T.rf d1 = some y := c8y.o h
def r90 (rf : T.RF) (rb : T.RB) (d1 : XEq) : Option Bool :=
 (c68 rf d1.1).bind fun y1 =>
 bif y1 then
  (c91 rf d1.2).bind fun y2 =>
  some y2
 else
  some false
theorem c8x : EqF 90 fun a b => r90 a b := fun _ _ _ => by kernel_rfl
theorem d6f {d1 y} (h : r90 T.rf T.rb d1 = some y) : c90 T.rf d1 = some y := c8x.o h
def r89 (rf : T.RF) (rb : T.RB) (d1 : XEq) : Option Bool :=
 (c90 rf d1).bind fun y1 =>
 some (!y1)
theorem c8w : EqF 89 fun a b => r89 a b := fun _ _ _ => by kernel_rfl
theorem d6e {d1 y} (h : r89 T.rf T.rb d1 = some y) : c89 T.rf d1 = some y := c8w.o h
def b74 (rf : T.RF) (rb : T.RB) (d1 : List XEq) (d2 : Int) (d3 : Int) : Option (Int ⊕ Unit) :=
 bif decide (d3 < d2) then
  bif inb d3 d1.length then
   (nth d1 d3.toNat).bind fun x1 =>
   (c89 rf x1).bind fun y2 =>
   bif y2 then
   some (.inl d3)
   else
   k74 rb d1 d2 (IntKind.i64.wrap (d3 + 1))
  else
   none
 else
  some (.inr ())
theorem c7h : EqB 74 fun a b => U3 (b74 a b) := fun _ _ _ => by kernel_rfl
theorem c6e {d1 d2 d3 y} (h : b74 T.rf T.rb d1 d2 d3 = some y) : k74 T.rb d1 d2 d3 = some y := c7h.o h
def r88 (rf : T.RF) (rb : T.RB) (d1 : List XEq) : Option Int :=
 (k74 rb d1 (((d1.length : Nat) : Int)) 0).bind fun z1 =>
 match z1 with
 | .inl u2 =>
   some u2
 | .inr w3 =>
   some (-1)
theorem c8v : EqF 88 fun a b => r88 a b := fun _ _ _ => by kernel_rfl
theorem d1Z {d1 y} (h : r88 T.rf T.rb d1 = some y) : c88 T.rf d1 = some y := c8v.o h
def r87 (rf : T.RF) (rb : T.RB) (d1 : List XEq) : Option Bool :=
 (c88 rf d1).bind fun y1 =>
 some (decide (y1 ≥ 0))
theorem c8u : EqF 87 fun a b => r87 a b := fun _ _ _ => by kernel_rfl
theorem d6d {d1 y} (h : r87 T.rf T.rb d1 = some y) : c87 T.rf d1 = some y := c8u.o h
def r86 (rf : T.RF) (rb : T.RB) (d1 : List XEq) : Option Bool :=
 bif decide ((((d1.length : Nat) : Int)) ≤ 200) then
  (c87 rf d1).bind fun y1 =>
  some (!y1)
 else
  some false
theorem c8t : EqF 86 fun a b => r86 a b := fun _ _ _ => by kernel_rfl
theorem d6c {d1 y} (h : r86 T.rf T.rb d1 = some y) : c86 T.rf d1 = some y := c8t.o h
def c0L (rf : T.RF) (rb : T.RB) (d1 : List XN) : Option Bool :=
 (c91 rf d1).bind fun y1 =>
 some (!y1)
theorem c2O : EqF 111 fun a b => c0L a b := fun _ _ _ => by kernel_rfl
theorem d0X {d1 y} (h : c0L T.rf T.rb d1 = some y) : c5C T.rf d1 = some y := c2O.o h
def b90 (rf : T.RF) (rb : T.RB) (d1 : List (List XN)) (d2 : Int) (d3 : Int) : Option (Int ⊕ Unit) :=
 bif decide (d3 < d2) then
  bif inb d3 d1.length then
   (nth d1 d3.toNat).bind fun x1 =>
   (c5C rf x1).bind fun y2 =>
   bif y2 then
   some (.inl d3)
   else
   k90 rb d1 d2 (IntKind.i64.wrap (d3 + 1))
  else
   none
 else
  some (.inr ())
theorem c7r : EqB 90 fun a b => U3 (b90 a b) := fun _ _ _ => by kernel_rfl
theorem c6i {d1 d2 d3 y} (h : b90 T.rf T.rb d1 d2 d3 = some y) : k90 T.rb d1 d2 d3 = some y := c7r.o h
def b8g (rf : T.RF) (rb : T.RB) (d1 : List (List XN)) : Option Int :=
 (k90 rb d1 (((d1.length : Nat) : Int)) 0).bind fun z1 =>
 match z1 with
 | .inl u2 =>
   some u2
 | .inr w3 =>
   some (-1)
theorem c2N : EqF 110 fun a b => b8g a b := fun _ _ _ => by kernel_rfl
theorem c4J {d1 y} (h : b8g T.rf T.rb d1 = some y) : b9s T.rf d1 = some y := c2N.o h
def b8f (rf : T.RF) (rb : T.RB) (d1 : List (List XN)) : Option Bool :=
 (b9s rf d1).bind fun y1 =>
 some (decide (y1 ≥ 0))
theorem c2M : EqF 109 fun a b => b8f a b := fun _ _ _ => by kernel_rfl
theorem d0W {d1 y} (h : b8f T.rf T.rb d1 = some y) : c5B T.rf d1 = some y := c2M.o h
def b8e (rf : T.RF) (rb : T.RB) (d1 : List (List XN)) : Option Bool :=
 bif decide ((((d1.length : Nat) : Int)) ≤ 200) then
  (c5B rf d1).bind fun y1 =>
  some (!y1)
 else
  some false
theorem c2L : EqF 108 fun a b => b8e a b := fun _ _ _ => by kernel_rfl
theorem d0V {d1 y} (h : b8e T.rf T.rb d1 = some y) : b4C T.rf d1 = some y := c2L.o h
def c0K (rf : T.RF) (rb : T.RB) (d1 : XIt) : Option Bool :=
 (c68 rf d1.2.1).bind fun y1 =>
 bif d1.2.2.1 == 1 then
  bif d1.1 == 1 then
   bif d1.1 == 1 then
   bif d1.2.1 == ([] : List UInt8) then
   bif d1.2.2.1 == 0 then
   (c91 rf d1.2.2.2.1).bind fun y2 =>
   bif y2 then
   some ((IntKind.i64.wrap ((((d1.2.2.2.2.1.length : Nat) : Int)) + (((d1.2.2.2.2.2.length : Nat) : Int)))) == 0)
   else
   some false
   else
   some false
   else
   some false
   else
   bif d1.1 == 3 then
   bif y1 then
   (c91 rf d1.2.2.2.1).bind fun y3 =>
   bif y3 then
   some ((IntKind.i64.wrap ((((d1.2.2.2.2.1.length : Nat) : Int)) + (((d1.2.2.2.2.2.length : Nat) : Int)))) == 0)
   else
   some false
   else
   some false
   else
   bif d1.1 == 4 then
   bif y1 then
   bif d1.2.2.1 == 0 then
   (c91 rf d1.2.2.2.1).bind fun y4 =>
   bif y4 then
   (c91 rf d1.2.2.2.2.1).bind fun y5 =>
   bif y5 then
   some ((((d1.2.2.2.2.2.length : Nat) : Int)) == 0)
   else
   some false
   else
   some false
   else
   some false
   else
   some false
   else
   bif d1.1 == 5 then
   bif y1 then
   bif d1.2.2.1 == 0 then
   bif (IntKind.i64.wrap ((((d1.2.2.2.1.length : Nat) : Int)) + (((d1.2.2.2.2.1.length : Nat) : Int)))) == 0 then
   (b4C rf d1.2.2.2.2.2).bind fun y6 =>
   some y6
   else
   some false
   else
   some false
   else
   some false
   else
   some false
  else
  bif d1.1 == 2 then
   bif d1.2.1 == ([] : List UInt8) then
   bif d1.2.2.1 == 0 then
   (c91 rf d1.2.2.2.1).bind fun y7 =>
   bif y7 then
   some ((IntKind.i64.wrap ((((d1.2.2.2.2.1.length : Nat) : Int)) + (((d1.2.2.2.2.2.length : Nat) : Int)))) == 0)
   else
   some false
   else
   some false
   else
   some false
  else
  bif d1.1 == 3 then
   bif y1 then
   (c91 rf d1.2.2.2.1).bind fun y8 =>
   bif y8 then
   some ((IntKind.i64.wrap ((((d1.2.2.2.2.1.length : Nat) : Int)) + (((d1.2.2.2.2.2.length : Nat) : Int)))) == 0)
   else
   some false
   else
   some false
  else
  bif d1.1 == 4 then
   bif y1 then
   bif d1.2.2.1 == 0 then
   (c91 rf d1.2.2.2.1).bind fun y9 =>
   bif y9 then
   (c91 rf d1.2.2.2.2.1).bind fun y10 =>
   bif y10 then
   some ((((d1.2.2.2.2.2.length : Nat) : Int)) == 0)
   else
   some false
   else
   some false
   else
   some false
   else
   some false
  else
  bif d1.1 == 5 then
   bif y1 then
   bif d1.2.2.1 == 0 then
   bif (IntKind.i64.wrap ((((d1.2.2.2.1.length : Nat) : Int)) + (((d1.2.2.2.2.1.length : Nat) : Int)))) == 0 then
   (b4C rf d1.2.2.2.2.2).bind fun y11 =>
   some y11
   else
   some false
   else
   some false
   else
   some false
  else
   some false
 else
 bif d1.1 == 1 then
  bif d1.1 == 1 then
   bif d1.2.1 == ([] : List UInt8) then
   bif d1.2.2.1 == 0 then
   (c91 rf d1.2.2.2.1).bind fun y12 =>
   bif y12 then
   some ((IntKind.i64.wrap ((((d1.2.2.2.2.1.length : Nat) : Int)) + (((d1.2.2.2.2.2.length : Nat) : Int)))) == 0)
   else
   some false
   else
   some false
   else
   some false
  else
  bif d1.1 == 3 then
   bif y1 then
   bif d1.2.2.1 == 2 then
   (c91 rf d1.2.2.2.1).bind fun y13 =>
   bif y13 then
   some ((IntKind.i64.wrap ((((d1.2.2.2.2.1.length : Nat) : Int)) + (((d1.2.2.2.2.2.length : Nat) : Int)))) == 0)
   else
   some false
   else
   some false
   else
   some false
  else
  bif d1.1 == 4 then
   bif y1 then
   bif d1.2.2.1 == 0 then
   (c91 rf d1.2.2.2.1).bind fun y14 =>
   bif y14 then
   (c91 rf d1.2.2.2.2.1).bind fun y15 =>
   bif y15 then
   some ((((d1.2.2.2.2.2.length : Nat) : Int)) == 0)
   else
   some false
   else
   some false
   else
   some false
   else
   some false
  else
  bif d1.1 == 5 then
   bif y1 then
   bif d1.2.2.1 == 0 then
   bif (IntKind.i64.wrap ((((d1.2.2.2.1.length : Nat) : Int)) + (((d1.2.2.2.2.1.length : Nat) : Int)))) == 0 then
   (b4C rf d1.2.2.2.2.2).bind fun y16 =>
   some y16
   else
   some false
   else
   some false
   else
   some false
  else
   some false
 else
 bif d1.1 == 2 then
  bif d1.2.1 == ([] : List UInt8) then
   bif d1.2.2.1 == 0 then
   (c91 rf d1.2.2.2.1).bind fun y17 =>
   bif y17 then
   some ((IntKind.i64.wrap ((((d1.2.2.2.2.1.length : Nat) : Int)) + (((d1.2.2.2.2.2.length : Nat) : Int)))) == 0)
   else
   some false
   else
   some false
  else
   some false
 else
 bif d1.1 == 3 then
  bif y1 then
   bif d1.2.2.1 == 2 then
   (c91 rf d1.2.2.2.1).bind fun y18 =>
   bif y18 then
   some ((IntKind.i64.wrap ((((d1.2.2.2.2.1.length : Nat) : Int)) + (((d1.2.2.2.2.2.length : Nat) : Int)))) == 0)
   else
   some false
   else
   some false
  else
   some false
 else
 bif d1.1 == 4 then
  bif y1 then
   bif d1.2.2.1 == 0 then
   (c91 rf d1.2.2.2.1).bind fun y19 =>
   bif y19 then
   (c91 rf d1.2.2.2.2.1).bind fun y20 =>
   bif y20 then
   some ((((d1.2.2.2.2.2.length : Nat) : Int)) == 0)
   else
   some false
   else
   some false
   else
   some false
  else
   some false
 else
 bif d1.1 == 5 then
  bif y1 then
   bif d1.2.2.1 == 0 then
   bif (IntKind.i64.wrap ((((d1.2.2.2.1.length : Nat) : Int)) + (((d1.2.2.2.2.1.length : Nat) : Int)))) == 0 then
   (b4C rf d1.2.2.2.2.2).bind fun y21 =>
   some y21
   else
   some false
   else
   some false
  else
   some false
 else
  some false
theorem c2K : EqF 107 fun a b => c0K a b := fun _ _ _ => by kernel_rfl
theorem d0U {d1 y} (h : c0K T.rf T.rb d1 = some y) : b6u T.rf d1 = some y := c2K.o h
def c0J (rf : T.RF) (rb : T.RB) (d1 : XIt) : Option Bool :=
 (b6u rf d1).bind fun y1 =>
 some (!y1)
theorem c2J : EqF 106 fun a b => c0J a b := fun _ _ _ => by kernel_rfl
theorem d0T {d1 y} (h : c0J T.rf T.rb d1 = some y) : c5A T.rf d1 = some y := c2J.o h
def b89 (rf : T.RF) (rb : T.RB) (d1 : List XIt) (d2 : Int) (d3 : Int) : Option (Int ⊕ Unit) :=
 bif decide (d3 < d2) then
  bif inb d3 d1.length then
   (nth d1 d3.toNat).bind fun x1 =>
   (c5A rf x1).bind fun y2 =>
   bif y2 then
   some (.inl d3)
   else
   k89 rb d1 d2 (IntKind.i64.wrap (d3 + 1))
  else
   none
 else
  some (.inr ())
theorem c7q : EqB 89 fun a b => U3 (b89 a b) := fun _ _ _ => by kernel_rfl
theorem c6h {d1 d2 d3 y} (h : b89 T.rf T.rb d1 d2 d3 = some y) : k89 T.rb d1 d2 d3 = some y := c7q.o h
def b8d (rf : T.RF) (rb : T.RB) (d1 : List XIt) : Option Int :=
 (k89 rb d1 (((d1.length : Nat) : Int)) 0).bind fun z1 =>
 match z1 with
 | .inl u2 =>
   some u2
 | .inr w3 =>
   some (-1)
theorem c2I : EqF 105 fun a b => b8d a b := fun _ _ _ => by kernel_rfl
theorem c4I {d1 y} (h : b8d T.rf T.rb d1 = some y) : b9r T.rf d1 = some y := c2I.o h
def b8c (rf : T.RF) (rb : T.RB) (d1 : List XIt) : Option Bool :=
 (b9r rf d1).bind fun y1 =>
 some (decide (y1 ≥ 0))
theorem c2H : EqF 104 fun a b => b8c a b := fun _ _ _ => by kernel_rfl
theorem d0S {d1 y} (h : b8c T.rf T.rb d1 = some y) : c5z T.rf d1 = some y := c2H.o h
def b8b (rf : T.RF) (rb : T.RB) (d1 : List XIt) : Option Bool :=
 bif decide ((((d1.length : Nat) : Int)) ≤ 200) then
  (c5z rf d1).bind fun y1 =>
  some (!y1)
 else
  some false
theorem c2G : EqF 103 fun a b => b8b a b := fun _ _ _ => by kernel_rfl
theorem d0R {d1 y} (h : b8b T.rf T.rb d1 = some y) : c5y T.rf d1 = some y := c2G.o h
def r80 (rf : T.RF) (rb : T.RB) (d1 : XUn) : Option Bool :=
 (c68 rf d1.2.1).bind fun y1 =>
 bif !y1 then
  some false
 else
  (c81 rf d1.2.2.1).bind fun y2 =>
  bif !y2 then
   some false
  else
   (c81 rf d1.2.2.2.2.2.1).bind fun y3 =>
   bif !y3 then
   some false
   else
   (c86 rf d1.2.2.2.2.2.2.1).bind fun y4 =>
   bif !y4 then
   some false
   else
   (c5y rf d1.2.2.2.2.2.2.2).bind fun y5 =>
   bif !y5 then
   some false
   else
   bif d1.1 then
   bif (d1.2.2.2.1 == ([] : List UInt8)) && (d1.2.2.2.2.1 == 0) then
   some ((IntKind.i64.wrap ((((d1.2.2.2.2.2.1.length : Nat) : Int)) + (((d1.2.2.2.2.2.2.1.length : Nat) : Int)))) == 0)
   else
   some false
   else
   (c85 rf (d1.2.2.2.1, d1.2.2.2.2.1)).bind fun y6 =>
   some y6
theorem c8n : EqF 80 fun a b => r80 a b := fun _ _ _ => by kernel_rfl
theorem d5X {d1 y} (h : r80 T.rf T.rb d1 = some y) : c80 T.rf d1 = some y := c8n.o h
def r79 (rf : T.RF) (rb : T.RB) (d1 : XUn) : Option Bool :=
 (c80 rf d1).bind fun y1 =>
 some (!y1)
theorem c8m : EqF 79 fun a b => r79 a b := fun _ _ _ => by kernel_rfl
theorem d5W {d1 y} (h : r79 T.rf T.rb d1 = some y) : c79 T.rf d1 = some y := c8m.o h
def b72 (rf : T.RF) (rb : T.RB) (d1 : List XUn) (d2 : Int) (d3 : Int) : Option (Int ⊕ Unit) :=
 bif decide (d3 < d2) then
  bif inb d3 d1.length then
   (nth d1 d3.toNat).bind fun x1 =>
   (c79 rf x1).bind fun y2 =>
   bif y2 then
   some (.inl d3)
   else
   k72 rb d1 d2 (IntKind.i64.wrap (d3 + 1))
  else
   none
 else
  some (.inr ())
theorem c7f : EqB 72 fun a b => U3 (b72 a b) := fun _ _ _ => by kernel_rfl
theorem c6c {d1 d2 d3 y} (h : b72 T.rf T.rb d1 d2 d3 = some y) : k72 T.rb d1 d2 d3 = some y := c7f.o h
def r78 (rf : T.RF) (rb : T.RB) (d1 : List XUn) : Option Int :=
 (k72 rb d1 (((d1.length : Nat) : Int)) 0).bind fun z1 =>
 match z1 with
 | .inl u2 =>
   some u2
 | .inr w3 =>
   some (-1)
theorem c8l : EqF 78 fun a b => r78 a b := fun _ _ _ => by kernel_rfl
theorem d1X {d1 y} (h : r78 T.rf T.rb d1 = some y) : c78 T.rf d1 = some y := c8l.o h
def r77 (rf : T.RF) (rb : T.RB) (d1 : List XUn) : Option Bool :=
 (c78 rf d1).bind fun y1 =>
 some (decide (y1 ≥ 0))
theorem c8k : EqF 77 fun a b => r77 a b := fun _ _ _ => by kernel_rfl
theorem d5V {d1 y} (h : r77 T.rf T.rb d1 = some y) : c77 T.rf d1 = some y := c8k.o h
def r76 (rf : T.RF) (rb : T.RB) (d1 : List XUn) : Option Bool :=
 bif decide ((((d1.length : Nat) : Int)) ≤ 200) then
  (c77 rf d1).bind fun y1 =>
  some (!y1)
 else
  some false
theorem c8j : EqF 76 fun a b => r76 a b := fun _ _ _ => by kernel_rfl
theorem d5U {d1 y} (h : r76 T.rf T.rb d1 = some y) : c76 T.rf d1 = some y := c8j.o h
def r67 (rf : T.RF) (rb : T.RB) (d1 : XPg) : Option Bool :=
 (c68 rf d1.2.1).bind fun y1 =>
 bif y1 then
  bif d1.2.2 == ([] : List UInt8) then
   (c76 rf d1.1).bind fun y2 =>
   some y2
  else
   (c68 rf d1.2.2).bind fun y3 =>
   bif y3 then
   (c76 rf d1.1).bind fun y4 =>
   some y4
   else
   some false
 else
  some false
theorem c8a : EqF 67 fun a b => r67 a b := fun _ _ _ => by kernel_rfl
theorem d5M {d1 y} (h : r67 T.rf T.rb d1 = some y) : c67 T.rf d1 = some y := c8a.o h
def b93 (rf : T.RF) (rb : T.RB) (d1 : List XK) (d2 : List (List UInt8)) (d3 : Int) (d4 : Int) : Option (List XK) :=
 bif decide (d4 < d3) then
  bif inb d4 d2.length then
   (nth d2 d4.toNat).bind fun x1 =>
   bif (Nat.ble (d1.length + 1) j4) && true then
   k93 rb (d1 ++ [(0, x1, 0)]) d2 d3 (IntKind.i64.wrap (d4 + 1))
   else
   none
  else
   none
 else
  some d1
theorem c7s : EqB 93 fun a b => U4 (b93 a b) := fun _ _ _ => by kernel_rfl
theorem d0L {d1 d2 d3 d4 y} (h : b93 T.rf T.rb d1 d2 d3 d4 = some y) : k93 T.rb d1 d2 d3 d4 = some y := c7s.o h
def c0N (rf : T.RF) (rb : T.RB) (d1 : List XK) (d2 : List (List UInt8)) : Option (List XK) :=
 (k93 rb d1 d2 (((d2.length : Nat) : Int)) 0).bind fun z1 =>
 some z1
theorem c2Q : EqF 113 fun a b => U2 (c0N a b) := fun _ _ _ => by kernel_rfl
theorem d0Z {d1 d2 y} (h : c0N T.rf T.rb d1 d2 = some y) : E0 T.rf d1 d2 = some y := c2Q.o h
def c0Q (rf : T.RF) (rb : T.RB) (d1 : List XK) (d2 : XPm) : Option (List XK) :=
 (E0 rf d1 [d2.1, ([58] : List UInt8)]).bind fun y1 =>
 bif d2.2 == 1 then
  (E0 rf y1 [([98, 111, 111, 108] : List UInt8)]).bind fun y2 =>
  some y2
 else
  (E0 rf y1 [([105, 110, 116] : List UInt8)]).bind fun y3 =>
  some y3
theorem c2T : EqF 116 fun a b => U2 (c0Q a b) := fun _ _ _ => by kernel_rfl
theorem d1c {d1 d2 y} (h : c0Q T.rf T.rb d1 d2 = some y) : b4D T.rf d1 d2 = some y := c2T.o h
def b95 (rf : T.RF) (rb : T.RB) (d1 : List XK) (d2 : List UInt8) (d3 : List XPm) (d4 : Int) (d5 : Int) : Option (List XK) :=
 bif decide (d5 < d4) then
  bif inb d5 d3.length then
   (nth d3 d5.toNat).bind fun x1 =>
   bif decide (d5 > 0) then
   (E0 rf d1 [d2]).bind fun y2 =>
   (b4D rf y2 x1).bind fun y3 =>
   k95 rb y3 d2 d3 d4 (IntKind.i64.wrap (d5 + 1))
   else
   (b4D rf d1 x1).bind fun y4 =>
   k95 rb y4 d2 d3 d4 (IntKind.i64.wrap (d5 + 1))
  else
   none
 else
  some d1
theorem c7t : EqB 95 fun a b => U5 (b95 a b) := fun _ _ _ => by kernel_rfl
theorem d0M {d1 d2 d3 d4 d5 y} (h : b95 T.rf T.rb d1 d2 d3 d4 d5 = some y) : k95 T.rb d1 d2 d3 d4 d5 = some y := c7t.o h
def c0P (rf : T.RF) (rb : T.RB) (d1 : List XK) (d2 : List XPm) (d3 : List UInt8) : Option (List XK) :=
 (k95 rb d1 d3 d2 (((d2.length : Nat) : Int)) 0).bind fun z1 =>
 some z1
theorem c2S : EqF 115 fun a b => U3 (c0P a b) := fun _ _ _ => by kernel_rfl
theorem d1b {d1 d2 d3 y} (h : c0P T.rf T.rb d1 d2 d3 = some y) : b9t T.rf d1 d2 d3 = some y := c2S.o h
def c0O (rf : T.RF) (rb : T.RB) (d1 : List XK) (d2 : List XPm) : Option (List XK) :=
 (E0 rf d1 [([40] : List UInt8)]).bind fun y1 =>
 (b9t rf y1 d2 ([59] : List UInt8)).bind fun y2 =>
 (E0 rf y2 [([41] : List UInt8)]).bind fun y3 =>
 some y3
theorem c2R : EqF 114 fun a b => U2 (c0O a b) := fun _ _ _ => by kernel_rfl
theorem d1a {d1 d2 y} (h : c0O T.rf T.rb d1 d2 = some y) : b6v T.rf d1 d2 = some y := c2R.o h
def c6l (rf : T.RF) (rb : T.RB) : Option (List UInt8 × Int × List UInt8 × Int × List UInt8 × Int × List UInt8 × Int × List UInt8 × Int × List UInt8 × Int × List UInt8 × Int × List UInt8 × Int × List UInt8 × Int × List UInt8 × Int × List UInt8 × Int × List UInt8 × Int × List UInt8 × Int × List UInt8 × Int × List UInt8 × Int × List UInt8 × Int × List UInt8 × Int × List UInt8 × Int × List UInt8 × Int × List UInt8 × Int × List UInt8 × Int × List UInt8 × Int × List UInt8 × Int × List UInt8 × Int × List UInt8 × Int × List UInt8 × Int × List UInt8 × XK) :=
 some (([] : List UInt8), (-1), ([] : List UInt8), 10, ([] : List UInt8), 10, ([] : List UInt8), 10, ([110, 111, 116] : List UInt8), 9, ([45] : List UInt8), 9, ([97, 110, 100] : List UInt8), 5, ([111, 114] : List UInt8), 4, ([120, 111, 114] : List UInt8), 4, ([61, 62] : List UInt8), 2, ([61] : List UInt8), 6, ([60, 62] : List UInt8), 6, ([60] : List UInt8), 6, ([60, 61] : List UInt8), 6, ([43] : List UInt8), 7, ([45] : List UInt8), 7, ([42] : List UInt8), 8, ([100, 105, 118] : List UInt8), 8, ([109, 111, 100] : List UInt8), 8, ([45, 62] : List UInt8), 1, ([115, 105, 110, 99, 101] : List UInt8), 3, ([112, 114, 101] : List UInt8), 9, ([111, 110, 99, 101] : List UInt8), 9, ([104, 105, 115, 116] : List UInt8), 9, ([112, 114, 101, 118] : List UInt8), 9, ([119, 105, 116, 104, 105, 110] : List UInt8), 9, ([105, 102] : List UInt8), 0, ([] : List UInt8), 10)
theorem c2Z : EqF 122 fun a b => U0 (c6l a b) := fun _ _ _ => by kernel_rfl
theorem d1h { y} (h : c6l T.rf T.rb = some y) : c6D T.rf = some y := c2Z.o h
def b5k (rf : T.RF) (rb : T.RB) (d1 : Int) : Option XPm :=
 bif decide (d1 < 0) then
  some (([] : List UInt8), (-1))
 else
 bif decide (d1 ≥ 28) then
  some (([] : List UInt8), (-1))
 else
  (c6D rf).bind fun y1 =>
  bif inb d1 28 then
   (nth [(y1.1, y1.2.1), (y1.2.2.1, y1.2.2.2.1), (y1.2.2.2.2.1, y1.2.2.2.2.2.1), (y1.2.2.2.2.2.2.1, y1.2.2.2.2.2.2.2.1), (y1.2.2.2.2.2.2.2.2.1, y1.2.2.2.2.2.2.2.2.2.1), (y1.2.2.2.2.2.2.2.2.2.2.1, y1.2.2.2.2.2.2.2.2.2.2.2.1), (y1.2.2.2.2.2.2.2.2.2.2.2.2.1, y1.2.2.2.2.2.2.2.2.2.2.2.2.2.1), (y1.2.2.2.2.2.2.2.2.2.2.2.2.2.2.1, y1.2.2.2.2.2.2.2.2.2.2.2.2.2.2.2.1), (y1.2.2.2.2.2.2.2.2.2.2.2.2.2.2.2.2.1, y1.2.2.2.2.2.2.2.2.2.2.2.2.2.2.2.2.2.1), (y1.2.2.2.2.2.2.2.2.2.2.2.2.2.2.2.2.2.2.1, y1.2.2.2.2.2.2.2.2.2.2.2.2.2.2.2.2.2.2.2.1), (y1.2.2.2.2.2.2.2.2.2.2.2.2.2.2.2.2.2.2.2.2.1, y1.2.2.2.2.2.2.2.2.2.2.2.2.2.2.2.2.2.2.2.2.2.1), (y1.2.2.2.2.2.2.2.2.2.2.2.2.2.2.2.2.2.2.2.2.2.2.1, y1.2.2.2.2.2.2.2.2.2.2.2.2.2.2.2.2.2.2.2.2.2.2.2.1), (y1.2.2.2.2.2.2.2.2.2.2.2.2.2.2.2.2.2.2.2.2.2.2.2.2.1, y1.2.2.2.2.2.2.2.2.2.2.2.2.2.2.2.2.2.2.2.2.2.2.2.2.2.1), (y1.2.2.2.2.2.2.2.2.2.2.2.2.2.2.2.2.2.2.2.2.2.2.2.2.2.2.1, y1.2.2.2.2.2.2.2.2.2.2.2.2.2.2.2.2.2.2.2.2.2.2.2.2.2.2.2.1), (y1.2.2.2.2.2.2.2.2.2.2.2.2.2.2.2.2.2.2.2.2.2.2.2.2.2.2.2.2.1, y1.2.2.2.2.2.2.2.2.2.2.2.2.2.2.2.2.2.2.2.2.2.2.2.2.2.2.2.2.2.1), (y1.2.2.2.2.2.2.2.2.2.2.2.2.2.2.2.2.2.2.2.2.2.2.2.2.2.2.2.2.2.2.1, y1.2.2.2.2.2.2.2.2.2.2.2.2.2.2.2.2.2.2.2.2.2.2.2.2.2.2.2.2.2.2.2.1), (y1.2.2.2.2.2.2.2.2.2.2.2.2.2.2.2.2.2.2.2.2.2.2.2.2.2.2.2.2.2.2.2.2.1, y1.2.2.2.2.2.2.2.2.2.2.2.2.2.2.2.2.2.2.2.2.2.2.2.2.2.2.2.2.2.2.2.2.2.1), (y1.2.2.2.2.2.2.2.2.2.2.2.2.2.2.2.2.2.2.2.2.2.2.2.2.2.2.2.2.2.2.2.2.2.2.1, y1.2.2.2.2.2.2.2.2.2.2.2.2.2.2.2.2.2.2.2.2.2.2.2.2.2.2.2.2.2.2.2.2.2.2.2.1), (y1.2.2.2.2.2.2.2.2.2.2.2.2.2.2.2.2.2.2.2.2.2.2.2.2.2.2.2.2.2.2.2.2.2.2.2.2.1, y1.2.2.2.2.2.2.2.2.2.2.2.2.2.2.2.2.2.2.2.2.2.2.2.2.2.2.2.2.2.2.2.2.2.2.2.2.2.1), (y1.2.2.2.2.2.2.2.2.2.2.2.2.2.2.2.2.2.2.2.2.2.2.2.2.2.2.2.2.2.2.2.2.2.2.2.2.2.2.1, y1.2.2.2.2.2.2.2.2.2.2.2.2.2.2.2.2.2.2.2.2.2.2.2.2.2.2.2.2.2.2.2.2.2.2.2.2.2.2.2.1), (y1.2.2.2.2.2.2.2.2.2.2.2.2.2.2.2.2.2.2.2.2.2.2.2.2.2.2.2.2.2.2.2.2.2.2.2.2.2.2.2.2.1, y1.2.2.2.2.2.2.2.2.2.2.2.2.2.2.2.2.2.2.2.2.2.2.2.2.2.2.2.2.2.2.2.2.2.2.2.2.2.2.2.2.2.1), (y1.2.2.2.2.2.2.2.2.2.2.2.2.2.2.2.2.2.2.2.2.2.2.2.2.2.2.2.2.2.2.2.2.2.2.2.2.2.2.2.2.2.2.1, y1.2.2.2.2.2.2.2.2.2.2.2.2.2.2.2.2.2.2.2.2.2.2.2.2.2.2.2.2.2.2.2.2.2.2.2.2.2.2.2.2.2.2.2.1), (y1.2.2.2.2.2.2.2.2.2.2.2.2.2.2.2.2.2.2.2.2.2.2.2.2.2.2.2.2.2.2.2.2.2.2.2.2.2.2.2.2.2.2.2.2.1, y1.2.2.2.2.2.2.2.2.2.2.2.2.2.2.2.2.2.2.2.2.2.2.2.2.2.2.2.2.2.2.2.2.2.2.2.2.2.2.2.2.2.2.2.2.2.1), (y1.2.2.2.2.2.2.2.2.2.2.2.2.2.2.2.2.2.2.2.2.2.2.2.2.2.2.2.2.2.2.2.2.2.2.2.2.2.2.2.2.2.2.2.2.2.2.1, y1.2.2.2.2.2.2.2.2.2.2.2.2.2.2.2.2.2.2.2.2.2.2.2.2.2.2.2.2.2.2.2.2.2.2.2.2.2.2.2.2.2.2.2.2.2.2.2.1), (y1.2.2.2.2.2.2.2.2.2.2.2.2.2.2.2.2.2.2.2.2.2.2.2.2.2.2.2.2.2.2.2.2.2.2.2.2.2.2.2.2.2.2.2.2.2.2.2.2.1, y1.2.2.2.2.2.2.2.2.2.2.2.2.2.2.2.2.2.2.2.2.2.2.2.2.2.2.2.2.2.2.2.2.2.2.2.2.2.2.2.2.2.2.2.2.2.2.2.2.2.1), (y1.2.2.2.2.2.2.2.2.2.2.2.2.2.2.2.2.2.2.2.2.2.2.2.2.2.2.2.2.2.2.2.2.2.2.2.2.2.2.2.2.2.2.2.2.2.2.2.2.2.2.1, y1.2.2.2.2.2.2.2.2.2.2.2.2.2.2.2.2.2.2.2.2.2.2.2.2.2.2.2.2.2.2.2.2.2.2.2.2.2.2.2.2.2.2.2.2.2.2.2.2.2.2.2.1), (y1.2.2.2.2.2.2.2.2.2.2.2.2.2.2.2.2.2.2.2.2.2.2.2.2.2.2.2.2.2.2.2.2.2.2.2.2.2.2.2.2.2.2.2.2.2.2.2.2.2.2.2.2.1, y1.2.2.2.2.2.2.2.2.2.2.2.2.2.2.2.2.2.2.2.2.2.2.2.2.2.2.2.2.2.2.2.2.2.2.2.2.2.2.2.2.2.2.2.2.2.2.2.2.2.2.2.2.2.1), y1.2.2.2.2.2.2.2.2.2.2.2.2.2.2.2.2.2.2.2.2.2.2.2.2.2.2.2.2.2.2.2.2.2.2.2.2.2.2.2.2.2.2.2.2.2.2.2.2.2.2.2.2.2.2] d1.toNat).bind fun x2 =>
   some x2
  else
   none
theorem c2Y : EqF 121 fun a b => b5k a b := fun _ _ _ => by kernel_rfl
theorem d1g {d1 y} (h : b5k T.rf T.rb d1 = some y) : b9v T.rf d1 = some y := c2Y.o h
def c0T (rf : T.RF) (rb : T.RB) (d1 : Int) : Option (List UInt8) :=
 bif a4n d1 then
  some (I3 d1)
 else
  none
theorem c3a : EqF 123 fun a b => c0T a b := fun _ _ _ => by kernel_rfl
theorem d1i {d1 y} (h : c0T T.rf T.rb d1 = some y) : b9w T.rf d1 = some y := c3a.o h
def b99 (rf : T.RF) (rb : T.RB) (d1 : List XN) (d2 : List XK) (d3 : List (List UInt8)) (d4 : Int) (d5 : Int) : Option (List XN × List XK) :=
 bif decide (d5 < d4) then
  bif inb d5 d3.length then
   (nth d3 d5.toNat).bind fun x1 =>
   bif (Nat.ble (d2.length + 1) j4) && true then
   k99 rb d1 (d2 ++ [(0, x1, 0)]) d3 d4 (IntKind.i64.wrap (d5 + 1))
   else
   none
  else
   none
 else
  some (d1, d2)
theorem c7u : EqB 99 fun a b => U5 (b99 a b) := fun _ _ _ => by kernel_rfl
theorem d0N {d1 d2 d3 d4 d5 y} (h : b99 T.rf T.rb d1 d2 d3 d4 d5 = some y) : k99 T.rb d1 d2 d3 d4 d5 = some y := c7u.o h
def c0U (rf : T.RF) (rb : T.RB) (d1 : List XN) (d2 : List XK) (d3 : List (List UInt8)) : Option (List XN × List XK) :=
 (k99 rb d1 d2 d3 (((d3.length : Nat) : Int)) 0).bind fun z1 =>
 some z1
theorem c3b : EqF 124 fun a b => U3 (c0U a b) := fun _ _ _ => by kernel_rfl
theorem d1j {d1 d2 d3 y} (h : c0U T.rf T.rb d1 d2 d3 = some y) : T5 T.rf d1 d2 d3 = some y := c3b.o h
def c6m (rf : T.RF) (rb : T.RB) (d1 : Bool) : Option (List UInt8) :=
 bif d1 then
  some ([116, 114, 117, 101] : List UInt8)
 else
  some ([102, 97, 108, 115, 101] : List UInt8)
theorem c3d : EqF 126 fun a b => c6m a b := fun _ _ _ => by kernel_rfl
theorem d1l {d1 y} (h : c6m T.rf T.rb d1 = some y) : c5G T.rf d1 = some y := c3d.o h
def c0V (rf : T.RF) (rb : T.RB) (d1 : Bool) : Option (List UInt8) :=
 (c5G rf d1).bind fun y1 =>
 some y1
theorem c3c : EqF 125 fun a b => c0V a b := fun _ _ _ => by kernel_rfl
theorem d1k {d1 y} (h : c0V T.rf T.rb d1 = some y) : c5F T.rf d1 = some y := c3c.o h
def b8h (rf : T.RF) (rb : T.RB) (d1 : List XN) (d2 : List XK) (d3 : Int) : Option (List XN × List XK) :=
 bif inb d3 d1.length then
  (nth d1 d3.toNat).bind fun x1 =>
  bif decide (x1.2.2.1 ≥ 0) then
   (b9x rf d1 d2 x1.2.2.1).bind fun y2 =>
   (T5 rf y2.1 y2.2 [([44] : List UInt8)]).bind fun y3 =>
   bif inb d3 y3.1.length then
   (nth y3.1 d3.toNat).bind fun x4 =>
   (a6k rf y3.1 y3.2 x4.2.1).bind fun y5 =>
   some y5
   else
   none
  else
  bif inb d3 d1.length then
   (nth d1 d3.toNat).bind fun x6 =>
   (a6k rf d1 d2 x6.2.1).bind fun y7 =>
   some y7
  else
   none
 else
  none
theorem c3e : EqF 127 fun a b => U3 (b8h a b) := fun _ _ _ => by kernel_rfl
theorem c4K {d1 d2 d3 y} (h : b8h T.rf T.rb d1 d2 d3 = some y) : b9x T.rf d1 d2 d3 = some y := c3e.o h
def c0X (rf : T.RF) (rb : T.RB) (d1 : Int) : Option Int :=
 (b9v rf d1).bind fun y1 =>
 some y1.2
theorem c3g : EqF 129 fun a b => c0X a b := fun _ _ _ => by kernel_rfl
theorem d1n {d1 y} (h : c0X T.rf T.rb d1 = some y) : c5H T.rf d1 = some y := c3g.o h
def c0W (rf : T.RF) (rb : T.RB) (d1 : List XN) (d2 : List XK) (d3 : Int) (d4 : Int) : Option (List XN × List XK) :=
 bif inb d3 d1.length then
  (nth d1 d3.toNat).bind fun x1 =>
  (c5H rf x1.1).bind fun y2 =>
  bif decide (y2 ≥ d4) then
   (a6k rf d1 d2 d3).bind fun y3 =>
   some y3
  else
   (T5 rf d1 d2 [([40] : List UInt8)]).bind fun y4 =>
   (a6k rf y4.1 y4.2 d3).bind fun y5 =>
   (T5 rf y5.1 y5.2 [([41] : List UInt8)]).bind fun y6 =>
   some y6
 else
  none
theorem c3f : EqF 128 fun a b => U4 (c0W a b) := fun _ _ _ => by kernel_rfl
theorem d1m {d1 d2 d3 d4 y} (h : c0W T.rf T.rb d1 d2 d3 d4 = some y) : a0N T.rf d1 d2 d3 d4 = some y := c3f.o h
def a4B (rf : T.RF) (rb : T.RB) (d1 : List XN) (d2 : List XK) (d3 : Int) : Option (List XN × List XK) :=
 bif inb d3 d1.length then
  (nth d1 d3.toNat).bind fun x1 =>
  (b9v rf x1.1).bind fun y2 =>
  bif x1.1 == 1 then
   (b9w rf x1.2.2.2.2.1).bind fun y3 =>
   (T5 rf d1 d2 [y3]).bind fun y4 =>
   some y4
  else
  bif x1.1 == 2 then
   (c5F rf (x1.2.2.2.2.1 == 1)).bind fun y5 =>
   (T5 rf d1 d2 [y5]).bind fun y6 =>
   some y6
  else
  bif x1.1 == 3 then
   (T5 rf d1 d2 [x1.2.2.2.2.2]).bind fun y7 =>
   some y7
  else
  bif x1.1 == 27 then
   (T5 rf d1 d2 [x1.2.2.2.2.2, ([40] : List UInt8)]).bind fun y8 =>
   bif decide (x1.2.1 ≥ 0) then
   (b9x rf y8.1 y8.2 x1.2.1).bind fun y9 =>
   (T5 rf y9.1 y9.2 [([41] : List UInt8)]).bind fun y10 =>
   some y10
   else
   (T5 rf y8.1 y8.2 [([41] : List UInt8)]).bind fun y11 =>
   some y11
  else
  bif x1.1 == 26 then
   (T5 rf d1 d2 [y2.1]).bind fun y12 =>
   (a6k rf y12.1 y12.2 x1.2.1).bind fun y13 =>
   (T5 rf y13.1 y13.2 [([116, 104, 101, 110] : List UInt8)]).bind fun y14 =>
   (a6k rf y14.1 y14.2 x1.2.2.1).bind fun y15 =>
   (T5 rf y15.1 y15.2 [([101, 108, 115, 101] : List UInt8)]).bind fun y16 =>
   (a6k rf y16.1 y16.2 x1.2.2.2.1).bind fun y17 =>
   some y17
  else
  bif y2.2 == 9 then
   (T5 rf d1 d2 [y2.1]).bind fun y18 =>
   bif x1.1 == 25 then
   (b9w rf x1.2.2.2.2.1).bind fun y19 =>
   (T5 rf y18.1 y18.2 [y19]).bind fun y20 =>
   (a0N rf y20.1 y20.2 x1.2.1 9).bind fun y21 =>
   some y21
   else
   (a0N rf y18.1 y18.2 x1.2.1 9).bind fun y22 =>
   some y22
  else
  bif decide (y2.2 ≤ 2) then
   bif y2.2 == 6 then
   (a0N rf d1 d2 x1.2.1 y2.2).bind fun y23 =>
   (T5 rf y23.1 y23.2 [y2.1]).bind fun y24 =>
   (a0N rf y24.1 y24.2 x1.2.2.1 y2.2).bind fun y25 =>
   some y25
   else
   (a0N rf d1 d2 x1.2.1 (IntKind.i64.wrap (y2.2 + 1))).bind fun y26 =>
   (T5 rf y26.1 y26.2 [y2.1]).bind fun y27 =>
   (a0N rf y27.1 y27.2 x1.2.2.1 y2.2).bind fun y28 =>
   some y28
  else
  bif y2.2 == 6 then
   (a0N rf d1 d2 x1.2.1 (IntKind.i64.wrap (y2.2 + 1))).bind fun y29 =>
   (T5 rf y29.1 y29.2 [y2.1]).bind fun y30 =>
   (a0N rf y30.1 y30.2 x1.2.2.1 (IntKind.i64.wrap (y2.2 + 1))).bind fun y31 =>
   some y31
  else
   (a0N rf d1 d2 x1.2.1 y2.2).bind fun y32 =>
   (T5 rf y32.1 y32.2 [y2.1]).bind fun y33 =>
   (a0N rf y33.1 y33.2 x1.2.2.1 (IntKind.i64.wrap (y2.2 + 1))).bind fun y34 =>
   some y34
 else
  none
theorem c2X : EqF 120 fun a b => U3 (a4B a b) := fun _ _ _ => by kernel_rfl
theorem a8X {d1 d2 d3 y} (h : a4B T.rf T.rb d1 d2 d3 = some y) : a6k T.rf d1 d2 d3 = some y := c2X.o h
def b8i (rf : T.RF) (rb : T.RB) (d1 : List XK) : Option (List UInt8) :=
 bif Nat.ble (s5 d1).length j4 then
  some (s5 d1)
 else
  none
theorem c3h : EqF 130 fun a b => b8i a b := fun _ _ _ => by kernel_rfl
theorem c4L {d1 y} (h : b8i T.rf T.rb d1 = some y) : b4E T.rf d1 = some y := c3h.o h
def c0S (rf : T.RF) (rb : T.RB) (d1 : List XN) : Option (List UInt8) :=
 (c91 rf d1).bind fun y1 =>
 bif !y1 then
  some ([] : List UInt8)
 else
  (a6k rf d1 [] (IntKind.i64.wrap ((((d1.length : Nat) : Int)) - 1))).bind fun y2 =>
  (b4E rf y2.2).bind fun y3 =>
  some y3
theorem c2W : EqF 119 fun a b => c0S a b := fun _ _ _ => by kernel_rfl
theorem d1f {d1 y} (h : c0S T.rf T.rb d1 = some y) : b9u T.rf d1 = some y := c2W.o h
def c0R (rf : T.RF) (rb : T.RB) (d1 : List XK) (d2 : List XN) : Option (List XK) :=
 (b9u rf d2).bind fun y1 =>
 (E0 rf d1 [y1]).bind fun y2 =>
 some y2
theorem c2V : EqF 118 fun a b => U2 (c0R a b) := fun _ _ _ => by kernel_rfl
theorem d1e {d1 d2 y} (h : c0R T.rf T.rb d1 d2 = some y) : a6j T.rf d1 d2 = some y := c2V.o h
def b5R (rf : T.RF) (rb : T.RB) (d1 : List XK) (d2 : List UInt8) (d3 : List (List XN)) (d4 : Int) (d5 : Int) : Option (List XK) :=
 bif decide (d5 < d4) then
  bif inb d5 d3.length then
   (nth d3 d5.toNat).bind fun x1 =>
   bif decide (d5 > 0) then
   (E0 rf d1 [d2]).bind fun y2 =>
   (a6j rf y2 x1).bind fun y3 =>
   b6V rb y3 d2 d3 d4 (IntKind.i64.wrap (d5 + 1))
   else
   (a6j rf d1 x1).bind fun y4 =>
   b6V rb y4 d2 d3 d4 (IntKind.i64.wrap (d5 + 1))
  else
   none
 else
  some d1
theorem c1M : EqB 101 fun a b => U5 (b5R a b) := fun _ _ _ => by kernel_rfl
theorem c4e {d1 d2 d3 d4 d5 y} (h : b5R T.rf T.rb d1 d2 d3 d4 d5 = some y) : b6V T.rb d1 d2 d3 d4 d5 = some y := c1M.o h
def c0Y (rf : T.RF) (rb : T.RB) (d1 : List XK) (d2 : List (List XN)) (d3 : List UInt8) : Option (List XK) :=
 (b6V rb d1 d3 d2 (((d2.length : Nat) : Int)) 0).bind fun z1 =>
 some z1
theorem c3i : EqF 131 fun a b => U3 (c0Y a b) := fun _ _ _ => by kernel_rfl
theorem d1o {d1 d2 d3 y} (h : c0Y T.rf T.rb d1 d2 d3 = some y) : c5I T.rf d1 d2 d3 = some y := c3i.o h
def b1k (rf : T.RF) (rb : T.RB) (d1 : List XK) (d2 : XIt) : Option (List XK) :=
 bif d2.1 == 1 then
  (E0 rf d1 [([97, 115, 115, 117, 109, 101] : List UInt8)]).bind fun y1 =>
  (a6j rf y1 d2.2.2.2.1).bind fun y2 =>
  (E0 rf y2 [([59] : List UInt8)]).bind fun y3 =>
  some y3
 else
 bif d2.1 == 2 then
  (E0 rf d1 [([103, 117, 97, 114, 97, 110, 116, 101, 101] : List UInt8)]).bind fun y4 =>
  (a6j rf y4 d2.2.2.2.1).bind fun y5 =>
  (E0 rf y5 [([59] : List UInt8)]).bind fun y6 =>
  some y6
 else
 bif d2.1 == 3 then
  (E0 rf d1 [([103, 104, 111, 115, 116] : List UInt8)]).bind fun y7 =>
  (b4D rf y7 (d2.2.1, d2.2.2.1)).bind fun y8 =>
  (E0 rf y8 [([61] : List UInt8)]).bind fun y9 =>
  (a6j rf y9 d2.2.2.2.1).bind fun y10 =>
  (E0 rf y10 [([59] : List UInt8)]).bind fun y11 =>
  some y11
 else
 bif d2.1 == 4 then
  (E0 rf d1 [([109, 111, 100, 101] : List UInt8), d2.2.1, ([114, 101, 113, 117, 105, 114, 101] : List UInt8)]).bind fun y12 =>
  (a6j rf y12 d2.2.2.2.1).bind fun y13 =>
  (E0 rf y13 [([101, 110, 115, 117, 114, 101] : List UInt8)]).bind fun y14 =>
  (a6j rf y14 d2.2.2.2.2.1).bind fun y15 =>
  (E0 rf y15 [([59] : List UInt8)]).bind fun y16 =>
  some y16
 else
 bif d2.1 == 5 then
  (E0 rf d1 [([105, 109, 112, 111, 114, 116] : List UInt8), d2.2.1, ([40] : List UInt8)]).bind fun y17 =>
  (c5I rf y17 d2.2.2.2.2.2 ([44] : List UInt8)).bind fun y18 =>
  (E0 rf y18 [([41] : List UInt8)]).bind fun y19 =>
  (E0 rf y19 [([59] : List UInt8)]).bind fun y20 =>
  some y20
 else
  (E0 rf d1 [([59] : List UInt8)]).bind fun y21 =>
  some y21
theorem c2U : EqF 117 fun a b => U2 (b1k a b) := fun _ _ _ => by kernel_rfl
theorem d1d {d1 d2 y} (h : b1k T.rf T.rb d1 d2 = some y) : c5E T.rf d1 d2 = some y := c2U.o h
def b5S (rf : T.RF) (rb : T.RB) (d1 : XUn) (d2 : List XK) : Option ((XUn × List XK) ⊕ (XUn × List XK)) :=
 (b6X rb d2 d1.2.2.2.2.2.2.2 (((d1.2.2.2.2.2.2.2.length : Nat) : Int)) 0).bind fun z1 =>
 bif d1.1 then
  (E0 rf z1 [([101, 110, 100] : List UInt8)]).bind fun y2 =>
  (b4X rb d1 y2).bind fun z3 =>
  match z3 with
  | .inl u4 =>
    some (.inl u4)
  | .inr w5 =>
    some (.inr w5)
 else
 bif decide ((((d1.2.2.2.2.2.2.2.length : Nat) : Int)) > 0) then
  (E0 rf z1 [([101, 110, 100] : List UInt8)]).bind fun y6 =>
  (b4X rb d1 y6).bind fun z7 =>
  match z7 with
  | .inl u8 =>
    some (.inl u8)
  | .inr w9 =>
    some (.inr w9)
 else
  (b4X rb d1 z1).bind fun z10 =>
  match z10 with
  | .inl u11 =>
    some (.inl u11)
  | .inr w12 =>
    some (.inr w12)
theorem c1N : EqB 106 fun a b => U2 (b5S a b) := fun _ _ _ => by kernel_rfl
theorem c4f {d1 d2 y} (h : b5S T.rf T.rb d1 d2 = some y) : b6W T.rb d1 d2 = some y := c1N.o h
def b5T (rf : T.RF) (rb : T.RB) (d1 : List XK) (d2 : List XIt) (d3 : Int) (d4 : Int) : Option (List XK) :=
 bif decide (d4 < d3) then
  bif inb d4 d2.length then
   (nth d2 d4.toNat).bind fun x1 =>
   (c5E rf d1 x1).bind fun y2 =>
   b6X rb y2 d2 d3 (IntKind.i64.wrap (d4 + 1))
  else
   none
 else
  some d1
theorem c1O : EqB 107 fun a b => U4 (b5T a b) := fun _ _ _ => by kernel_rfl
theorem c4g {d1 d2 d3 d4 y} (h : b5T T.rf T.rb d1 d2 d3 d4 = some y) : b6X T.rb d1 d2 d3 d4 = some y := c1O.o h
def b4n (rf : T.RF) (rb : T.RB) (d1 : XUn) (d2 : List XK) : Option ((XUn × List XK) ⊕ (XUn × List XK)) :=
 bif d1.1 then
  some (.inl (d1, d2))
 else
 bif decide ((((d1.2.2.2.2.2.1.length : Nat) : Int)) > 0) then
  (E0 rf d2 [([118, 97, 114] : List UInt8)]).bind fun y1 =>
  (b9t rf y1 d1.2.2.2.2.2.1 ([59] : List UInt8)).bind fun y2 =>
  (E0 rf y2 [([59] : List UInt8)]).bind fun y3 =>
  (E0 rf y3 [([108, 101, 116] : List UInt8)]).bind fun y4 =>
  (b4Y rb y4 d1.2.2.2.2.2.2.1 (((d1.2.2.2.2.2.2.1.length : Nat) : Int)) 0).bind fun z5 =>
  (E0 rf z5 [([116, 101, 108] : List UInt8)]).bind fun y6 =>
  some (.inr (d1, y6))
 else
  (E0 rf d2 [([108, 101, 116] : List UInt8)]).bind fun y7 =>
  (b4Y rb y7 d1.2.2.2.2.2.2.1 (((d1.2.2.2.2.2.2.1.length : Nat) : Int)) 0).bind fun z8 =>
  (E0 rf z8 [([116, 101, 108] : List UInt8)]).bind fun y9 =>
  some (.inr (d1, y9))
theorem c1P : EqB 108 fun a b => U2 (b4n a b) := fun _ _ _ => by kernel_rfl
theorem b7L {d1 d2 y} (h : b4n T.rf T.rb d1 d2 = some y) : b4X T.rb d1 d2 = some y := c1P.o h
def b5U (rf : T.RF) (rb : T.RB) (d1 : List XK) (d2 : List XEq) (d3 : Int) (d4 : Int) : Option (List XK) :=
 bif decide (d4 < d3) then
  bif inb d4 d2.length then
   (nth d2 d4.toNat).bind fun x1 =>
   (E0 rf d1 [x1.1, ([61] : List UInt8)]).bind fun y2 =>
   (a6j rf y2 x1.2).bind fun y3 =>
   (E0 rf y3 [([59] : List UInt8)]).bind fun y4 =>
   b4Y rb y4 d2 d3 (IntKind.i64.wrap (d4 + 1))
  else
   none
 else
  some d1
theorem c1Q : EqB 109 fun a b => U4 (b5U a b) := fun _ _ _ => by kernel_rfl
theorem c4h {d1 d2 d3 d4 y} (h : b5U T.rf T.rb d1 d2 d3 d4 = some y) : b4Y T.rb d1 d2 d3 d4 = some y := c1Q.o h
def c0M (rf : T.RF) (rb : T.RB) (d1 : List XK) (d2 : XUn) : Option (List XK) :=
 bif d2.1 then
  (E0 rf d1 [([99, 111, 110, 116, 114, 97, 99, 116] : List UInt8), d2.2.1]).bind fun y1 =>
  (b6v rf y1 d2.2.2.1).bind fun y2 =>
  (b6W rb d2 y2).bind fun z3 =>
  match z3 with
  | .inl u4 =>
    some u4.2
  | .inr w5 =>
    some w5.2
 else
  (E0 rf d1 [([110, 111, 100, 101] : List UInt8), d2.2.1]).bind fun y6 =>
  (b6v rf y6 d2.2.2.1).bind fun y7 =>
  (E0 rf y7 [([114, 101, 116, 117, 114, 110, 115] : List UInt8)]).bind fun y8 =>
  (b6v rf y8 [(d2.2.2.2.1, d2.2.2.2.2.1)]).bind fun y9 =>
  bif decide ((((d2.2.2.2.2.2.2.2.length : Nat) : Int)) > 0) then
   (E0 rf y9 [([99, 111, 110, 116, 114, 97, 99, 116] : List UInt8)]).bind fun y10 =>
   (b6W rb d2 y10).bind fun z11 =>
   match z11 with
   | .inl u12 =>
     some u12.2
   | .inr w13 =>
     some w13.2
  else
   (b6W rb d2 y9).bind fun z14 =>
   match z14 with
   | .inl u15 =>
     some u15.2
   | .inr w16 =>
     some w16.2
theorem c2P : EqF 112 fun a b => U2 (c0M a b) := fun _ _ _ => by kernel_rfl
theorem d0Y {d1 d2 y} (h : c0M T.rf T.rb d1 d2 = some y) : c5D T.rf d1 d2 = some y := c2P.o h
def b5V (rf : T.RF) (rb : T.RB) (d1 : List XK) (d2 : List XUn) (d3 : Int) (d4 : Int) : Option (List XK) :=
 bif decide (d4 < d3) then
  bif inb d4 d2.length then
   (nth d2 d4.toNat).bind fun x1 =>
   (c5D rf d1 x1).bind fun y2 =>
   b6Y rb y2 d2 d3 (IntKind.i64.wrap (d4 + 1))
  else
   none
 else
  some d1
theorem c1R : EqB 110 fun a b => U4 (b5V a b) := fun _ _ _ => by kernel_rfl
theorem c4i {d1 d2 d3 d4 y} (h : b5V T.rf T.rb d1 d2 d3 d4 = some y) : b6Y T.rb d1 d2 d3 d4 = some y := c1R.o h
def r66 (rf : T.RF) (rb : T.RB) (d1 : XPg) : Option (List UInt8) :=
 (c67 rf d1).bind fun y1 =>
 bif !y1 then
  some ([] : List UInt8)
 else
  (b6Y rb [] d1.1 (((d1.1.length : Nat) : Int)) 0).bind fun z2 =>
  (E0 rf z2 [([109, 97, 105, 110] : List UInt8), d1.2.1, ([59] : List UInt8)]).bind fun y3 =>
  bif !(d1.2.2 == ([] : List UInt8)) then
   (E0 rf y3 [([102, 97, 108, 108, 98, 97, 99, 107] : List UInt8), d1.2.2, ([59] : List UInt8)]).bind fun y4 =>
   (b4E rf y4).bind fun y5 =>
   some y5
  else
   (b4E rf y3).bind fun y6 =>
   some y6
theorem c7Z : EqF 66 fun a b => r66 a b := fun _ _ _ => by kernel_rfl
theorem d5L {d1 y} (h : r66 T.rf T.rb d1 = some y) : c66 T.rf d1 = some y := c7Z.o h
def b8k (rf : T.RF) (rb : T.RB) (d1 : List XUn) : Option (List XUn) :=
 bif d1.isEmpty then
  j8 (
   some []
  ) (
   bif (Nat.ble (0 + d1.length) j4) && true then
   some ([] ++ d1)
   else
   none
  )
 else
 bif (Nat.ble (0 + d1.length) j4) && true then
  some ([] ++ d1)
 else
  none
def b8j (rf : T.RF) (rb : T.RB) (d1 : List XUn) : Option (List XUn) :=
 bif (Nat.ble (0 + d1.length) j4) && true then
  some ([] ++ d1)
 else
  none
theorem c3k : EqF 133 fun a b => b8k a b := fun _ _ _ => by kernel_rfl
theorem c5d (rf rb d1) : b8k rf rb d1 = b8j rf rb d1 := by
 unfold b8k b8j; cases d1 <;> first | exact l0 _ | rfl
theorem d1q {d1 y} (h : b8j T.rf T.rb d1 = some y) : c5J T.rf d1 = some y := c3k.o ((c5d _ _ _).trans h)
def b8m (rf : T.RF) (rb : T.RB) (d1 : List XPm) : Option (List XPm) :=
 bif d1.isEmpty then
  j8 (
   some []
  ) (
   bif (Nat.ble (0 + d1.length) j4) && true then
   some ([] ++ d1)
   else
   none
  )
 else
 bif (Nat.ble (0 + d1.length) j4) && true then
  some ([] ++ d1)
 else
  none
def b8l (rf : T.RF) (rb : T.RB) (d1 : List XPm) : Option (List XPm) :=
 bif (Nat.ble (0 + d1.length) j4) && true then
  some ([] ++ d1)
 else
  none
theorem c3l : EqF 134 fun a b => b8m a b := fun _ _ _ => by kernel_rfl
theorem c5e (rf rb d1) : b8m rf rb d1 = b8l rf rb d1 := by
 unfold b8m b8l; cases d1 <;> first | exact l0 _ | rfl
theorem d1r {d1 y} (h : b8l T.rf T.rb d1 = some y) : L3 T.rf d1 = some y := c3l.o ((c5e _ _ _).trans h)
def b8o (rf : T.RF) (rb : T.RB) (d1 : List XEq) : Option (List XEq) :=
 bif d1.isEmpty then
  j8 (
   some []
  ) (
   bif (Nat.ble (0 + d1.length) j4) && true then
   some ([] ++ d1)
   else
   none
  )
 else
 bif (Nat.ble (0 + d1.length) j4) && true then
  some ([] ++ d1)
 else
  none
def b8n (rf : T.RF) (rb : T.RB) (d1 : List XEq) : Option (List XEq) :=
 bif (Nat.ble (0 + d1.length) j4) && true then
  some ([] ++ d1)
 else
  none
theorem c3m : EqF 135 fun a b => b8o a b := fun _ _ _ => by kernel_rfl
theorem c5f (rf rb d1) : b8o rf rb d1 = b8n rf rb d1 := by
 unfold b8o b8n; cases d1 <;> first | exact l0 _ | rfl
theorem d1s {d1 y} (h : b8n T.rf T.rb d1 = some y) : a6l T.rf d1 = some y := c3m.o ((c5f _ _ _).trans h)
def b8q (rf : T.RF) (rb : T.RB) (d1 : List XIt) : Option (List XIt) :=
 bif d1.isEmpty then
  j8 (
   some []
  ) (
   bif (Nat.ble (0 + d1.length) j4) && true then
   some ([] ++ d1)
   else
   none
  )
 else
 bif (Nat.ble (0 + d1.length) j4) && true then
  some ([] ++ d1)
 else
  none
def b8p (rf : T.RF) (rb : T.RB) (d1 : List XIt) : Option (List XIt) :=
 bif (Nat.ble (0 + d1.length) j4) && true then
  some ([] ++ d1)
 else
  none
theorem c3n : EqF 136 fun a b => b8q a b := fun _ _ _ => by kernel_rfl
theorem c5g (rf rb d1) : b8q rf rb d1 = b8p rf rb d1 := by
 unfold b8q b8p; cases d1 <;> first | exact l0 _ | rfl
theorem d1t {d1 y} (h : b8p T.rf T.rb d1 = some y) : b9y T.rf d1 = some y := c3n.o ((c5g _ _ _).trans h)
def b5W (rf : T.RF) (rb : T.RB) (d1 : List XN) (d2 : List Int) (d3 : List XN) (d4 : Int) (d5 : Int) : Option (List Int × List XN) :=
 bif decide (d5 < d4) then
  bif inb d5 d2.length then
   (nth d2 d5.toNat).bind fun x1 =>
   (b9z rf d1 d3 x1).bind fun y2 =>
   bif inb d5 d2.length then
   bif Nat.blt d5.toNat d2.length then
   b9Z rb y2 (m5 d2 d5.toNat (IntKind.i64.wrap ((((y2.length : Nat) : Int)) - 1))) d3 d4 (IntKind.i64.wrap (d5 + 1))
   else
   none
   else
   none
  else
   none
 else
  some (d2, d1)
theorem c1S : EqB 120 fun a b => U5 (b5W a b) := fun _ _ _ => by kernel_rfl
theorem c4j {d1 d2 d3 d4 d5 y} (h : b5W T.rf T.rb d1 d2 d3 d4 d5 = some y) : b9Z T.rb d1 d2 d3 d4 d5 = some y := c1S.o h
def c1c (rf : T.RF) (rb : T.RB) (d1 : List XN) (d2 : List XN) (d3 : Int) : Option (List XN) :=
 bif inb d3 d2.length then
  (nth d2 d3.toNat).bind fun x1 =>
  (c94 rf x1).bind fun y2 =>
  (b9Z rb d1 y2 d2 (((y2.length : Nat) : Int)) 0).bind fun z3 =>
  bif inb d3 d2.length then
   (nth d2 d3.toNat).bind fun x4 =>
   (c95 rf x4 z3.1).bind fun y5 =>
   bif (Nat.ble (z3.2.length + 1) j4) && true then
   some (z3.2 ++ [y5])
   else
   none
  else
   none
 else
  none
theorem c3q : EqF 139 fun a b => U3 (c1c a b) := fun _ _ _ => by kernel_rfl
theorem d1w {d1 d2 d3 y} (h : c1c T.rf T.rb d1 d2 d3 = some y) : b9z T.rf d1 d2 d3 = some y := c3q.o h
def c1b (rf : T.RF) (rb : T.RB) (d1 : List XN) (d2 : Int) : Option (List XN) :=
 bif decide (d2 < 0) then
  some []
 else
 bif decide (d2 ≥ (((d1.length : Nat) : Int))) then
  some []
 else
  (c92 rf d1).bind fun y1 =>
  bif !y1 then
   some []
  else
   (b9z rf [] d1 d2).bind fun y2 =>
   some y2
theorem c3p : EqF 138 fun a b => U2 (c1b a b) := fun _ _ _ => by kernel_rfl
theorem d1v {d1 d2 y} (h : c1b T.rf T.rb d1 d2 = some y) : c5K T.rf d1 d2 = some y := c3p.o h
def c1a (rf : T.RF) (rb : T.RB) (d1 : List XN) : Option (List XN) :=
 (c5K rf d1 (IntKind.i64.wrap ((((d1.length : Nat) : Int)) - 1))).bind fun y1 =>
 some y1
theorem c3o : EqF 137 fun a b => c1a a b := fun _ _ _ => by kernel_rfl
theorem d1u {d1 y} (h : c1a T.rf T.rb d1 = some y) : K4 T.rf d1 = some y := c3o.o h
def b8s (rf : T.RF) (rb : T.RB) (d1 : List (List XN)) : Option (List (List XN)) :=
 bif d1.isEmpty then
  j8 (
   some []
  ) (
   bif (Nat.ble (0 + d1.length) j4) && true then
   some ([] ++ d1)
   else
   none
  )
 else
 bif (Nat.ble (0 + d1.length) j4) && true then
  some ([] ++ d1)
 else
  none
def b8r (rf : T.RF) (rb : T.RB) (d1 : List (List XN)) : Option (List (List XN)) :=
 bif (Nat.ble (0 + d1.length) j4) && true then
  some ([] ++ d1)
 else
  none
theorem c3r : EqF 140 fun a b => b8s a b := fun _ _ _ => by kernel_rfl
theorem c5h (rf rb d1) : b8s rf rb d1 = b8r rf rb d1 := by
 unfold b8s b8r; cases d1 <;> first | exact l0 _ | rfl
theorem d1x {d1 y} (h : b8r T.rf T.rb d1 = some y) : b9A T.rf d1 = some y := c3r.o ((c5h _ _ _).trans h)
def Z2 (rf : T.RF) (rb : T.RB) (d1 : List UInt8) (d2 : List UInt8) (d3 : List XUn) (d4 : Int) (d5 : Int) (w1 : XUn) (w2 : List XPm) (w3 : List XPm) (w4 : List XEq) : Option (List UInt8 × List UInt8 × List XUn) :=
 (b9y rf w1.2.2.2.2.2.2.2).bind fun q5 =>
 (nth d3 d5.toNat).bind fun q6 =>
 bif Nat.beq d5.toNat (d3.take d5.toNat).length && true then
  bif Nat.beq d5.toNat (d3.take d5.toNat).length && true then
   bif Nat.beq d5.toNat (d3.take d5.toNat).length && true then
   (c0a rb (d3.take d5.toNat) q6.1 q6.2.1 q6.2.2.2.1 q6.2.2.2.2.1 (d3.drop (d5.toNat + 1)) w2 w3 w4 q5 (((d5.toNat : Nat) : Int))).bind fun q7 =>
   b6Z rb d1 d2 (q7.1 ++ (q7.2.1, q7.2.2.1, q7.2.2.2.2.2.2.1, q7.2.2.2.1, q7.2.2.2.2.1, q7.2.2.2.2.2.2.2) :: q7.2.2.2.2.2.1) d4 (IntKind.i64.wrap (d5 + 1))
   else
   none
  else
   none
 else
  none
def a4b (rf : T.RF) (rb : T.RB) (d1 : List UInt8) (d2 : List UInt8) (d3 : List XUn) (d4 : Int) (d5 : Int) (w1 : XUn) (w2 : XUn) (w3 : List XPm) : Option (List UInt8 × List UInt8 × List XUn) :=
 j8 (
  (L3 rf w1.2.2.2.2.2.1).bind fun q4 =>
  j8 (
   (a6l rf w2.2.2.2.2.2.2.1).bind fun q5 =>
   (nth d3 d5.toNat).bind fun q6 =>
   Z2 rf rb d1 d2 d3 d4 d5 q6 w3 q4 q5
  ) (
   (nth d3 d5.toNat).bind fun q5 =>
   (a6l rf w2.2.2.2.2.2.2.1).bind fun q6 =>
   Z2 rf rb d1 d2 d3 d4 d5 q5 w3 q4 q6
  )
 ) (
  (nth d3 d5.toNat).bind fun q4 =>
  (L3 rf w1.2.2.2.2.2.1).bind fun q5 =>
  (a6l rf w2.2.2.2.2.2.2.1).bind fun q6 =>
  Z2 rf rb d1 d2 d3 d4 d5 q4 w3 q5 q6
 )
def F3 (rf : T.RF) (rb : T.RB) (d1 : List UInt8) (d2 : List UInt8) (d3 : List XUn) (d4 : Int) (d5 : Int) (w1 : XUn) (w2 : XUn) (w3 : XUn) (w4 : List XPm) : Option (List UInt8 × List UInt8 × List XUn) :=
 (L3 rf w1.2.2.2.2.2.1).bind fun q5 =>
 (a6l rf w2.2.2.2.2.2.2.1).bind fun q6 =>
 Z2 rf rb d1 d2 d3 d4 d5 w3 w4 q5 q6
def a4c (rf : T.RF) (rb : T.RB) (d1 : List UInt8) (d2 : List UInt8) (d3 : List XUn) (d4 : Int) (d5 : Int) (w1 : XUn) (w2 : XUn) (w3 : List XPm) : Option (List UInt8 × List UInt8 × List XUn) :=
 j8 (
  (L3 rf w1.2.2.2.2.2.1).bind fun q4 =>
  (nth d3 d5.toNat).bind fun q5 =>
  (a6l rf q5.2.2.2.2.2.2.1).bind fun q6 =>
  Z2 rf rb d1 d2 d3 d4 d5 w2 w3 q4 q6
 ) (
  (nth d3 d5.toNat).bind fun q4 =>
  F3 rf rb d1 d2 d3 d4 d5 w1 q4 w2 w3
 )
def a9s (rf : T.RF) (rb : T.RB) (d1 : List UInt8) (d2 : List UInt8) (d3 : List XUn) (d4 : Int) (d5 : Int) (w1 : XUn) (w2 : List XPm) : Option (List UInt8 × List UInt8 × List XUn) :=
 j8 (
  (L3 rf w1.2.2.2.2.2.1).bind fun q3 =>
  j8 (
   (nth d3 d5.toNat).bind fun q4 =>
   j8 (
   (a6l rf q4.2.2.2.2.2.2.1).bind fun q5 =>
   (nth d3 d5.toNat).bind fun q6 =>
   Z2 rf rb d1 d2 d3 d4 d5 q6 w2 q3 q5
   ) (
   (nth d3 d5.toNat).bind fun q5 =>
   (a6l rf q4.2.2.2.2.2.2.1).bind fun q6 =>
   Z2 rf rb d1 d2 d3 d4 d5 q5 w2 q3 q6
   )
  ) (
   (nth d3 d5.toNat).bind fun q4 =>
   (nth d3 d5.toNat).bind fun q5 =>
   (a6l rf q5.2.2.2.2.2.2.1).bind fun q6 =>
   Z2 rf rb d1 d2 d3 d4 d5 q4 w2 q3 q6
  )
 ) (
  j8 (
   (nth d3 d5.toNat).bind fun q3 =>
   a4b rf rb d1 d2 d3 d4 d5 w1 q3 w2
  ) (
   (nth d3 d5.toNat).bind fun q3 =>
   a4c rf rb d1 d2 d3 d4 d5 w1 q3 w2
  )
 )
def a2w (rf : T.RF) (rb : T.RB) (d1 : List UInt8) (d2 : List UInt8) (d3 : List XUn) (d4 : Int) (d5 : Int) (w1 : XUn) (w2 : XUn) (w3 : XUn) : Option (List UInt8 × List UInt8 × List XUn) :=
 j8 (
  (L3 rf w1.2.2.1).bind fun q4 =>
  (nth d3 d5.toNat).bind fun q5 =>
  F3 rf rb d1 d2 d3 d4 d5 q5 w2 w3 q4
 ) (
  (nth d3 d5.toNat).bind fun q4 =>
  (L3 rf w1.2.2.1).bind fun q5 =>
  F3 rf rb d1 d2 d3 d4 d5 q4 w2 w3 q5
 )
def a2x (rf : T.RF) (rb : T.RB) (d1 : List UInt8) (d2 : List UInt8) (d3 : List XUn) (d4 : Int) (d5 : Int) (w1 : XUn) (w2 : XUn) (w3 : XUn) : Option (List UInt8 × List UInt8 × List XUn) :=
 j8 (
  (L3 rf w1.2.2.1).bind fun q4 =>
  a4b rf rb d1 d2 d3 d4 d5 w2 w3 q4
 ) (
  (nth d3 d5.toNat).bind fun q4 =>
  (L3 rf w1.2.2.1).bind fun q5 =>
  F3 rf rb d1 d2 d3 d4 d5 w2 w3 q4 q5
 )
def a2y (rf : T.RF) (rb : T.RB) (d1 : List UInt8) (d2 : List UInt8) (d3 : List XUn) (d4 : Int) (d5 : Int) (w1 : XUn) (w2 : XUn) (w3 : XUn) : Option (List UInt8 × List UInt8 × List XUn) :=
 j8 (
  (L3 rf w1.2.2.1).bind fun q4 =>
  a4c rf rb d1 d2 d3 d4 d5 w2 w3 q4
 ) (
  (nth d3 d5.toNat).bind fun q4 =>
  (L3 rf w1.2.2.1).bind fun q5 =>
  F3 rf rb d1 d2 d3 d4 d5 w2 q4 w3 q5
 )
def b5X (rf : T.RF) (rb : T.RB) (d1 : List UInt8) (d2 : List UInt8) (d3 : List XUn) (d4 : Int) (d5 : Int) : Option (List UInt8 × List UInt8 × List XUn) :=
 bif decide (d5 < d4) then
  bif inb d5 d3.length then
   j8 (
   (nth d3 d5.toNat).bind fun x1 =>
   j8 (
   (L3 rf x1.2.2.1).bind fun y2 =>
   j8 (
   (nth d3 d5.toNat).bind fun x3 =>
   a9s rf rb d1 d2 d3 d4 d5 x3 y2
   ) (
   j8 (
   (nth d3 d5.toNat).bind fun x3 =>
   j8 (
   (nth d3 d5.toNat).bind fun x4 =>
   a4b rf rb d1 d2 d3 d4 d5 x4 x3 y2
   ) (
   (nth d3 d5.toNat).bind fun x4 =>
   (nth d3 d5.toNat).bind fun x5 =>
   F3 rf rb d1 d2 d3 d4 d5 x5 x3 x4 y2
   )
   ) (
   (nth d3 d5.toNat).bind fun x3 =>
   j8 (
   (nth d3 d5.toNat).bind fun x4 =>
   a4c rf rb d1 d2 d3 d4 d5 x4 x3 y2
   ) (
   (nth d3 d5.toNat).bind fun x4 =>
   (nth d3 d5.toNat).bind fun x5 =>
   F3 rf rb d1 d2 d3 d4 d5 x5 x4 x3 y2
   )
   )
   )
   ) (
   j8 (
   (nth d3 d5.toNat).bind fun x2 =>
   j8 (
   (L3 rf x1.2.2.1).bind fun y3 =>
   a9s rf rb d1 d2 d3 d4 d5 x2 y3
   ) (
   j8 (
   (nth d3 d5.toNat).bind fun x3 =>
   a2x rf rb d1 d2 d3 d4 d5 x1 x2 x3
   ) (
   (nth d3 d5.toNat).bind fun x3 =>
   a2y rf rb d1 d2 d3 d4 d5 x1 x2 x3
   )
   )
   ) (
   j8 (
   (nth d3 d5.toNat).bind fun x2 =>
   j8 (
   (L3 rf x1.2.2.1).bind fun y3 =>
   j8 (
   (nth d3 d5.toNat).bind fun x4 =>
   a4b rf rb d1 d2 d3 d4 d5 x4 x2 y3
   ) (
   (nth d3 d5.toNat).bind fun x4 =>
   (nth d3 d5.toNat).bind fun x5 =>
   F3 rf rb d1 d2 d3 d4 d5 x5 x2 x4 y3
   )
   ) (
   j8 (
   (nth d3 d5.toNat).bind fun x3 =>
   a2x rf rb d1 d2 d3 d4 d5 x1 x3 x2
   ) (
   (nth d3 d5.toNat).bind fun x3 =>
   a2w rf rb d1 d2 d3 d4 d5 x1 x2 x3
   )
   )
   ) (
   (nth d3 d5.toNat).bind fun x2 =>
   j8 (
   (L3 rf x1.2.2.1).bind fun y3 =>
   j8 (
   (nth d3 d5.toNat).bind fun x4 =>
   a4c rf rb d1 d2 d3 d4 d5 x4 x2 y3
   ) (
   (nth d3 d5.toNat).bind fun x4 =>
   (nth d3 d5.toNat).bind fun x5 =>
   F3 rf rb d1 d2 d3 d4 d5 x5 x4 x2 y3
   )
   ) (
   j8 (
   (nth d3 d5.toNat).bind fun x3 =>
   a2y rf rb d1 d2 d3 d4 d5 x1 x3 x2
   ) (
   (nth d3 d5.toNat).bind fun x3 =>
   a2w rf rb d1 d2 d3 d4 d5 x1 x3 x2
   )
   )
   )
   )
   )
   ) (
   j8 (
   (nth d3 d5.toNat).bind fun x1 =>
   j8 (
   (nth d3 d5.toNat).bind fun x2 =>
   j8 (
   (L3 rf x2.2.2.1).bind fun y3 =>
   a9s rf rb d1 d2 d3 d4 d5 x1 y3
   ) (
   j8 (
   (nth d3 d5.toNat).bind fun x3 =>
   a2x rf rb d1 d2 d3 d4 d5 x2 x1 x3
   ) (
   (nth d3 d5.toNat).bind fun x3 =>
   a2y rf rb d1 d2 d3 d4 d5 x2 x1 x3
   )
   )
   ) (
   j8 (
   (nth d3 d5.toNat).bind fun x2 =>
   j8 (
   (nth d3 d5.toNat).bind fun x3 =>
   a2x rf rb d1 d2 d3 d4 d5 x3 x1 x2
   ) (
   (nth d3 d5.toNat).bind fun x3 =>
   (nth d3 d5.toNat).bind fun x4 =>
   (L3 rf x4.2.2.1).bind fun y5 =>
   F3 rf rb d1 d2 d3 d4 d5 x1 x2 x3 y5
   )
   ) (
   (nth d3 d5.toNat).bind fun x2 =>
   j8 (
   (nth d3 d5.toNat).bind fun x3 =>
   a2y rf rb d1 d2 d3 d4 d5 x3 x1 x2
   ) (
   (nth d3 d5.toNat).bind fun x3 =>
   (nth d3 d5.toNat).bind fun x4 =>
   (L3 rf x4.2.2.1).bind fun y5 =>
   F3 rf rb d1 d2 d3 d4 d5 x1 x3 x2 y5
   )
   )
   )
   ) (
   j8 (
   (nth d3 d5.toNat).bind fun x1 =>
   j8 (
   (nth d3 d5.toNat).bind fun x2 =>
   j8 (
   (L3 rf x2.2.2.1).bind fun y3 =>
   j8 (
   (nth d3 d5.toNat).bind fun x4 =>
   a4b rf rb d1 d2 d3 d4 d5 x4 x1 y3
   ) (
   (nth d3 d5.toNat).bind fun x4 =>
   (nth d3 d5.toNat).bind fun x5 =>
   F3 rf rb d1 d2 d3 d4 d5 x5 x1 x4 y3
   )
   ) (
   j8 (
   (nth d3 d5.toNat).bind fun x3 =>
   a2x rf rb d1 d2 d3 d4 d5 x2 x3 x1
   ) (
   (nth d3 d5.toNat).bind fun x3 =>
   a2w rf rb d1 d2 d3 d4 d5 x2 x1 x3
   )
   )
   ) (
   j8 (
   (nth d3 d5.toNat).bind fun x2 =>
   j8 (
   (nth d3 d5.toNat).bind fun x3 =>
   a2x rf rb d1 d2 d3 d4 d5 x3 x2 x1
   ) (
   (nth d3 d5.toNat).bind fun x3 =>
   (nth d3 d5.toNat).bind fun x4 =>
   (L3 rf x4.2.2.1).bind fun y5 =>
   F3 rf rb d1 d2 d3 d4 d5 x2 x1 x3 y5
   )
   ) (
   (nth d3 d5.toNat).bind fun x2 =>
   j8 (
   (nth d3 d5.toNat).bind fun x3 =>
   a2w rf rb d1 d2 d3 d4 d5 x3 x1 x2
   ) (
   (nth d3 d5.toNat).bind fun x3 =>
   (nth d3 d5.toNat).bind fun x4 =>
   (L3 rf x4.2.2.1).bind fun y5 =>
   F3 rf rb d1 d2 d3 d4 d5 x3 x1 x2 y5
   )
   )
   )
   ) (
   (nth d3 d5.toNat).bind fun x1 =>
   j8 (
   (nth d3 d5.toNat).bind fun x2 =>
   j8 (
   (L3 rf x2.2.2.1).bind fun y3 =>
   j8 (
   (nth d3 d5.toNat).bind fun x4 =>
   a4c rf rb d1 d2 d3 d4 d5 x4 x1 y3
   ) (
   (nth d3 d5.toNat).bind fun x4 =>
   (nth d3 d5.toNat).bind fun x5 =>
   F3 rf rb d1 d2 d3 d4 d5 x5 x4 x1 y3
   )
   ) (
   j8 (
   (nth d3 d5.toNat).bind fun x3 =>
   a2y rf rb d1 d2 d3 d4 d5 x2 x3 x1
   ) (
   (nth d3 d5.toNat).bind fun x3 =>
   a2w rf rb d1 d2 d3 d4 d5 x2 x3 x1
   )
   )
   ) (
   j8 (
   (nth d3 d5.toNat).bind fun x2 =>
   j8 (
   (nth d3 d5.toNat).bind fun x3 =>
   a2y rf rb d1 d2 d3 d4 d5 x3 x2 x1
   ) (
   (nth d3 d5.toNat).bind fun x3 =>
   (nth d3 d5.toNat).bind fun x4 =>
   (L3 rf x4.2.2.1).bind fun y5 =>
   F3 rf rb d1 d2 d3 d4 d5 x2 x3 x1 y5
   )
   ) (
   (nth d3 d5.toNat).bind fun x2 =>
   j8 (
   (nth d3 d5.toNat).bind fun x3 =>
   a2w rf rb d1 d2 d3 d4 d5 x3 x2 x1
   ) (
   (nth d3 d5.toNat).bind fun x3 =>
   (nth d3 d5.toNat).bind fun x4 =>
   (L3 rf x4.2.2.1).bind fun y5 =>
   F3 rf rb d1 d2 d3 d4 d5 x3 x2 x1 y5
   )
   )
   )
   )
   )
   )
  else
   none
 else
  some (d1, d2, d3)
def b4o (rf : T.RF) (rb : T.RB) (d1 : List UInt8) (d2 : List UInt8) (d3 : List XUn) (d4 : Int) (d5 : Int) : Option (List UInt8 × List UInt8 × List XUn) :=
 bif decide (d5 < d4) then
  bif inb d5 d3.length then
   (nth d3 d5.toNat).bind fun f1 =>
   bif Nat.beq d5.toNat (d3.take d5.toNat).length && true then
   (L3 rf f1.2.2.1).bind fun q1 =>
   (L3 rf f1.2.2.2.2.2.1).bind fun q2 =>
   (a6l rf f1.2.2.2.2.2.2.1).bind fun q3 =>
   (b9y rf f1.2.2.2.2.2.2.2).bind fun q4 =>
   (c0a rb (d3.take d5.toNat) f1.1 f1.2.1 f1.2.2.2.1 f1.2.2.2.2.1 (d3.drop (d5.toNat + 1)) q1 q2 q3 q4 (((d5.toNat : Nat) : Int))).bind fun q5 =>
   b6Z rb d1 d2 (q5.1 ++ (q5.2.1, q5.2.2.1, q5.2.2.2.2.2.2.1, q5.2.2.2.1, q5.2.2.2.2.1, q5.2.2.2.2.2.2.2) :: q5.2.2.2.2.2.1) d4 (IntKind.i64.wrap (d5 + 1))
   else
   none
  else
   none
 else
  some (d1, d2, d3)
theorem c1T : EqB 170 fun a b => U5 (b5X a b) := fun _ _ _ => by kernel_rfl
theorem c4W (rf rb d1 d2 d3 d4 d5) : b5X rf rb d1 d2 d3 d4 d5 = b4o rf rb d1 d2 d3 d4 d5 := by
 unfold b5X b4o a2y a2x a2w a9s a4c F3 a4b Z2; cases hh0 : nth d3 d5.toNat <;> cases hh1 : Nat.beq d5.toNat (d3.take d5.toNat).length && true <;> simp only [hh0, hh1, bind_some, Option.bind_none, Option.bind_fun_none, cond_true, cond_false, D4, l0]
theorem c4k {d1 d2 d3 d4 d5 y} (h : b4o T.rf T.rb d1 d2 d3 d4 d5 = some y) : b6Z T.rb d1 d2 d3 d4 d5 = some y := c1T.o ((c4W _ _ _ _ _ _ _).trans h)
def b9m (rf : T.RF) (rb : T.RB) (d1 : List XUn) (d2 : Bool) (d3 : List UInt8) (d4 : List UInt8) (d5 : Int) (d6 : List XUn) (d7 : List XPm) (d8 : List XPm) (d9 : List XEq) (d10 : List XIt) (d11 : Int) : Option (List XUn × Bool × List UInt8 × List UInt8 × Int × List XUn × List XPm × List XPm × List XEq × List XIt) :=
 bif Nat.beq d11.toNat d1.length then
  (b7a rb d1 d2 d3 d4 d5 d6 d7 d8 d9 d10 (((d11.toNat : Nat) : Int)) (((d9.length : Nat) : Int)) 0).bind fun z1 =>
  bif Nat.beq d11.toNat z1.1.length then
   (b7b rb z1.1 z1.2.1 z1.2.2.1 z1.2.2.2.1 z1.2.2.2.2.1 z1.2.2.2.2.2.1 z1.2.2.2.2.2.2.1 z1.2.2.2.2.2.2.2.1 z1.2.2.2.2.2.2.2.2.1 z1.2.2.2.2.2.2.2.2.2 (((d11.toNat : Nat) : Int)) (((z1.2.2.2.2.2.2.2.2.2.length : Nat) : Int)) 0).bind fun z2 =>
   some z2
  else
   none
 else
  none
theorem c1U : EqB 171 fun a b => U11 (b9m a b) := fun _ _ _ => by kernel_rfl
theorem d0C {d1 d2 d3 d4 d5 d6 d7 d8 d9 d10 d11 y} (h : b9m T.rf T.rb d1 d2 d3 d4 d5 d6 d7 d8 d9 d10 d11 = some y) : c0a T.rb d1 d2 d3 d4 d5 d6 d7 d8 d9 d10 d11 = some y := c1U.o h
def a6b (rf : T.RF) (rb : T.RB) (d1 : List XUn) (d2 : Bool) (d3 : List UInt8) (d4 : List UInt8) (d5 : Int) (d6 : List XUn) (d7 : List XPm) (d8 : List XPm) (d9 : List XEq) (d10 : List XIt) (d11 : Int) (d12 : Int) (d13 : Int) (w1 : List XN) : Option (List XUn × Bool × List UInt8 × List UInt8 × Int × List XUn × List XPm × List XPm × List XEq × List XIt) :=
 bif inb d13 d9.length then
  (nth d9 d13.toNat).bind fun q2 =>
  b7a rb d1 d2 d3 d4 d5 d6 d7 d8 ((d9.take d13.toNat) ++ (q2.1, w1) :: (d9.drop (d13.toNat + 1))) d10 (((d11.toNat : Nat) : Int)) d12 (IntKind.i64.wrap (d13 + 1))
 else
  none
def b5Y (rf : T.RF) (rb : T.RB) (d1 : List XUn) (d2 : Bool) (d3 : List UInt8) (d4 : List UInt8) (d5 : Int) (d6 : List XUn) (d7 : List XPm) (d8 : List XPm) (d9 : List XEq) (d10 : List XIt) (d11 : Int) (d12 : Int) (d13 : Int) : Option (List XUn × Bool × List UInt8 × List UInt8 × Int × List XUn × List XPm × List XPm × List XEq × List XIt) :=
 bif decide (d13 < d12) then
  j8 (
   bif Nat.beq d11.toNat d1.length then
   bif Nat.beq d11.toNat d1.length then
   bif inb d13 d9.length then
   (nth d9 d13.toNat).bind fun x1 =>
   (K4 rf x1.2).bind fun y2 =>
   a6b rf rb d1 d2 d3 d4 d5 d6 d7 d8 d9 d10 d11 d12 d13 y2
   else
   none
   else
   none
   else
   none
  ) (
   bif Nat.beq d11.toNat d1.length then
   bif inb d13 d9.length then
   j8 (
   bif Nat.beq d11.toNat d1.length then
   (nth d9 d13.toNat).bind fun x1 =>
   (K4 rf x1.2).bind fun y2 =>
   a6b rf rb d1 d2 d3 d4 d5 d6 d7 d8 d9 d10 d11 d12 d13 y2
   else
   none
   ) (
   (nth d9 d13.toNat).bind fun x1 =>
   j8 (
   bif Nat.beq d11.toNat d1.length then
   (K4 rf x1.2).bind fun y2 =>
   a6b rf rb d1 d2 d3 d4 d5 d6 d7 d8 d9 d10 d11 d12 d13 y2
   else
   none
   ) (
   (K4 rf x1.2).bind fun y2 =>
   bif Nat.beq d11.toNat d1.length then
   a6b rf rb d1 d2 d3 d4 d5 d6 d7 d8 d9 d10 d11 d12 d13 y2
   else
   none
   )
   )
   else
   none
   else
   none
  )
 else
  some (d1, d2, d3, d4, d5, d6, d7, d8, d9, d10)
def b4p (rf : T.RF) (rb : T.RB) (d1 : List XUn) (d2 : Bool) (d3 : List UInt8) (d4 : List UInt8) (d5 : Int) (d6 : List XUn) (d7 : List XPm) (d8 : List XPm) (d9 : List XEq) (d10 : List XIt) (d11 : Int) (d12 : Int) (d13 : Int) : Option (List XUn × Bool × List UInt8 × List UInt8 × Int × List XUn × List XPm × List XPm × List XEq × List XIt) :=
 bif decide (d13 < d12) then
  bif Nat.beq d11.toNat d1.length then
   bif inb d13 d9.length then
   (nth d9 d13.toNat).bind fun f1 =>
   (K4 rf f1.2).bind fun q1 =>
   b7a rb d1 d2 d3 d4 d5 d6 d7 d8 ((d9.take d13.toNat) ++ (f1.1, q1) :: (d9.drop (d13.toNat + 1))) d10 (((d11.toNat : Nat) : Int)) d12 (IntKind.i64.wrap (d13 + 1))
   else
   none
  else
   none
 else
  some (d1, d2, d3, d4, d5, d6, d7, d8, d9, d10)
theorem c1V : EqB 172 fun a b => U13 (b5Y a b) := fun _ _ _ => by kernel_rfl
theorem c4X (rf rb d1 d2 d3 d4 d5 d6 d7 d8 d9 d10 d11 d12 d13) : b5Y rf rb d1 d2 d3 d4 d5 d6 d7 d8 d9 d10 d11 d12 d13 = b4p rf rb d1 d2 d3 d4 d5 d6 d7 d8 d9 d10 d11 d12 d13 := by
 unfold b5Y b4p a6b; cases hh0 : Nat.beq d11.toNat d1.length <;> cases hh1 : inb d13 d9.length <;> cases hh2 : nth d9 d13.toNat <;> simp only [hh0, hh1, hh2, bind_some, Option.bind_none, Option.bind_fun_none, cond_true, cond_false, D4, l0]
theorem c4l {d1 d2 d3 d4 d5 d6 d7 d8 d9 d10 d11 d12 d13 y} (h : b4p T.rf T.rb d1 d2 d3 d4 d5 d6 d7 d8 d9 d10 d11 d12 d13 = some y) : b7a T.rb d1 d2 d3 d4 d5 d6 d7 d8 d9 d10 d11 d12 d13 = some y := c1V.o ((c4X _ _ _ _ _ _ _ _ _ _ _ _ _ _ _).trans h)
def a6c (rf : T.RF) (rb : T.RB) (d1 : List XUn) (d2 : Bool) (d3 : List UInt8) (d4 : List UInt8) (d5 : Int) (d6 : List XUn) (d7 : List XPm) (d8 : List XPm) (d9 : List XEq) (d10 : List XIt) (d11 : Int) (d12 : Int) (d13 : Int) (w1 : XIt) (w2 : List XN) (w3 : List XN) : Option (List XUn × Bool × List UInt8 × List UInt8 × Int × List XUn × List XPm × List XPm × List XEq × List XIt) :=
 (b9A rf w1.2.2.2.2.2).bind fun q4 =>
 (nth d10 d13.toNat).bind fun q5 =>
 bif Nat.beq d13.toNat (d10.take d13.toNat).length && true then
  bif Nat.beq d13.toNat (d10.take d13.toNat).length && true then
   (c0b rb (d10.take d13.toNat) q5.1 q5.2.1 q5.2.2.1 (d10.drop (d13.toNat + 1)) w2 w3 q4 (((d13.toNat : Nat) : Int))).bind fun q6 =>
   b7b rb d1 d2 d3 d4 d5 d6 d7 d8 d9 (q6.1 ++ (q6.2.1, q6.2.2.1, q6.2.2.2.1, q6.2.2.2.2.2) :: q6.2.2.2.2.1) (((d11.toNat : Nat) : Int)) d12 (IntKind.i64.wrap (d13 + 1))
  else
   none
 else
  none
def M1 (rf : T.RF) (rb : T.RB) (d1 : List XUn) (d2 : Bool) (d3 : List UInt8) (d4 : List UInt8) (d5 : Int) (d6 : List XUn) (d7 : List XPm) (d8 : List XPm) (d9 : List XEq) (d10 : List XIt) (d11 : Int) (d12 : Int) (d13 : Int) (w1 : XIt) (w2 : XIt) (w3 : List XN) : Option (List XUn × Bool × List UInt8 × List UInt8 × Int × List XUn × List XPm × List XPm × List XEq × List XIt) :=
 (K4 rf w1.2.2.2.2.1).bind fun q4 =>
 a6c rf rb d1 d2 d3 d4 d5 d6 d7 d8 d9 d10 d11 d12 d13 w2 w3 q4
def b5Z (rf : T.RF) (rb : T.RB) (d1 : List XUn) (d2 : Bool) (d3 : List UInt8) (d4 : List UInt8) (d5 : Int) (d6 : List XUn) (d7 : List XPm) (d8 : List XPm) (d9 : List XEq) (d10 : List XIt) (d11 : Int) (d12 : Int) (d13 : Int) : Option (List XUn × Bool × List UInt8 × List UInt8 × Int × List XUn × List XPm × List XPm × List XEq × List XIt) :=
 bif decide (d13 < d12) then
  bif Nat.beq d11.toNat d1.length then
   bif inb d13 d10.length then
   j8 (
   (nth d10 d13.toNat).bind fun x1 =>
   j8 (
   (K4 rf x1.2.2.2.1).bind fun y2 =>
   j8 (
   (nth d10 d13.toNat).bind fun x3 =>
   j8 (
   (K4 rf x3.2.2.2.2.1).bind fun y4 =>
   (nth d10 d13.toNat).bind fun x5 =>
   a6c rf rb d1 d2 d3 d4 d5 d6 d7 d8 d9 d10 d11 d12 d13 x5 y2 y4
   ) (
   (nth d10 d13.toNat).bind fun x4 =>
   M1 rf rb d1 d2 d3 d4 d5 d6 d7 d8 d9 d10 d11 d12 d13 x3 x4 y2
   )
   ) (
   (nth d10 d13.toNat).bind fun x3 =>
   (nth d10 d13.toNat).bind fun x4 =>
   M1 rf rb d1 d2 d3 d4 d5 d6 d7 d8 d9 d10 d11 d12 d13 x4 x3 y2
   )
   ) (
   j8 (
   (nth d10 d13.toNat).bind fun x2 =>
   j8 (
   (K4 rf x1.2.2.2.1).bind fun y3 =>
   j8 (
   (K4 rf x2.2.2.2.2.1).bind fun y4 =>
   (nth d10 d13.toNat).bind fun x5 =>
   a6c rf rb d1 d2 d3 d4 d5 d6 d7 d8 d9 d10 d11 d12 d13 x5 y3 y4
   ) (
   (nth d10 d13.toNat).bind fun x4 =>
   M1 rf rb d1 d2 d3 d4 d5 d6 d7 d8 d9 d10 d11 d12 d13 x2 x4 y3
   )
   ) (
   (nth d10 d13.toNat).bind fun x3 =>
   (K4 rf x1.2.2.2.1).bind fun y4 =>
   M1 rf rb d1 d2 d3 d4 d5 d6 d7 d8 d9 d10 d11 d12 d13 x2 x3 y4
   )
   ) (
   (nth d10 d13.toNat).bind fun x2 =>
   j8 (
   (K4 rf x1.2.2.2.1).bind fun y3 =>
   (nth d10 d13.toNat).bind fun x4 =>
   M1 rf rb d1 d2 d3 d4 d5 d6 d7 d8 d9 d10 d11 d12 d13 x4 x2 y3
   ) (
   (nth d10 d13.toNat).bind fun x3 =>
   (K4 rf x1.2.2.2.1).bind fun y4 =>
   M1 rf rb d1 d2 d3 d4 d5 d6 d7 d8 d9 d10 d11 d12 d13 x3 x2 y4
   )
   )
   )
   ) (
   j8 (
   (nth d10 d13.toNat).bind fun x1 =>
   j8 (
   (nth d10 d13.toNat).bind fun x2 =>
   j8 (
   (K4 rf x2.2.2.2.1).bind fun y3 =>
   j8 (
   (K4 rf x1.2.2.2.2.1).bind fun y4 =>
   (nth d10 d13.toNat).bind fun x5 =>
   a6c rf rb d1 d2 d3 d4 d5 d6 d7 d8 d9 d10 d11 d12 d13 x5 y3 y4
   ) (
   (nth d10 d13.toNat).bind fun x4 =>
   M1 rf rb d1 d2 d3 d4 d5 d6 d7 d8 d9 d10 d11 d12 d13 x1 x4 y3
   )
   ) (
   (nth d10 d13.toNat).bind fun x3 =>
   (K4 rf x2.2.2.2.1).bind fun y4 =>
   M1 rf rb d1 d2 d3 d4 d5 d6 d7 d8 d9 d10 d11 d12 d13 x1 x3 y4
   )
   ) (
   (nth d10 d13.toNat).bind fun x2 =>
   (nth d10 d13.toNat).bind fun x3 =>
   (K4 rf x3.2.2.2.1).bind fun y4 =>
   M1 rf rb d1 d2 d3 d4 d5 d6 d7 d8 d9 d10 d11 d12 d13 x1 x2 y4
   )
   ) (
   (nth d10 d13.toNat).bind fun x1 =>
   j8 (
   (nth d10 d13.toNat).bind fun x2 =>
   j8 (
   (K4 rf x2.2.2.2.1).bind fun y3 =>
   (nth d10 d13.toNat).bind fun x4 =>
   M1 rf rb d1 d2 d3 d4 d5 d6 d7 d8 d9 d10 d11 d12 d13 x4 x1 y3
   ) (
   (nth d10 d13.toNat).bind fun x3 =>
   (K4 rf x2.2.2.2.1).bind fun y4 =>
   M1 rf rb d1 d2 d3 d4 d5 d6 d7 d8 d9 d10 d11 d12 d13 x3 x1 y4
   )
   ) (
   (nth d10 d13.toNat).bind fun x2 =>
   (nth d10 d13.toNat).bind fun x3 =>
   (K4 rf x3.2.2.2.1).bind fun y4 =>
   M1 rf rb d1 d2 d3 d4 d5 d6 d7 d8 d9 d10 d11 d12 d13 x2 x1 y4
   )
   )
   )
   else
   none
  else
   none
 else
  some (d1, d2, d3, d4, d5, d6, d7, d8, d9, d10)
def b4q (rf : T.RF) (rb : T.RB) (d1 : List XUn) (d2 : Bool) (d3 : List UInt8) (d4 : List UInt8) (d5 : Int) (d6 : List XUn) (d7 : List XPm) (d8 : List XPm) (d9 : List XEq) (d10 : List XIt) (d11 : Int) (d12 : Int) (d13 : Int) : Option (List XUn × Bool × List UInt8 × List UInt8 × Int × List XUn × List XPm × List XPm × List XEq × List XIt) :=
 bif decide (d13 < d12) then
  bif Nat.beq d11.toNat d1.length then
   bif inb d13 d10.length then
   (nth d10 d13.toNat).bind fun f1 =>
   bif Nat.beq d13.toNat (d10.take d13.toNat).length && true then
   (K4 rf f1.2.2.2.1).bind fun q1 =>
   (K4 rf f1.2.2.2.2.1).bind fun q2 =>
   (b9A rf f1.2.2.2.2.2).bind fun q3 =>
   (c0b rb (d10.take d13.toNat) f1.1 f1.2.1 f1.2.2.1 (d10.drop (d13.toNat + 1)) q1 q2 q3 (((d13.toNat : Nat) : Int))).bind fun q4 =>
   b7b rb d1 d2 d3 d4 d5 d6 d7 d8 d9 (q4.1 ++ (q4.2.1, q4.2.2.1, q4.2.2.2.1, q4.2.2.2.2.2) :: q4.2.2.2.2.1) (((d11.toNat : Nat) : Int)) d12 (IntKind.i64.wrap (d13 + 1))
   else
   none
   else
   none
  else
   none
 else
  some (d1, d2, d3, d4, d5, d6, d7, d8, d9, d10)
theorem c1W : EqB 173 fun a b => U13 (b5Z a b) := fun _ _ _ => by kernel_rfl
theorem c4Y (rf rb d1 d2 d3 d4 d5 d6 d7 d8 d9 d10 d11 d12 d13) : b5Z rf rb d1 d2 d3 d4 d5 d6 d7 d8 d9 d10 d11 d12 d13 = b4q rf rb d1 d2 d3 d4 d5 d6 d7 d8 d9 d10 d11 d12 d13 := by
 unfold b5Z b4q M1 a6c; cases hh0 : nth d10 d13.toNat <;> cases hh1 : Nat.beq d13.toNat (d10.take d13.toNat).length && true <;> simp only [hh0, hh1, bind_some, Option.bind_none, Option.bind_fun_none, cond_true, cond_false, D4, l0]
theorem c4m {d1 d2 d3 d4 d5 d6 d7 d8 d9 d10 d11 d12 d13 y} (h : b4q T.rf T.rb d1 d2 d3 d4 d5 d6 d7 d8 d9 d10 d11 d12 d13 = some y) : b7b T.rb d1 d2 d3 d4 d5 d6 d7 d8 d9 d10 d11 d12 d13 = some y := c1W.o ((c4Y _ _ _ _ _ _ _ _ _ _ _ _ _ _ _).trans h)
def b9n (rf : T.RF) (rb : T.RB) (d1 : List XIt) (d2 : Int) (d3 : List UInt8) (d4 : Int) (d5 : List XIt) (d6 : List XN) (d7 : List XN) (d8 : List (List XN)) (d9 : Int) : Option (List XIt × Int × List UInt8 × Int × List XIt × List XN × List XN × List (List XN)) :=
 bif Nat.beq d9.toNat d1.length then
  (b0R rb d1 d2 d3 d4 d5 d6 d7 d8 (((d9.toNat : Nat) : Int)) (((d8.length : Nat) : Int)) 0).bind fun z1 =>
  some z1
 else
  none
theorem c1X : EqB 174 fun a b => U9 (b9n a b) := fun _ _ _ => by kernel_rfl
theorem d0D {d1 d2 d3 d4 d5 d6 d7 d8 d9 y} (h : b9n T.rf T.rb d1 d2 d3 d4 d5 d6 d7 d8 d9 = some y) : c0b T.rb d1 d2 d3 d4 d5 d6 d7 d8 d9 = some y := c1X.o h
def b6a (rf : T.RF) (rb : T.RB) (d1 : List XIt) (d2 : Int) (d3 : List UInt8) (d4 : Int) (d5 : List XIt) (d6 : List XN) (d7 : List XN) (d8 : List (List XN)) (d9 : Int) (d10 : Int) (d11 : Int) : Option (List XIt × Int × List UInt8 × Int × List XIt × List XN × List XN × List (List XN)) :=
 bif decide (d11 < d10) then
  j8 (
   bif Nat.beq d9.toNat d1.length then
   bif Nat.beq d9.toNat d1.length then
   bif inb d11 d8.length then
   (nth d8 d11.toNat).bind fun x1 =>
   (K4 rf x1).bind fun y2 =>
   bif inb d11 d8.length then
   bif Nat.blt d11.toNat d8.length then
   b0R rb d1 d2 d3 d4 d5 d6 d7 (m5 d8 d11.toNat y2) (((d9.toNat : Nat) : Int)) d10 (IntKind.i64.wrap (d11 + 1))
   else
   none
   else
   none
   else
   none
   else
   none
   else
   none
  ) (
   bif Nat.beq d9.toNat d1.length then
   bif inb d11 d8.length then
   j8 (
   bif Nat.beq d9.toNat d1.length then
   (nth d8 d11.toNat).bind fun x1 =>
   (K4 rf x1).bind fun y2 =>
   bif inb d11 d8.length then
   bif Nat.blt d11.toNat d8.length then
   b0R rb d1 d2 d3 d4 d5 d6 d7 (m5 d8 d11.toNat y2) (((d9.toNat : Nat) : Int)) d10 (IntKind.i64.wrap (d11 + 1))
   else
   none
   else
   none
   else
   none
   ) (
   (nth d8 d11.toNat).bind fun x1 =>
   j8 (
   bif Nat.beq d9.toNat d1.length then
   (K4 rf x1).bind fun y2 =>
   bif inb d11 d8.length then
   bif Nat.blt d11.toNat d8.length then
   b0R rb d1 d2 d3 d4 d5 d6 d7 (m5 d8 d11.toNat y2) (((d9.toNat : Nat) : Int)) d10 (IntKind.i64.wrap (d11 + 1))
   else
   none
   else
   none
   else
   none
   ) (
   (K4 rf x1).bind fun y2 =>
   bif Nat.beq d9.toNat d1.length then
   bif inb d11 d8.length then
   bif Nat.blt d11.toNat d8.length then
   b0R rb d1 d2 d3 d4 d5 d6 d7 (m5 d8 d11.toNat y2) (((d9.toNat : Nat) : Int)) d10 (IntKind.i64.wrap (d11 + 1))
   else
   none
   else
   none
   else
   none
   )
   )
   else
   none
   else
   none
  )
 else
  some (d1, d2, d3, d4, d5, d6, d7, d8)
def b4r (rf : T.RF) (rb : T.RB) (d1 : List XIt) (d2 : Int) (d3 : List UInt8) (d4 : Int) (d5 : List XIt) (d6 : List XN) (d7 : List XN) (d8 : List (List XN)) (d9 : Int) (d10 : Int) (d11 : Int) : Option (List XIt × Int × List UInt8 × Int × List XIt × List XN × List XN × List (List XN)) :=
 bif decide (d11 < d10) then
  bif Nat.beq d9.toNat d1.length then
   bif inb d11 d8.length then
   (nth d8 d11.toNat).bind fun f1 =>
   bif Nat.blt d11.toNat d8.length then
   (K4 rf f1).bind fun q1 =>
   b0R rb d1 d2 d3 d4 d5 d6 d7 (m5 d8 d11.toNat q1) (((d9.toNat : Nat) : Int)) d10 (IntKind.i64.wrap (d11 + 1))
   else
   none
   else
   none
  else
   none
 else
  some (d1, d2, d3, d4, d5, d6, d7, d8)
theorem c1Y : EqB 175 fun a b => U11 (b6a a b) := fun _ _ _ => by kernel_rfl
theorem c4Z (rf rb d1 d2 d3 d4 d5 d6 d7 d8 d9 d10 d11) : b6a rf rb d1 d2 d3 d4 d5 d6 d7 d8 d9 d10 d11 = b4r rf rb d1 d2 d3 d4 d5 d6 d7 d8 d9 d10 d11 := by
 unfold b6a b4r; cases hh0 : Nat.beq d9.toNat d1.length <;> cases hh1 : inb d11 d8.length <;> cases hh2 : nth d8 d11.toNat <;> cases hh3 : Nat.blt d11.toNat d8.length <;> simp only [hh0, hh1, hh2, hh3, bind_some, Option.bind_none, Option.bind_fun_none, cond_true, cond_false, D4, l0]
theorem c4n {d1 d2 d3 d4 d5 d6 d7 d8 d9 d10 d11 y} (h : b4r T.rf T.rb d1 d2 d3 d4 d5 d6 d7 d8 d9 d10 d11 = some y) : b0R T.rb d1 d2 d3 d4 d5 d6 d7 d8 d9 d10 d11 = some y := c1Y.o ((c4Z _ _ _ _ _ _ _ _ _ _ _ _ _).trans h)
def c0Z (rf : T.RF) (rb : T.RB) (d1 : XPg) : Option XPg :=
 (c5J rf d1.1).bind fun y1 =>
 (b6Z rb d1.2.1 d1.2.2 y1 (((y1.length : Nat) : Int)) 0).bind fun z2 =>
 some (z2.2.2, z2.1, z2.2.1)
theorem c3j : EqF 132 fun a b => c0Z a b := fun _ _ _ => by kernel_rfl
theorem d1p {d1 y} (h : c0Z T.rf T.rb d1 = some y) : a7S T.rf d1 = some y := c3j.o h
def c1i (rf : T.RF) (rb : T.RB) (d1 : XN) : Option Bool :=
 (c49 rf d1).bind fun y1 =>
 bif d1.1 == 27 then
  bif d1.2.2.1 == (-1) then
   some (d1.2.2.2.1 == (-1))
  else
   some false
 else
 bif d1.1 == 28 then
  some (d1.2.2.2.1 == (-1))
 else
 bif decide ((((y1.length : Nat) : Int)) > 0) then
  bif decide ((((y1.length : Nat) : Int)) > 1) then
   bif decide ((((y1.length : Nat) : Int)) > 2) then
   some true
   else
   some (d1.2.2.2.1 == (-1))
  else
  bif d1.2.2.1 == (-1) then
   bif decide ((((y1.length : Nat) : Int)) > 2) then
   some true
   else
   some (d1.2.2.2.1 == (-1))
  else
   some false
 else
 bif d1.2.1 == (-1) then
  bif decide ((((y1.length : Nat) : Int)) > 1) then
   bif decide ((((y1.length : Nat) : Int)) > 2) then
   some true
   else
   some (d1.2.2.2.1 == (-1))
  else
  bif d1.2.2.1 == (-1) then
   bif decide ((((y1.length : Nat) : Int)) > 2) then
   some true
   else
   some (d1.2.2.2.1 == (-1))
  else
   some false
 else
  some false
theorem c3x : EqF 146 fun a b => c1i a b := fun _ _ _ => by kernel_rfl
theorem d1D {d1 y} (h : c1i T.rf T.rb d1 = some y) : c5M T.rf d1 = some y := c3x.o h
def c1j (rf : T.RF) (rb : T.RB) (d1 : XN) : Option Bool :=
 bif d1.1 == 3 then
  bif !((!(d1.2.2.2.2.2 == ([] : List UInt8))) == true) then
   some false
  else
  bif d1.1 == 1 then
   bif decide (d1.2.2.2.2.1 ≥ 0) then
   some (decide (d1.2.2.2.2.1 ≤ 2147483647))
   else
   some false
  else
  bif d1.1 == 2 then
   bif d1.2.2.2.2.1 == 0 then
   some true
   else
   some (d1.2.2.2.2.1 == 1)
  else
  bif d1.1 == 25 then
   bif decide (d1.2.2.2.2.1 ≥ 0) then
   some (decide (d1.2.2.2.2.1 ≤ 1000))
   else
   some false
  else
   some (d1.2.2.2.2.1 == 0)
 else
 bif !((!(d1.2.2.2.2.2 == ([] : List UInt8))) == (d1.1 == 27)) then
  some false
 else
 bif d1.1 == 1 then
  bif decide (d1.2.2.2.2.1 ≥ 0) then
   some (decide (d1.2.2.2.2.1 ≤ 2147483647))
  else
   some false
 else
 bif d1.1 == 2 then
  bif d1.2.2.2.2.1 == 0 then
   some true
  else
   some (d1.2.2.2.2.1 == 1)
 else
 bif d1.1 == 25 then
  bif decide (d1.2.2.2.2.1 ≥ 0) then
   some (decide (d1.2.2.2.2.1 ≤ 1000))
  else
   some false
 else
  some (d1.2.2.2.2.1 == 0)
theorem c3y : EqF 147 fun a b => c1j a b := fun _ _ _ => by kernel_rfl
theorem d1E {d1 y} (h : c1j T.rf T.rb d1 = some y) : c5N T.rf d1 = some y := c3y.o h
def b4s (rf : T.RF) (rb : T.RB) (d1 : XN) (d2 : List Int) (d3 : List XN) (d4 : Int) : Option ((XN × List Int × Bool) ⊕ (XN × List Int)) :=
 bif decide (d4 < (((d2.length : Nat) : Int))) then
  bif inb d4 d2.length then
   (nth d2 d4.toNat).bind fun x1 =>
   bif inb x1 d3.length then
   (nth d3 x1.toNat).bind fun x2 =>
   bif d1.1 == 27 then
   bif !((x2.1 == 28) == true) then
   some (.inl (d1, d2, false))
   else
   a9F rb d1 d2 d3 (IntKind.i64.wrap (d4 + 1))
   else
   bif d1.1 == 28 then
   bif (((d2.length : Nat) : Int)) == 2 then
   bif !((x2.1 == 28) == (d4 == 0)) then
   some (.inl (d1, d2, false))
   else
   a9F rb d1 d2 d3 (IntKind.i64.wrap (d4 + 1))
   else
   bif !((x2.1 == 28) == false) then
   some (.inl (d1, d2, false))
   else
   a9F rb d1 d2 d3 (IntKind.i64.wrap (d4 + 1))
   else
   bif !((x2.1 == 28) == false) then
   some (.inl (d1, d2, false))
   else
   a9F rb d1 d2 d3 (IntKind.i64.wrap (d4 + 1))
   else
   none
  else
   none
 else
  some (.inr (d1, d2))
theorem c2b : EqB 180 fun a b => U4 (b4s a b) := fun _ _ _ => by kernel_rfl
theorem b3I {d1 d2 d3 d4 y} (h : b4s T.rf T.rb d1 d2 d3 d4 = some y) : a9F T.rb d1 d2 d3 d4 = some y := c2b.o h
def c1k (rf : T.RF) (rb : T.RB) (d1 : List XN) (d2 : Int) : Option Bool :=
 bif inb d2 d1.length then
  (nth d1 d2.toNat).bind fun x1 =>
  (c49 rf x1).bind fun y2 =>
  (a9F rb x1 y2 d1 0).bind fun z3 =>
  match z3 with
  | .inl u4 =>
    some u4.2.2
  | .inr w5 =>
    some true
 else
  none
theorem c3z : EqF 148 fun a b => U2 (c1k a b) := fun _ _ _ => by kernel_rfl
theorem d1F {d1 d2 y} (h : c1k T.rf T.rb d1 d2 = some y) : b9D T.rf d1 d2 = some y := c3z.o h
def a6d (rf : T.RF) (rb : T.RB) (d1 : List Int) (d2 : List XN) (d3 : Int) : Option ((List Int × Bool) ⊕ (List Int)) :=
 bif decide (d3 < (((d2.length : Nat) : Int))) then
  bif inb d3 d2.length then
   (nth d2 d3.toNat).bind fun x1 =>
   bif decide (x1.1 < 1) then
    some (.inl (d1, false))
   else
   bif inb d3 d2.length then
    (nth d2 d3.toNat).bind fun x2 =>
    bif decide (x2.1 > 28) then
     some (.inl (d1, false))
    else
    bif inb d3 d2.length then
     (nth d2 d3.toNat).bind fun x3 =>
     (c5M rf x3).bind fun y4 =>
     bif !y4 then
      some (.inl (d1, false))
     else
     bif inb d3 d2.length then
      (nth d2 d3.toNat).bind fun x5 =>
      (c5N rf x5).bind fun y6 =>
      bif !y6 then
       some (.inl (d1, false))
      else
      bif inb d3 d2.length then
       (nth d2 d3.toNat).bind fun x7 =>
       (c49 rf x7).bind fun y8 =>
       (b2p rb d1 y8 d3 0).bind fun z9 =>
       match z9 with
       | .inl u10 =>
         some (.inl (u10.1, u10.2.2))
       | .inr w11 =>
         (b9D rf d2 d3).bind fun y12 =>
         bif !y12 then
          some (.inl (w11.1, false))
         else
          b2o rb w11.1 d2 (IntKind.i64.wrap (d3 + 1))
      else
       none
     else
      none
    else
     none
   else
    none
  else
   none
 else
  some (.inr d1)
theorem c1Z : EqB 178 fun a b => U3 (a6d a b) := fun _ _ _ => by kernel_rfl
theorem b7M {d1 d2 d3 y} (h : a6d T.rf T.rb d1 d2 d3 = some y) : b2o T.rb d1 d2 d3 = some y := c1Z.o h
def b0x (rf : T.RF) (rb : T.RB) (d1 : List Int) (d2 : List Int) (d3 : Int) (d4 : Int) : Option ((List Int × List Int × Bool) ⊕ (List Int × List Int)) :=
 bif decide (d4 < (((d2.length : Nat) : Int))) then
  bif inb d4 d2.length then
   (nth d2 d4.toNat).bind fun x1 =>
   bif decide (x1 < 0) then
   some (.inl (d1, d2, false))
   else
   bif inb d4 d2.length then
   (nth d2 d4.toNat).bind fun x2 =>
   bif decide (x2 ≥ d3) then
   some (.inl (d1, d2, false))
   else
   bif inb d4 d2.length then
   (nth d2 d4.toNat).bind fun x3 =>
   bif inb x3 d1.length then
   (nth d1 x3.toNat).bind fun x4 =>
   bif inb x3 d1.length then
   bif Nat.blt x3.toNat d1.length then
   b2p rb (m5 d1 x3.toNat (IntKind.i64.wrap (x4 + 1))) d2 d3 (IntKind.i64.wrap (d4 + 1))
   else
   none
   else
   none
   else
   none
   else
   none
   else
   none
  else
   none
 else
  some (.inr (d1, d2))
theorem c2a : EqB 179 fun a b => U4 (b0x a b) := fun _ _ _ => by kernel_rfl
theorem b1a {d1 d2 d3 d4 y} (h : b0x T.rf T.rb d1 d2 d3 d4 = some y) : b2p T.rb d1 d2 d3 d4 = some y := c2a.o h
def b1X (rf : T.RF) (rb : T.RB) (d1 : List Int) (d2 : List XN) (d3 : Int) : Option ((List Int × Bool) ⊕ (List Int)) :=
 bif decide (d3 < (IntKind.i64.wrap ((((d2.length : Nat) : Int)) - 1))) then
  bif inb d3 d1.length then
   (nth d1 d3.toNat).bind fun x1 =>
   bif x1 != 1 then
   some (.inl (d1, false))
   else
   b4Z rb d1 d2 (IntKind.i64.wrap (d3 + 1))
  else
   none
 else
  some (.inr d1)
theorem c2c : EqB 181 fun a b => U3 (b1X a b) := fun _ _ _ => by kernel_rfl
theorem b3J {d1 d2 d3 y} (h : b1X T.rf T.rb d1 d2 d3 = some y) : b4Z T.rb d1 d2 d3 = some y := c2c.o h
def c1h (rf : T.RF) (rb : T.RB) (d1 : List XN) : Option Bool :=
 bif decide ((((d1.length : Nat) : Int)) < 1) then
  some false
 else
 bif decide ((((d1.length : Nat) : Int)) > 5000) then
  some false
 else
 bif F4 (((d1.length : Nat) : Int)) j4 then
  bif F4 (((d1.length : Nat) : Int)) d1.length then
   (b2o rb (List.replicate d1.length (0 : Int)) d1 0).bind fun z1 =>
   match z1 with
   | .inl u2 =>
     some u2.2
   | .inr w3 =>
     (b4Z rb w3 d1 0).bind fun z4 =>
     match z4 with
     | .inl u5 =>
       some u5.2
     | .inr w6 =>
       bif inb (IntKind.i64.wrap ((((d1.length : Nat) : Int)) - 1)) d1.length then
        (nth d1 (IntKind.i64.wrap ((((d1.length : Nat) : Int)) - 1)).toNat).bind fun x7 =>
        bif x7.1 != 28 then
         (c62 rf d1).bind fun y8 =>
         some (decide (y8 ≤ 40))
        else
         some false
       else
        none
  else
   none
 else
  none
theorem c3w : EqF 145 fun a b => c1h a b := fun _ _ _ => by kernel_rfl
theorem d1C {d1 y} (h : c1h T.rf T.rb d1 = some y) : b9C T.rf d1 = some y := c3w.o h
def b6b (rf : T.RF) (rb : T.RB) (d1 : List XN) (d2 : List Int) (d3 : List Int) (d4 : List XN) (d5 : Int) : Option (List Int × List XN × List Int) :=
 bif decide (d5 < (((d2.length : Nat) : Int))) then
  bif inb d5 d2.length then
   (nth d2 d5.toNat).bind fun x1 =>
   (b9E rf d1 d4 x1).bind fun y2 =>
   bif (Nat.ble (d3.length + 1) j4) && true then
   c0c rb y2 d2 (d3 ++ [IntKind.i64.wrap ((((y2.length : Nat) : Int)) - 1)]) d4 (IntKind.i64.wrap (d5 + 1))
   else
   none
  else
   none
 else
  some (d2, d1, d3)
theorem c2d : EqB 183 fun a b => U5 (b6b a b) := fun _ _ _ => by kernel_rfl
theorem c4o {d1 d2 d3 d4 d5 y} (h : b6b T.rf T.rb d1 d2 d3 d4 d5 = some y) : c0c T.rb d1 d2 d3 d4 d5 = some y := c2d.o h
def c1l (rf : T.RF) (rb : T.RB) (d1 : List XN) (d2 : List XN) (d3 : Int) : Option (List XN) :=
 bif inb d3 d2.length then
  (nth d2 d3.toNat).bind fun x1 =>
  (c49 rf x1).bind fun y2 =>
  (c0c rb d1 y2 [] d2 0).bind fun z3 =>
  bif inb d3 d2.length then
   (nth d2 d3.toNat).bind fun x4 =>
   (c52 rf x4 z3.2.2).bind fun y5 =>
   bif (Nat.ble (z3.2.1.length + 1) j4) && true then
   some (z3.2.1 ++ [y5])
   else
   none
  else
   none
 else
  none
theorem c3A : EqF 149 fun a b => U3 (c1l a b) := fun _ _ _ => by kernel_rfl
theorem d1G {d1 d2 d3 y} (h : c1l T.rf T.rb d1 d2 d3 = some y) : b9E T.rf d1 d2 d3 = some y := c3A.o h
def c1g (rf : T.RF) (rb : T.RB) (d1 : List XN) (d2 : Int) : Option (List XN) :=
 (b9C rf d1).bind fun y1 =>
 bif !y1 then
  some []
 else
 bif decide (d2 < 0) then
  some []
 else
 bif decide (d2 ≥ (((d1.length : Nat) : Int))) then
  some []
 else
  (b9E rf [] d1 d2).bind fun y2 =>
  some y2
theorem c3v : EqF 144 fun a b => U2 (c1g a b) := fun _ _ _ => by kernel_rfl
theorem d1B {d1 d2 y} (h : c1g T.rf T.rb d1 d2 = some y) : c5L T.rf d1 d2 = some y := c3v.o h
def c1f (rf : T.RF) (rb : T.RB) (d1 : List XN) : Option (List XN) :=
 (c5L rf d1 (IntKind.i64.wrap ((((d1.length : Nat) : Int)) - 1))).bind fun y1 =>
 some y1
theorem c3u : EqF 143 fun a b => c1f a b := fun _ _ _ => by kernel_rfl
theorem d1A {d1 y} (h : c1f T.rf T.rb d1 = some y) : a7T T.rf d1 = some y := c3u.o h
def b6c (rf : T.RF) (rb : T.RB) (d1 : XUn) (d2 : Bool) (d3 : List UInt8) (d4 : List UInt8) (d5 : Int) (d6 : List XPm) (d7 : List XPm) (d8 : List XEq) (d9 : List XIt) (d10 : Int) : Option (XUn × Bool × List UInt8 × List UInt8 × Int × List XPm × List XPm × List XIt × List XEq) :=
 bif decide (d10 < (((d1.2.2.2.2.2.2.1.length : Nat) : Int))) then
  bif inb d10 d1.2.2.2.2.2.2.1.length then
   (nth d1.2.2.2.2.2.2.1 d10.toNat).bind fun x1 =>
   bif inb d10 d1.2.2.2.2.2.2.1.length then
   (nth d1.2.2.2.2.2.2.1 d10.toNat).bind fun x2 =>
   j8 (
   (a7T rf x2.2).bind fun y3 =>
   bif (Nat.ble (d8.length + 1) j4) && true then
   b5a rb d1 d2 d3 d4 d5 d6 d7 (d8 ++ [(x1.1, y3)]) d9 (IntKind.i64.wrap (d10 + 1))
   else
   none
   ) (
   (a7T rf x2.2).bind fun y3 =>
   agN 1 (
   bif (Nat.ble (d8.length + 1) j4) && true then
   b5a rb d1 d2 d3 d4 d5 d6 d7 (d8 ++ [(x1.1, y3)]) d9 (IntKind.i64.wrap (d10 + 1))
   else
   none
   )
   )
   else
   none
  else
   none
 else
  some (d1, d2, d3, d4, d5, d6, d7, d9, d8)
def b4t (rf : T.RF) (rb : T.RB) (d1 : XUn) (d2 : Bool) (d3 : List UInt8) (d4 : List UInt8) (d5 : Int) (d6 : List XPm) (d7 : List XPm) (d8 : List XEq) (d9 : List XIt) (d10 : Int) : Option (XUn × Bool × List UInt8 × List UInt8 × Int × List XPm × List XPm × List XIt × List XEq) :=
 bif decide (d10 < (((d1.2.2.2.2.2.2.1.length : Nat) : Int))) then
  bif inb d10 d1.2.2.2.2.2.2.1.length then
   (nth d1.2.2.2.2.2.2.1 d10.toNat).bind fun x1 =>
   bif inb d10 d1.2.2.2.2.2.2.1.length then
   (nth d1.2.2.2.2.2.2.1 d10.toNat).bind fun x2 =>
   (a7T rf x2.2).bind fun y3 =>
   bif (Nat.ble (d8.length + 1) j4) && true then
   b5a rb d1 d2 d3 d4 d5 d6 d7 (d8 ++ [(x1.1, y3)]) d9 (IntKind.i64.wrap (d10 + 1))
   else
   none
   else
   none
  else
   none
 else
  some (d1, d2, d3, d4, d5, d6, d7, d9, d8)
theorem c2e : EqB 198 fun a b => U10 (b6c a b) := fun _ _ _ => by kernel_rfl
theorem c5a (rf rb d1 d2 d3 d4 d5 d6 d7 d8 d9 d10) : b6c rf rb d1 d2 d3 d4 d5 d6 d7 d8 d9 d10 = b4t rf rb d1 d2 d3 d4 d5 d6 d7 d8 d9 d10 := by
 unfold b6c b4t; simp only [D4, l0, o8]
theorem c4p {d1 d2 d3 d4 d5 d6 d7 d8 d9 d10 y} (h : b4t T.rf T.rb d1 d2 d3 d4 d5 d6 d7 d8 d9 d10 = some y) : b5a T.rb d1 d2 d3 d4 d5 d6 d7 d8 d9 d10 = some y := c2e.o ((c5a _ _ _ _ _ _ _ _ _ _ _ _).trans h)
def b6d (rf : T.RF) (rb : T.RB) (d1 : XUn) (d2 : Bool) (d3 : List UInt8) (d4 : List UInt8) (d5 : Int) (d6 : List XPm) (d7 : List XPm) (d8 : List XEq) (d9 : List XIt) (d10 : Int) : Option (XUn × Bool × List UInt8 × List UInt8 × Int × List XPm × List XPm × List XEq × List XIt) :=
 bif decide (d10 < (((d1.2.2.2.2.2.2.2.length : Nat) : Int))) then
  bif inb d10 d1.2.2.2.2.2.2.2.length then
   (nth d1.2.2.2.2.2.2.2 d10.toNat).bind fun x1 =>
   (a7T rf x1.2.2.2.1).bind fun y2 =>
   (a7T rf x1.2.2.2.2.1).bind fun y3 =>
   (b5b rb d1 x1.1 x1.2.1 x1.2.2.1 y2 y3 [] d10 0).bind fun z4 =>
   bif (Nat.ble (d9.length + 1) j4) && true then
   c0d rb z4.1 d2 d3 d4 d5 d6 d7 d8 (d9 ++ [z4.2]) (IntKind.i64.wrap (d10 + 1))
   else
   none
  else
   none
 else
  some (d1, d2, d3, d4, d5, d6, d7, d8, d9)
theorem c2f : EqB 199 fun a b => U10 (b6d a b) := fun _ _ _ => by kernel_rfl
theorem c4q {d1 d2 d3 d4 d5 d6 d7 d8 d9 d10 y} (h : b6d T.rf T.rb d1 d2 d3 d4 d5 d6 d7 d8 d9 d10 = some y) : c0d T.rb d1 d2 d3 d4 d5 d6 d7 d8 d9 d10 = some y := c2f.o h
def b6e (rf : T.RF) (rb : T.RB) (d1 : XUn) (d2 : Int) (d3 : List UInt8) (d4 : Int) (d5 : List XN) (d6 : List XN) (d7 : List (List XN)) (d8 : Int) (d9 : Int) : Option (XUn × XIt) :=
 bif inb d8 d1.2.2.2.2.2.2.2.length then
  (nth d1.2.2.2.2.2.2.2 d8.toNat).bind fun x1 =>
  bif decide (d9 < (((x1.2.2.2.2.2.length : Nat) : Int))) then
   bif inb d8 d1.2.2.2.2.2.2.2.length then
   (nth d1.2.2.2.2.2.2.2 d8.toNat).bind fun x2 =>
   bif inb d9 x2.2.2.2.2.2.length then
   (nth x2.2.2.2.2.2 d9.toNat).bind fun x3 =>
   j8 (
   (a7T rf x3).bind fun y4 =>
   bif (Nat.ble (d7.length + 1) j4) && true then
   b5b rb d1 d2 d3 d4 d5 d6 (d7 ++ [y4]) d8 (IntKind.i64.wrap (d9 + 1))
   else
   none
   ) (
   (a7T rf x3).bind fun y4 =>
   agN 1 (
   bif (Nat.ble (d7.length + 1) j4) && true then
   b5b rb d1 d2 d3 d4 d5 d6 (d7 ++ [y4]) d8 (IntKind.i64.wrap (d9 + 1))
   else
   none
   )
   )
   else
   none
   else
   none
  else
   some (d1, d2, d3, d4, d5, d6, d7)
 else
  none
def b4u (rf : T.RF) (rb : T.RB) (d1 : XUn) (d2 : Int) (d3 : List UInt8) (d4 : Int) (d5 : List XN) (d6 : List XN) (d7 : List (List XN)) (d8 : Int) (d9 : Int) : Option (XUn × XIt) :=
 bif inb d8 d1.2.2.2.2.2.2.2.length then
  (nth d1.2.2.2.2.2.2.2 d8.toNat).bind fun x1 =>
  bif decide (d9 < (((x1.2.2.2.2.2.length : Nat) : Int))) then
   bif inb d8 d1.2.2.2.2.2.2.2.length then
   (nth d1.2.2.2.2.2.2.2 d8.toNat).bind fun x2 =>
   bif inb d9 x2.2.2.2.2.2.length then
   (nth x2.2.2.2.2.2 d9.toNat).bind fun x3 =>
   (a7T rf x3).bind fun y4 =>
   bif (Nat.ble (d7.length + 1) j4) && true then
   b5b rb d1 d2 d3 d4 d5 d6 (d7 ++ [y4]) d8 (IntKind.i64.wrap (d9 + 1))
   else
   none
   else
   none
   else
   none
  else
   some (d1, d2, d3, d4, d5, d6, d7)
 else
  none
theorem c2g : EqB 200 fun a b => U9 (b6e a b) := fun _ _ _ => by kernel_rfl
theorem c5b (rf rb d1 d2 d3 d4 d5 d6 d7 d8 d9) : b6e rf rb d1 d2 d3 d4 d5 d6 d7 d8 d9 = b4u rf rb d1 d2 d3 d4 d5 d6 d7 d8 d9 := by
 unfold b6e b4u; simp only [D4, l0, o8]
theorem c4r {d1 d2 d3 d4 d5 d6 d7 d8 d9 y} (h : b4u T.rf T.rb d1 d2 d3 d4 d5 d6 d7 d8 d9 = some y) : b5b T.rb d1 d2 d3 d4 d5 d6 d7 d8 d9 = some y := c2g.o ((c5b _ _ _ _ _ _ _ _ _ _ _).trans h)
def c1e (rf : T.RF) (rb : T.RB) (d1 : XUn) : Option XUn :=
 bif Nat.ble d1.2.2.1.length j4 then
  bif Nat.ble d1.2.2.2.2.2.1.length j4 then
   (b5a rb d1 d1.1 d1.2.1 d1.2.2.2.1 d1.2.2.2.2.1 d1.2.2.1 d1.2.2.2.2.2.1 [] [] 0).bind fun z1 =>
   (c0d rb z1.1 z1.2.1 z1.2.2.1 z1.2.2.2.1 z1.2.2.2.2.1 z1.2.2.2.2.2.1 z1.2.2.2.2.2.2.1 z1.2.2.2.2.2.2.2.2 z1.2.2.2.2.2.2.2.1 0).bind fun z2 =>
   some (z2.2.1, z2.2.2.1, z2.2.2.2.2.2.1, z2.2.2.2.1, z2.2.2.2.2.1, z2.2.2.2.2.2.2)
  else
   none
 else
  none
theorem c3t : EqF 142 fun a b => c1e a b := fun _ _ _ => by kernel_rfl
theorem d1z {d1 y} (h : c1e T.rf T.rb d1 = some y) : b6w T.rf d1 = some y := c3t.o h
def b6f (rf : T.RF) (rb : T.RB) (d1 : XPg) (d2 : List UInt8) (d3 : List UInt8) (d4 : List XUn) (d5 : Int) : Option (XPg × List UInt8 × List UInt8 × List XUn) :=
 bif decide (d5 < (((d1.1.length : Nat) : Int))) then
  bif inb d5 d1.1.length then
   (nth d1.1 d5.toNat).bind fun x1 =>
   j8 (
   (b6w rf x1).bind fun y2 =>
   bif (Nat.ble (d4.length + 1) j4) && true then
   b5c rb d1 d2 d3 (d4 ++ [y2]) (IntKind.i64.wrap (d5 + 1))
   else
   none
   ) (
   (b6w rf x1).bind fun y2 =>
   agN 1 (
   bif (Nat.ble (d4.length + 1) j4) && true then
   b5c rb d1 d2 d3 (d4 ++ [y2]) (IntKind.i64.wrap (d5 + 1))
   else
   none
   )
   )
  else
   none
 else
  some (d1, d2, d3, d4)
def b4v (rf : T.RF) (rb : T.RB) (d1 : XPg) (d2 : List UInt8) (d3 : List UInt8) (d4 : List XUn) (d5 : Int) : Option (XPg × List UInt8 × List UInt8 × List XUn) :=
 bif decide (d5 < (((d1.1.length : Nat) : Int))) then
  bif inb d5 d1.1.length then
   (nth d1.1 d5.toNat).bind fun x1 =>
   (b6w rf x1).bind fun y2 =>
   bif (Nat.ble (d4.length + 1) j4) && true then
   b5c rb d1 d2 d3 (d4 ++ [y2]) (IntKind.i64.wrap (d5 + 1))
   else
   none
  else
   none
 else
  some (d1, d2, d3, d4)
theorem c2h : EqB 203 fun a b => U5 (b6f a b) := fun _ _ _ => by kernel_rfl
theorem c5c (rf rb d1 d2 d3 d4 d5) : b6f rf rb d1 d2 d3 d4 d5 = b4v rf rb d1 d2 d3 d4 d5 := by
 unfold b6f b4v; simp only [D4, l0, o8]
theorem c4s {d1 d2 d3 d4 d5 y} (h : b4v T.rf T.rb d1 d2 d3 d4 d5 = some y) : b5c T.rb d1 d2 d3 d4 d5 = some y := c2h.o ((c5c _ _ _ _ _ _ _).trans h)
def c1d (rf : T.RF) (rb : T.RB) (d1 : XPg) : Option XPg :=
 (b5c rb d1 d1.2.1 d1.2.2 [] 0).bind fun z1 =>
 some (z1.2.2.2, z1.2.1, z1.2.2.1)
theorem c3s : EqF 141 fun a b => c1d a b := fun _ _ _ => by kernel_rfl
theorem d1y {d1 y} (h : c1d T.rf T.rb d1 = some y) : b9B T.rf d1 = some y := c3s.o h
def b4x (rf : T.RF) (rb : T.RB) (d1 : List XPm) (d2 : List XPm) (d3 : Int) : Option (Bool ⊕ Unit) :=
 bif decide (d3 < (((d1.length : Nat) : Int))) then
  bif inb d3 d1.length then
   (nth d1 d3.toNat).bind fun x1 =>
   bif inb d3 d2.length then
   (nth d2 d3.toNat).bind fun x2 =>
   bif !((x1.1 == x2.1) && (x1.2 == x2.2)) then
   some (.inl false)
   else
   c0f rb d1 d2 (IntKind.i64.wrap (d3 + 1))
   else
   none
  else
   none
 else
  some (.inr ())
theorem c2j : EqB 205 fun a b => U3 (b4x a b) := fun _ _ _ => by kernel_rfl
theorem b7O {d1 d2 d3 y} (h : b4x T.rf T.rb d1 d2 d3 = some y) : c0f T.rb d1 d2 d3 = some y := c2j.o h
def b5l (rf : T.RF) (rb : T.RB) (d1 : List XPm) (d2 : List XPm) : Option Bool :=
 bif (((d1.length : Nat) : Int)) != (((d2.length : Nat) : Int)) then
  some false
 else
  (c0f rb d1 d2 0).bind fun z1 =>
  match z1 with
  | .inl u2 =>
    some u2
  | .inr w3 =>
    some true
theorem c3D : EqF 152 fun a b => U2 (b5l a b) := fun _ _ _ => by kernel_rfl
theorem b7T {d1 d2 y} (h : b5l T.rf T.rb d1 d2 = some y) : b9G T.rf d1 d2 = some y := c3D.o h
def b6g (rf : T.RF) (rb : T.RB) (d1 : List XN) (d2 : List XN) (d3 : Int) : Option (Bool ⊕ Unit) :=
 bif decide (d3 < (((d1.length : Nat) : Int))) then
  bif inb d3 d1.length then
   (nth d1 d3.toNat).bind fun x1 =>
   bif inb d3 d2.length then
   (nth d2 d3.toNat).bind fun x2 =>
   bif !((x1.1 == x2.1) && ((x1.2.1 == x2.2.1) && ((x1.2.2.1 == x2.2.2.1) && ((x1.2.2.2.1 == x2.2.2.2.1) && ((x1.2.2.2.2.1 == x2.2.2.2.2.1) && (x1.2.2.2.2.2 == x2.2.2.2.2.2)))))) then
   some (.inl false)
   else
   c0g rb d1 d2 (IntKind.i64.wrap (d3 + 1))
   else
   none
  else
   none
 else
  some (.inr ())
theorem c2l : EqB 207 fun a b => U3 (b6g a b) := fun _ _ _ => by kernel_rfl
theorem c4t {d1 d2 d3 y} (h : b6g T.rf T.rb d1 d2 d3 = some y) : c0g T.rb d1 d2 d3 = some y := c2l.o h
def c1m (rf : T.RF) (rb : T.RB) (d1 : List XN) (d2 : List XN) : Option Bool :=
 bif (((d1.length : Nat) : Int)) != (((d2.length : Nat) : Int)) then
  some false
 else
  (c0g rb d1 d2 0).bind fun z1 =>
  match z1 with
  | .inl u2 =>
    some u2
  | .inr w3 =>
    some true
theorem c3E : EqF 153 fun a b => U2 (c1m a b) := fun _ _ _ => by kernel_rfl
theorem d1H {d1 d2 y} (h : c1m T.rf T.rb d1 d2 = some y) : b4F T.rf d1 d2 = some y := c3E.o h
def b4y (rf : T.RF) (rb : T.RB) (d1 : List (List XN)) (d2 : List (List XN)) (d3 : Int) : Option (Bool ⊕ Unit) :=
 bif decide (d3 < (((d1.length : Nat) : Int))) then
  bif inb d3 d1.length then
   (nth d1 d3.toNat).bind fun x1 =>
   bif inb d3 d2.length then
   (nth d2 d3.toNat).bind fun x2 =>
   (b4F rf x1 x2).bind fun y3 =>
   bif !y3 then
   some (.inl false)
   else
   c0h rb d1 d2 (IntKind.i64.wrap (d3 + 1))
   else
   none
  else
   none
 else
  some (.inr ())
theorem c2n : EqB 209 fun a b => U3 (b4y a b) := fun _ _ _ => by kernel_rfl
theorem b7P {d1 d2 d3 y} (h : b4y T.rf T.rb d1 d2 d3 = some y) : c0h T.rb d1 d2 d3 = some y := c2n.o h
def b5m (rf : T.RF) (rb : T.RB) (d1 : List (List XN)) (d2 : List (List XN)) : Option Bool :=
 bif (((d1.length : Nat) : Int)) != (((d2.length : Nat) : Int)) then
  some false
 else
  (c0h rb d1 d2 0).bind fun z1 =>
  match z1 with
  | .inl u2 =>
    some u2
  | .inr w3 =>
    some true
theorem c3F : EqF 154 fun a b => U2 (b5m a b) := fun _ _ _ => by kernel_rfl
theorem b7U {d1 d2 y} (h : b5m T.rf T.rb d1 d2 = some y) : c5O T.rf d1 d2 = some y := c3F.o h
def b1Y (rf : T.RF) (rb : T.RB) (d1 : XUn) (d2 : XUn) (d3 : Int) : Option ((XUn × XUn × Bool) ⊕ (XUn × XUn)) :=
 bif decide (d3 < (((d1.2.2.2.2.2.2.1.length : Nat) : Int))) then
  bif inb d3 d1.2.2.2.2.2.2.1.length then
   (nth d1.2.2.2.2.2.2.1 d3.toNat).bind fun x1 =>
   bif inb d3 d2.2.2.2.2.2.2.1.length then
   (nth d2.2.2.2.2.2.2.1 d3.toNat).bind fun x2 =>
   bif !(x1.1 == x2.1) then
   some (.inl (d1, d2, false))
   else
   bif inb d3 d1.2.2.2.2.2.2.1.length then
   (nth d1.2.2.2.2.2.2.1 d3.toNat).bind fun x3 =>
   bif inb d3 d2.2.2.2.2.2.2.1.length then
   (nth d2.2.2.2.2.2.2.1 d3.toNat).bind fun x4 =>
   (b4F rf x3.2 x4.2).bind fun y5 =>
   bif !y5 then
   some (.inl (d1, d2, false))
   else
   b7c rb d1 d2 (IntKind.i64.wrap (d3 + 1))
   else
   none
   else
   none
   else
   none
  else
   none
 else
  some (.inr (d1, d2))
theorem c2k : EqB 206 fun a b => U3 (b1Y a b) := fun _ _ _ => by kernel_rfl
theorem b3K {d1 d2 d3 y} (h : b1Y T.rf T.rb d1 d2 d3 = some y) : b7c T.rb d1 d2 d3 = some y := c2k.o h
def a6e (rf : T.RF) (rb : T.RB) (d1 : XUn) (d2 : XUn) (d3 : Int) : Option ((XUn × XUn × Bool) ⊕ (XUn × XUn)) :=
 bif decide (d3 < (((d1.2.2.2.2.2.2.2.length : Nat) : Int))) then
  bif inb d3 d1.2.2.2.2.2.2.2.length then
   (nth d1.2.2.2.2.2.2.2 d3.toNat).bind fun x1 =>
   bif inb d3 d2.2.2.2.2.2.2.2.length then
   (nth d2.2.2.2.2.2.2.2 d3.toNat).bind fun x2 =>
   bif x1.1 != x2.1 then
   some (.inl (d1, d2, false))
   else
   bif !(x1.2.1 == x2.2.1) then
   some (.inl (d1, d2, false))
   else
   bif x1.2.2.1 != x2.2.2.1 then
   some (.inl (d1, d2, false))
   else
   (b4F rf x1.2.2.2.1 x2.2.2.2.1).bind fun y3 =>
   bif !y3 then
   some (.inl (d1, d2, false))
   else
   (b4F rf x1.2.2.2.2.1 x2.2.2.2.2.1).bind fun y4 =>
   bif !y4 then
   some (.inl (d1, d2, false))
   else
   (c5O rf x1.2.2.2.2.2 x2.2.2.2.2.2).bind fun y5 =>
   bif !y5 then
   some (.inl (d1, d2, false))
   else
   b7d rb d1 d2 (IntKind.i64.wrap (d3 + 1))
   else
   none
  else
   none
 else
  some (.inr (d1, d2))
theorem c2m : EqB 208 fun a b => U3 (a6e a b) := fun _ _ _ => by kernel_rfl
theorem a5d {d1 d2 d3 y} (h : a6e T.rf T.rb d1 d2 d3 = some y) : b7d T.rb d1 d2 d3 = some y := c2m.o h
def a7l (rf : T.RF) (rb : T.RB) (d1 : XUn) (d2 : XUn) : Option Bool :=
 bif !(d1.1 == d2.1) then
  some false
 else
 bif !(d1.2.1 == d2.2.1) then
  some false
 else
  (b9G rf d1.2.2.1 d2.2.2.1).bind fun y1 =>
  bif !y1 then
   some false
  else
  bif !((d1.2.2.2.1 == d2.2.2.2.1) && (d1.2.2.2.2.1 == d2.2.2.2.2.1)) then
   some false
  else
   (b9G rf d1.2.2.2.2.2.1 d2.2.2.2.2.2.1).bind fun y2 =>
   bif !y2 then
    some false
   else
   bif (((d1.2.2.2.2.2.2.1.length : Nat) : Int)) != (((d2.2.2.2.2.2.2.1.length : Nat) : Int)) then
    some false
   else
   bif (((d1.2.2.2.2.2.2.2.length : Nat) : Int)) != (((d2.2.2.2.2.2.2.2.length : Nat) : Int)) then
    some false
   else
    (b7c rb d1 d2 0).bind fun z3 =>
    match z3 with
    | .inl u4 =>
      some u4.2.2
    | .inr w5 =>
      (b7d rb w5.1 w5.2 0).bind fun z6 =>
      match z6 with
      | .inl u7 =>
        some u7.2.2
      | .inr w8 =>
        some true
theorem c3C : EqF 151 fun a b => U2 (a7l a b) := fun _ _ _ => by kernel_rfl
theorem a5f {d1 d2 y} (h : a7l T.rf T.rb d1 d2 = some y) : b9F T.rf d1 d2 = some y := c3C.o h
def b4w (rf : T.RF) (rb : T.RB) (d1 : XPg) (d2 : XPg) (d3 : Int) : Option ((XPg × XPg × Bool) ⊕ (XPg × XPg)) :=
 bif decide (d3 < (((d1.1.length : Nat) : Int))) then
  bif inb d3 d1.1.length then
   (nth d1.1 d3.toNat).bind fun x1 =>
   bif inb d3 d2.1.length then
   (nth d2.1 d3.toNat).bind fun x2 =>
   (b9F rf x1 x2).bind fun y3 =>
   bif !y3 then
   some (.inl (d1, d2, false))
   else
   c0e rb d1 d2 (IntKind.i64.wrap (d3 + 1))
   else
   none
  else
   none
 else
  some (.inr (d1, d2))
theorem c2i : EqB 204 fun a b => U3 (b4w a b) := fun _ _ _ => by kernel_rfl
theorem b7N {d1 d2 d3 y} (h : b4w T.rf T.rb d1 d2 d3 = some y) : c0e T.rb d1 d2 d3 = some y := c2i.o h
def b1l (rf : T.RF) (rb : T.RB) (d1 : XPg) (d2 : XPg) : Option Bool :=
 bif !(d1.2.1 == d2.2.1) then
  some false
 else
 bif !(d1.2.2 == d2.2.2) then
  some false
 else
 bif (((d1.1.length : Nat) : Int)) != (((d2.1.length : Nat) : Int)) then
  some false
 else
  (c0e rb d1 d2 0).bind fun z1 =>
  match z1 with
  | .inl u2 =>
    some u2.2.2
  | .inr w3 =>
    some true
theorem c3B : EqF 150 fun a b => U2 (b1l a b) := fun _ _ _ => by kernel_rfl
theorem b1c {d1 d2 y} (h : b1l T.rf T.rb d1 d2 = some y) : a9v T.rf d1 d2 = some y := c3B.o h
def r2 (rf : T.RF) (rb : T.RB) : Option Bool :=
 (c3 rf ([99, 111, 110, 116, 114, 97, 99, 116, 32, 107, 40, 97, 58, 105, 110, 116, 41, 32, 97, 115, 115, 117, 109, 101, 32, 97, 62, 49, 59, 32, 101, 110, 100, 32, 110, 111, 100, 101, 32, 102, 40, 97, 58, 105, 110, 116, 41, 32, 114, 101, 116, 117, 114, 110, 115, 40, 99, 58, 105, 110, 116, 41, 32, 99, 111, 110, 116, 114, 97, 99, 116, 32, 105, 109, 112, 111, 114, 116, 32, 107, 40, 97, 41, 59, 32, 101, 110, 100, 32, 108, 101, 116, 32, 99, 61, 97, 59, 32, 116, 101, 108, 32, 109, 97, 105, 110, 32, 102, 59] : List UInt8)).bind fun y1 =>
 (c66 rf y1.1).bind fun y2 =>
 (a7S rf y1.1).bind fun y3 =>
 bif y2 == ([99, 111, 110, 116, 114, 97, 99, 116, 32, 107, 32, 40, 32, 97, 32, 58, 32, 105, 110, 116, 32, 41, 32, 97, 115, 115, 117, 109, 101, 32, 49, 32, 60, 32, 97, 32, 59, 32, 101, 110, 100, 32, 110, 111, 100, 101, 32, 102, 32, 40, 32, 97, 32, 58, 32, 105, 110, 116, 32, 41, 32, 114, 101, 116, 117, 114, 110, 115, 32, 40, 32, 99, 32, 58, 32, 105, 110, 116, 32, 41, 32, 99, 111, 110, 116, 114, 97, 99, 116, 32, 105, 109, 112, 111, 114, 116, 32, 107, 32, 40, 32, 97, 32, 41, 32, 59, 32, 101, 110, 100, 32, 108, 101, 116, 32, 99, 32, 61, 32, 97, 32, 59, 32, 116, 101, 108, 32, 109, 97, 105, 110, 32, 102, 32, 59] : List UInt8) then
  (c67 rf y1.1).bind fun y4 =>
  bif y4 then
   (c67 rf ([], ([] : List UInt8), ([] : List UInt8))).bind fun y5 =>
   bif !y5 then
   (b9B rf y1.1).bind fun y6 =>
   (a9v rf y3 y6).bind fun y7 =>
   bif y7 then
   (c66 rf ([], ([102] : List UInt8), ([103] : List UInt8))).bind fun y8 =>
   some (y8 == ([109, 97, 105, 110, 32, 102, 32, 59, 32, 102, 97, 108, 108, 98, 97, 99, 107, 32, 103, 32, 59] : List UInt8))
   else
   some false
   else
   some false
  else
   some false
 else
  some false
theorem er2 : EqF 2 fun a b => U0 (r2 a b) := fun _ _ _ => by kernel_rfl
def c1r (rf : T.RF) (rb : T.RB) (d1 : XPm) : Option Bool :=
 (c12 rf d1.1).bind fun y1 =>
 bif y1 then
  bif d1.2 == 1 then
   some true
  else
   some (d1.2 == 2)
 else
  some false
theorem c3K : EqF 159 fun a b => c1r a b := fun _ _ _ => by kernel_rfl
theorem d1M {d1 y} (h : c1r T.rf T.rb d1 = some y) : a4e T.rf d1 = some y := c3K.o h
def b6i (rf : T.RF) (rb : T.RB) (d1 : List XPm) (d2 : Int) : Option (Bool ⊕ Unit) :=
 bif decide (d2 < (((d1.length : Nat) : Int))) then
  bif inb d2 d1.length then
   (nth d1 d2.toNat).bind fun x1 =>
   (a4e rf x1).bind fun y2 =>
   bif !y2 then
   some (.inl false)
   else
   c0i rb d1 (IntKind.i64.wrap (d2 + 1))
  else
   none
 else
  some (.inr ())
theorem c2p : EqB 211 fun a b => U2 (b6i a b) := fun _ _ _ => by kernel_rfl
theorem c4v {d1 d2 y} (h : b6i T.rf T.rb d1 d2 = some y) : c0i T.rb d1 d2 = some y := c2p.o h
def c1q (rf : T.RF) (rb : T.RB) (d1 : List XPm) : Option Bool :=
 (c0i rb d1 0).bind fun z1 =>
 match z1 with
 | .inl u2 =>
   some u2
 | .inr w3 =>
   some (decide ((((d1.length : Nat) : Int)) ≤ 200))
theorem c3J : EqF 158 fun a b => c1q a b := fun _ _ _ => by kernel_rfl
theorem d1L {d1 y} (h : c1q T.rf T.rb d1 = some y) : b9I T.rf d1 = some y := c3J.o h
def b6k (rf : T.RF) (rb : T.RB) (d1 : List XN) (d2 : Int) : Option (Bool ⊕ Unit) :=
 bif decide (d2 < (((d1.length : Nat) : Int))) then
  bif inb d2 d1.length then
   (nth d1 d2.toNat).bind fun x1 =>
   bif !(x1.2.2.2.2.2 == ([] : List UInt8)) then
   bif inb d2 d1.length then
   (nth d1 d2.toNat).bind fun x2 =>
   (c12 rf x2.2.2.2.2.2).bind fun y3 =>
   bif !y3 then
   some (.inl false)
   else
   b7f rb d1 (IntKind.i64.wrap (d2 + 1))
   else
   none
   else
   b7f rb d1 (IntKind.i64.wrap (d2 + 1))
  else
   none
 else
  some (.inr ())
theorem c2r : EqB 213 fun a b => U2 (b6k a b) := fun _ _ _ => by kernel_rfl
theorem c4x {d1 d2 y} (h : b6k T.rf T.rb d1 d2 = some y) : b7f T.rb d1 d2 = some y := c2r.o h
def c1s (rf : T.RF) (rb : T.RB) (d1 : List XN) : Option Bool :=
 (b9C rf d1).bind fun y1 =>
 bif !y1 then
  some false
 else
  (b7f rb d1 0).bind fun z2 =>
  match z2 with
  | .inl u3 =>
    some u3
  | .inr w4 =>
    some true
theorem c3L : EqF 160 fun a b => c1s a b := fun _ _ _ => by kernel_rfl
theorem d1N {d1 y} (h : c1s T.rf T.rb d1 = some y) : I7 T.rf d1 = some y := c3L.o h
def b6m (rf : T.RF) (rb : T.RB) (d1 : XIt) (d2 : Int) : Option ((XIt × Bool) ⊕ XIt) :=
 bif decide (d2 < (((d1.2.2.2.2.2.length : Nat) : Int))) then
  bif inb d2 d1.2.2.2.2.2.length then
   (nth d1.2.2.2.2.2 d2.toNat).bind fun x1 =>
   (I7 rf x1).bind fun y2 =>
   bif !y2 then
   some (.inl (d1, false))
   else
   a6O rb d1 (IntKind.i64.wrap (d2 + 1))
  else
   none
 else
  some (.inr d1)
theorem c2t : EqB 215 fun a b => U2 (b6m a b) := fun _ _ _ => by kernel_rfl
theorem c4z {d1 d2 y} (h : b6m T.rf T.rb d1 d2 = some y) : a6O T.rb d1 d2 = some y := c2t.o h
def c1t (rf : T.RF) (rb : T.RB) (d1 : XIt) : Option Bool :=
 bif d1.2.1 == ([] : List UInt8) then
  bif d1.2.2.1 == 0 then
   bif (((d1.2.2.2.2.1.length : Nat) : Int)) == 0 then
    bif d1.1 == 1 then
     bif d1.1 == 1 then
      bif (((d1.2.2.2.2.2.length : Nat) : Int)) == 0 then
       (I7 rf d1.2.2.2.1).bind fun y1 =>
       some y1
      else
       some false
     else
     bif d1.1 == 3 then
      (a4e rf (d1.2.1, d1.2.2.1)).bind fun y2 =>
      bif y2 then
       bif (((d1.2.2.2.2.1.length : Nat) : Int)) == 0 then
        bif (((d1.2.2.2.2.2.length : Nat) : Int)) == 0 then
         (I7 rf d1.2.2.2.1).bind fun y3 =>
         some y3
        else
         some false
       else
        some false
      else
       some false
     else
     bif d1.1 == 4 then
      (c12 rf d1.2.1).bind fun y4 =>
      bif y4 then
       bif d1.2.2.1 == 0 then
        bif (((d1.2.2.2.2.2.length : Nat) : Int)) == 0 then
         (I7 rf d1.2.2.2.1).bind fun y5 =>
         bif y5 then
          (I7 rf d1.2.2.2.2.1).bind fun y6 =>
          some y6
         else
          some false
        else
         some false
       else
        some false
      else
       some false
     else
     bif d1.1 == 5 then
      (a6O rb d1 0).bind fun z7 =>
      match z7 with
      | .inl u8 =>
        some u8.2
      | .inr w9 =>
        (c12 rf w9.2.1).bind fun y10 =>
        bif y10 then
         bif w9.2.2.1 == 0 then
          bif (((w9.2.2.2.1.length : Nat) : Int)) == 0 then
           bif (((w9.2.2.2.2.1.length : Nat) : Int)) == 0 then
            some (decide ((((w9.2.2.2.2.2.length : Nat) : Int)) ≤ 200))
           else
            some false
          else
           some false
         else
          some false
        else
         some false
     else
      some false
    else
    bif d1.1 == 2 then
     bif (((d1.2.2.2.2.2.length : Nat) : Int)) == 0 then
      (I7 rf d1.2.2.2.1).bind fun y11 =>
      some y11
     else
      some false
    else
    bif d1.1 == 3 then
     (a4e rf (d1.2.1, d1.2.2.1)).bind fun y12 =>
     bif y12 then
      bif (((d1.2.2.2.2.1.length : Nat) : Int)) == 0 then
       bif (((d1.2.2.2.2.2.length : Nat) : Int)) == 0 then
        (I7 rf d1.2.2.2.1).bind fun y13 =>
        some y13
       else
        some false
      else
       some false
     else
      some false
    else
    bif d1.1 == 4 then
     (c12 rf d1.2.1).bind fun y14 =>
     bif y14 then
      bif d1.2.2.1 == 0 then
       bif (((d1.2.2.2.2.2.length : Nat) : Int)) == 0 then
        (I7 rf d1.2.2.2.1).bind fun y15 =>
        bif y15 then
         (I7 rf d1.2.2.2.2.1).bind fun y16 =>
         some y16
        else
         some false
       else
        some false
      else
       some false
     else
      some false
    else
    bif d1.1 == 5 then
     (a6O rb d1 0).bind fun z17 =>
     match z17 with
     | .inl u18 =>
       some u18.2
     | .inr w19 =>
       (c12 rf w19.2.1).bind fun y20 =>
       bif y20 then
        bif w19.2.2.1 == 0 then
         bif (((w19.2.2.2.1.length : Nat) : Int)) == 0 then
          bif (((w19.2.2.2.2.1.length : Nat) : Int)) == 0 then
           some (decide ((((w19.2.2.2.2.2.length : Nat) : Int)) ≤ 200))
          else
           some false
         else
          some false
        else
         some false
       else
        some false
    else
     some false
   else
   bif d1.1 == 1 then
    bif d1.1 == 1 then
     some false
    else
    bif d1.1 == 3 then
     (a4e rf (d1.2.1, d1.2.2.1)).bind fun y21 =>
     bif y21 then
      bif (((d1.2.2.2.2.1.length : Nat) : Int)) == 0 then
       bif (((d1.2.2.2.2.2.length : Nat) : Int)) == 0 then
        (I7 rf d1.2.2.2.1).bind fun y22 =>
        some y22
       else
        some false
      else
       some false
     else
      some false
    else
    bif d1.1 == 4 then
     (c12 rf d1.2.1).bind fun y23 =>
     bif y23 then
      bif d1.2.2.1 == 0 then
       bif (((d1.2.2.2.2.2.length : Nat) : Int)) == 0 then
        (I7 rf d1.2.2.2.1).bind fun y24 =>
        bif y24 then
         (I7 rf d1.2.2.2.2.1).bind fun y25 =>
         some y25
        else
         some false
       else
        some false
      else
       some false
     else
      some false
    else
    bif d1.1 == 5 then
     (a6O rb d1 0).bind fun z26 =>
     match z26 with
     | .inl u27 =>
       some u27.2
     | .inr w28 =>
       (c12 rf w28.2.1).bind fun y29 =>
       bif y29 then
        bif w28.2.2.1 == 0 then
         bif (((w28.2.2.2.1.length : Nat) : Int)) == 0 then
          bif (((w28.2.2.2.2.1.length : Nat) : Int)) == 0 then
           some (decide ((((w28.2.2.2.2.2.length : Nat) : Int)) ≤ 200))
          else
           some false
         else
          some false
        else
         some false
       else
        some false
    else
     some false
   else
   bif d1.1 == 2 then
    some false
   else
   bif d1.1 == 3 then
    (a4e rf (d1.2.1, d1.2.2.1)).bind fun y30 =>
    bif y30 then
     bif (((d1.2.2.2.2.1.length : Nat) : Int)) == 0 then
      bif (((d1.2.2.2.2.2.length : Nat) : Int)) == 0 then
       (I7 rf d1.2.2.2.1).bind fun y31 =>
       some y31
      else
       some false
     else
      some false
    else
     some false
   else
   bif d1.1 == 4 then
    (c12 rf d1.2.1).bind fun y32 =>
    bif y32 then
     bif d1.2.2.1 == 0 then
      bif (((d1.2.2.2.2.2.length : Nat) : Int)) == 0 then
       (I7 rf d1.2.2.2.1).bind fun y33 =>
       bif y33 then
        (I7 rf d1.2.2.2.2.1).bind fun y34 =>
        some y34
       else
        some false
      else
       some false
     else
      some false
    else
     some false
   else
   bif d1.1 == 5 then
    (a6O rb d1 0).bind fun z35 =>
    match z35 with
    | .inl u36 =>
      some u36.2
    | .inr w37 =>
      (c12 rf w37.2.1).bind fun y38 =>
      bif y38 then
       bif w37.2.2.1 == 0 then
        bif (((w37.2.2.2.1.length : Nat) : Int)) == 0 then
         bif (((w37.2.2.2.2.1.length : Nat) : Int)) == 0 then
          some (decide ((((w37.2.2.2.2.2.length : Nat) : Int)) ≤ 200))
         else
          some false
        else
         some false
       else
        some false
      else
       some false
   else
    some false
  else
  bif d1.1 == 1 then
   bif d1.1 == 1 then
    some false
   else
   bif d1.1 == 3 then
    (a4e rf (d1.2.1, d1.2.2.1)).bind fun y39 =>
    bif y39 then
     bif (((d1.2.2.2.2.1.length : Nat) : Int)) == 0 then
      bif (((d1.2.2.2.2.2.length : Nat) : Int)) == 0 then
       (I7 rf d1.2.2.2.1).bind fun y40 =>
       some y40
      else
       some false
     else
      some false
    else
     some false
   else
   bif d1.1 == 4 then
    (c12 rf d1.2.1).bind fun y41 =>
    bif y41 then
     bif d1.2.2.1 == 0 then
      bif (((d1.2.2.2.2.2.length : Nat) : Int)) == 0 then
       (I7 rf d1.2.2.2.1).bind fun y42 =>
       bif y42 then
        (I7 rf d1.2.2.2.2.1).bind fun y43 =>
        some y43
       else
        some false
      else
       some false
     else
      some false
    else
     some false
   else
   bif d1.1 == 5 then
    (a6O rb d1 0).bind fun z44 =>
    match z44 with
    | .inl u45 =>
      some u45.2
    | .inr w46 =>
      (c12 rf w46.2.1).bind fun y47 =>
      bif y47 then
       bif w46.2.2.1 == 0 then
        bif (((w46.2.2.2.1.length : Nat) : Int)) == 0 then
         bif (((w46.2.2.2.2.1.length : Nat) : Int)) == 0 then
          some (decide ((((w46.2.2.2.2.2.length : Nat) : Int)) ≤ 200))
         else
          some false
        else
         some false
       else
        some false
      else
       some false
   else
    some false
  else
  bif d1.1 == 2 then
   some false
  else
  bif d1.1 == 3 then
   (a4e rf (d1.2.1, d1.2.2.1)).bind fun y48 =>
   bif y48 then
    bif (((d1.2.2.2.2.1.length : Nat) : Int)) == 0 then
     bif (((d1.2.2.2.2.2.length : Nat) : Int)) == 0 then
      (I7 rf d1.2.2.2.1).bind fun y49 =>
      some y49
     else
      some false
    else
     some false
   else
    some false
  else
  bif d1.1 == 4 then
   (c12 rf d1.2.1).bind fun y50 =>
   bif y50 then
    bif d1.2.2.1 == 0 then
     bif (((d1.2.2.2.2.2.length : Nat) : Int)) == 0 then
      (I7 rf d1.2.2.2.1).bind fun y51 =>
      bif y51 then
       (I7 rf d1.2.2.2.2.1).bind fun y52 =>
       some y52
      else
       some false
     else
      some false
    else
     some false
   else
    some false
  else
  bif d1.1 == 5 then
   (a6O rb d1 0).bind fun z53 =>
   match z53 with
   | .inl u54 =>
     some u54.2
   | .inr w55 =>
     (c12 rf w55.2.1).bind fun y56 =>
     bif y56 then
      bif w55.2.2.1 == 0 then
       bif (((w55.2.2.2.1.length : Nat) : Int)) == 0 then
        bif (((w55.2.2.2.2.1.length : Nat) : Int)) == 0 then
         some (decide ((((w55.2.2.2.2.2.length : Nat) : Int)) ≤ 200))
        else
         some false
       else
        some false
      else
       some false
     else
      some false
  else
   some false
 else
 bif d1.1 == 1 then
  bif d1.1 == 1 then
   some false
  else
  bif d1.1 == 3 then
   (a4e rf (d1.2.1, d1.2.2.1)).bind fun y57 =>
   bif y57 then
    bif (((d1.2.2.2.2.1.length : Nat) : Int)) == 0 then
     bif (((d1.2.2.2.2.2.length : Nat) : Int)) == 0 then
      (I7 rf d1.2.2.2.1).bind fun y58 =>
      some y58
     else
      some false
    else
     some false
   else
    some false
  else
  bif d1.1 == 4 then
   (c12 rf d1.2.1).bind fun y59 =>
   bif y59 then
    bif d1.2.2.1 == 0 then
     bif (((d1.2.2.2.2.2.length : Nat) : Int)) == 0 then
      (I7 rf d1.2.2.2.1).bind fun y60 =>
      bif y60 then
       (I7 rf d1.2.2.2.2.1).bind fun y61 =>
       some y61
      else
       some false
     else
      some false
    else
     some false
   else
    some false
  else
  bif d1.1 == 5 then
   (a6O rb d1 0).bind fun z62 =>
   match z62 with
   | .inl u63 =>
     some u63.2
   | .inr w64 =>
     (c12 rf w64.2.1).bind fun y65 =>
     bif y65 then
      bif w64.2.2.1 == 0 then
       bif (((w64.2.2.2.1.length : Nat) : Int)) == 0 then
        bif (((w64.2.2.2.2.1.length : Nat) : Int)) == 0 then
         some (decide ((((w64.2.2.2.2.2.length : Nat) : Int)) ≤ 200))
        else
         some false
       else
        some false
      else
       some false
     else
      some false
  else
   some false
 else
 bif d1.1 == 2 then
  some false
 else
 bif d1.1 == 3 then
  (a4e rf (d1.2.1, d1.2.2.1)).bind fun y66 =>
  bif y66 then
   bif (((d1.2.2.2.2.1.length : Nat) : Int)) == 0 then
    bif (((d1.2.2.2.2.2.length : Nat) : Int)) == 0 then
     (I7 rf d1.2.2.2.1).bind fun y67 =>
     some y67
    else
     some false
   else
    some false
  else
   some false
 else
 bif d1.1 == 4 then
  (c12 rf d1.2.1).bind fun y68 =>
  bif y68 then
   bif d1.2.2.1 == 0 then
    bif (((d1.2.2.2.2.2.length : Nat) : Int)) == 0 then
     (I7 rf d1.2.2.2.1).bind fun y69 =>
     bif y69 then
      (I7 rf d1.2.2.2.2.1).bind fun y70 =>
      some y70
     else
      some false
    else
     some false
   else
    some false
  else
   some false
 else
 bif d1.1 == 5 then
  (a6O rb d1 0).bind fun z71 =>
  match z71 with
  | .inl u72 =>
    some u72.2
  | .inr w73 =>
    (c12 rf w73.2.1).bind fun y74 =>
    bif y74 then
     bif w73.2.2.1 == 0 then
      bif (((w73.2.2.2.1.length : Nat) : Int)) == 0 then
       bif (((w73.2.2.2.2.1.length : Nat) : Int)) == 0 then
        some (decide ((((w73.2.2.2.2.2.length : Nat) : Int)) ≤ 200))
       else
        some false
      else
       some false
     else
      some false
    else
     some false
 else
  some false
theorem c3M : EqF 161 fun a b => c1t a b := fun _ _ _ => by kernel_rfl
theorem d1O {d1 y} (h : c1t T.rf T.rb d1 = some y) : c5R T.rf d1 = some y := c3M.o h
def b6j (rf : T.RF) (rb : T.RB) (d1 : XUn) (d2 : Int) : Option ((XUn × Bool) ⊕ XUn) :=
 bif decide (d2 < (((d1.2.2.2.2.2.2.1.length : Nat) : Int))) then
  bif inb d2 d1.2.2.2.2.2.2.1.length then
   (nth d1.2.2.2.2.2.2.1 d2.toNat).bind fun x1 =>
   (c12 rf x1.1).bind fun y2 =>
   bif !y2 then
   some (.inl (d1, false))
   else
   bif inb d2 d1.2.2.2.2.2.2.1.length then
   (nth d1.2.2.2.2.2.2.1 d2.toNat).bind fun x3 =>
   (I7 rf x3.2).bind fun y4 =>
   bif !y4 then
   some (.inl (d1, false))
   else
   b2q rb d1 (IntKind.i64.wrap (d2 + 1))
   else
   none
  else
   none
 else
  some (.inr d1)
theorem c2q : EqB 212 fun a b => U2 (b6j a b) := fun _ _ _ => by kernel_rfl
theorem c4w {d1 d2 y} (h : b6j T.rf T.rb d1 d2 = some y) : b2q T.rb d1 d2 = some y := c2q.o h
def b6l (rf : T.RF) (rb : T.RB) (d1 : XUn) (d2 : Int) : Option ((XUn × Bool) ⊕ XUn) :=
 bif decide (d2 < (((d1.2.2.2.2.2.2.2.length : Nat) : Int))) then
  bif inb d2 d1.2.2.2.2.2.2.2.length then
   (nth d1.2.2.2.2.2.2.2 d2.toNat).bind fun x1 =>
   (c5R rf x1).bind fun y2 =>
   bif !y2 then
   some (.inl (d1, false))
   else
   b2r rb d1 (IntKind.i64.wrap (d2 + 1))
  else
   none
 else
  some (.inr d1)
theorem c2s : EqB 214 fun a b => U2 (b6l a b) := fun _ _ _ => by kernel_rfl
theorem c4y {d1 d2 y} (h : b6l T.rf T.rb d1 d2 = some y) : b2r T.rb d1 d2 = some y := c2s.o h
def c1p (rf : T.RF) (rb : T.RB) (d1 : XUn) : Option Bool :=
 (c12 rf d1.2.1).bind fun y1 =>
 bif !y1 then
  some false
 else
  (b9I rf d1.2.2.1).bind fun y2 =>
  bif !y2 then
   some false
  else
   (b9I rf d1.2.2.2.2.2.1).bind fun y3 =>
   bif !y3 then
    some false
   else
   bif decide ((((d1.2.2.2.2.2.2.1.length : Nat) : Int)) > 200) then
    some false
   else
   bif decide ((((d1.2.2.2.2.2.2.2.length : Nat) : Int)) > 200) then
    some false
   else
   bif d1.1 then
    bif !((d1.2.2.2.1 == ([] : List UInt8)) && (d1.2.2.2.2.1 == 0)) then
     some false
    else
    bif decide ((((d1.2.2.2.2.2.1.length : Nat) : Int)) > 0) then
     some false
    else
    bif decide ((((d1.2.2.2.2.2.2.1.length : Nat) : Int)) > 0) then
     some false
    else
    bif !d1.1 then
     (a4e rf (d1.2.2.2.1, d1.2.2.2.2.1)).bind fun y4 =>
     bif !y4 then
      some false
     else
      (b2q rb d1 0).bind fun z5 =>
      match z5 with
      | .inl u6 =>
        some u6.2
      | .inr w7 =>
        (b2r rb w7 0).bind fun z8 =>
        match z8 with
        | .inl u9 =>
          some u9.2
        | .inr w10 =>
          some true
    else
     (b2q rb d1 0).bind fun z11 =>
     match z11 with
     | .inl u12 =>
       some u12.2
     | .inr w13 =>
       (b2r rb w13 0).bind fun z14 =>
       match z14 with
       | .inl u15 =>
         some u15.2
       | .inr w16 =>
         some true
   else
   bif !d1.1 then
    (a4e rf (d1.2.2.2.1, d1.2.2.2.2.1)).bind fun y17 =>
    bif !y17 then
     some false
    else
     (b2q rb d1 0).bind fun z18 =>
     match z18 with
     | .inl u19 =>
       some u19.2
     | .inr w20 =>
       (b2r rb w20 0).bind fun z21 =>
       match z21 with
       | .inl u22 =>
         some u22.2
       | .inr w23 =>
         some true
   else
    (b2q rb d1 0).bind fun z24 =>
    match z24 with
    | .inl u25 =>
      some u25.2
    | .inr w26 =>
      (b2r rb w26 0).bind fun z27 =>
      match z27 with
      | .inl u28 =>
        some u28.2
      | .inr w29 =>
        some true
theorem c3I : EqF 157 fun a b => c1p a b := fun _ _ _ => by kernel_rfl
theorem d1K {d1 y} (h : c1p T.rf T.rb d1 = some y) : c5Q T.rf d1 = some y := c3I.o h
def b6h (rf : T.RF) (rb : T.RB) (d1 : XPg) (d2 : Int) : Option ((XPg × Bool) ⊕ XPg) :=
 bif decide (d2 < (((d1.1.length : Nat) : Int))) then
  bif inb d2 d1.1.length then
   (nth d1.1 d2.toNat).bind fun x1 =>
   (c5Q rf x1).bind fun y2 =>
   bif !y2 then
   some (.inl (d1, false))
   else
   b7e rb d1 (IntKind.i64.wrap (d2 + 1))
  else
   none
 else
  some (.inr d1)
theorem c2o : EqB 210 fun a b => U2 (b6h a b) := fun _ _ _ => by kernel_rfl
theorem c4u {d1 d2 y} (h : b6h T.rf T.rb d1 d2 = some y) : b7e T.rb d1 d2 = some y := c2o.o h
def c1o (rf : T.RF) (rb : T.RB) (d1 : XPg) : Option Bool :=
 (c12 rf d1.2.1).bind fun y1 =>
 bif !y1 then
  some false
 else
 bif !(d1.2.2 == ([] : List UInt8)) then
  (c12 rf d1.2.2).bind fun y2 =>
  bif !y2 then
   some false
  else
  bif decide ((((d1.1.length : Nat) : Int)) > 200) then
   some false
  else
   (b7e rb d1 0).bind fun z3 =>
   match z3 with
   | .inl u4 =>
     some u4.2
   | .inr w5 =>
     some true
 else
 bif decide ((((d1.1.length : Nat) : Int)) > 200) then
  some false
 else
  (b7e rb d1 0).bind fun z6 =>
  match z6 with
  | .inl u7 =>
    some u7.2
  | .inr w8 =>
    some true
theorem c3H : EqF 156 fun a b => c1o a b := fun _ _ _ => by kernel_rfl
theorem d1J {d1 y} (h : c1o T.rf T.rb d1 = some y) : b9H T.rf d1 = some y := c3H.o h
def b8u (rf : T.RF) (rb : T.RB) (d1 : Int) : Option (List UInt8) :=
 bif decide (d1 ≥ 10) then
  (b4G rf (IntKind.i64.wrap (Int.tdiv d1 10))).bind fun y1 =>
  bif Nat.ble (y1.length + (strOf [IntKind.u8.wrap (IntKind.i64.wrap (48 + (Int.tmod d1 10)))]).length) j4 then
   some (y1 ++ (strOf [IntKind.u8.wrap (IntKind.i64.wrap (48 + (Int.tmod d1 10)))]))
  else
   none
 else
  some (strOf [IntKind.u8.wrap (IntKind.i64.wrap (48 + (Int.tmod d1 10)))])
theorem c3R : EqF 166 fun a b => b8u a b := fun _ _ _ => by kernel_rfl
theorem c4N {d1 y} (h : b8u T.rf T.rb d1 = some y) : b4G T.rf d1 = some y := c3R.o h
def b4z (rf : T.RF) (rb : T.RB) (d1 : List (List UInt8)) (d2 : List XN) (d3 : Int) : Option (List (List UInt8)) :=
 bif decide (d3 ≥ 0) then
  bif inb d3 d2.length then
   (nth d2 d3.toNat).bind fun x1 =>
   (a9x rf d2 x1.2.1).bind fun y2 =>
   bif (Nat.ble (d1.length + 1) j4) && true then
   bif inb d3 d2.length then
   (nth d2 d3.toNat).bind fun x3 =>
   b7g rb (d1 ++ [y2]) d2 x3.2.2.1
   else
   none
   else
   none
  else
   none
 else
  some d1
theorem c2w : EqB 219 fun a b => U3 (b4z a b) := fun _ _ _ => by kernel_rfl
theorem b7Q {d1 d2 d3 y} (h : b4z T.rf T.rb d1 d2 d3 = some y) : b7g T.rb d1 d2 d3 = some y := c2w.o h
def b6p (rf : T.RF) (rb : T.RB) (d1 : List (List UInt8)) (d2 : List UInt8) (d3 : Int) : Option (List (List UInt8) × List UInt8) :=
 bif decide (d3 ≥ 0) then
  bif Nat.ble (d2.length + 1) j4 then
   bif inb d3 d1.length then
   (nth d1 d3.toNat).bind fun x1 =>
   bif Nat.ble ((d2 ++ ([32] : List UInt8)).length + x1.length) j4 then
   bif decide (d3 > 0) then
   bif Nat.ble (((d2 ++ ([32] : List UInt8)) ++ x1).length + 2) j4 then
   b7h rb d1 (((d2 ++ ([32] : List UInt8)) ++ x1) ++ ([32, 44] : List UInt8)) (IntKind.i64.wrap (d3 - 1))
   else
   none
   else
   b7h rb d1 ((d2 ++ ([32] : List UInt8)) ++ x1) (IntKind.i64.wrap (d3 - 1))
   else
   none
   else
   none
  else
   none
 else
  some (d1, d2)
theorem c2x : EqB 220 fun a b => U3 (b6p a b) := fun _ _ _ => by kernel_rfl
theorem c4C {d1 d2 d3 y} (h : b6p T.rf T.rb d1 d2 d3 = some y) : b7h T.rb d1 d2 d3 = some y := c2x.o h
def b8v (rf : T.RF) (rb : T.RB) (d1 : List XN) (d2 : Int) : Option (List UInt8) :=
 bif inb d2 d1.length then
  (nth d1 d2.toNat).bind fun x1 =>
  bif decide (x1.2.1 < 0) then
   bif inb d2 d1.length then
   (nth d1 d2.toNat).bind fun x2 =>
   bif Nat.ble (x2.2.2.2.2.2.length + 4) j4 then
   some (x2.2.2.2.2.2 ++ ([32, 40, 32, 41] : List UInt8))
   else
   none
   else
   none
  else
  bif inb d2 d1.length then
   (nth d1 d2.toNat).bind fun x3 =>
   (b7g rb [] d1 x3.2.1).bind fun z4 =>
   bif inb d2 d1.length then
   (nth d1 d2.toNat).bind fun x5 =>
   bif Nat.ble (x5.2.2.2.2.2.length + 2) j4 then
   (b7h rb z4 (x5.2.2.2.2.2 ++ ([32, 40] : List UInt8)) (IntKind.i64.wrap ((((z4.length : Nat) : Int)) - 1))).bind fun z6 =>
   bif Nat.ble (z6.2.length + 2) j4 then
   some (z6.2 ++ ([32, 41] : List UInt8))
   else
   none
   else
   none
   else
   none
  else
   none
 else
  none
theorem c3S : EqF 167 fun a b => U2 (b8v a b) := fun _ _ _ => by kernel_rfl
theorem c4O {d1 d2 y} (h : b8v T.rf T.rb d1 d2 = some y) : b9J T.rf d1 d2 = some y := c3S.o h
def b5n (rf : T.RF) (rb : T.RB) (d1 : Int) : Option Int :=
 bif decide (d1 < 0) then
  some (-1)
 else
 bif decide (d1 ≥ 28) then
  some (-1)
 else
 bif inb d1 28 then
  (nth [(-1), 10, 10, 10, 9, 9, 5, 4, 4, 2, 6, 6, 6, 6, 7, 7, 8, 8, 8, 1, 3, 9, 9, 9, 9, 9, 0, 10] d1.toNat).bind fun x1 =>
  some x1
 else
  none
theorem c3U : EqF 169 fun a b => b5n a b := fun _ _ _ => by kernel_rfl
theorem d1S {d1 y} (h : b5n T.rf T.rb d1 = some y) : b9K T.rf d1 = some y := c3U.o h
def c1v (rf : T.RF) (rb : T.RB) (d1 : List XN) (d2 : Int) (d3 : Int) : Option (List UInt8) :=
 (a9x rf d1 d2).bind fun y1 =>
 bif inb d2 d1.length then
  (nth d1 d2.toNat).bind fun x2 =>
  (b9K rf x2.1).bind fun y3 =>
  bif decide (y3 < d3) then
   bif Nat.ble (2 + y1.length) j4 then
   bif Nat.ble ((([40, 32] : List UInt8) ++ y1).length + 2) j4 then
   some ((([40, 32] : List UInt8) ++ y1) ++ ([32, 41] : List UInt8))
   else
   none
   else
   none
  else
   some y1
 else
  none
theorem c3T : EqF 168 fun a b => U3 (c1v a b) := fun _ _ _ => by kernel_rfl
theorem d1R {d1 d2 d3 y} (h : c1v T.rf T.rb d1 d2 d3 = some y) : a3a T.rf d1 d2 d3 = some y := c3T.o h
def b5o (rf : T.RF) (rb : T.RB) (d1 : Int) : Option (List UInt8) :=
 bif decide (d1 < 0) then
  some ([] : List UInt8)
 else
 bif decide (d1 ≥ 27) then
  some ([] : List UInt8)
 else
 bif inb d1 27 then
  (nth [([] : List UInt8), ([] : List UInt8), ([] : List UInt8), ([] : List UInt8), ([110, 111, 116] : List UInt8), ([45] : List UInt8), ([97, 110, 100] : List UInt8), ([111, 114] : List UInt8), ([120, 111, 114] : List UInt8), ([61, 62] : List UInt8), ([61] : List UInt8), ([60, 62] : List UInt8), ([60] : List UInt8), ([60, 61] : List UInt8), ([43] : List UInt8), ([45] : List UInt8), ([42] : List UInt8), ([100, 105, 118] : List UInt8), ([109, 111, 100] : List UInt8), ([45, 62] : List UInt8), ([115, 105, 110, 99, 101] : List UInt8), ([112, 114, 101] : List UInt8), ([111, 110, 99, 101] : List UInt8), ([104, 105, 115, 116] : List UInt8), ([112, 114, 101, 118] : List UInt8), ([119, 105, 116, 104, 105, 110] : List UInt8), ([105, 102] : List UInt8)] d1.toNat).bind fun x1 =>
  some x1
 else
  none
theorem c3V : EqF 170 fun a b => b5o a b := fun _ _ _ => by kernel_rfl
theorem d1T {d1 y} (h : b5o T.rf T.rb d1 = some y) : b2c T.rf d1 = some y := c3V.o h
def a5B (rf : T.RF) (rb : T.RB) (d1 : List XN) (d2 : Int) : Option (List UInt8) :=
 bif inb d2 d1.length then
  (nth d1 d2.toNat).bind fun x1 =>
  bif x1.1 == 1 then
   (b4G rf x1.2.2.2.2.1).bind fun y2 =>
   some y2
  else
  bif x1.1 == 2 then
   bif x1.2.2.2.2.1 == 1 then
   some ([116, 114, 117, 101] : List UInt8)
   else
   some ([102, 97, 108, 115, 101] : List UInt8)
  else
  bif x1.1 == 3 then
   some x1.2.2.2.2.2
  else
  bif x1.1 == 27 then
   (b9J rf d1 d2).bind fun y3 =>
   some y3
  else
  bif x1.1 == 26 then
   (a9x rf d1 x1.2.1).bind fun y4 =>
   bif Nat.ble (3 + y4.length) j4 then
   bif Nat.ble ((([105, 102, 32] : List UInt8) ++ y4).length + 6) j4 then
   (a9x rf d1 x1.2.2.1).bind fun y5 =>
   bif Nat.ble (((([105, 102, 32] : List UInt8) ++ y4) ++ ([32, 116, 104, 101, 110, 32] : List UInt8)).length + y5.length) j4 then
   bif Nat.ble ((((([105, 102, 32] : List UInt8) ++ y4) ++ ([32, 116, 104, 101, 110, 32] : List UInt8)) ++ y5).length + 6) j4 then
   (a9x rf d1 x1.2.2.2.1).bind fun y6 =>
   bif Nat.ble (((((([105, 102, 32] : List UInt8) ++ y4) ++ ([32, 116, 104, 101, 110, 32] : List UInt8)) ++ y5) ++ ([32, 101, 108, 115, 101, 32] : List UInt8)).length + y6.length) j4 then
   some (((((([105, 102, 32] : List UInt8) ++ y4) ++ ([32, 116, 104, 101, 110, 32] : List UInt8)) ++ y5) ++ ([32, 101, 108, 115, 101, 32] : List UInt8)) ++ y6)
   else
   none
   else
   none
   else
   none
   else
   none
   else
   none
  else
  bif x1.1 == 25 then
   (b4G rf x1.2.2.2.2.1).bind fun y7 =>
   bif Nat.ble (7 + y7.length) j4 then
   bif Nat.ble ((([119, 105, 116, 104, 105, 110, 32] : List UInt8) ++ y7).length + 1) j4 then
   (a3a rf d1 x1.2.1 9).bind fun y8 =>
   bif Nat.ble (((([119, 105, 116, 104, 105, 110, 32] : List UInt8) ++ y7) ++ ([32] : List UInt8)).length + y8.length) j4 then
   some (((([119, 105, 116, 104, 105, 110, 32] : List UInt8) ++ y7) ++ ([32] : List UInt8)) ++ y8)
   else
   none
   else
   none
   else
   none
  else
   (b9K rf x1.1).bind fun y9 =>
   bif y9 == 9 then
   (b2c rf x1.1).bind fun y10 =>
   bif Nat.ble (y10.length + 1) j4 then
   (a3a rf d1 x1.2.1 9).bind fun y11 =>
   bif Nat.ble ((y10 ++ ([32] : List UInt8)).length + y11.length) j4 then
   some ((y10 ++ ([32] : List UInt8)) ++ y11)
   else
   none
   else
   none
   else
   bif decide (y9 ≤ 2) then
   bif y9 == 6 then
   (a3a rf d1 x1.2.1 7).bind fun y12 =>
   bif Nat.ble (y12.length + 1) j4 then
   (b2c rf x1.1).bind fun y13 =>
   bif Nat.ble ((y12 ++ ([32] : List UInt8)).length + y13.length) j4 then
   bif Nat.ble (((y12 ++ ([32] : List UInt8)) ++ y13).length + 1) j4 then
   (a3a rf d1 x1.2.2.1 y9).bind fun y14 =>
   bif Nat.ble ((((y12 ++ ([32] : List UInt8)) ++ y13) ++ ([32] : List UInt8)).length + y14.length) j4 then
   some ((((y12 ++ ([32] : List UInt8)) ++ y13) ++ ([32] : List UInt8)) ++ y14)
   else
   none
   else
   none
   else
   none
   else
   none
   else
   (a3a rf d1 x1.2.1 (IntKind.i64.wrap (y9 + 1))).bind fun y15 =>
   bif Nat.ble (y15.length + 1) j4 then
   (b2c rf x1.1).bind fun y16 =>
   bif Nat.ble ((y15 ++ ([32] : List UInt8)).length + y16.length) j4 then
   bif Nat.ble (((y15 ++ ([32] : List UInt8)) ++ y16).length + 1) j4 then
   (a3a rf d1 x1.2.2.1 y9).bind fun y17 =>
   bif Nat.ble ((((y15 ++ ([32] : List UInt8)) ++ y16) ++ ([32] : List UInt8)).length + y17.length) j4 then
   some ((((y15 ++ ([32] : List UInt8)) ++ y16) ++ ([32] : List UInt8)) ++ y17)
   else
   none
   else
   none
   else
   none
   else
   none
   else
   bif y9 == 6 then
   (a3a rf d1 x1.2.1 7).bind fun y18 =>
   bif Nat.ble (y18.length + 1) j4 then
   (b2c rf x1.1).bind fun y19 =>
   bif Nat.ble ((y18 ++ ([32] : List UInt8)).length + y19.length) j4 then
   bif Nat.ble (((y18 ++ ([32] : List UInt8)) ++ y19).length + 1) j4 then
   (a3a rf d1 x1.2.2.1 (IntKind.i64.wrap (y9 + 1))).bind fun y20 =>
   bif Nat.ble ((((y18 ++ ([32] : List UInt8)) ++ y19) ++ ([32] : List UInt8)).length + y20.length) j4 then
   some ((((y18 ++ ([32] : List UInt8)) ++ y19) ++ ([32] : List UInt8)) ++ y20)
   else
   none
   else
   none
   else
   none
   else
   none
   else
   (a3a rf d1 x1.2.1 y9).bind fun y21 =>
   bif Nat.ble (y21.length + 1) j4 then
   (b2c rf x1.1).bind fun y22 =>
   bif Nat.ble ((y21 ++ ([32] : List UInt8)).length + y22.length) j4 then
   bif Nat.ble (((y21 ++ ([32] : List UInt8)) ++ y22).length + 1) j4 then
   (a3a rf d1 x1.2.2.1 (IntKind.i64.wrap (y9 + 1))).bind fun y23 =>
   bif Nat.ble ((((y21 ++ ([32] : List UInt8)) ++ y22) ++ ([32] : List UInt8)).length + y23.length) j4 then
   some ((((y21 ++ ([32] : List UInt8)) ++ y22) ++ ([32] : List UInt8)) ++ y23)
   else
   none
   else
   none
   else
   none
   else
   none
 else
  none
theorem c3Q : EqF 165 fun a b => U2 (a5B a b) := fun _ _ _ => by kernel_rfl
theorem a8Y {d1 d2 y} (h : a5B T.rf T.rb d1 d2 = some y) : a9x T.rf d1 d2 = some y := c3Q.o h
def b8t (rf : T.RF) (rb : T.RB) (d1 : List XN) : Option (List UInt8) :=
 (I7 rf d1).bind fun y1 =>
 bif !y1 then
  some ([] : List UInt8)
 else
  (a9x rf d1 (IntKind.i64.wrap ((((d1.length : Nat) : Int)) - 1))).bind fun y2 =>
  some y2
theorem c3P : EqF 164 fun a b => b8t a b := fun _ _ _ => by kernel_rfl
theorem c4M {d1 y} (h : b8t T.rf T.rb d1 = some y) : a9w T.rf d1 = some y := c3P.o h
def c1w (rf : T.RF) (rb : T.RB) (d1 : XPm) : Option (List UInt8) :=
 bif d1.2 == 1 then
  bif Nat.ble (d1.1.length + 7) j4 then
   some (d1.1 ++ ([32, 58, 32, 98, 111, 111, 108] : List UInt8))
  else
   none
 else
 bif Nat.ble (d1.1.length + 6) j4 then
  some (d1.1 ++ ([32, 58, 32, 105, 110, 116] : List UInt8))
 else
  none
theorem c3W : EqF 171 fun a b => c1w a b := fun _ _ _ => by kernel_rfl
theorem d1U {d1 y} (h : c1w T.rf T.rb d1 = some y) : b2d T.rf d1 = some y := c3W.o h
def b6q (rf : T.RF) (rb : T.RB) (d1 : XIt) (d2 : List UInt8) (d3 : Int) : Option (XIt × List UInt8) :=
 bif decide (d3 < (((d1.2.2.2.2.2.length : Nat) : Int))) then
  bif Nat.ble (d2.length + 1) j4 then
   bif inb d3 d1.2.2.2.2.2.length then
   (nth d1.2.2.2.2.2 d3.toNat).bind fun x1 =>
   (a9w rf x1).bind fun y2 =>
   bif Nat.ble ((d2 ++ ([32] : List UInt8)).length + y2.length) j4 then
   bif decide (d3 < (IntKind.i64.wrap ((((d1.2.2.2.2.2.length : Nat) : Int)) - 1))) then
   bif Nat.ble (((d2 ++ ([32] : List UInt8)) ++ y2).length + 2) j4 then
   b7i rb d1 (((d2 ++ ([32] : List UInt8)) ++ y2) ++ ([32, 44] : List UInt8)) (IntKind.i64.wrap (d3 + 1))
   else
   none
   else
   b7i rb d1 ((d2 ++ ([32] : List UInt8)) ++ y2) (IntKind.i64.wrap (d3 + 1))
   else
   none
   else
   none
  else
   none
 else
  some (d1, d2)
theorem c2y : EqB 221 fun a b => U3 (b6q a b) := fun _ _ _ => by kernel_rfl
theorem c4D {d1 d2 d3 y} (h : b6q T.rf T.rb d1 d2 d3 = some y) : b7i T.rb d1 d2 d3 = some y := c2y.o h
def b1m (rf : T.RF) (rb : T.RB) (d1 : XIt) : Option (List UInt8) :=
 (a9w rf d1.2.2.2.1).bind fun y1 =>
 bif d1.1 == 1 then
  bif Nat.ble (7 + y1.length) j4 then
   bif Nat.ble ((([97, 115, 115, 117, 109, 101, 32] : List UInt8) ++ y1).length + 3) j4 then
   some ((([97, 115, 115, 117, 109, 101, 32] : List UInt8) ++ y1) ++ ([32, 59, 32] : List UInt8))
   else
   none
  else
   none
 else
 bif d1.1 == 2 then
  bif Nat.ble (10 + y1.length) j4 then
   bif Nat.ble ((([103, 117, 97, 114, 97, 110, 116, 101, 101, 32] : List UInt8) ++ y1).length + 3) j4 then
   some ((([103, 117, 97, 114, 97, 110, 116, 101, 101, 32] : List UInt8) ++ y1) ++ ([32, 59, 32] : List UInt8))
   else
   none
  else
   none
 else
 bif d1.1 == 3 then
  (b2d rf (d1.2.1, d1.2.2.1)).bind fun y2 =>
  bif Nat.ble (6 + y2.length) j4 then
   bif Nat.ble ((([103, 104, 111, 115, 116, 32] : List UInt8) ++ y2).length + 3) j4 then
   bif Nat.ble (((([103, 104, 111, 115, 116, 32] : List UInt8) ++ y2) ++ ([32, 61, 32] : List UInt8)).length + y1.length) j4 then
   bif Nat.ble ((((([103, 104, 111, 115, 116, 32] : List UInt8) ++ y2) ++ ([32, 61, 32] : List UInt8)) ++ y1).length + 3) j4 then
   some ((((([103, 104, 111, 115, 116, 32] : List UInt8) ++ y2) ++ ([32, 61, 32] : List UInt8)) ++ y1) ++ ([32, 59, 32] : List UInt8))
   else
   none
   else
   none
   else
   none
  else
   none
 else
 bif d1.1 == 4 then
  bif Nat.ble (5 + d1.2.1.length) j4 then
   bif Nat.ble ((([109, 111, 100, 101, 32] : List UInt8) ++ d1.2.1).length + 9) j4 then
   bif Nat.ble (((([109, 111, 100, 101, 32] : List UInt8) ++ d1.2.1) ++ ([32, 114, 101, 113, 117, 105, 114, 101, 32] : List UInt8)).length + y1.length) j4 then
   bif Nat.ble ((((([109, 111, 100, 101, 32] : List UInt8) ++ d1.2.1) ++ ([32, 114, 101, 113, 117, 105, 114, 101, 32] : List UInt8)) ++ y1).length + 8) j4 then
   (a9w rf d1.2.2.2.2.1).bind fun y3 =>
   bif Nat.ble (((((([109, 111, 100, 101, 32] : List UInt8) ++ d1.2.1) ++ ([32, 114, 101, 113, 117, 105, 114, 101, 32] : List UInt8)) ++ y1) ++ ([32, 101, 110, 115, 117, 114, 101, 32] : List UInt8)).length + y3.length) j4 then
   bif Nat.ble ((((((([109, 111, 100, 101, 32] : List UInt8) ++ d1.2.1) ++ ([32, 114, 101, 113, 117, 105, 114, 101, 32] : List UInt8)) ++ y1) ++ ([32, 101, 110, 115, 117, 114, 101, 32] : List UInt8)) ++ y3).length + 3) j4 then
   some ((((((([109, 111, 100, 101, 32] : List UInt8) ++ d1.2.1) ++ ([32, 114, 101, 113, 117, 105, 114, 101, 32] : List UInt8)) ++ y1) ++ ([32, 101, 110, 115, 117, 114, 101, 32] : List UInt8)) ++ y3) ++ ([32, 59, 32] : List UInt8))
   else
   none
   else
   none
   else
   none
   else
   none
   else
   none
  else
   none
 else
 bif Nat.ble (7 + d1.2.1.length) j4 then
  bif Nat.ble ((([105, 109, 112, 111, 114, 116, 32] : List UInt8) ++ d1.2.1).length + 2) j4 then
   (b7i rb d1 ((([105, 109, 112, 111, 114, 116, 32] : List UInt8) ++ d1.2.1) ++ ([32, 40] : List UInt8)) 0).bind fun z4 =>
   bif Nat.ble (z4.2.length + 5) j4 then
   some (z4.2 ++ ([32, 41, 32, 59, 32] : List UInt8))
   else
   none
  else
   none
 else
  none
theorem c3O : EqF 163 fun a b => b1m a b := fun _ _ _ => by kernel_rfl
theorem d1Q {d1 y} (h : b1m T.rf T.rb d1 = some y) : c5T T.rf d1 = some y := c3O.o h
def b6r (rf : T.RF) (rb : T.RB) (d1 : List XPm) (d2 : List UInt8) (d3 : Int) : Option (List UInt8) :=
 bif decide (d3 < (((d1.length : Nat) : Int))) then
  bif Nat.ble (d2.length + 1) j4 then
   bif inb d3 d1.length then
   (nth d1 d3.toNat).bind fun x1 =>
   (b2d rf x1).bind fun y2 =>
   bif Nat.ble ((d2 ++ ([32] : List UInt8)).length + y2.length) j4 then
   bif decide (d3 < (IntKind.i64.wrap ((((d1.length : Nat) : Int)) - 1))) then
   bif Nat.ble (((d2 ++ ([32] : List UInt8)) ++ y2).length + 2) j4 then
   b7j rb d1 (((d2 ++ ([32] : List UInt8)) ++ y2) ++ ([32, 59] : List UInt8)) (IntKind.i64.wrap (d3 + 1))
   else
   none
   else
   b7j rb d1 ((d2 ++ ([32] : List UInt8)) ++ y2) (IntKind.i64.wrap (d3 + 1))
   else
   none
   else
   none
  else
   none
 else
  some d2
theorem c2z : EqB 222 fun a b => U3 (b6r a b) := fun _ _ _ => by kernel_rfl
theorem c4E {d1 d2 d3 y} (h : b6r T.rf T.rb d1 d2 d3 = some y) : b7j T.rb d1 d2 d3 = some y := c2z.o h
def c1x (rf : T.RF) (rb : T.RB) (d1 : List XPm) : Option (List UInt8) :=
 (b7j rb d1 ([40] : List UInt8) 0).bind fun z1 =>
 bif Nat.ble (z1.length + 2) j4 then
  some (z1 ++ ([32, 41] : List UInt8))
 else
  none
theorem c3X : EqF 172 fun a b => c1x a b := fun _ _ _ => by kernel_rfl
theorem d1V {d1 y} (h : c1x T.rf T.rb d1 = some y) : b9L T.rf d1 = some y := c3X.o h
def b6o (rf : T.RF) (rb : T.RB) (d1 : XUn) (d2 : List UInt8) (d3 : Int) : Option (XUn × List UInt8) :=
 bif decide (d3 < (((d1.2.2.2.2.2.2.2.length : Nat) : Int))) then
  bif inb d3 d1.2.2.2.2.2.2.2.length then
   (nth d1.2.2.2.2.2.2.2 d3.toNat).bind fun x1 =>
   (c5T rf x1).bind fun y2 =>
   bif Nat.ble (d2.length + y2.length) j4 then
   c0k rb d1 (d2 ++ y2) (IntKind.i64.wrap (d3 + 1))
   else
   none
  else
   none
 else
  some (d1, d2)
theorem c2v : EqB 217 fun a b => U3 (b6o a b) := fun _ _ _ => by kernel_rfl
theorem c4B {d1 d2 d3 y} (h : b6o T.rf T.rb d1 d2 d3 = some y) : c0k T.rb d1 d2 d3 = some y := c2v.o h
def b9o (rf : T.RF) (rb : T.RB) (d1 : XUn) (d2 : List UInt8) : Option (XUn × List UInt8) :=
 (b5d rb d1 d2 0).bind fun z1 =>
 bif Nat.ble (z1.2.length + 4) j4 then
  (c0m rb z1.1 (z1.2 ++ ([108, 101, 116, 32] : List UInt8)) 0).bind fun z2 =>
  bif Nat.ble (z2.2.length + 4) j4 then
   some (z2.1, z2.2 ++ ([116, 101, 108, 32] : List UInt8))
  else
   none
 else
  none
theorem c2A : EqB 223 fun a b => U2 (b9o a b) := fun _ _ _ => by kernel_rfl
theorem d0F {d1 d2 y} (h : b9o T.rf T.rb d1 d2 = some y) : c0l T.rb d1 d2 = some y := c2A.o h
def b4A (rf : T.RF) (rb : T.RB) (d1 : XUn) (d2 : List UInt8) (d3 : Int) : Option (XUn × List UInt8) :=
 bif decide (d3 < (((d1.2.2.2.2.2.1.length : Nat) : Int))) then
  bif d3 == 0 then
   bif Nat.ble (d2.length + 4) j4 then
   bif inb d3 d1.2.2.2.2.2.1.length then
   (nth d1.2.2.2.2.2.1 d3.toNat).bind fun x1 =>
   (b2d rf x1).bind fun y2 =>
   bif Nat.ble ((d2 ++ ([118, 97, 114, 32] : List UInt8)).length + y2.length) j4 then
   bif Nat.ble (((d2 ++ ([118, 97, 114, 32] : List UInt8)) ++ y2).length + 3) j4 then
   b5d rb d1 (((d2 ++ ([118, 97, 114, 32] : List UInt8)) ++ y2) ++ ([32, 59, 32] : List UInt8)) (IntKind.i64.wrap (d3 + 1))
   else
   none
   else
   none
   else
   none
   else
   none
  else
  bif inb d3 d1.2.2.2.2.2.1.length then
   (nth d1.2.2.2.2.2.1 d3.toNat).bind fun x3 =>
   (b2d rf x3).bind fun y4 =>
   bif Nat.ble (d2.length + y4.length) j4 then
   bif Nat.ble ((d2 ++ y4).length + 3) j4 then
   b5d rb d1 ((d2 ++ y4) ++ ([32, 59, 32] : List UInt8)) (IntKind.i64.wrap (d3 + 1))
   else
   none
   else
   none
  else
   none
 else
  some (d1, d2)
theorem c2B : EqB 224 fun a b => U3 (b4A a b) := fun _ _ _ => by kernel_rfl
theorem c4F {d1 d2 d3 y} (h : b4A T.rf T.rb d1 d2 d3 = some y) : b5d T.rb d1 d2 d3 = some y := c2B.o h
def b6s (rf : T.RF) (rb : T.RB) (d1 : XUn) (d2 : List UInt8) (d3 : Int) : Option (XUn × List UInt8) :=
 bif decide (d3 < (((d1.2.2.2.2.2.2.1.length : Nat) : Int))) then
  bif inb d3 d1.2.2.2.2.2.2.1.length then
   (nth d1.2.2.2.2.2.2.1 d3.toNat).bind fun x1 =>
   bif Nat.ble (d2.length + x1.1.length) j4 then
   bif Nat.ble ((d2 ++ x1.1).length + 3) j4 then
   bif inb d3 d1.2.2.2.2.2.2.1.length then
   (nth d1.2.2.2.2.2.2.1 d3.toNat).bind fun x2 =>
   (a9w rf x2.2).bind fun y3 =>
   bif Nat.ble (((d2 ++ x1.1) ++ ([32, 61, 32] : List UInt8)).length + y3.length) j4 then
   bif Nat.ble ((((d2 ++ x1.1) ++ ([32, 61, 32] : List UInt8)) ++ y3).length + 3) j4 then
   c0m rb d1 ((((d2 ++ x1.1) ++ ([32, 61, 32] : List UInt8)) ++ y3) ++ ([32, 59, 32] : List UInt8)) (IntKind.i64.wrap (d3 + 1))
   else
   none
   else
   none
   else
   none
   else
   none
   else
   none
  else
   none
 else
  some (d1, d2)
theorem c2C : EqB 225 fun a b => U3 (b6s a b) := fun _ _ _ => by kernel_rfl
theorem c4G {d1 d2 d3 y} (h : b6s T.rf T.rb d1 d2 d3 = some y) : c0m T.rb d1 d2 d3 = some y := c2C.o h
def c1u (rf : T.RF) (rb : T.RB) (d1 : XUn) : Option (List UInt8) :=
 (c0k rb d1 ([] : List UInt8) 0).bind fun z1 =>
 bif z1.1.1 then
  bif Nat.ble (9 + z1.1.2.1.length) j4 then
   bif Nat.ble ((([99, 111, 110, 116, 114, 97, 99, 116, 32] : List UInt8) ++ z1.1.2.1).length + 1) j4 then
   (b9L rf z1.1.2.2.1).bind fun y2 =>
   bif Nat.ble (((([99, 111, 110, 116, 114, 97, 99, 116, 32] : List UInt8) ++ z1.1.2.1) ++ ([32] : List UInt8)).length + y2.length) j4 then
   bif Nat.ble ((((([99, 111, 110, 116, 114, 97, 99, 116, 32] : List UInt8) ++ z1.1.2.1) ++ ([32] : List UInt8)) ++ y2).length + 1) j4 then
   bif Nat.ble (((((([99, 111, 110, 116, 114, 97, 99, 116, 32] : List UInt8) ++ z1.1.2.1) ++ ([32] : List UInt8)) ++ y2) ++ ([32] : List UInt8)).length + z1.2.length) j4 then
   bif Nat.ble ((((((([99, 111, 110, 116, 114, 97, 99, 116, 32] : List UInt8) ++ z1.1.2.1) ++ ([32] : List UInt8)) ++ y2) ++ ([32] : List UInt8)) ++ z1.2).length + 4) j4 then
   some ((((((([99, 111, 110, 116, 114, 97, 99, 116, 32] : List UInt8) ++ z1.1.2.1) ++ ([32] : List UInt8)) ++ y2) ++ ([32] : List UInt8)) ++ z1.2) ++ ([101, 110, 100, 32] : List UInt8))
   else
   none
   else
   none
   else
   none
   else
   none
   else
   none
  else
   none
 else
 bif Nat.ble (5 + z1.1.2.1.length) j4 then
  bif Nat.ble ((([110, 111, 100, 101, 32] : List UInt8) ++ z1.1.2.1).length + 1) j4 then
   (b9L rf z1.1.2.2.1).bind fun y3 =>
   bif Nat.ble (((([110, 111, 100, 101, 32] : List UInt8) ++ z1.1.2.1) ++ ([32] : List UInt8)).length + y3.length) j4 then
   bif Nat.ble ((((([110, 111, 100, 101, 32] : List UInt8) ++ z1.1.2.1) ++ ([32] : List UInt8)) ++ y3).length + 11) j4 then
   (b2d rf (z1.1.2.2.2.1, z1.1.2.2.2.2.1)).bind fun y4 =>
   bif Nat.ble (((((([110, 111, 100, 101, 32] : List UInt8) ++ z1.1.2.1) ++ ([32] : List UInt8)) ++ y3) ++ ([32, 114, 101, 116, 117, 114, 110, 115, 32, 40, 32] : List UInt8)).length + y4.length) j4 then
   bif Nat.ble ((((((([110, 111, 100, 101, 32] : List UInt8) ++ z1.1.2.1) ++ ([32] : List UInt8)) ++ y3) ++ ([32, 114, 101, 116, 117, 114, 110, 115, 32, 40, 32] : List UInt8)) ++ y4).length + 3) j4 then
   bif decide ((((z1.1.2.2.2.2.2.2.2.length : Nat) : Int)) > 0) then
   bif Nat.ble (((((((([110, 111, 100, 101, 32] : List UInt8) ++ z1.1.2.1) ++ ([32] : List UInt8)) ++ y3) ++ ([32, 114, 101, 116, 117, 114, 110, 115, 32, 40, 32] : List UInt8)) ++ y4) ++ ([32, 41, 32] : List UInt8)).length + 9) j4 then
   bif Nat.ble ((((((((([110, 111, 100, 101, 32] : List UInt8) ++ z1.1.2.1) ++ ([32] : List UInt8)) ++ y3) ++ ([32, 114, 101, 116, 117, 114, 110, 115, 32, 40, 32] : List UInt8)) ++ y4) ++ ([32, 41, 32] : List UInt8)) ++ ([99, 111, 110, 116, 114, 97, 99, 116, 32] : List UInt8)).length + z1.2.length) j4 then
   bif Nat.ble (((((((((([110, 111, 100, 101, 32] : List UInt8) ++ z1.1.2.1) ++ ([32] : List UInt8)) ++ y3) ++ ([32, 114, 101, 116, 117, 114, 110, 115, 32, 40, 32] : List UInt8)) ++ y4) ++ ([32, 41, 32] : List UInt8)) ++ ([99, 111, 110, 116, 114, 97, 99, 116, 32] : List UInt8)) ++ z1.2).length + 4) j4 then
   (c0l rb z1.1 (((((((((([110, 111, 100, 101, 32] : List UInt8) ++ z1.1.2.1) ++ ([32] : List UInt8)) ++ y3) ++ ([32, 114, 101, 116, 117, 114, 110, 115, 32, 40, 32] : List UInt8)) ++ y4) ++ ([32, 41, 32] : List UInt8)) ++ ([99, 111, 110, 116, 114, 97, 99, 116, 32] : List UInt8)) ++ z1.2) ++ ([101, 110, 100, 32] : List UInt8))).bind fun z5 =>
   some z5.2
   else
   none
   else
   none
   else
   none
   else
   (c0l rb z1.1 ((((((([110, 111, 100, 101, 32] : List UInt8) ++ z1.1.2.1) ++ ([32] : List UInt8)) ++ y3) ++ ([32, 114, 101, 116, 117, 114, 110, 115, 32, 40, 32] : List UInt8)) ++ y4) ++ ([32, 41, 32] : List UInt8))).bind fun z6 =>
   some z6.2
   else
   none
   else
   none
   else
   none
   else
   none
  else
   none
 else
  none
theorem c3N : EqF 162 fun a b => c1u a b := fun _ _ _ => by kernel_rfl
theorem d1P {d1 y} (h : c1u T.rf T.rb d1 = some y) : c5S T.rf d1 = some y := c3N.o h
def b6n (rf : T.RF) (rb : T.RB) (d1 : XPg) (d2 : List UInt8) (d3 : Int) : Option (XPg × List UInt8) :=
 bif decide (d3 < (((d1.1.length : Nat) : Int))) then
  bif inb d3 d1.1.length then
   (nth d1.1 d3.toNat).bind fun x1 =>
   (c5S rf x1).bind fun y2 =>
   bif Nat.ble (d2.length + y2.length) j4 then
   c0j rb d1 (d2 ++ y2) (IntKind.i64.wrap (d3 + 1))
   else
   none
  else
   none
 else
  some (d1, d2)
theorem c2u : EqB 216 fun a b => U3 (b6n a b) := fun _ _ _ => by kernel_rfl
theorem c4A {d1 d2 d3 y} (h : b6n T.rf T.rb d1 d2 d3 = some y) : c0j T.rb d1 d2 d3 = some y := c2u.o h
def c1n (rf : T.RF) (rb : T.RB) (d1 : XPg) : Option (List UInt8) :=
 (b9H rf d1).bind fun y1 =>
 bif !y1 then
  some ([] : List UInt8)
 else
  (c0j rb d1 ([] : List UInt8) 0).bind fun z2 =>
  bif Nat.ble (z2.2.length + 5) j4 then
   bif Nat.ble ((z2.2 ++ ([109, 97, 105, 110, 32] : List UInt8)).length + z2.1.2.1.length) j4 then
   bif Nat.ble (((z2.2 ++ ([109, 97, 105, 110, 32] : List UInt8)) ++ z2.1.2.1).length + 2) j4 then
   bif !(z2.1.2.2 == ([] : List UInt8)) then
   bif Nat.ble ((((z2.2 ++ ([109, 97, 105, 110, 32] : List UInt8)) ++ z2.1.2.1) ++ ([32, 59] : List UInt8)).length + 10) j4 then
   bif Nat.ble (((((z2.2 ++ ([109, 97, 105, 110, 32] : List UInt8)) ++ z2.1.2.1) ++ ([32, 59] : List UInt8)) ++ ([32, 102, 97, 108, 108, 98, 97, 99, 107, 32] : List UInt8)).length + z2.1.2.2.length) j4 then
   bif Nat.ble ((((((z2.2 ++ ([109, 97, 105, 110, 32] : List UInt8)) ++ z2.1.2.1) ++ ([32, 59] : List UInt8)) ++ ([32, 102, 97, 108, 108, 98, 97, 99, 107, 32] : List UInt8)) ++ z2.1.2.2).length + 2) j4 then
   some ((((((z2.2 ++ ([109, 97, 105, 110, 32] : List UInt8)) ++ z2.1.2.1) ++ ([32, 59] : List UInt8)) ++ ([32, 102, 97, 108, 108, 98, 97, 99, 107, 32] : List UInt8)) ++ z2.1.2.2) ++ ([32, 59] : List UInt8))
   else
   none
   else
   none
   else
   none
   else
   some (((z2.2 ++ ([109, 97, 105, 110, 32] : List UInt8)) ++ z2.1.2.1) ++ ([32, 59] : List UInt8))
   else
   none
   else
   none
  else
   none
theorem c3G : EqF 155 fun a b => c1n a b := fun _ _ _ => by kernel_rfl
theorem d1I {d1 y} (h : c1n T.rf T.rb d1 = some y) : c5P T.rf d1 = some y := c3G.o h
def r0 (rf : T.RF) (rb : T.RB) (d1 : XPg) : Option Bool :=
 (c1 rf d1).bind fun y1 =>
 bif !y1 then
  (c2 rf).bind fun y2 =>
  some y2
 else
  (c66 rf d1).bind fun y3 =>
  (c5P rf d1).bind fun y4 =>
  bif y3 == y4 then
   (c67 rf d1).bind fun y5 =>
   (b9H rf d1).bind fun y6 =>
   bif y5 == y6 then
   (a7S rf d1).bind fun y7 =>
   (b9B rf d1).bind fun y8 =>
   (a9v rf y7 y8).bind fun y9 =>
   bif y9 then
   (c2 rf).bind fun y10 =>
   some y10
   else
   some false
   else
   some false
  else
   some false
theorem er0 : EqF 0 fun a b => r0 a b := fun _ _ _ => by kernel_rfl
theorem or0 {d1 y} (h : r0 T.rf T.rb d1 = some y) : c0 T.rf d1 = some y := er0.o h
def d2f (rf : T.RF) (rb : T.RB) (d1 : XPg) : Option Bool :=
 (c1 rf d1).bind fun y1 =>
 bif !y1 then
  (c2 rf).bind fun y2 =>
  some y2
 else
  (c66 rf d1).bind fun y3 =>
  (c67 rf d1).bind fun y4 =>
  bif !y4 then
   bif y3 == ([] : List UInt8) then
   (c2 rf).bind fun y5 =>
   some y5
   else
   some false
  else
   (c3 rf y3).bind fun y6 =>
   bif y6.2.1 == 7 then
   bif decide ((((y3.length : Nat) : Int)) > 100000) then
   (c2 rf).bind fun y7 =>
   some y7
   else
   bif y6.2.1 == 0 then
   (a7S rf d1).bind fun y8 =>
   (a9v rf y6.1 y8).bind fun y9 =>
   bif y9 then
   (c2 rf).bind fun y10 =>
   some y10
   else
   some false
   else
   some false
   else
   bif y6.2.1 == 0 then
   (a7S rf d1).bind fun y11 =>
   (a9v rf y6.1 y11).bind fun y12 =>
   bif y12 then
   (c2 rf).bind fun y13 =>
   some y13
   else
   some false
   else
   some false
theorem c7z : EqF 173 fun a b => d2f a b := fun _ _ _ => by kernel_rfl
def d2g (rf : T.RF) (rb : T.RB) (d1 : List UInt8) : Option Bool :=
 bif decide ((((d1.length : Nat) : Int)) > 1500) then
  (c2 rf).bind fun y1 =>
  some y1
 else
  (c3 rf d1).bind fun y2 =>
  bif y2.2.1 != 0 then
   (c2 rf).bind fun y3 =>
   some y3
  else
   (c66 rf y2.1).bind fun y4 =>
   (c3 rf y4).bind fun y5 =>
   (c67 rf y2.1).bind fun y6 =>
   bif y6 then
   bif y5.2.1 == 0 then
   (c66 rf y5.1).bind fun y7 =>
   bif y7 == y4 then
   (c2 rf).bind fun y8 =>
   some y8
   else
   some false
   else
   some false
   else
   some false
theorem c7A : EqF 174 fun a b => d2g a b := fun _ _ _ => by kernel_rfl
def d2h (rf : T.RF) (rb : T.RB) (d1 : XPg) : Option Bool :=
 (c1 rf d1).bind fun y1 =>
 bif !y1 then
  (c2 rf).bind fun y2 =>
  some y2
 else
  (a7S rf d1).bind fun y3 =>
  (a7S rf y3).bind fun y4 =>
  (a9v rf y4 y3).bind fun y5 =>
  bif !y5 then
   some false
  else
  bif (((y3.1.length : Nat) : Int)) != (((d1.1.length : Nat) : Int)) then
   some false
  else
   (c67 rf d1).bind fun y6 =>
   bif !y6 then
   (c2 rf).bind fun y7 =>
   some y7
   else
   (c66 rf y3).bind fun y8 =>
   (c66 rf d1).bind fun y9 =>
   bif y8 == y9 then
   (c2 rf).bind fun y10 =>
   some y10
   else
   some false
theorem c7B : EqF 175 fun a b => d2h a b := fun _ _ _ => by kernel_rfl
def d2i (rf : T.RF) (rb : T.RB) (d1 : XPg) (d2 : XPg) : Option Bool :=
 (c1 rf d1).bind fun y1 =>
 bif !y1 then
  (c2 rf).bind fun y2 =>
  some y2
 else
  (c1 rf d2).bind fun y3 =>
  bif !y3 then
   (c2 rf).bind fun y4 =>
   some y4
  else
   (c67 rf d1).bind fun y5 =>
   bif !y5 then
   (c2 rf).bind fun y6 =>
   some y6
   else
   (c67 rf d2).bind fun y7 =>
   bif !y7 then
   (c2 rf).bind fun y8 =>
   some y8
   else
   (c66 rf d1).bind fun y9 =>
   (c66 rf d2).bind fun y10 =>
   (a7S rf d1).bind fun y11 =>
   (a7S rf d2).bind fun y12 =>
   (a9v rf y11 y12).bind fun y13 =>
   bif (y9 == y10) == y13 then
   (c2 rf).bind fun y14 =>
   some y14
   else
   some false
theorem c7C : EqF 176 fun a b => U2 (d2i a b) := fun _ _ _ => by kernel_rfl
def d2j (rf : T.RF) (rb : T.RB) (d1 : XPg) : Option Bool :=
 (c1 rf d1).bind fun y1 =>
 bif !y1 then
  (c2 rf).bind fun y2 =>
  some y2
 else
  (c67 rf d1).bind fun y3 =>
  bif !y3 then
   (c2 rf).bind fun y4 =>
   some y4
  else
  bif decide ((((d1.1.length : Nat) : Int)) < 1) then
   (c2 rf).bind fun y5 =>
   some y5
  else
  bif F4 1 d1.1.length then
   (c66 rf d1).bind fun y6 =>
   (c66 rf (sub d1.1 (some (1, (d1.1.length - 1))), d1.2)).bind fun y7 =>
   (c67 rf (sub d1.1 (some (1, (d1.1.length - 1))), d1.2)).bind fun y8 =>
   bif y8 then
   bif decide ((((y7.length : Nat) : Int)) < (((y6.length : Nat) : Int))) then
   bif F4 (IntKind.i64.wrap ((((y6.length : Nat) : Int)) - (((y7.length : Nat) : Int)))) y6.length then
   bif (sub y6 (some ((IntKind.i64.wrap ((((y6.length : Nat) : Int)) - (((y7.length : Nat) : Int)))).toNat, (y6.length - (IntKind.i64.wrap ((((y6.length : Nat) : Int)) - (((y7.length : Nat) : Int)))).toNat)))) == y7 then
   (c2 rf).bind fun y9 =>
   some y9
   else
   some false
   else
   none
   else
   some false
   else
   some false
  else
   none
theorem c7D : EqF 177 fun a b => d2j a b := fun _ _ _ => by kernel_rfl
theorem b5j : b5y.placeL.length = 226 := rfl
end
end Go.Proofs.YtlobhcgbmpcdlaaGreatDoor.R
