/-
  OUR OWN, PRINTED BY A PROGRAM OF OURS (restable.py): the table of the functions, and what each comes to.
-/
import Derived.Test.YtjphmcfifncgnaaBmFuel
import Derived.Test.YtjphmcfifncgnaaProg
import Derived.KernelRfl
namespace Go.Proofs.Ytjphmcfifncgnaa.R
open Go Go.Bm Go.Proofs
set_option linter.unusedVariables false
set_option maxRecDepth 100000

noncomputable def tab : Nat → Option TD
  | 3 => some (.leaf (.int .i64 0))
  | 4 => some (.leaf (.bool false))
  | 21 => some (.leaf (.int .i32 0))
  | 23 => some (.struct [(0, 1, false), (1, 1, false), (2, 1, false), (3, 1, false)] [.int .i64 0, .int .i64 0, .int .i64 0, .int .i64 0])
  | 24 => some (.leaf (.int .i64 0))
  | 33 => some (.slice (.int .i64) 3)
  | _ => none
noncomputable def eqt : Nat → Bool
  | _ => false
noncomputable def fins : Nat → List Sh
  | 4 => [.agg (.prod (.int .i64) (.prod (.int .i64) (.prod (.int .i64) (.int .i64))))]
  | 5 => [.c (.pl (.int .i64)), .c (.pl (.int .i64))]
  | 6 => [.c (.pl (.int .i64)), .c (.pl (.int .i64))]
  | 7 => [.c (.pl (.int .i64)), .c (.pl (.int .i64))]
  | 8 => [.c (.pl (.int .i64)), .c (.pl (.int .i64)), .c (.pl (.int .i64))]
  | 9 => [.c (.pl (.int .i64)), .c (.pl (.int .i64)), .c (.pl (.int .i64)), .c (.pl (.int .i64))]
  | 11 => [.c (.pl (.int .i64))]
  | 13 => [.c (.pl (.int .i64))]
  | 15 => []
  | 16 => [.c (.pl (.int .i64))]
  | 17 => [.c (.pl .bool)]
  | 18 => [.c (.pl (.int .i64))]
  | _ => []
noncomputable def fouts : Nat → List Sh
  | 4 => [.c (.pl .bool)]
  | 5 => [.c (.pl .bool)]
  | 6 => [.c (.pl .bool)]
  | 7 => [.c (.pl .bool)]
  | 8 => [.c (.pl .bool)]
  | 9 => [.c (.pl (.int .i64)), .c (.pl (.int .i64))]
  | 11 => [.c (.pl .bool)]
  | 13 => [.c (.pl (.int .i64))]
  | 15 => [.c (.pl .bool)]
  | 16 => [.c (.pl (.int .i64))]
  | 17 => [.c (.pl (.int .i64)), .c (.pl (.int .i64))]
  | 18 => [.c (.pl (.int .i64)), .c (.pl (.int .i64))]
  | _ => []
noncomputable def bk : Nat → Blk
  | 0 => ⟨[0, 1, 2, 3], [.c (.pl (.int .i64)), .c (.pl (.int .i64)), .c (.pl (.int .i64)), .c (.pl (.int .i64))], [(.ret, [8, 9], [.c (.pl (.int .i64)), .c (.pl (.int .i64))])]⟩
  | _ => ⟨[], [], []⟩
noncomputable def lk : Nat → Nat → Option Nat
  | _, _ => none
noncomputable def tk : Nat → Nat → Option Nat
  | 9, 7 => some 0
  | _, _ => none
noncomputable def place : Nat → Option (Nat × List Bool)
  | 0 => some (9, [true, true])
  | _ => none
noncomputable def fn : Nat → Option Func
  | 4 => some Try.f4
  | 5 => some Try.f5
  | 6 => some Try.f6
  | 7 => some Try.f7
  | 8 => some Try.f8
  | 9 => some Try.f9
  | 11 => some Try.f11
  | 13 => some Try.f13
  | 15 => some Try.f15
  | 16 => some Try.f16
  | 17 => some Try.f17
  | 18 => some Try.f18
  | _ => none
noncomputable def T : Tbl := { tab := tab, eqt := eqt, fins := fins, fouts := fouts, bk := bk, lk := lk, tk := tk, fn := fn, place := place, xf := fun _ _ => none }

noncomputable def c4 (rf : T.RF) (d : Int × Int × Int × Int) : Option (Bool) := rf 4 d
noncomputable def c5 (rf : T.RF) (d : Int × Int) : Option (Bool) := rf 5 d
noncomputable def c6 (rf : T.RF) (d : Int × Int) : Option (Bool) := rf 6 d
noncomputable def c7 (rf : T.RF) (d : Int × Int) : Option (Bool) := rf 7 d
noncomputable def c8 (rf : T.RF) (d : Int × Int × Int) : Option (Bool) := rf 8 d
noncomputable def c9 (rf : T.RF) (d : Int × Int × Int × Int) : Option (Int × Int) := rf 9 d
noncomputable def c11 (rf : T.RF) (d : Int) : Option (Bool) := rf 11 d
noncomputable def c13 (rf : T.RF) (d : Int) : Option (Int) := rf 13 d
noncomputable def c15 (rf : T.RF) (d : Unit) : Option (Bool) := rf 15 d
noncomputable def c16 (rf : T.RF) (d : Int) : Option (Int) := rf 16 d
noncomputable def c17 (rf : T.RF) (d : Bool) : Option (Int × Int) := rf 17 d
noncomputable def c18 (rf : T.RF) (d : Int) : Option (Int × Int) := rf 18 d
noncomputable def k0 (rb : T.RB) (d : Int × Int × Int × Int) : Option (Int × Int) := rb 0 d

/- bailment/bailmentlaw01.NumFits -/
noncomputable def r4 (rf : T.RF) (rb : T.RB) (d : Int × Int × Int × Int) : Option (Bool) :=
  Option.bind (c9 rf (d.1, d.2.1, d.2.2.1, d.2.2.2)) fun (y1 : Int × Int) =>
  bif y1.2 != 0 then
    bif y1.1 == 0 then
      Option.bind (c15 rf ()) fun (y2 : Bool) =>
      some y2
    else
      some false
  else
    bif d.1 == 4 then
      bif y1.1 == 0 then
        Option.bind (c15 rf ()) fun (y3 : Bool) =>
        some y3
      else
        bif y1.1 == 1 then
          Option.bind (c15 rf ()) fun (y4 : Bool) =>
          some y4
        else
          some false
    else
      bif decide (d.1 ≥ 6) then
        bif decide (d.1 ≤ 13) then
          bif y1.1 == 0 then
            Option.bind (c15 rf ()) fun (y5 : Bool) =>
            some y5
          else
            bif y1.1 == 1 then
              Option.bind (c15 rf ()) fun (y6 : Bool) =>
              some y6
            else
              some false
        else
          Option.bind (c11 rf y1.1) fun (y7 : Bool) =>
          bif y7 then
            Option.bind (c15 rf ()) fun (y8 : Bool) =>
            some y8
          else
            some false
      else
        Option.bind (c11 rf y1.1) fun (y9 : Bool) =>
        bif y9 then
          Option.bind (c15 rf ()) fun (y10 : Bool) =>
          some y10
        else
          some false
theorem e4 (rf : T.RF) (rb : T.RB) (d : Int × Int × Int × Int) : T.stepF rf rb 4 d = r4 rf rb d := by kernel_rfl
theorem o4 {d : Int × Int × Int × Int} {y : Bool} (h : r4 T.rf T.rb d = some y) : c4 T.rf d = some y := T.rf_of (f := 4) ((e4 T.rf T.rb d).trans h)

/- bailment/bailmentlaw01.NumParts -/
noncomputable def r5 (rf : T.RF) (rb : T.RB) (d : Int × Int) : Option (Bool) :=
  Option.bind (c9 rf (17, d.1, d.2, 0)) fun (y1 : Int × Int) =>
  Option.bind (c9 rf (18, d.1, d.2, 0)) fun (y2 : Int × Int) =>
  bif y2.2 != 0 then
    bif y1.2 == y2.2 then
      Option.bind (c15 rf ()) fun (y3 : Bool) =>
      some y3
    else
      some false
  else
    bif y1.2 != 0 then
      bif y1.2 == 2 then
        bif d.1 == (-2147483648) then
          bif d.2 == (-1) then
            bif y2.1 == 0 then
              Option.bind (c15 rf ()) fun (y4 : Bool) =>
              some y4
            else
              some false
          else
            some false
        else
          some false
      else
        some false
    else
      bif decide (y2.1 < 0) then
        bif decide (d.2 < 0) then
          bif (IntKind.i64.wrap ((IntKind.i64.wrap (y1.1 * d.2)) + y2.1)) == d.1 then
            bif decide ((IntKind.i64.wrap (0 - y2.1)) < (IntKind.i64.wrap (0 - d.2))) then
              bif y2.1 == 0 then
                Option.bind (c15 rf ()) fun (y5 : Bool) =>
                some y5
              else
                bif (decide (y2.1 < 0)) == (decide (d.1 < 0)) then
                  Option.bind (c15 rf ()) fun (y6 : Bool) =>
                  some y6
                else
                  some false
            else
              some false
          else
            some false
        else
          bif (IntKind.i64.wrap ((IntKind.i64.wrap (y1.1 * d.2)) + y2.1)) == d.1 then
            bif decide ((IntKind.i64.wrap (0 - y2.1)) < d.2) then
              bif y2.1 == 0 then
                Option.bind (c15 rf ()) fun (y7 : Bool) =>
                some y7
              else
                bif (decide (y2.1 < 0)) == (decide (d.1 < 0)) then
                  Option.bind (c15 rf ()) fun (y8 : Bool) =>
                  some y8
                else
                  some false
            else
              some false
          else
            some false
      else
        bif decide (d.2 < 0) then
          bif (IntKind.i64.wrap ((IntKind.i64.wrap (y1.1 * d.2)) + y2.1)) == d.1 then
            bif decide (y2.1 < (IntKind.i64.wrap (0 - d.2))) then
              bif y2.1 == 0 then
                Option.bind (c15 rf ()) fun (y9 : Bool) =>
                some y9
              else
                bif (decide (y2.1 < 0)) == (decide (d.1 < 0)) then
                  Option.bind (c15 rf ()) fun (y10 : Bool) =>
                  some y10
                else
                  some false
            else
              some false
          else
            some false
        else
          bif (IntKind.i64.wrap ((IntKind.i64.wrap (y1.1 * d.2)) + y2.1)) == d.1 then
            bif decide (y2.1 < d.2) then
              bif y2.1 == 0 then
                Option.bind (c15 rf ()) fun (y11 : Bool) =>
                some y11
              else
                bif (decide (y2.1 < 0)) == (decide (d.1 < 0)) then
                  Option.bind (c15 rf ()) fun (y12 : Bool) =>
                  some y12
                else
                  some false
            else
              some false
          else
            some false
theorem e5 (rf : T.RF) (rb : T.RB) (d : Int × Int) : T.stepF rf rb 5 d = r5 rf rb d := by kernel_rfl
theorem o5 {d : Int × Int} {y : Bool} (h : r5 T.rf T.rb d = some y) : c5 T.rf d = some y := T.rf_of (f := 5) ((e5 T.rf T.rb d).trans h)

/- bailment/bailmentlaw01.NumTurned -/
noncomputable def r6 (rf : T.RF) (rb : T.RB) (d : Int × Int) : Option (Bool) :=
  Option.bind (c11 rf d.1) fun (y1 : Bool) =>
  bif !y1 then
    Option.bind (c9 rf (14, d.1, d.2, 0)) fun (y2 : Int × Int) =>
    bif y2.2 == 1 then
      Option.bind (c15 rf ()) fun (y3 : Bool) =>
      some y3
    else
      some false
  else
    Option.bind (c11 rf d.2) fun (y4 : Bool) =>
    bif !y4 then
      Option.bind (c9 rf (14, d.1, d.2, 0)) fun (y5 : Int × Int) =>
      bif y5.2 == 1 then
        Option.bind (c15 rf ()) fun (y6 : Bool) =>
        some y6
      else
        some false
    else
      Option.bind (c9 rf (14, d.1, d.2, 0)) fun (y7 : Int × Int) =>
      Option.bind (c9 rf (15, y7.1, d.2, 0)) fun (y8 : Int × Int) =>
      Option.bind (c9 rf (5, d.1, 0, 0)) fun (y9 : Int × Int) =>
      Option.bind (c9 rf (15, 0, d.1, 0)) fun (y10 : Int × Int) =>
      Option.bind (c9 rf (12, d.1, d.2, 0)) fun (y11 : Int × Int) =>
      Option.bind (c9 rf (13, d.2, d.1, 0)) fun (y12 : Int × Int) =>
      Option.bind (c9 rf (10, d.1, d.2, 0)) fun (y13 : Int × Int) =>
      Option.bind (c9 rf (11, d.1, d.2, 0)) fun (y14 : Int × Int) =>
      Option.bind (c9 rf (4, d.1, 0, 0)) fun (y15 : Int × Int) =>
      Option.bind (c9 rf (7, y15.1, d.2, 0)) fun (y16 : Int × Int) =>
      Option.bind (c9 rf (9, d.1, d.2, 0)) fun (y17 : Int × Int) =>
      bif y7.2 != 0 then
        bif y9.1 == y10.1 then
          bif y9.2 == y10.2 then
            bif y11.1 != y12.1 then
              bif y13.1 != y14.1 then
                bif y16.1 == y17.1 then
                  Option.bind (c15 rf ()) fun (y18 : Bool) =>
                  some y18
                else
                  some false
              else
                some false
            else
              some false
          else
            some false
        else
          some false
      else
        bif y8.1 == d.1 then
          bif y8.2 == 0 then
            bif y9.1 == y10.1 then
              bif y9.2 == y10.2 then
                bif y11.1 != y12.1 then
                  bif y13.1 != y14.1 then
                    bif y16.1 == y17.1 then
                      Option.bind (c15 rf ()) fun (y19 : Bool) =>
                      some y19
                    else
                      some false
                  else
                    some false
                else
                  some false
              else
                some false
            else
              some false
          else
            some false
        else
          some false
theorem e6 (rf : T.RF) (rb : T.RB) (d : Int × Int) : T.stepF rf rb 6 d = r6 rf rb d := by kernel_rfl
theorem o6 {d : Int × Int} {y : Bool} (h : r6 T.rf T.rb d = some y) : c6 T.rf d = some y := T.rf_of (f := 6) ((e6 T.rf T.rb d).trans h)

/- bailment/bailmentlaw01.NumTruth -/
noncomputable def r7 (rf : T.RF) (rb : T.RB) (d : Int × Int) : Option (Bool) :=
  Option.bind (c11 rf d.1) fun (y1 : Bool) =>
  bif !y1 then
    Option.bind (c15 rf ()) fun (y2 : Bool) =>
    some y2
  else
    Option.bind (c11 rf d.2) fun (y3 : Bool) =>
    bif !y3 then
      Option.bind (c15 rf ()) fun (y4 : Bool) =>
      some y4
    else
      Option.bind (c16 rf d.1) fun (y5 : Int) =>
      Option.bind (c16 rf d.2) fun (y6 : Int) =>
      Option.bind (c9 rf (6, d.1, d.2, 0)) fun (y7 : Int × Int) =>
      Option.bind (c9 rf (7, d.1, d.2, 0)) fun (y8 : Int × Int) =>
      Option.bind (c9 rf (8, d.1, d.2, 0)) fun (y9 : Int × Int) =>
      Option.bind (c9 rf (4, d.1, 0, 0)) fun (y10 : Int × Int) =>
      Option.bind (c9 rf (26, d.1, 7, 8)) fun (y11 : Int × Int) =>
      bif y7.1 == (if y6 < y5 then y6 else y5) then
        bif y8.1 == (if y6 > y5 then y6 else y5) then
          bif y9.1 == (Int.tmod (IntKind.i64.wrap (y5 + y6)) 2) then
            bif y10.1 == (IntKind.i64.wrap (1 - y5)) then
              bif y11.1 == (IntKind.i64.wrap (8 - y5)) then
                Option.bind (c15 rf ()) fun (y12 : Bool) =>
                some y12
              else
                some false
            else
              some false
          else
            some false
        else
          some false
      else
        some false
theorem e7 (rf : T.RF) (rb : T.RB) (d : Int × Int) : T.stepF rf rb 7 d = r7 rf rb d := by kernel_rfl
theorem o7 {d : Int × Int} {y : Bool} (h : r7 T.rf T.rb d = some y) : c7 T.rf d = some y := T.rf_of (f := 7) ((e7 T.rf T.rb d).trans h)

/- bailment/bailmentlaw01.NumOrder -/
noncomputable def r8 (rf : T.RF) (rb : T.RB) (d : Int × Int × Int) : Option (Bool) :=
  Option.bind (c11 rf d.1) fun (y1 : Bool) =>
  bif !y1 then
    Option.bind (c15 rf ()) fun (y2 : Bool) =>
    some y2
  else
    Option.bind (c11 rf d.2.1) fun (y3 : Bool) =>
    bif !y3 then
      Option.bind (c15 rf ()) fun (y4 : Bool) =>
      some y4
    else
      Option.bind (c11 rf d.2.2) fun (y5 : Bool) =>
      bif !y5 then
        Option.bind (c15 rf ()) fun (y6 : Bool) =>
        some y6
      else
        Option.bind (c9 rf (12, d.1, d.2.1, 0)) fun (y7 : Int × Int) =>
        Option.bind (c9 rf (12, d.2.1, d.1, 0)) fun (y8 : Int × Int) =>
        Option.bind (c9 rf (10, d.1, d.2.1, 0)) fun (y9 : Int × Int) =>
        Option.bind (c9 rf (12, d.2.1, d.2.2, 0)) fun (y10 : Int × Int) =>
        Option.bind (c9 rf (12, d.1, d.2.2, 0)) fun (y11 : Int × Int) =>
        bif (IntKind.i64.wrap ((IntKind.i64.wrap (y7.1 + y8.1)) + y9.1)) == 1 then
          bif y7.1 == 0 then
            Option.bind (c15 rf ()) fun (y12 : Bool) =>
            some y12
          else
            bif y10.1 == 0 then
              Option.bind (c15 rf ()) fun (y13 : Bool) =>
              some y13
            else
              bif y11.1 == 1 then
                Option.bind (c15 rf ()) fun (y14 : Bool) =>
                some y14
              else
                some false
        else
          some false
theorem e8 (rf : T.RF) (rb : T.RB) (d : Int × Int × Int) : T.stepF rf rb 8 d = r8 rf rb d := by kernel_rfl
theorem o8 {d : Int × Int × Int} {y : Bool} (h : r8 T.rf T.rb d = some y) : c8 T.rf d = some y := T.rf_of (f := 8) ((e8 T.rf T.rb d).trans h)

/- bailment/num.Do -/
noncomputable def r9 (rf : T.RF) (rb : T.RB) (d : Int × Int × Int × Int) : Option (Int × Int) :=
  Option.bind (c13 rf d.1) fun (y1 : Int) =>
  bif decide (0 < (if 1 > y1 then 1 else y1)) then
    Option.bind (c11 rf d.2.1) fun (y2 : Bool) =>
    bif !y2 then
      some (0, 1)
    else
      Option.bind (c13 rf d.1) fun (y3 : Int) =>
      bif decide (1 < (if 1 > y3 then 1 else y3)) then
        Option.bind (c11 rf d.2.2.1) fun (y4 : Bool) =>
        bif !y4 then
          some (0, 1)
        else
          Option.bind (c13 rf d.1) fun (y5 : Int) =>
          bif decide (2 < (if 1 > y5 then 1 else y5)) then
            Option.bind (c11 rf d.2.2.2) fun (y6 : Bool) =>
            bif !y6 then
              some (0, 1)
            else
              Option.bind (k0 rb (d.1, d.2.1, d.2.2.1, d.2.2.2)) fun (z7 : Int × Int) =>
              some (z7.1, z7.2)
          else
            Option.bind (k0 rb (d.1, d.2.1, d.2.2.1, d.2.2.2)) fun (z8 : Int × Int) =>
            some (z8.1, z8.2)
      else
        Option.bind (c13 rf d.1) fun (y9 : Int) =>
        bif decide (2 < (if 1 > y9 then 1 else y9)) then
          Option.bind (c11 rf d.2.2.2) fun (y10 : Bool) =>
          bif !y10 then
            some (0, 1)
          else
            Option.bind (k0 rb (d.1, d.2.1, d.2.2.1, d.2.2.2)) fun (z11 : Int × Int) =>
            some (z11.1, z11.2)
        else
          Option.bind (k0 rb (d.1, d.2.1, d.2.2.1, d.2.2.2)) fun (z12 : Int × Int) =>
          some (z12.1, z12.2)
  else
    Option.bind (c13 rf d.1) fun (y13 : Int) =>
    bif decide (1 < (if 1 > y13 then 1 else y13)) then
      Option.bind (c11 rf d.2.2.1) fun (y14 : Bool) =>
      bif !y14 then
        some (0, 1)
      else
        Option.bind (c13 rf d.1) fun (y15 : Int) =>
        bif decide (2 < (if 1 > y15 then 1 else y15)) then
          Option.bind (c11 rf d.2.2.2) fun (y16 : Bool) =>
          bif !y16 then
            some (0, 1)
          else
            Option.bind (k0 rb (d.1, d.2.1, d.2.2.1, d.2.2.2)) fun (z17 : Int × Int) =>
            some (z17.1, z17.2)
        else
          Option.bind (k0 rb (d.1, d.2.1, d.2.2.1, d.2.2.2)) fun (z18 : Int × Int) =>
          some (z18.1, z18.2)
    else
      Option.bind (c13 rf d.1) fun (y19 : Int) =>
      bif decide (2 < (if 1 > y19 then 1 else y19)) then
        Option.bind (c11 rf d.2.2.2) fun (y20 : Bool) =>
        bif !y20 then
          some (0, 1)
        else
          Option.bind (k0 rb (d.1, d.2.1, d.2.2.1, d.2.2.2)) fun (z21 : Int × Int) =>
          some (z21.1, z21.2)
      else
        Option.bind (k0 rb (d.1, d.2.1, d.2.2.1, d.2.2.2)) fun (z22 : Int × Int) =>
        some (z22.1, z22.2)
theorem e9 (rf : T.RF) (rb : T.RB) (d : Int × Int × Int × Int) : T.stepF rf rb 9 d = r9 rf rb d := by kernel_rfl
theorem o9 {d : Int × Int × Int × Int} {y : Int × Int} (h : r9 T.rf T.rb d = some y) : c9 T.rf d = some y := T.rf_of (f := 9) ((e9 T.rf T.rb d).trans h)

/- bailment/num.Fits -/
noncomputable def r11 (rf : T.RF) (rb : T.RB) (d : Int) : Option (Bool) :=
  some ((IntKind.i64.wrap (IntKind.i32.wrap d)) == d)
theorem e11 (rf : T.RF) (rb : T.RB) (d : Int) : T.stepF rf rb 11 d = r11 rf rb d := by kernel_rfl
theorem o11 {d : Int} {y : Bool} (h : r11 T.rf T.rb d = some y) : c11 T.rf d = some y := T.rf_of (f := 11) ((e11 T.rf T.rb d).trans h)

/- bailment/num.Operands -/
noncomputable def r13 (rf : T.RF) (rb : T.RB) (d : Int) : Option (Int) :=
  bif d == 4 then
    some 1
  else
    bif d == 5 then
      some 1
    else
      bif decide (d ≥ 6) then
        bif decide (d ≤ 18) then
          some 2
        else
          bif d == 26 then
            some 3
          else
            some (-1)
      else
        bif d == 26 then
          some 3
        else
          some (-1)
theorem e13 (rf : T.RF) (rb : T.RB) (d : Int) : T.stepF rf rb 13 d = r13 rf rb d := by kernel_rfl
theorem o13 {d : Int} {y : Int} (h : r13 T.rf T.rb d = some y) : c13 T.rf d = some y := T.rf_of (f := 13) ((e13 T.rf T.rb d).trans h)

/- bailment/bailmentlaw01.live -/
noncomputable def r15 (rf : T.RF) (rb : T.RB) (d : Unit) : Option (Bool) :=
  Option.bind (c9 rf (17, (-7), 2, 0)) fun (y1 : Int × Int) =>
  Option.bind (c9 rf (18, (-7), 2, 0)) fun (y2 : Int × Int) =>
  Option.bind (c9 rf (14, 2147483647, 1, 0)) fun (y3 : Int × Int) =>
  Option.bind (c9 rf (17, 1, 0, 0)) fun (y4 : Int × Int) =>
  Option.bind (c9 rf (21, 1, 0, 0)) fun (y5 : Int × Int) =>
  Option.bind (c9 rf (26, 0, 5, 6)) fun (y6 : Int × Int) =>
  bif y1.1 == (-3) then
    bif y1.2 == 0 then
      bif y2.1 == (-1) then
        bif y2.2 == 0 then
          bif y3.2 == 2 then
            bif y4.2 == 3 then
              bif y5.2 == 1 then
                bif y6.1 == 6 then
                  bif y6.2 == 0 then
                    Option.bind (c11 rf (-2147483648)) fun (y7 : Bool) =>
                    bif y7 then
                      Option.bind (c13 rf 26) fun (y8 : Int) =>
                      some (y8 == 3)
                    else
                      some false
                  else
                    some false
                else
                  some false
              else
                some false
            else
              some false
          else
            some false
        else
          some false
      else
        some false
    else
      some false
  else
    some false
theorem e15 (rf : T.RF) (rb : T.RB) (d : Unit) : T.stepF rf rb 15 d = r15 rf rb d := by kernel_rfl
theorem o15 {d : Unit} {y : Bool} (h : r15 T.rf T.rb d = some y) : c15 T.rf d = some y := T.rf_of (f := 15) ((e15 T.rf T.rb d).trans h)

/- bailment/bailmentlaw01.bit -/
noncomputable def r16 (rf : T.RF) (rb : T.RB) (d : Int) : Option (Int) :=
  bif d != 0 then
    some 1
  else
    some 0
theorem e16 (rf : T.RF) (rb : T.RB) (d : Int) : T.stepF rf rb 16 d = r16 rf rb d := by kernel_rfl
theorem o16 {d : Int} {y : Int} (h : r16 T.rf T.rb d = some y) : c16 T.rf d = some y := T.rf_of (f := 16) ((e16 T.rf T.rb d).trans h)

/- bailment/num.truth -/
noncomputable def r17 (rf : T.RF) (rb : T.RB) (d : Bool) : Option (Int × Int) :=
  bif d then
    some (1, 0)
  else
    some (0, 0)
theorem e17 (rf : T.RF) (rb : T.RB) (d : Bool) : T.stepF rf rb 17 d = r17 rf rb d := by kernel_rfl
theorem o17 {d : Bool} {y : Int × Int} (h : r17 T.rf T.rb d = some y) : c17 T.rf d = some y := T.rf_of (f := 17) ((e17 T.rf T.rb d).trans h)

/- bailment/num.fit -/
noncomputable def r18 (rf : T.RF) (rb : T.RB) (d : Int) : Option (Int × Int) :=
  Option.bind (c11 rf d) fun (y1 : Bool) =>
  bif !y1 then
    some (0, 2)
  else
    some (d, 0)
theorem e18 (rf : T.RF) (rb : T.RB) (d : Int) : T.stepF rf rb 18 d = r18 rf rb d := by kernel_rfl
theorem o18 {d : Int} {y : Int × Int} (h : r18 T.rf T.rb d = some y) : c18 T.rf d = some y := T.rf_of (f := 18) ((e18 T.rf T.rb d).trans h)

/- bailment/num.Do tail 7 -/
noncomputable def b0 (rf : T.RF) (rb : T.RB) (d : Int × Int × Int × Int) : Option (Int × Int) :=
  bif d.1 == 4 then
    Option.bind (c17 rf (!(d.2.1 != 0))) fun (y1 : Int × Int) =>
    some (y1.1, y1.2)
  else
    bif d.1 == 6 then
      bif d.2.1 != 0 then
        Option.bind (c17 rf (d.2.2.1 != 0)) fun (y2 : Int × Int) =>
        some (y2.1, y2.2)
      else
        Option.bind (c17 rf false) fun (y3 : Int × Int) =>
        some (y3.1, y3.2)
    else
      bif d.1 == 9 then
        bif !(d.2.1 != 0) then
          Option.bind (c17 rf true) fun (y4 : Int × Int) =>
          some (y4.1, y4.2)
        else
          Option.bind (c17 rf (d.2.2.1 != 0)) fun (y5 : Int × Int) =>
          some (y5.1, y5.2)
      else
        bif d.1 == 7 then
          bif d.2.1 != 0 then
            Option.bind (c17 rf true) fun (y6 : Int × Int) =>
            some (y6.1, y6.2)
          else
            Option.bind (c17 rf (d.2.2.1 != 0)) fun (y7 : Int × Int) =>
            some (y7.1, y7.2)
        else
          bif d.1 == 8 then
            Option.bind (c17 rf (!((d.2.1 != 0) == (d.2.2.1 != 0)))) fun (y8 : Int × Int) =>
            some (y8.1, y8.2)
          else
            bif d.1 == 10 then
              Option.bind (c17 rf (d.2.1 == d.2.2.1)) fun (y9 : Int × Int) =>
              some (y9.1, y9.2)
            else
              bif d.1 == 11 then
                Option.bind (c17 rf (d.2.1 != d.2.2.1)) fun (y10 : Int × Int) =>
                some (y10.1, y10.2)
              else
                bif d.1 == 12 then
                  Option.bind (c17 rf (decide (d.2.1 < d.2.2.1))) fun (y11 : Int × Int) =>
                  some (y11.1, y11.2)
                else
                  bif d.1 == 13 then
                    Option.bind (c17 rf (decide (d.2.1 ≤ d.2.2.1))) fun (y12 : Int × Int) =>
                    some (y12.1, y12.2)
                  else
                    bif d.1 == 5 then
                      Option.bind (c18 rf (IntKind.i64.wrap (0 - d.2.1))) fun (y13 : Int × Int) =>
                      some (y13.1, y13.2)
                    else
                      bif d.1 == 15 then
                        Option.bind (c18 rf (IntKind.i64.wrap (d.2.1 + (IntKind.i64.wrap (0 - d.2.2.1))))) fun (y14 : Int × Int) =>
                        some (y14.1, y14.2)
                      else
                        bif d.1 == 14 then
                          Option.bind (c18 rf (IntKind.i64.wrap (d.2.1 + d.2.2.1))) fun (y15 : Int × Int) =>
                          some (y15.1, y15.2)
                        else
                          bif d.1 == 16 then
                            Option.bind (c18 rf (IntKind.i64.wrap (d.2.1 * d.2.2.1))) fun (y16 : Int × Int) =>
                            some (y16.1, y16.2)
                          else
                            bif d.1 == 17 then
                              bif d.1 == 17 then
                                bif d.2.2.1 == 0 then
                                  some (0, 3)
                                else
                                  bif d.1 == 18 then
                                    bif d.2.2.1 == 0 then
                                      none
                                    else
                                      some (Int.tmod d.2.1 d.2.2.1, 0)
                                  else
                                    bif d.2.2.1 == 0 then
                                      none
                                    else
                                      Option.bind (c18 rf (IntKind.i64.wrap (Int.tdiv d.2.1 d.2.2.1))) fun (y17 : Int × Int) =>
                                      some (y17.1, y17.2)
                              else
                                bif d.1 == 26 then
                                  bif d.2.1 != 0 then
                                    some (d.2.2.1, 0)
                                  else
                                    some (d.2.2.2, 0)
                                else
                                  some (0, 1)
                            else
                              bif d.1 == 18 then
                                bif d.2.2.1 == 0 then
                                  some (0, 3)
                                else
                                  bif d.1 == 18 then
                                    bif d.2.2.1 == 0 then
                                      none
                                    else
                                      some (Int.tmod d.2.1 d.2.2.1, 0)
                                  else
                                    bif d.2.2.1 == 0 then
                                      none
                                    else
                                      Option.bind (c18 rf (IntKind.i64.wrap (Int.tdiv d.2.1 d.2.2.1))) fun (y18 : Int × Int) =>
                                      some (y18.1, y18.2)
                              else
                                bif d.1 == 26 then
                                  bif d.2.1 != 0 then
                                    some (d.2.2.1, 0)
                                  else
                                    some (d.2.2.2, 0)
                                else
                                  some (0, 1)
theorem g0 (rf : T.RF) (rb : T.RB) (d : Int × Int × Int × Int) : T.stepB rf rb 0 d = b0 rf rb d := by kernel_rfl
theorem p0 {d : Int × Int × Int × Int} {y : Int × Int} (h : b0 T.rf T.rb d = some y) : k0 T.rb d = some y := T.rb_of (κ := 0) ((g0 T.rf T.rb d).trans h)

end Go.Proofs.Ytjphmcfifncgnaa.R
