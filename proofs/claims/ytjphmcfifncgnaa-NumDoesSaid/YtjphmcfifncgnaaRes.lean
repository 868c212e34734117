/-
  OUR OWN, PRINTED BY A PROGRAM OF OURS (table2.py): the table of the functions, and what each comes to.
-/
import Derived.Test.YtjphmcfifncgnaaBmOk
import Derived.Test.YtjphmcfifncgnaaProg
import Derived.KernelRfl
namespace Go.Proofs.Ytjphmcfifncgnaa.R
open Go Go.Bm Go.Proofs
set_option linter.unusedVariables false
set_option linter.unusedSimpArgs false
set_option maxRecDepth 100000

noncomputable def tabs : Tabs := {
  tabL := [(3, .leaf (.int .i64 0)),
  (4, .leaf (.bool false)),
  (21, .leaf (.int .i32 0)),
  (23, .struct [(0, 1, false), (1, 1, false), (2, 1, false), (3, 1, false)] [.int .i64 0, .int .i64 0, .int .i64 0, .int .i64 0]),
  (24, .leaf (.int .i64 0)),
  (33, .slice (.int .i64) 3)]
  eqtL := []
  keysL := [(3, [0]), (9, [1]), (10, [6]), (11, [3]), (12, [8]), (13, [2]), (14, [7]), (15, [13]), (17, [4]), (18, [5]), (19, [9]), (20, [10]), (21, [11]), (22, [12])]
  kinL := [⟨[], [.agg [.pl (.prod (.int .i64) (.prod (.int .i64) (.prod (.int .i64) (.int .i64))))]]⟩,
  ⟨[], [.one (.pl (.int .i64)), .one (.pl (.int .i64)), .one (.pl (.int .i64)), .one (.pl (.int .i64))]⟩,
  ⟨[], [.one (.pl (.int .i64))]⟩,
  ⟨[], [.one (.pl (.int .i64))]⟩,
  ⟨[], [.one (.pl .bool)]⟩,
  ⟨[], [.one (.pl (.int .i64))]⟩,
  ⟨[], [.one (.pl (.int .i64)), .one (.pl (.int .i64)), .one (.pl (.int .i64)), .one (.pl (.int .i64))]⟩,
  ⟨[], [.one (.pl (.int .i64))]⟩,
  ⟨[], [.one (.pl (.int .i64))]⟩,
  ⟨[], [.one (.pl .bool)]⟩,
  ⟨[], [.one (.pl (.int .i64))]⟩,
  ⟨[], [.one (.pl (.int .i64)), .one (.pl (.int .i64))]⟩,
  ⟨[], [.one (.pl (.int .i64))]⟩,
  ⟨[], []⟩]
  koutsL := [[⟨[], [.one (.pl .bool)]⟩],
  [⟨[], [.one (.pl (.int .i64)), .one (.pl (.int .i64))]⟩],
  [⟨[], [.one (.pl (.int .i64))]⟩],
  [⟨[], [.one (.pl .bool)]⟩],
  [⟨[], [.one (.pl (.int .i64)), .one (.pl (.int .i64))]⟩],
  [⟨[], [.one (.pl (.int .i64)), .one (.pl (.int .i64))]⟩],
  [⟨[], [.one (.pl (.int .i64)), .one (.pl (.int .i64))]⟩],
  [⟨[], [.one (.pl (.int .i64))]⟩],
  [⟨[], [.one (.pl .bool)]⟩],
  [⟨[], [.one (.pl (.int .i64))]⟩],
  [⟨[], [.one (.pl (.int .i64)), .one (.pl (.int .i64))]⟩],
  [⟨[], [.one (.pl (.int .i64)), .one (.pl (.int .i64))]⟩],
  [⟨[], [.one (.pl (.int .i64))]⟩],
  [⟨[], [.one (.pl .bool)]⟩]]
  bkL := [⟨[0, 1, 2, 3], ⟨[], [.one (.pl (.int .i64)), .one (.pl (.int .i64)), .one (.pl (.int .i64)), .one (.pl (.int .i64))]⟩, [], [(.ret, [8, 9], ⟨[], [.one (.pl (.int .i64)), .one (.pl (.int .i64))]⟩)]⟩,
  ⟨[0, 1, 2, 3], ⟨[], [.one (.pl (.int .i64)), .one (.pl (.int .i64)), .one (.pl (.int .i64)), .one (.pl (.int .i64))]⟩, [], [(.ret, [8, 9], ⟨[], [.one (.pl (.int .i64)), .one (.pl (.int .i64))]⟩)]⟩]
  lkL := []
  tkL := [(1, [(7, 0)]), (6, [(4, 1)])]
  dkL := [(0, [(3, ([], (.take 0 (.take 1 (.take 2 (.take 3 (.take 4 (.take 5 (.take 6 (.take 7 (.take 8 (.take 9 (.take 10 (.take 12 (.take 13 (.only 11 (.only 14 (.take 15 (.take 16 (.take 17 (.take 18 (.take 19 (.take 21 (.take 22 (.only 20 (.only 23 (.take 24 (.take 25 (.take 26 (.only 27 (.take 28 (.take 29 .done))))))))))))))))))))))))))))))))]),
  (11, [(1, ([], (.take 0 (.take 2 (.take 5 (.take 7 (.only 1 (.only 3 (.take 4 (.only 6 (.only 8 (.take 9 (.take 10 (.take 11 .done))))))))))))))])]
  fnumL := [3, 9, 13, 11, 17, 18, 10, 14, 12, 19, 20, 21, 22, 15]
  fnL := [Try.f3, Try.f9, Try.f13, Try.f11, Try.f17, Try.f18, Try.f10, Try.f14, Try.f12, Try.f19, Try.f20, Try.f21, Try.f22, Try.f15]
  placeL := [(1, [true, true]), (6, [true, true, true])] }
noncomputable def T : Tbl := tabs.tbl fun _ _ => none

noncomputable def c0 (rf : T.RF) (d1 : Int × Int × Int × Int) : Option Bool := rf 0 d1
noncomputable def c1 (rf : T.RF) (d1 : Int) (d2 : Int) (d3 : Int) (d4 : Int) : Option (Int × Int) := rf 1 (d1, d2, d3, d4)
noncomputable def c2 (rf : T.RF) (d1 : Int) : Option Int := rf 2 d1
noncomputable def c3 (rf : T.RF) (d1 : Int) : Option Bool := rf 3 d1
noncomputable def c4 (rf : T.RF) (d1 : Bool) : Option (Int × Int) := rf 4 d1
noncomputable def c5 (rf : T.RF) (d1 : Int) : Option (Int × Int) := rf 5 d1
noncomputable def c6 (rf : T.RF) (d1 : Int) (d2 : Int) (d3 : Int) (d4 : Int) : Option (Int × Int) := rf 6 (d1, d2, d3, d4)
noncomputable def c7 (rf : T.RF) (d1 : Int) : Option Int := rf 7 d1
noncomputable def c8 (rf : T.RF) (d1 : Int) : Option Bool := rf 8 d1
noncomputable def c9 (rf : T.RF) (d1 : Bool) : Option Int := rf 9 d1
noncomputable def c10 (rf : T.RF) (d1 : Int) : Option (Int × Int) := rf 10 d1
noncomputable def c11 (rf : T.RF) (d1 : Int) (d2 : Int) : Option (Int × Int) := rf 11 (d1, d2)
noncomputable def c12 (rf : T.RF) (d1 : Int) : Option Int := rf 12 d1
noncomputable def c13 (rf : T.RF) : Option Bool := rf 13 ()
noncomputable def k0 (rb : T.RB) (d1 : Int) (d2 : Int) (d3 : Int) (d4 : Int) : Option (Int × Int) := rb 0 (d1, d2, d3, d4)
noncomputable def k1 (rb : T.RB) (d1 : Int) (d2 : Int) (d3 : Int) (d4 : Int) : Option (Int × Int) := rb 1 (d1, d2, d3, d4)

/- num.Operands -/
noncomputable def r2 (rf : T.RF) (rb : T.RB) (d1 : Int) : Option Int :=
  bif d1 == 4 then
    some 1
  else
  bif d1 == 5 then
    some 1
  else
  bif decide (d1 ≥ 6) then
    bif decide (d1 ≤ 18) then
      some 2
    else
    bif d1 == 26 then
      some 3
    else
      some (-1)
  else
  bif d1 == 26 then
    some 3
  else
    some (-1)
theorem er2 (rf : T.RF) (rb : T.RB) (d1 : Int) : T.stepF rf rb 2 d1 = r2 rf rb d1 := by kernel_rfl
theorem or2 {d1 : Int} {y : Int} (h : r2 T.rf T.rb d1 = some y) : c2 T.rf d1 = some y := T.rf_of (f := 2) (d := d1) ((er2 T.rf T.rb d1).trans h)

/- num.Fits -/
noncomputable def r3 (rf : T.RF) (rb : T.RB) (d1 : Int) : Option Bool :=
  some ((IntKind.i64.wrap (IntKind.i32.wrap d1)) == d1)
theorem er3 (rf : T.RF) (rb : T.RB) (d1 : Int) : T.stepF rf rb 3 d1 = r3 rf rb d1 := by kernel_rfl
theorem or3 {d1 : Int} {y : Bool} (h : r3 T.rf T.rb d1 = some y) : c3 T.rf d1 = some y := T.rf_of (f := 3) (d := d1) ((er3 T.rf T.rb d1).trans h)

/- num.truth -/
noncomputable def r4 (rf : T.RF) (rb : T.RB) (d1 : Bool) : Option (Int × Int) :=
  bif d1 then
    some (1, 0)
  else
    some (0, 0)
theorem er4 (rf : T.RF) (rb : T.RB) (d1 : Bool) : T.stepF rf rb 4 d1 = r4 rf rb d1 := by kernel_rfl
theorem or4 {d1 : Bool} {y : (Int × Int)} (h : r4 T.rf T.rb d1 = some y) : c4 T.rf d1 = some y := T.rf_of (f := 4) (d := d1) ((er4 T.rf T.rb d1).trans h)

/- num.fit -/
noncomputable def r5 (rf : T.RF) (rb : T.RB) (d1 : Int) : Option (Int × Int) :=
  (c3 rf d1).bind fun (y1 : Bool) =>
  bif !y1 then
    some (0, 2)
  else
    some (d1, 0)
theorem er5 (rf : T.RF) (rb : T.RB) (d1 : Int) : T.stepF rf rb 5 d1 = r5 rf rb d1 := by kernel_rfl
theorem or5 {d1 : Int} {y : (Int × Int)} (h : r5 T.rf T.rb d1 = some y) : c5 T.rf d1 = some y := T.rf_of (f := 5) (d := d1) ((er5 T.rf T.rb d1).trans h)

/- num.Do tail 7 -/
noncomputable def b0 (rf : T.RF) (rb : T.RB) (d1 : Int) (d2 : Int) (d3 : Int) (d4 : Int) : Option (Int × Int) :=
  bif d1 == 4 then
    (c4 rf (!(d2 != 0))).bind fun (y1 : Int × Int) =>
    some y1
  else
  bif d1 == 6 then
    bif d2 != 0 then
      (c4 rf (d3 != 0)).bind fun (y2 : Int × Int) =>
      some y2
    else
      (c4 rf false).bind fun (y3 : Int × Int) =>
      some y3
  else
  bif d1 == 9 then
    bif !(d2 != 0) then
      (c4 rf true).bind fun (y4 : Int × Int) =>
      some y4
    else
      (c4 rf (d3 != 0)).bind fun (y5 : Int × Int) =>
      some y5
  else
  bif d1 == 7 then
    bif d2 != 0 then
      (c4 rf true).bind fun (y6 : Int × Int) =>
      some y6
    else
      (c4 rf (d3 != 0)).bind fun (y7 : Int × Int) =>
      some y7
  else
  bif d1 == 8 then
    (c4 rf (!((d2 != 0) == (d3 != 0)))).bind fun (y8 : Int × Int) =>
    some y8
  else
  bif d1 == 10 then
    (c4 rf (d2 == d3)).bind fun (y9 : Int × Int) =>
    some y9
  else
  bif d1 == 11 then
    (c4 rf (d2 != d3)).bind fun (y10 : Int × Int) =>
    some y10
  else
  bif d1 == 12 then
    (c4 rf (decide (d2 < d3))).bind fun (y11 : Int × Int) =>
    some y11
  else
  bif d1 == 13 then
    (c4 rf (decide (d2 ≤ d3))).bind fun (y12 : Int × Int) =>
    some y12
  else
  bif d1 == 5 then
    (c5 rf (IntKind.i64.wrap (0 - d2))).bind fun (y13 : Int × Int) =>
    some y13
  else
  bif d1 == 15 then
    (c5 rf (IntKind.i64.wrap (d2 + (IntKind.i64.wrap (0 - d3))))).bind fun (y14 : Int × Int) =>
    some y14
  else
  bif d1 == 14 then
    (c5 rf (IntKind.i64.wrap (d2 + d3))).bind fun (y15 : Int × Int) =>
    some y15
  else
  bif d1 == 16 then
    (c5 rf (IntKind.i64.wrap (d2 * d3))).bind fun (y16 : Int × Int) =>
    some y16
  else
  bif d1 == 17 then
    bif d1 == 17 then
      bif d3 == 0 then
        some (0, 3)
      else
      bif d1 == 18 then
        bif d3 == 0 then
          none
        else
          some (Int.tmod d2 d3, 0)
      else
      bif d3 == 0 then
        none
      else
        (c5 rf (IntKind.i64.wrap (Int.tdiv d2 d3))).bind fun (y17 : Int × Int) =>
        some y17
    else
    bif d1 == 26 then
      bif d2 != 0 then
        some (d3, 0)
      else
        some (d4, 0)
    else
      some (0, 1)
  else
  bif d1 == 18 then
    bif d3 == 0 then
      some (0, 3)
    else
    bif d1 == 18 then
      bif d3 == 0 then
        none
      else
        some (Int.tmod d2 d3, 0)
    else
    bif d3 == 0 then
      none
    else
      (c5 rf (IntKind.i64.wrap (Int.tdiv d2 d3))).bind fun (y18 : Int × Int) =>
      some y18
  else
  bif d1 == 26 then
    bif d2 != 0 then
      some (d3, 0)
    else
      some (d4, 0)
  else
    some (0, 1)
theorem eb0 (rf : T.RF) (rb : T.RB) (d1 : Int) (d2 : Int) (d3 : Int) (d4 : Int) : T.stepB rf rb 0 (d1, d2, d3, d4) = b0 rf rb d1 d2 d3 d4 := by kernel_rfl
theorem ob0 {d1 : Int} {d2 : Int} {d3 : Int} {d4 : Int} {y : (Int × Int)} (h : b0 T.rf T.rb d1 d2 d3 d4 = some y) : k0 T.rb d1 d2 d3 d4 = some y := T.rb_of (κ := 0) (d := (d1, d2, d3, d4)) ((eb0 T.rf T.rb d1 d2 d3 d4).trans h)

/- num.Do -/
noncomputable def r1 (rf : T.RF) (rb : T.RB) (d1 : Int) (d2 : Int) (d3 : Int) (d4 : Int) : Option (Int × Int) :=
  (c2 rf d1).bind fun (y1 : Int) =>
  bif decide (0 < (if 1 > y1 then 1 else y1)) then
    (c3 rf d2).bind fun (y2 : Bool) =>
    bif !y2 then
      some (0, 1)
    else
      (c2 rf d1).bind fun (y3 : Int) =>
      bif decide (1 < (if 1 > y3 then 1 else y3)) then
        (c3 rf d3).bind fun (y4 : Bool) =>
        bif !y4 then
          some (0, 1)
        else
          (c2 rf d1).bind fun (y5 : Int) =>
          bif decide (2 < (if 1 > y5 then 1 else y5)) then
            (c3 rf d4).bind fun (y6 : Bool) =>
            bif !y6 then
              some (0, 1)
            else
              (k0 rb d1 d2 d3 d4).bind fun (z7 : Int × Int) =>
              some z7
          else
            (k0 rb d1 d2 d3 d4).bind fun (z8 : Int × Int) =>
            some z8
      else
        (c2 rf d1).bind fun (y9 : Int) =>
        bif decide (2 < (if 1 > y9 then 1 else y9)) then
          (c3 rf d4).bind fun (y10 : Bool) =>
          bif !y10 then
            some (0, 1)
          else
            (k0 rb d1 d2 d3 d4).bind fun (z11 : Int × Int) =>
            some z11
        else
          (k0 rb d1 d2 d3 d4).bind fun (z12 : Int × Int) =>
          some z12
  else
    (c2 rf d1).bind fun (y13 : Int) =>
    bif decide (1 < (if 1 > y13 then 1 else y13)) then
      (c3 rf d3).bind fun (y14 : Bool) =>
      bif !y14 then
        some (0, 1)
      else
        (c2 rf d1).bind fun (y15 : Int) =>
        bif decide (2 < (if 1 > y15 then 1 else y15)) then
          (c3 rf d4).bind fun (y16 : Bool) =>
          bif !y16 then
            some (0, 1)
          else
            (k0 rb d1 d2 d3 d4).bind fun (z17 : Int × Int) =>
            some z17
        else
          (k0 rb d1 d2 d3 d4).bind fun (z18 : Int × Int) =>
          some z18
    else
      (c2 rf d1).bind fun (y19 : Int) =>
      bif decide (2 < (if 1 > y19 then 1 else y19)) then
        (c3 rf d4).bind fun (y20 : Bool) =>
        bif !y20 then
          some (0, 1)
        else
          (k0 rb d1 d2 d3 d4).bind fun (z21 : Int × Int) =>
          some z21
      else
        (k0 rb d1 d2 d3 d4).bind fun (z22 : Int × Int) =>
        some z22
theorem er1 (rf : T.RF) (rb : T.RB) (d1 : Int) (d2 : Int) (d3 : Int) (d4 : Int) : T.stepF rf rb 1 (d1, d2, d3, d4) = r1 rf rb d1 d2 d3 d4 := by kernel_rfl
theorem or1 {d1 : Int} {d2 : Int} {d3 : Int} {d4 : Int} {y : (Int × Int)} (h : r1 T.rf T.rb d1 d2 d3 d4 = some y) : c1 T.rf d1 d2 d3 d4 = some y := T.rf_of (f := 1) (d := (d1, d2, d3, d4)) ((er1 T.rf T.rb d1 d2 d3 d4).trans h)

/- bailmentref01.Operands -/
noncomputable def r7 (rf : T.RF) (rb : T.RB) (d1 : Int) : Option Int :=
  bif d1 == 4 then
    bif d1 == 4 then
      some 1
    else
    bif d1 == 26 then
      some 3
    else
    bif decide (d1 ≥ 6) then
      bif decide (d1 ≤ 18) then
        some 2
      else
        some (-1)
    else
      some (-1)
  else
  bif d1 == 5 then
    some 1
  else
  bif d1 == 26 then
    some 3
  else
  bif decide (d1 ≥ 6) then
    bif decide (d1 ≤ 18) then
      some 2
    else
      some (-1)
  else
    some (-1)
theorem er7 (rf : T.RF) (rb : T.RB) (d1 : Int) : T.stepF rf rb 7 d1 = r7 rf rb d1 := by kernel_rfl
theorem or7 {d1 : Int} {y : Int} (h : r7 T.rf T.rb d1 = some y) : c7 T.rf d1 = some y := T.rf_of (f := 7) (d := d1) ((er7 T.rf T.rb d1).trans h)

/- bailmentref01.Fits -/
noncomputable def r8 (rf : T.RF) (rb : T.RB) (d1 : Int) : Option Bool :=
  bif decide (d1 ≥ (-2147483648)) then
    some (decide (d1 ≤ 2147483647))
  else
    some false
theorem er8 (rf : T.RF) (rb : T.RB) (d1 : Int) : T.stepF rf rb 8 d1 = r8 rf rb d1 := by kernel_rfl
theorem or8 {d1 : Int} {y : Bool} (h : r8 T.rf T.rb d1 = some y) : c8 T.rf d1 = some y := T.rf_of (f := 8) (d := d1) ((er8 T.rf T.rb d1).trans h)

/- bailmentref01.truth -/
noncomputable def r9 (rf : T.RF) (rb : T.RB) (d1 : Bool) : Option Int :=
  bif d1 then
    some 1
  else
    some 0
theorem er9 (rf : T.RF) (rb : T.RB) (d1 : Bool) : T.stepF rf rb 9 d1 = r9 rf rb d1 := by kernel_rfl
theorem or9 {d1 : Bool} {y : Int} (h : r9 T.rf T.rb d1 = some y) : c9 T.rf d1 = some y := T.rf_of (f := 9) (d := d1) ((er9 T.rf T.rb d1).trans h)

/- bailmentref01.over -/
noncomputable def r10 (rf : T.RF) (rb : T.RB) (d1 : Int) : Option (Int × Int) :=
  (c8 rf d1).bind fun (y1 : Bool) =>
  bif !y1 then
    some (0, 2)
  else
    some (d1, 0)
theorem er10 (rf : T.RF) (rb : T.RB) (d1 : Int) : T.stepF rf rb 10 d1 = r10 rf rb d1 := by kernel_rfl
theorem or10 {d1 : Int} {y : (Int × Int)} (h : r10 T.rf T.rb d1 = some y) : c10 T.rf d1 = some y := T.rf_of (f := 10) (d := d1) ((er10 T.rf T.rb d1).trans h)

/- bailmentref01.size -/
noncomputable def r12 (rf : T.RF) (rb : T.RB) (d1 : Int) : Option Int :=
  bif decide (d1 < 0) then
    some (IntKind.i64.wrap (0 - d1))
  else
    some d1
theorem er12 (rf : T.RF) (rb : T.RB) (d1 : Int) : T.stepF rf rb 12 d1 = r12 rf rb d1 := by kernel_rfl
theorem or12 {d1 : Int} {y : Int} (h : r12 T.rf T.rb d1 = some y) : c12 T.rf d1 = some y := T.rf_of (f := 12) (d := d1) ((er12 T.rf T.rb d1).trans h)

/- bailmentref01.parts -/
noncomputable def r11 (rf : T.RF) (rb : T.RB) (d1 : Int) (d2 : Int) : Option (Int × Int) :=
  (c12 rf d1).bind fun (y1 : Int) =>
  (c12 rf d2).bind fun (y2 : Int) =>
  bif y2 == 0 then
    none
  else
    (c12 rf d1).bind fun (y3 : Int) =>
    (c12 rf d2).bind fun (y4 : Int) =>
    bif y4 == 0 then
      none
    else
      some (IntKind.i64.wrap (Int.tdiv y1 y2), Int.tmod y3 y4)
theorem er11 (rf : T.RF) (rb : T.RB) (d1 : Int) (d2 : Int) : T.stepF rf rb 11 (d1, d2) = r11 rf rb d1 d2 := by kernel_rfl
theorem or11 {d1 : Int} {d2 : Int} {y : (Int × Int)} (h : r11 T.rf T.rb d1 d2 = some y) : c11 T.rf d1 d2 = some y := T.rf_of (f := 11) (d := (d1, d2)) ((er11 T.rf T.rb d1 d2).trans h)

/- bailmentref01.Do tail 4 -/
noncomputable def b1 (rf : T.RF) (rb : T.RB) (d1 : Int) (d2 : Int) (d3 : Int) (d4 : Int) : Option (Int × Int) :=
  bif d1 == 4 then
    (c9 rf (d2 == 0)).bind fun (y1 : Int) =>
    some (y1, 0)
  else
  bif d1 == 6 then
    bif d2 != 0 then
      (c9 rf (d3 != 0)).bind fun (y2 : Int) =>
      some (y2, 0)
    else
      (c9 rf false).bind fun (y3 : Int) =>
      some (y3, 0)
  else
  bif d1 == 7 then
    bif d2 != 0 then
      (c9 rf true).bind fun (y4 : Int) =>
      some (y4, 0)
    else
      (c9 rf (d3 != 0)).bind fun (y5 : Int) =>
      some (y5, 0)
  else
  bif d1 == 8 then
    (c9 rf (!((d2 != 0) == (d3 != 0)))).bind fun (y6 : Int) =>
    some (y6, 0)
  else
  bif d1 == 9 then
    bif d2 == 0 then
      (c9 rf true).bind fun (y7 : Int) =>
      some (y7, 0)
    else
      (c9 rf (d3 != 0)).bind fun (y8 : Int) =>
      some (y8, 0)
  else
  bif d1 == 10 then
    (c9 rf (d2 == d3)).bind fun (y9 : Int) =>
    some (y9, 0)
  else
  bif d1 == 11 then
    (c9 rf (d2 != d3)).bind fun (y10 : Int) =>
    some (y10, 0)
  else
  bif d1 == 12 then
    (c9 rf (decide (d2 < d3))).bind fun (y11 : Int) =>
    some (y11, 0)
  else
  bif d1 == 13 then
    (c9 rf (decide (d2 ≤ d3))).bind fun (y12 : Int) =>
    some (y12, 0)
  else
  bif d1 == 5 then
    (c10 rf (IntKind.i64.wrap (0 - d2))).bind fun (y13 : Int × Int) =>
    some y13
  else
  bif d1 == 14 then
    (c10 rf (IntKind.i64.wrap (d2 + d3))).bind fun (y14 : Int × Int) =>
    some y14
  else
  bif d1 == 15 then
    (c10 rf (IntKind.i64.wrap (d2 - d3))).bind fun (y15 : Int × Int) =>
    some y15
  else
  bif d1 == 16 then
    (c10 rf (IntKind.i64.wrap (d2 * d3))).bind fun (y16 : Int × Int) =>
    some y16
  else
  bif d1 == 26 then
    bif d2 != 0 then
      some (d3, 0)
    else
      some (d4, 0)
  else
  bif d3 == 0 then
    some (0, 3)
  else
    (c11 rf d2 d3).bind fun (y17 : Int × Int) =>
    bif d1 == 18 then
      bif decide (d2 < 0) then
        some (IntKind.i64.wrap (0 - y17.2), 0)
      else
        some (y17.2, 0)
    else
    bif !((decide (d2 < 0)) == (decide (d3 < 0))) then
      (c10 rf (IntKind.i64.wrap (0 - y17.1))).bind fun (y18 : Int × Int) =>
      some y18
    else
      (c10 rf y17.1).bind fun (y19 : Int × Int) =>
      some y19
theorem eb1 (rf : T.RF) (rb : T.RB) (d1 : Int) (d2 : Int) (d3 : Int) (d4 : Int) : T.stepB rf rb 1 (d1, d2, d3, d4) = b1 rf rb d1 d2 d3 d4 := by kernel_rfl
theorem ob1 {d1 : Int} {d2 : Int} {d3 : Int} {d4 : Int} {y : (Int × Int)} (h : b1 T.rf T.rb d1 d2 d3 d4 = some y) : k1 T.rb d1 d2 d3 d4 = some y := T.rb_of (κ := 1) (d := (d1, d2, d3, d4)) ((eb1 T.rf T.rb d1 d2 d3 d4).trans h)

/- bailmentref01.Do -/
noncomputable def r6 (rf : T.RF) (rb : T.RB) (d1 : Int) (d2 : Int) (d3 : Int) (d4 : Int) : Option (Int × Int) :=
  (c7 rf d1).bind fun (y1 : Int) =>
  bif decide (y1 < 0) then
    some (0, 1)
  else
    (c8 rf d2).bind fun (y2 : Bool) =>
    bif !y2 then
      some (0, 1)
    else
    bif decide (y1 > 1) then
      (c8 rf d3).bind fun (y3 : Bool) =>
      bif !y3 then
        some (0, 1)
      else
      bif decide (y1 > 2) then
        (c8 rf d4).bind fun (y4 : Bool) =>
        bif !y4 then
          some (0, 1)
        else
          (k1 rb d1 d2 d3 d4).bind fun (z5 : Int × Int) =>
          some z5
      else
        (k1 rb d1 d2 d3 d4).bind fun (z6 : Int × Int) =>
        some z6
    else
    bif decide (y1 > 2) then
      (c8 rf d4).bind fun (y7 : Bool) =>
      bif !y7 then
        some (0, 1)
      else
        (k1 rb d1 d2 d3 d4).bind fun (z8 : Int × Int) =>
        some z8
    else
      (k1 rb d1 d2 d3 d4).bind fun (z9 : Int × Int) =>
      some z9
theorem er6 (rf : T.RF) (rb : T.RB) (d1 : Int) (d2 : Int) (d3 : Int) (d4 : Int) : T.stepF rf rb 6 (d1, d2, d3, d4) = r6 rf rb d1 d2 d3 d4 := by kernel_rfl
theorem or6 {d1 : Int} {d2 : Int} {d3 : Int} {d4 : Int} {y : (Int × Int)} (h : r6 T.rf T.rb d1 d2 d3 d4 = some y) : c6 T.rf d1 d2 d3 d4 = some y := T.rf_of (f := 6) (d := (d1, d2, d3, d4)) ((er6 T.rf T.rb d1 d2 d3 d4).trans h)

/- bailmentlaw01.live -/
noncomputable def r13 (rf : T.RF) (rb : T.RB) : Option Bool :=
  (c1 rf 17 (-7) 2 0).bind fun (y1 : Int × Int) =>
  (c1 rf 18 (-7) 2 0).bind fun (y2 : Int × Int) =>
  (c1 rf 14 2147483647 1 0).bind fun (y3 : Int × Int) =>
  (c1 rf 17 1 0 0).bind fun (y4 : Int × Int) =>
  (c1 rf 21 1 0 0).bind fun (y5 : Int × Int) =>
  (c1 rf 26 0 5 6).bind fun (y6 : Int × Int) =>
  bif y1.1 == (-3) then
    bif y1.2 == 0 then
      bif y2.1 == (-1) then
        bif y2.2 == 0 then
          bif y3.2 == 2 then
            bif y4.2 == 3 then
              bif y5.2 == 1 then
                bif y6.1 == 6 then
                  bif y6.2 == 0 then
                    (c3 rf (-2147483648)).bind fun (y7 : Bool) =>
                    bif y7 then
                      (c2 rf 26).bind fun (y8 : Int) =>
                      some (y8 == 3)
                    else
                      some false
                  else
                    some false
                else
                  some false
              else
                some false
            else
              some false
          else
            some false
        else
          some false
      else
        some false
    else
      some false
  else
    some false
theorem er13 (rf : T.RF) (rb : T.RB) : T.stepF rf rb 13 () = r13 rf rb := by kernel_rfl
theorem or13 {y : Bool} (h : r13 T.rf T.rb = some y) : c13 T.rf = some y := T.rf_of (f := 13) (d := ()) ((er13 T.rf T.rb).trans h)

/- bailmentlaw01.NumDoes -/
noncomputable def r0 (rf : T.RF) (rb : T.RB) (d1 : Int × Int × Int × Int) : Option Bool :=
  (c1 rf d1.1 d1.2.1 d1.2.2.1 d1.2.2.2).bind fun (y1 : Int × Int) =>
  (c6 rf d1.1 d1.2.1 d1.2.2.1 d1.2.2.2).bind fun (y2 : Int × Int) =>
  bif y1.1 == y2.1 then
    bif y1.2 == y2.2 then
      (c3 rf d1.2.1).bind fun (y3 : Bool) =>
      (c8 rf d1.2.1).bind fun (y4 : Bool) =>
      bif y3 == y4 then
        (c2 rf d1.1).bind fun (y5 : Int) =>
        (c7 rf d1.1).bind fun (y6 : Int) =>
        bif y5 == y6 then
          (c13 rf).bind fun (y7 : Bool) =>
          some y7
        else
          some false
      else
        some false
    else
      some false
  else
    some false
theorem er0 (rf : T.RF) (rb : T.RB) (d1 : Int × Int × Int × Int) : T.stepF rf rb 0 d1 = r0 rf rb d1 := by kernel_rfl
theorem or0 {d1 : Int × Int × Int × Int} {y : Bool} (h : r0 T.rf T.rb d1 = some y) : c0 T.rf d1 = some y := T.rf_of (f := 0) (d := d1) ((er0 T.rf T.rb d1).trans h)

theorem place_len : tabs.placeL.length = 2 := rfl
end Go.Proofs.Ytjphmcfifncgnaa.R
