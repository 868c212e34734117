/-
  OUR OWN, PRINTED BY A PROGRAM OF OURS (table2.py): the table of the functions, and what each comes to.
-/
import Derived.Test.YtifoobdekbjmdaaResPA
namespace Go.Proofs.Ytifoobdekbjmdaa.R
open Go Go.Bm Go.Proofs
set_option linter.unusedVariables false
set_option linter.unusedSimpArgs false
set_option maxRecDepth 100000

/- (*bailment/bailmentref06.reader).fail -/
noncomputable def r73q (rf : T.RF) (rb : T.RB) (d1 : Int) (d2 : Int) (d3 : Int) (d4 : List (Int × List UInt8 × Int)) (d5 : Int) : Option (List (Int × List UInt8 × Int) × Int × Int × Int) :=
  (c71 rf d1 d2 d3 d4).bind fun (y1 : Int × Int × Int × List (Int × List UInt8 × Int) × Bool) =>
  bif y1.2.2.2.2 then
    agN 1 (
      (c26 rf y1.2.2.2.1 y1.1).bind fun (y2 : Int) =>
      some (y1.2.2.2.1, y1.1, d5, y2)
    )
  else
    some (y1.2.2.2.1, y1.1, y1.2.1, y1.2.2.1)
noncomputable def r73 (rf : T.RF) (rb : T.RB) (d1 : Int) (d2 : Int) (d3 : Int) (d4 : List (Int × List UInt8 × Int)) (d5 : Int) : Option (List (Int × List UInt8 × Int) × Int × Int × Int) :=
  (c71 rf d1 d2 d3 d4).bind fun (y1 : Int × Int × Int × List (Int × List UInt8 × Int) × Bool) =>
  bif y1.2.2.2.2 then
    (c26 rf y1.2.2.2.1 y1.1).bind fun (y2 : Int) =>
    some (y1.2.2.2.1, y1.1, d5, y2)
  else
    some (y1.2.2.2.1, y1.1, y1.2.1, y1.2.2.1)
theorem er73 (rf : T.RF) (rb : T.RB) (d1 : Int) (d2 : Int) (d3 : Int) (d4 : List (Int × List UInt8 × Int)) (d5 : Int) : T.stepF rf rb 73 (d1, d2, d3, d4, d5) = r73q rf rb d1 d2 d3 d4 d5 := by kernel_rfl
theorem sr73 (rf : T.RF) (rb : T.RB) (d1 : Int) (d2 : Int) (d3 : Int) (d4 : List (Int × List UInt8 × Int)) (d5 : Int) : r73q rf rb d1 d2 d3 d4 d5 = r73 rf rb d1 d2 d3 d4 d5 := by
  unfold r73q r73; simp only [agN_eq, agree_self, agree_swap]
theorem or73 {d1 : Int} {d2 : Int} {d3 : Int} {d4 : List (Int × List UInt8 × Int)} {d5 : Int} {y : (List (Int × List UInt8 × Int) × Int × Int × Int)} (h : r73 T.rf T.rb d1 d2 d3 d4 d5 = some y) : c73 T.rf d1 d2 d3 d4 d5 = some y := T.rf_of (f := 73) (d := (d1, d2, d3, d4, d5)) (((er73 T.rf T.rb d1 d2 d3 d4 d5).trans (sr73 T.rf T.rb d1 d2 d3 d4 d5)).trans h)

/- (*bailment/bailmentref06.reader).room -/
noncomputable def r72 (rf : T.RF) (rb : T.RB) (d1 : Int) (d2 : Int) (d3 : Int) (d4 : List (Int × List UInt8 × Int)) (d5 : Int) : Option (List (Int × List UInt8 × Int) × Int × Int × Int) :=
  bif decide (d5 ≥ 200) then
    (c73 rf d1 d2 d3 d4 7).bind fun (y1 : List (Int × List UInt8 × Int) × Int × Int × Int) =>
    some y1
  else
    some (d4, d1, d2, d3)
theorem er72 (rf : T.RF) (rb : T.RB) (d1 : Int) (d2 : Int) (d3 : Int) (d4 : List (Int × List UInt8 × Int)) (d5 : Int) : T.stepF rf rb 72 (d1, d2, d3, d4, d5) = r72 rf rb d1 d2 d3 d4 d5 := by kernel_rfl
theorem or72 {d1 : Int} {d2 : Int} {d3 : Int} {d4 : List (Int × List UInt8 × Int)} {d5 : Int} {y : (List (Int × List UInt8 × Int) × Int × Int × Int)} (h : r72 T.rf T.rb d1 d2 d3 d4 d5 = some y) : c72 T.rf d1 d2 d3 d4 d5 = some y := T.rf_of (f := 72) (d := (d1, d2, d3, d4, d5)) ((er72 T.rf T.rb d1 d2 d3 d4 d5).trans h)

/- (*bailment/bailmentref06.reader).ok -/
noncomputable def r77 (rf : T.RF) (rb : T.RB) (d1 : List (Int × List UInt8 × Int) × Int × Int × Int) : Option ((List (Int × List UInt8 × Int) × Int × Int × Int) × Bool) :=
  some (d1, d1.2.2.1 == 0)
theorem er77 (rf : T.RF) (rb : T.RB) (d1 : List (Int × List UInt8 × Int) × Int × Int × Int) : T.stepF rf rb 77 d1 = r77 rf rb d1 := by kernel_rfl
theorem or77 {d1 : List (Int × List UInt8 × Int) × Int × Int × Int} {y : ((List (Int × List UInt8 × Int) × Int × Int × Int) × Bool)} (h : r77 T.rf T.rb d1 = some y) : c77 T.rf d1 = some y := T.rf_of (f := 77) (d := d1) ((er77 T.rf T.rb d1).trans h)

/- (*bailment/bailmentref06.reader).is -/
noncomputable def r76q (rf : T.RF) (rb : T.RB) (d1 : List (Int × List UInt8 × Int) × Int × Int × Int) (d2 : List UInt8) : Option ((List (Int × List UInt8 × Int) × Int × Int × Int) × Bool) :=
  (c77 rf d1).bind fun (y1 : (List (Int × List UInt8 × Int) × Int × Int × Int) × Bool) =>
  bif !y1.2 then
    agN 1 (
      some (y1.1, false)
    )
  else
    agN 1 (
      bif decide (y1.1.2.1 ≥ (((y1.1.1.length : Nat) : Int))) then
        some (y1.1, false)
      else
      bif inb y1.1.2.1 y1.1.1.length then
        (nth y1.1.1 y1.1.2.1.toNat).bind fun (x2 : Int × List UInt8 × Int) =>
        bif x2.1 == 4 then
          some (y1.1, x2.2.1 == d2)
        else
        bif x2.1 == 3 then
          some (y1.1, x2.2.1 == d2)
        else
          some (y1.1, false)
      else
        none
    )
noncomputable def r76 (rf : T.RF) (rb : T.RB) (d1 : List (Int × List UInt8 × Int) × Int × Int × Int) (d2 : List UInt8) : Option ((List (Int × List UInt8 × Int) × Int × Int × Int) × Bool) :=
  (c77 rf d1).bind fun (y1 : (List (Int × List UInt8 × Int) × Int × Int × Int) × Bool) =>
  bif !y1.2 then
    some (y1.1, false)
  else
  bif decide (y1.1.2.1 ≥ (((y1.1.1.length : Nat) : Int))) then
    some (y1.1, false)
  else
  bif inb y1.1.2.1 y1.1.1.length then
    (nth y1.1.1 y1.1.2.1.toNat).bind fun (x2 : Int × List UInt8 × Int) =>
    bif x2.1 == 4 then
      some (y1.1, x2.2.1 == d2)
    else
    bif x2.1 == 3 then
      some (y1.1, x2.2.1 == d2)
    else
      some (y1.1, false)
  else
    none
theorem er76 (rf : T.RF) (rb : T.RB) (d1 : List (Int × List UInt8 × Int) × Int × Int × Int) (d2 : List UInt8) : T.stepF rf rb 76 (d1, d2) = r76q rf rb d1 d2 := by kernel_rfl
theorem sr76 (rf : T.RF) (rb : T.RB) (d1 : List (Int × List UInt8 × Int) × Int × Int × Int) (d2 : List UInt8) : r76q rf rb d1 d2 = r76 rf rb d1 d2 := by
  unfold r76q r76; simp only [agN_eq, agree_self, agree_swap]
theorem or76 {d1 : List (Int × List UInt8 × Int) × Int × Int × Int} {d2 : List UInt8} {y : ((List (Int × List UInt8 × Int) × Int × Int × Int) × Bool)} (h : r76 T.rf T.rb d1 d2 = some y) : c76 T.rf d1 d2 = some y := T.rf_of (f := 76) (d := (d1, d2)) (((er76 T.rf T.rb d1 d2).trans (sr76 T.rf T.rb d1 d2)).trans h)

/- (*bailment/bailmentref06.reader).take -/
noncomputable def r75 (rf : T.RF) (rb : T.RB) (d1 : List (Int × List UInt8 × Int) × Int × Int × Int) (d2 : List UInt8) : Option ((List (Int × List UInt8 × Int) × Int × Int × Int) × Bool) :=
  (c76 rf d1 d2).bind fun (y1 : (List (Int × List UInt8 × Int) × Int × Int × Int) × Bool) =>
  bif !y1.2 then
    some (y1.1, false)
  else
    some ((y1.1.1, IntKind.i64.wrap (y1.1.2.1 + 1), y1.1.2.2), true)
theorem er75 (rf : T.RF) (rb : T.RB) (d1 : List (Int × List UInt8 × Int) × Int × Int × Int) (d2 : List UInt8) : T.stepF rf rb 75 (d1, d2) = r75 rf rb d1 d2 := by kernel_rfl
theorem or75 {d1 : List (Int × List UInt8 × Int) × Int × Int × Int} {d2 : List UInt8} {y : ((List (Int × List UInt8 × Int) × Int × Int × Int) × Bool)} (h : r75 T.rf T.rb d1 d2 = some y) : c75 T.rf d1 d2 = some y := T.rf_of (f := 75) (d := (d1, d2)) ((er75 T.rf T.rb d1 d2).trans h)

/- (*bailment/bailmentref06.reader).named -/
noncomputable def r79q (rf : T.RF) (rb : T.RB) (d1 : List (Int × List UInt8 × Int) × Int × Int × Int) : Option ((List (Int × List UInt8 × Int) × Int × Int × Int) × Bool) :=
  (c77 rf d1).bind fun (y1 : (List (Int × List UInt8 × Int) × Int × Int × Int) × Bool) =>
  bif y1.2 then
    agN 1 (
      bif decide (y1.1.2.1 < (((y1.1.1.length : Nat) : Int))) then
        agN 1 (
          bif inb y1.1.2.1 y1.1.1.length then
            (nth y1.1.1 y1.1.2.1.toNat).bind fun (x2 : Int × List UInt8 × Int) =>
            some (y1.1, x2.1 == 1)
          else
            none
        )
      else
        agN 1 (
          some (y1.1, false)
        )
    )
  else
    agN 1 (
      agN 1 (
        some (y1.1, false)
      )
    )
noncomputable def r79 (rf : T.RF) (rb : T.RB) (d1 : List (Int × List UInt8 × Int) × Int × Int × Int) : Option ((List (Int × List UInt8 × Int) × Int × Int × Int) × Bool) :=
  (c77 rf d1).bind fun (y1 : (List (Int × List UInt8 × Int) × Int × Int × Int) × Bool) =>
  bif y1.2 then
    bif decide (y1.1.2.1 < (((y1.1.1.length : Nat) : Int))) then
      bif inb y1.1.2.1 y1.1.1.length then
        (nth y1.1.1 y1.1.2.1.toNat).bind fun (x2 : Int × List UInt8 × Int) =>
        some (y1.1, x2.1 == 1)
      else
        none
    else
      some (y1.1, false)
  else
    some (y1.1, false)
theorem er79 (rf : T.RF) (rb : T.RB) (d1 : List (Int × List UInt8 × Int) × Int × Int × Int) : T.stepF rf rb 79 d1 = r79q rf rb d1 := by kernel_rfl
theorem sr79 (rf : T.RF) (rb : T.RB) (d1 : List (Int × List UInt8 × Int) × Int × Int × Int) : r79q rf rb d1 = r79 rf rb d1 := by
  unfold r79q r79; simp only [agN_eq, agree_self, agree_swap]
theorem or79 {d1 : List (Int × List UInt8 × Int) × Int × Int × Int} {y : ((List (Int × List UInt8 × Int) × Int × Int × Int) × Bool)} (h : r79 T.rf T.rb d1 = some y) : c79 T.rf d1 = some y := T.rf_of (f := 79) (d := d1) (((er79 T.rf T.rb d1).trans (sr79 T.rf T.rb d1)).trans h)

/- (*bailment/bailmentref06.reader).fail -/
noncomputable def r80q (rf : T.RF) (rb : T.RB) (d1 : List (Int × List UInt8 × Int) × Int × Int × Int) (d2 : Int) : Option (List (Int × List UInt8 × Int) × Int × Int × Int) :=
  (c77 rf d1).bind fun (y1 : (List (Int × List UInt8 × Int) × Int × Int × Int) × Bool) =>
  bif y1.2 then
    agN 1 (
      (c26 rf y1.1.1 y1.1.2.1).bind fun (y2 : Int) =>
      some (y1.1.1, y1.1.2.1, d2, y2)
    )
  else
    some y1.1
noncomputable def r80 (rf : T.RF) (rb : T.RB) (d1 : List (Int × List UInt8 × Int) × Int × Int × Int) (d2 : Int) : Option (List (Int × List UInt8 × Int) × Int × Int × Int) :=
  (c77 rf d1).bind fun (y1 : (List (Int × List UInt8 × Int) × Int × Int × Int) × Bool) =>
  bif y1.2 then
    (c26 rf y1.1.1 y1.1.2.1).bind fun (y2 : Int) =>
    some (y1.1.1, y1.1.2.1, d2, y2)
  else
    some y1.1
theorem er80 (rf : T.RF) (rb : T.RB) (d1 : List (Int × List UInt8 × Int) × Int × Int × Int) (d2 : Int) : T.stepF rf rb 80 (d1, d2) = r80q rf rb d1 d2 := by kernel_rfl
theorem sr80 (rf : T.RF) (rb : T.RB) (d1 : List (Int × List UInt8 × Int) × Int × Int × Int) (d2 : Int) : r80q rf rb d1 d2 = r80 rf rb d1 d2 := by
  unfold r80q r80; simp only [agN_eq, agree_self, agree_swap]
theorem or80 {d1 : List (Int × List UInt8 × Int) × Int × Int × Int} {d2 : Int} {y : (List (Int × List UInt8 × Int) × Int × Int × Int)} (h : r80 T.rf T.rb d1 d2 = some y) : c80 T.rf d1 d2 = some y := T.rf_of (f := 80) (d := (d1, d2)) (((er80 T.rf T.rb d1 d2).trans (sr80 T.rf T.rb d1 d2)).trans h)

/- (*bailment/bailmentref06.reader).name -/
noncomputable def r78 (rf : T.RF) (rb : T.RB) (d1 : List (Int × List UInt8 × Int) × Int × Int × Int) : Option ((List (Int × List UInt8 × Int) × Int × Int × Int) × List UInt8) :=
  (c79 rf d1).bind fun (y1 : (List (Int × List UInt8 × Int) × Int × Int × Int) × Bool) =>
  bif !y1.2 then
    (c80 rf y1.1 5).bind fun (y2 : List (Int × List UInt8 × Int) × Int × Int × Int) =>
    some (y2, ([] : List UInt8))
  else
  bif inb (IntKind.i64.wrap ((IntKind.i64.wrap (y1.1.2.1 + 1)) - 1)) y1.1.1.length then
    (nth y1.1.1 (IntKind.i64.wrap ((IntKind.i64.wrap (y1.1.2.1 + 1)) - 1)).toNat).bind fun (x3 : Int × List UInt8 × Int) =>
    some ((y1.1.1, IntKind.i64.wrap (y1.1.2.1 + 1), y1.1.2.2), x3.2.1)
  else
    none
theorem er78 (rf : T.RF) (rb : T.RB) (d1 : List (Int × List UInt8 × Int) × Int × Int × Int) : T.stepF rf rb 78 d1 = r78 rf rb d1 := by kernel_rfl
theorem or78 {d1 : List (Int × List UInt8 × Int) × Int × Int × Int} {y : ((List (Int × List UInt8 × Int) × Int × Int × Int) × List UInt8)} (h : r78 T.rf T.rb d1 = some y) : c78 T.rf d1 = some y := T.rf_of (f := 78) (d := d1) ((er78 T.rf T.rb d1).trans h)

/- (*bailment/bailmentref06.reader).need -/
noncomputable def r82 (rf : T.RF) (rb : T.RB) (d1 : List (Int × List UInt8 × Int) × Int × Int × Int) (d2 : List UInt8) : Option (List (Int × List UInt8 × Int) × Int × Int × Int) :=
  (c75 rf d1 d2).bind fun (y1 : (List (Int × List UInt8 × Int) × Int × Int × Int) × Bool) =>
  bif !y1.2 then
    (c80 rf y1.1 5).bind fun (y2 : List (Int × List UInt8 × Int) × Int × Int × Int) =>
    some y2
  else
    some y1.1
theorem er82 (rf : T.RF) (rb : T.RB) (d1 : List (Int × List UInt8 × Int) × Int × Int × Int) (d2 : List UInt8) : T.stepF rf rb 82 (d1, d2) = r82 rf rb d1 d2 := by kernel_rfl
theorem or82 {d1 : List (Int × List UInt8 × Int) × Int × Int × Int} {d2 : List UInt8} {y : (List (Int × List UInt8 × Int) × Int × Int × Int)} (h : r82 T.rf T.rb d1 d2 = some y) : c82 T.rf d1 d2 = some y := T.rf_of (f := 82) (d := (d1, d2)) ((er82 T.rf T.rb d1 d2).trans h)

/- (*bailment/bailmentref06.reader).room -/
noncomputable def r83 (rf : T.RF) (rb : T.RB) (d1 : List (Int × List UInt8 × Int) × Int × Int × Int) (d2 : Int) : Option (List (Int × List UInt8 × Int) × Int × Int × Int) :=
  bif decide (d2 ≥ 200) then
    (c80 rf d1 7).bind fun (y1 : List (Int × List UInt8 × Int) × Int × Int × Int) =>
    some y1
  else
    some d1
theorem er83 (rf : T.RF) (rb : T.RB) (d1 : List (Int × List UInt8 × Int) × Int × Int × Int) (d2 : Int) : T.stepF rf rb 83 (d1, d2) = r83 rf rb d1 d2 := by kernel_rfl
theorem or83 {d1 : List (Int × List UInt8 × Int) × Int × Int × Int} {d2 : Int} {y : (List (Int × List UInt8 × Int) × Int × Int × Int)} (h : r83 T.rf T.rb d1 d2 = some y) : c83 T.rf d1 d2 = some y := T.rf_of (f := 83) (d := (d1, d2)) ((er83 T.rf T.rb d1 d2).trans h)

/- (*bailment/bailmentref06.reader).param -/
noncomputable def r84 (rf : T.RF) (rb : T.RB) (d1 : List (Int × List UInt8 × Int) × Int × Int × Int) : Option ((List (Int × List UInt8 × Int) × Int × Int × Int) × List UInt8 × Int) :=
  (c78 rf d1).bind fun (y1 : (List (Int × List UInt8 × Int) × Int × Int × Int) × List UInt8) =>
  (c82 rf y1.1 ([58] : List UInt8)).bind fun (y2 : List (Int × List UInt8 × Int) × Int × Int × Int) =>
  (c75 rf y2 ([98, 111, 111, 108] : List UInt8)).bind fun (y3 : (List (Int × List UInt8 × Int) × Int × Int × Int) × Bool) =>
  bif y3.2 then
    some (y3.1, y1.2, 1)
  else
    (c75 rf y3.1 ([105, 110, 116] : List UInt8)).bind fun (y4 : (List (Int × List UInt8 × Int) × Int × Int × Int) × Bool) =>
    bif y4.2 then
      some (y4.1, y1.2, 2)
    else
      (c80 rf y4.1 5).bind fun (y5 : List (Int × List UInt8 × Int) × Int × Int × Int) =>
      some (y5, y1.2, 0)
theorem er84 (rf : T.RF) (rb : T.RB) (d1 : List (Int × List UInt8 × Int) × Int × Int × Int) : T.stepF rf rb 84 d1 = r84 rf rb d1 := by kernel_rfl
theorem or84 {d1 : List (Int × List UInt8 × Int) × Int × Int × Int} {y : ((List (Int × List UInt8 × Int) × Int × Int × Int) × List UInt8 × Int)} (h : r84 T.rf T.rb d1 = some y) : c84 T.rf d1 = some y := T.rf_of (f := 84) (d := d1) ((er84 T.rf T.rb d1).trans h)

/- (*bailment/bailmentref06.reader).inputs loop 0 -/
noncomputable def b106 (rf : T.RF) (rb : T.RB) (d1 : List (Int × List UInt8 × Int) × Int × Int × Int) (d2 : XP) : Option (((List (Int × List UInt8 × Int) × Int × Int × Int) × XP) ⊕ (List (Int × List UInt8 × Int) × Int × Int × Int)) :=
  (c77 rf d1).bind fun (y1 : (List (Int × List UInt8 × Int) × Int × Int × Int) × Bool) =>
  bif y1.2 then
    (c83 rf y1.1 (((d2.length : Nat) : Int))).bind fun (y2 : List (Int × List UInt8 × Int) × Int × Int × Int) =>
    (c84 rf y2).bind fun (y3 : (List (Int × List UInt8 × Int) × Int × Int × Int) × List UInt8 × Int) =>
    bif (Nat.ble (d2.length + 1) most) && true then
      (c75 rf y3.1 ([41] : List UInt8)).bind fun (y4 : (List (Int × List UInt8 × Int) × Int × Int × Int) × Bool) =>
      bif y4.2 then
        some (.inl (y4.1, d2 ++ [y3.2]))
      else
        (c82 rf y4.1 ([59] : List UInt8)).bind fun (y5 : List (Int × List UInt8 × Int) × Int × Int × Int) =>
        k106 rb y5 (d2 ++ [y3.2])
    else
      none
  else
    some (.inr y1.1)
theorem eb106 (rf : T.RF) (rb : T.RB) (d1 : List (Int × List UInt8 × Int) × Int × Int × Int) (d2 : XP) : T.stepB rf rb 106 (d1, d2) = b106 rf rb d1 d2 := by kernel_rfl
theorem ob106 {d1 : List (Int × List UInt8 × Int) × Int × Int × Int} {d2 : XP} {y : (((List (Int × List UInt8 × Int) × Int × Int × Int) × XP) ⊕ (List (Int × List UInt8 × Int) × Int × Int × Int))} (h : b106 T.rf T.rb d1 d2 = some y) : k106 T.rb d1 d2 = some y := T.rb_of (κ := 106) (d := (d1, d2)) ((eb106 T.rf T.rb d1 d2).trans h)

/- (*bailment/bailmentref06.reader).inputs -/
noncomputable def r81 (rf : T.RF) (rb : T.RB) (d1 : List (Int × List UInt8 × Int) × Int × Int × Int) : Option ((List (Int × List UInt8 × Int) × Int × Int × Int) × XP) :=
  (c82 rf d1 ([40] : List UInt8)).bind fun (y1 : List (Int × List UInt8 × Int) × Int × Int × Int) =>
  (c75 rf y1 ([41] : List UInt8)).bind fun (y2 : (List (Int × List UInt8 × Int) × Int × Int × Int) × Bool) =>
  bif y2.2 then
    some (y2.1, [])
  else
    (k106 rb y2.1 []).bind fun (z3 : ((List (Int × List UInt8 × Int) × Int × Int × Int) × XP) ⊕ (List (Int × List UInt8 × Int) × Int × Int × Int)) =>
    match z3 with
    | .inl u4 =>
      some u4
    | .inr w5 =>
      some (w5, [])
theorem er81 (rf : T.RF) (rb : T.RB) (d1 : List (Int × List UInt8 × Int) × Int × Int × Int) : T.stepF rf rb 81 d1 = r81 rf rb d1 := by kernel_rfl
theorem or81 {d1 : List (Int × List UInt8 × Int) × Int × Int × Int} {y : ((List (Int × List UInt8 × Int) × Int × Int × Int) × XP)} (h : r81 T.rf T.rb d1 = some y) : c81 T.rf d1 = some y := T.rf_of (f := 81) (d := d1) ((er81 T.rf T.rb d1).trans h)

/- (*bailment/bailmentref06.reader).begins -/
noncomputable def r86 (rf : T.RF) (rb : T.RB) (d1 : List (Int × List UInt8 × Int) × Int × Int × Int) : Option ((List (Int × List UInt8 × Int) × Int × Int × Int) × Bool) :=
  (c76 rf d1 ([97, 115, 115, 117, 109, 101] : List UInt8)).bind fun (y1 : (List (Int × List UInt8 × Int) × Int × Int × Int) × Bool) =>
  bif y1.2 then
    some (y1.1, true)
  else
    (c76 rf y1.1 ([103, 117, 97, 114, 97, 110, 116, 101, 101] : List UInt8)).bind fun (y2 : (List (Int × List UInt8 × Int) × Int × Int × Int) × Bool) =>
    bif y2.2 then
      some (y2.1, true)
    else
      (c76 rf y2.1 ([103, 104, 111, 115, 116] : List UInt8)).bind fun (y3 : (List (Int × List UInt8 × Int) × Int × Int × Int) × Bool) =>
      bif y3.2 then
        some (y3.1, true)
      else
        (c76 rf y3.1 ([109, 111, 100, 101] : List UInt8)).bind fun (y4 : (List (Int × List UInt8 × Int) × Int × Int × Int) × Bool) =>
        bif y4.2 then
          some (y4.1, true)
        else
          (c76 rf y4.1 ([105, 109, 112, 111, 114, 116] : List UInt8)).bind fun (y5 : (List (Int × List UInt8 × Int) × Int × Int × Int) × Bool) =>
          some y5
theorem er86 (rf : T.RF) (rb : T.RB) (d1 : List (Int × List UInt8 × Int) × Int × Int × Int) : T.stepF rf rb 86 d1 = r86 rf rb d1 := by kernel_rfl
theorem or86 {d1 : List (Int × List UInt8 × Int) × Int × Int × Int} {y : ((List (Int × List UInt8 × Int) × Int × Int × Int) × Bool)} (h : r86 T.rf T.rb d1 = some y) : c86 T.rf d1 = some y := T.rf_of (f := 86) (d := d1) ((er86 T.rf T.rb d1).trans h)

/- (*bailment/bailmentref06.reader).expr tail 4 -/
noncomputable def b108 (rf : T.RF) (rb : T.RB) (d1 : List (Int × List UInt8 × Int) × Int × Int × Int) (d2 : Int × Int) (d3 : XL) (d4 : Int) : Option ((List (Int × List UInt8 × Int) × Int × Int × Int) × (Int × Int) × XL) :=
  bif d2.1 != 0 then
    some ((d1.1, d1.2.1, d2), d2, [])
  else
    some ((d1.1, d4, d1.2.2), d2, d3)
theorem eb108 (rf : T.RF) (rb : T.RB) (d1 : List (Int × List UInt8 × Int) × Int × Int × Int) (d2 : Int × Int) (d3 : XL) (d4 : Int) : T.stepB rf rb 108 (d1, d2, d3, d4) = b108 rf rb d1 d2 d3 d4 := by kernel_rfl
theorem ob108 {d1 : List (Int × List UInt8 × Int) × Int × Int × Int} {d2 : Int × Int} {d3 : XL} {d4 : Int} {y : ((List (Int × List UInt8 × Int) × Int × Int × Int) × (Int × Int) × XL)} (h : b108 T.rf T.rb d1 d2 d3 d4 = some y) : k108 T.rb d1 d2 d3 d4 = some y := T.rb_of (κ := 108) (d := (d1, d2, d3, d4)) ((eb108 T.rf T.rb d1 d2 d3 d4).trans h)

/- (*bailment/bailmentref06.reader).expr -/
noncomputable def r88q (rf : T.RF) (rb : T.RB) (d1 : List (Int × List UInt8 × Int) × Int × Int × Int) : Option ((List (Int × List UInt8 × Int) × Int × Int × Int) × XL) :=
  (c77 rf d1).bind fun (y1 : (List (Int × List UInt8 × Int) × Int × Int × Int) × Bool) =>
  bif !y1.2 then
    some (y1.1, [])
  else
    agN 1 (
      (c15 rf y1.1.1 y1.1.2.1).bind fun (y2 : XL × Int × Int × Int) =>
      (k108 rb y1.1 y2.2.2 y2.1 y2.2.1).bind fun (z3 : (List (Int × List UInt8 × Int) × Int × Int × Int) × (Int × Int) × XL) =>
      some (z3.1, z3.2.2)
    )
noncomputable def r88 (rf : T.RF) (rb : T.RB) (d1 : List (Int × List UInt8 × Int) × Int × Int × Int) : Option ((List (Int × List UInt8 × Int) × Int × Int × Int) × XL) :=
  (c77 rf d1).bind fun (y1 : (List (Int × List UInt8 × Int) × Int × Int × Int) × Bool) =>
  bif !y1.2 then
    some (y1.1, [])
  else
    (c15 rf y1.1.1 y1.1.2.1).bind fun (y2 : XL × Int × Int × Int) =>
    (k108 rb y1.1 y2.2.2 y2.1 y2.2.1).bind fun (z3 : (List (Int × List UInt8 × Int) × Int × Int × Int) × (Int × Int) × XL) =>
    some (z3.1, z3.2.2)
theorem er88 (rf : T.RF) (rb : T.RB) (d1 : List (Int × List UInt8 × Int) × Int × Int × Int) : T.stepF rf rb 88 d1 = r88q rf rb d1 := by kernel_rfl
theorem sr88 (rf : T.RF) (rb : T.RB) (d1 : List (Int × List UInt8 × Int) × Int × Int × Int) : r88q rf rb d1 = r88 rf rb d1 := by
  unfold r88q r88; simp only [agN_eq, agree_self, agree_swap]
theorem or88 {d1 : List (Int × List UInt8 × Int) × Int × Int × Int} {y : ((List (Int × List UInt8 × Int) × Int × Int × Int) × XL)} (h : r88 T.rf T.rb d1 = some y) : c88 T.rf d1 = some y := T.rf_of (f := 88) (d := d1) (((er88 T.rf T.rb d1).trans (sr88 T.rf T.rb d1)).trans h)

/- (*bailment/bailmentref06.reader).args loop 0 -/
noncomputable def b110 (rf : T.RF) (rb : T.RB) (d1 : List (Int × List UInt8 × Int) × Int × Int × Int) (d2 : List XL) : Option (((List (Int × List UInt8 × Int) × Int × Int × Int) × List XL) ⊕ (List (Int × List UInt8 × Int) × Int × Int × Int)) :=
  (c77 rf d1).bind fun (y1 : (List (Int × List UInt8 × Int) × Int × Int × Int) × Bool) =>
  bif y1.2 then
    (c83 rf y1.1 (((d2.length : Nat) : Int))).bind fun (y2 : List (Int × List UInt8 × Int) × Int × Int × Int) =>
    (c88 rf y2).bind fun (y3 : (List (Int × List UInt8 × Int) × Int × Int × Int) × XL) =>
    bif (Nat.ble (d2.length + 1) most) && true then
      (c75 rf y3.1 ([41] : List UInt8)).bind fun (y4 : (List (Int × List UInt8 × Int) × Int × Int × Int) × Bool) =>
      bif y4.2 then
        some (.inl (y4.1, d2 ++ [y3.2]))
      else
        (c82 rf y4.1 ([44] : List UInt8)).bind fun (y5 : List (Int × List UInt8 × Int) × Int × Int × Int) =>
        k110 rb y5 (d2 ++ [y3.2])
    else
      none
  else
    some (.inr y1.1)
theorem eb110 (rf : T.RF) (rb : T.RB) (d1 : List (Int × List UInt8 × Int) × Int × Int × Int) (d2 : List XL) : T.stepB rf rb 110 (d1, d2) = b110 rf rb d1 d2 := by kernel_rfl
theorem ob110 {d1 : List (Int × List UInt8 × Int) × Int × Int × Int} {d2 : List XL} {y : (((List (Int × List UInt8 × Int) × Int × Int × Int) × List XL) ⊕ (List (Int × List UInt8 × Int) × Int × Int × Int))} (h : b110 T.rf T.rb d1 d2 = some y) : k110 T.rb d1 d2 = some y := T.rb_of (κ := 110) (d := (d1, d2)) ((eb110 T.rf T.rb d1 d2).trans h)

/- (*bailment/bailmentref06.reader).args -/
noncomputable def r89 (rf : T.RF) (rb : T.RB) (d1 : List (Int × List UInt8 × Int) × Int × Int × Int) : Option ((List (Int × List UInt8 × Int) × Int × Int × Int) × List XL) :=
  (c82 rf d1 ([40] : List UInt8)).bind fun (y1 : List (Int × List UInt8 × Int) × Int × Int × Int) =>
  (c75 rf y1 ([41] : List UInt8)).bind fun (y2 : (List (Int × List UInt8 × Int) × Int × Int × Int) × Bool) =>
  bif y2.2 then
    some (y2.1, [])
  else
    (k110 rb y2.1 []).bind fun (z3 : ((List (Int × List UInt8 × Int) × Int × Int × Int) × List XL) ⊕ (List (Int × List UInt8 × Int) × Int × Int × Int)) =>
    match z3 with
    | .inl u4 =>
      some u4
    | .inr w5 =>
      some (w5, [])
theorem er89 (rf : T.RF) (rb : T.RB) (d1 : List (Int × List UInt8 × Int) × Int × Int × Int) : T.stepF rf rb 89 d1 = r89 rf rb d1 := by kernel_rfl
theorem or89 {d1 : List (Int × List UInt8 × Int) × Int × Int × Int} {y : ((List (Int × List UInt8 × Int) × Int × Int × Int) × List XL)} (h : r89 T.rf T.rb d1 = some y) : c89 T.rf d1 = some y := T.rf_of (f := 89) (d := d1) ((er89 T.rf T.rb d1).trans h)

/- (*bailment/bailmentref06.reader).item -/
noncomputable def r87 (rf : T.RF) (rb : T.RB) (d1 : List (Int × List UInt8 × Int) × Int × Int × Int) : Option ((List (Int × List UInt8 × Int) × Int × Int × Int) × XI × Bool) :=
  (c75 rf d1 ([97, 115, 115, 117, 109, 101] : List UInt8)).bind fun (y1 : (List (Int × List UInt8 × Int) × Int × Int × Int) × Bool) =>
  bif y1.2 then
    (c88 rf y1.1).bind fun (y2 : (List (Int × List UInt8 × Int) × Int × Int × Int) × XL) =>
    (c82 rf y2.1 ([59] : List UInt8)).bind fun (y3 : List (Int × List UInt8 × Int) × Int × Int × Int) =>
    some (y3, (1, ([] : List UInt8), 0, y2.2, [], []), true)
  else
    (c75 rf y1.1 ([103, 117, 97, 114, 97, 110, 116, 101, 101] : List UInt8)).bind fun (y4 : (List (Int × List UInt8 × Int) × Int × Int × Int) × Bool) =>
    bif y4.2 then
      (c88 rf y4.1).bind fun (y5 : (List (Int × List UInt8 × Int) × Int × Int × Int) × XL) =>
      (c82 rf y5.1 ([59] : List UInt8)).bind fun (y6 : List (Int × List UInt8 × Int) × Int × Int × Int) =>
      some (y6, (2, ([] : List UInt8), 0, y5.2, [], []), true)
    else
      (c75 rf y4.1 ([103, 104, 111, 115, 116] : List UInt8)).bind fun (y7 : (List (Int × List UInt8 × Int) × Int × Int × Int) × Bool) =>
      bif y7.2 then
        (c84 rf y7.1).bind fun (y8 : (List (Int × List UInt8 × Int) × Int × Int × Int) × List UInt8 × Int) =>
        (c82 rf y8.1 ([61] : List UInt8)).bind fun (y9 : List (Int × List UInt8 × Int) × Int × Int × Int) =>
        (c88 rf y9).bind fun (y10 : (List (Int × List UInt8 × Int) × Int × Int × Int) × XL) =>
        (c82 rf y10.1 ([59] : List UInt8)).bind fun (y11 : List (Int × List UInt8 × Int) × Int × Int × Int) =>
        some (y11, (3, y8.2.1, y8.2.2, y10.2, [], []), true)
      else
        (c75 rf y7.1 ([109, 111, 100, 101] : List UInt8)).bind fun (y12 : (List (Int × List UInt8 × Int) × Int × Int × Int) × Bool) =>
        bif y12.2 then
          (c78 rf y12.1).bind fun (y13 : (List (Int × List UInt8 × Int) × Int × Int × Int) × List UInt8) =>
          (c82 rf y13.1 ([114, 101, 113, 117, 105, 114, 101] : List UInt8)).bind fun (y14 : List (Int × List UInt8 × Int) × Int × Int × Int) =>
          (c88 rf y14).bind fun (y15 : (List (Int × List UInt8 × Int) × Int × Int × Int) × XL) =>
          (c82 rf y15.1 ([101, 110, 115, 117, 114, 101] : List UInt8)).bind fun (y16 : List (Int × List UInt8 × Int) × Int × Int × Int) =>
          (c88 rf y16).bind fun (y17 : (List (Int × List UInt8 × Int) × Int × Int × Int) × XL) =>
          (c82 rf y17.1 ([59] : List UInt8)).bind fun (y18 : List (Int × List UInt8 × Int) × Int × Int × Int) =>
          some (y18, (4, y13.2, 0, y15.2, y17.2, []), true)
        else
          (c75 rf y12.1 ([105, 109, 112, 111, 114, 116] : List UInt8)).bind fun (y19 : (List (Int × List UInt8 × Int) × Int × Int × Int) × Bool) =>
          bif y19.2 then
            (c78 rf y19.1).bind fun (y20 : (List (Int × List UInt8 × Int) × Int × Int × Int) × List UInt8) =>
            (c89 rf y20.1).bind fun (y21 : (List (Int × List UInt8 × Int) × Int × Int × Int) × List XL) =>
            (c82 rf y21.1 ([59] : List UInt8)).bind fun (y22 : List (Int × List UInt8 × Int) × Int × Int × Int) =>
            some (y22, (5, y20.2, 0, [], [], y21.2), true)
          else
            some (y19.1, (0, ([] : List UInt8), 0, [], [], []), false)
theorem er87 (rf : T.RF) (rb : T.RB) (d1 : List (Int × List UInt8 × Int) × Int × Int × Int) : T.stepF rf rb 87 d1 = r87 rf rb d1 := by kernel_rfl
theorem or87 {d1 : List (Int × List UInt8 × Int) × Int × Int × Int} {y : ((List (Int × List UInt8 × Int) × Int × Int × Int) × XI × Bool)} (h : r87 T.rf T.rb d1 = some y) : c87 T.rf d1 = some y := T.rf_of (f := 87) (d := d1) ((er87 T.rf T.rb d1).trans h)

/- (*bailment/bailmentref06.reader).items loop 0 -/
noncomputable def b111 (rf : T.RF) (rb : T.RB) (d1 : List (Int × List UInt8 × Int) × Int × Int × Int) (d2 : List XI) : Option ((List (Int × List UInt8 × Int) × Int × Int × Int) × List XI) :=
  (c86 rf d1).bind fun (y1 : (List (Int × List UInt8 × Int) × Int × Int × Int) × Bool) =>
  bif y1.2 then
    (c83 rf y1.1 (((d2.length : Nat) : Int))).bind fun (y2 : List (Int × List UInt8 × Int) × Int × Int × Int) =>
    (c87 rf y2).bind fun (y3 : (List (Int × List UInt8 × Int) × Int × Int × Int) × XI × Bool) =>
    bif y3.2.2 then
      bif (Nat.ble (d2.length + 1) most) && true then
        k111 rb y3.1 (d2 ++ [y3.2.1])
      else
        none
    else
      k111 rb y3.1 d2
  else
    some (y1.1, d2)
theorem eb111 (rf : T.RF) (rb : T.RB) (d1 : List (Int × List UInt8 × Int) × Int × Int × Int) (d2 : List XI) : T.stepB rf rb 111 (d1, d2) = b111 rf rb d1 d2 := by kernel_rfl
theorem ob111 {d1 : List (Int × List UInt8 × Int) × Int × Int × Int} {d2 : List XI} {y : ((List (Int × List UInt8 × Int) × Int × Int × Int) × List XI)} (h : b111 T.rf T.rb d1 d2 = some y) : k111 T.rb d1 d2 = some y := T.rb_of (κ := 111) (d := (d1, d2)) ((eb111 T.rf T.rb d1 d2).trans h)

/- (*bailment/bailmentref06.reader).items -/
noncomputable def r85 (rf : T.RF) (rb : T.RB) (d1 : List (Int × List UInt8 × Int) × Int × Int × Int) : Option ((List (Int × List UInt8 × Int) × Int × Int × Int) × List XI) :=
  (k111 rb d1 []).bind fun (z1 : (List (Int × List UInt8 × Int) × Int × Int × Int) × List XI) =>
  (c82 rf z1.1 ([101, 110, 100] : List UInt8)).bind fun (y2 : List (Int × List UInt8 × Int) × Int × Int × Int) =>
  some (y2, z1.2)
theorem er85 (rf : T.RF) (rb : T.RB) (d1 : List (Int × List UInt8 × Int) × Int × Int × Int) : T.stepF rf rb 85 d1 = r85 rf rb d1 := by kernel_rfl
theorem or85 {d1 : List (Int × List UInt8 × Int) × Int × Int × Int} {y : ((List (Int × List UInt8 × Int) × Int × Int × Int) × List XI)} (h : r85 T.rf T.rb d1 = some y) : c85 T.rf d1 = some y := T.rf_of (f := 85) (d := d1) ((er85 T.rf T.rb d1).trans h)

/- (*bailment/bailmentref06.reader).vars loop 0 -/
noncomputable def b113 (rf : T.RF) (rb : T.RB) (d1 : List (Int × List UInt8 × Int) × Int × Int × Int) (d2 : XP) : Option (((List (Int × List UInt8 × Int) × Int × Int × Int) × XP) ⊕ (List (Int × List UInt8 × Int) × Int × Int × Int)) :=
  (c77 rf d1).bind fun (y1 : (List (Int × List UInt8 × Int) × Int × Int × Int) × Bool) =>
  bif y1.2 then
    (c83 rf y1.1 (((d2.length : Nat) : Int))).bind fun (y2 : List (Int × List UInt8 × Int) × Int × Int × Int) =>
    (c84 rf y2).bind fun (y3 : (List (Int × List UInt8 × Int) × Int × Int × Int) × List UInt8 × Int) =>
    bif (Nat.ble (d2.length + 1) most) && true then
      (c82 rf y3.1 ([59] : List UInt8)).bind fun (y4 : List (Int × List UInt8 × Int) × Int × Int × Int) =>
      (c79 rf y4).bind fun (y5 : (List (Int × List UInt8 × Int) × Int × Int × Int) × Bool) =>
      bif !y5.2 then
        some (.inl (y5.1, d2 ++ [y3.2]))
      else
        k113 rb y5.1 (d2 ++ [y3.2])
    else
      none
  else
    some (.inr y1.1)
theorem eb113 (rf : T.RF) (rb : T.RB) (d1 : List (Int × List UInt8 × Int) × Int × Int × Int) (d2 : XP) : T.stepB rf rb 113 (d1, d2) = b113 rf rb d1 d2 := by kernel_rfl
theorem ob113 {d1 : List (Int × List UInt8 × Int) × Int × Int × Int} {d2 : XP} {y : (((List (Int × List UInt8 × Int) × Int × Int × Int) × XP) ⊕ (List (Int × List UInt8 × Int) × Int × Int × Int))} (h : b113 T.rf T.rb d1 d2 = some y) : k113 T.rb d1 d2 = some y := T.rb_of (κ := 113) (d := (d1, d2)) ((eb113 T.rf T.rb d1 d2).trans h)

/- (*bailment/bailmentref06.reader).vars -/
noncomputable def r90 (rf : T.RF) (rb : T.RB) (d1 : List (Int × List UInt8 × Int) × Int × Int × Int) : Option ((List (Int × List UInt8 × Int) × Int × Int × Int) × XP) :=
  (k113 rb d1 []).bind fun (z1 : ((List (Int × List UInt8 × Int) × Int × Int × Int) × XP) ⊕ (List (Int × List UInt8 × Int) × Int × Int × Int)) =>
  match z1 with
  | .inl u2 =>
    some u2
  | .inr w3 =>
    some (w3, [])
theorem er90 (rf : T.RF) (rb : T.RB) (d1 : List (Int × List UInt8 × Int) × Int × Int × Int) : T.stepF rf rb 90 d1 = r90 rf rb d1 := by kernel_rfl
theorem or90 {d1 : List (Int × List UInt8 × Int) × Int × Int × Int} {y : ((List (Int × List UInt8 × Int) × Int × Int × Int) × XP)} (h : r90 T.rf T.rb d1 = some y) : c90 T.rf d1 = some y := T.rf_of (f := 90) (d := d1) ((er90 T.rf T.rb d1).trans h)

/- (*bailment/bailmentref06.reader).equations loop 0 -/
noncomputable def b115 (rf : T.RF) (rb : T.RB) (d1 : List (Int × List UInt8 × Int) × Int × Int × Int) (d2 : List (List UInt8 × XL)) : Option ((List (Int × List UInt8 × Int) × Int × Int × Int) × List (List UInt8 × XL)) :=
  (c79 rf d1).bind fun (y1 : (List (Int × List UInt8 × Int) × Int × Int × Int) × Bool) =>
  bif y1.2 then
    (c83 rf y1.1 (((d2.length : Nat) : Int))).bind fun (y2 : List (Int × List UInt8 × Int) × Int × Int × Int) =>
    (c78 rf y2).bind fun (y3 : (List (Int × List UInt8 × Int) × Int × Int × Int) × List UInt8) =>
    (c82 rf y3.1 ([61] : List UInt8)).bind fun (y4 : List (Int × List UInt8 × Int) × Int × Int × Int) =>
    (c88 rf y4).bind fun (y5 : (List (Int × List UInt8 × Int) × Int × Int × Int) × XL) =>
    (c82 rf y5.1 ([59] : List UInt8)).bind fun (y6 : List (Int × List UInt8 × Int) × Int × Int × Int) =>
    bif (Nat.ble (d2.length + 1) most) && true then
      k115 rb y6 (d2 ++ [(y3.2, y5.2)])
    else
      none
  else
    some (y1.1, d2)
theorem eb115 (rf : T.RF) (rb : T.RB) (d1 : List (Int × List UInt8 × Int) × Int × Int × Int) (d2 : List (List UInt8 × XL)) : T.stepB rf rb 115 (d1, d2) = b115 rf rb d1 d2 := by kernel_rfl
theorem ob115 {d1 : List (Int × List UInt8 × Int) × Int × Int × Int} {d2 : List (List UInt8 × XL)} {y : ((List (Int × List UInt8 × Int) × Int × Int × Int) × List (List UInt8 × XL))} (h : b115 T.rf T.rb d1 d2 = some y) : k115 T.rb d1 d2 = some y := T.rb_of (κ := 115) (d := (d1, d2)) ((eb115 T.rf T.rb d1 d2).trans h)

/- (*bailment/bailmentref06.reader).equations -/
noncomputable def r91 (rf : T.RF) (rb : T.RB) (d1 : List (Int × List UInt8 × Int) × Int × Int × Int) : Option ((List (Int × List UInt8 × Int) × Int × Int × Int) × List (List UInt8 × XL)) :=
  (k115 rb d1 []).bind fun (z1 : (List (Int × List UInt8 × Int) × Int × Int × Int) × List (List UInt8 × XL)) =>
  (c82 rf z1.1 ([116, 101, 108] : List UInt8)).bind fun (y2 : List (Int × List UInt8 × Int) × Int × Int × Int) =>
  some (y2, z1.2)
theorem er91 (rf : T.RF) (rb : T.RB) (d1 : List (Int × List UInt8 × Int) × Int × Int × Int) : T.stepF rf rb 91 d1 = r91 rf rb d1 := by kernel_rfl
theorem or91 {d1 : List (Int × List UInt8 × Int) × Int × Int × Int} {y : ((List (Int × List UInt8 × Int) × Int × Int × Int) × List (List UInt8 × XL))} (h : r91 T.rf T.rb d1 = some y) : c91 T.rf d1 = some y := T.rf_of (f := 91) (d := d1) ((er91 T.rf T.rb d1).trans h)

/- (*bailment/bailmentref06.reader).unit -/
noncomputable def r74 (rf : T.RF) (rb : T.RB) (d1 : List (Int × List UInt8 × Int) × Int × Int × Int) : Option ((List (Int × List UInt8 × Int) × Int × Int × Int) × XU) :=
  (c75 rf d1 ([99, 111, 110, 116, 114, 97, 99, 116] : List UInt8)).bind fun (y1 : (List (Int × List UInt8 × Int) × Int × Int × Int) × Bool) =>
  bif y1.2 then
    (c78 rf y1.1).bind fun (y2 : (List (Int × List UInt8 × Int) × Int × Int × Int) × List UInt8) =>
    (c81 rf y2.1).bind fun (y3 : (List (Int × List UInt8 × Int) × Int × Int × Int) × XP) =>
    (c85 rf y3.1).bind fun (y4 : (List (Int × List UInt8 × Int) × Int × Int × Int) × List XI) =>
    some (y4.1, true, y2.2, y3.2, ([] : List UInt8), 0, [], [], y4.2)
  else
    (c82 rf y1.1 ([110, 111, 100, 101] : List UInt8)).bind fun (y5 : List (Int × List UInt8 × Int) × Int × Int × Int) =>
    (c78 rf y5).bind fun (y6 : (List (Int × List UInt8 × Int) × Int × Int × Int) × List UInt8) =>
    (c81 rf y6.1).bind fun (y7 : (List (Int × List UInt8 × Int) × Int × Int × Int) × XP) =>
    (c82 rf y7.1 ([114, 101, 116, 117, 114, 110, 115] : List UInt8)).bind fun (y8 : List (Int × List UInt8 × Int) × Int × Int × Int) =>
    (c82 rf y8 ([40] : List UInt8)).bind fun (y9 : List (Int × List UInt8 × Int) × Int × Int × Int) =>
    (c84 rf y9).bind fun (y10 : (List (Int × List UInt8 × Int) × Int × Int × Int) × List UInt8 × Int) =>
    (c82 rf y10.1 ([41] : List UInt8)).bind fun (y11 : List (Int × List UInt8 × Int) × Int × Int × Int) =>
    (c75 rf y11 ([99, 111, 110, 116, 114, 97, 99, 116] : List UInt8)).bind fun (y12 : (List (Int × List UInt8 × Int) × Int × Int × Int) × Bool) =>
    bif y12.2 then
      (c85 rf y12.1).bind fun (y13 : (List (Int × List UInt8 × Int) × Int × Int × Int) × List XI) =>
      (c75 rf y13.1 ([118, 97, 114] : List UInt8)).bind fun (y14 : (List (Int × List UInt8 × Int) × Int × Int × Int) × Bool) =>
      bif y14.2 then
        (c90 rf y14.1).bind fun (y15 : (List (Int × List UInt8 × Int) × Int × Int × Int) × XP) =>
        (c82 rf y15.1 ([108, 101, 116] : List UInt8)).bind fun (y16 : List (Int × List UInt8 × Int) × Int × Int × Int) =>
        (c91 rf y16).bind fun (y17 : (List (Int × List UInt8 × Int) × Int × Int × Int) × List (List UInt8 × XL)) =>
        some (y17.1, false, y6.2, y7.2, y10.2.1, y10.2.2, y15.2, y17.2, y13.2)
      else
        (c82 rf y14.1 ([108, 101, 116] : List UInt8)).bind fun (y18 : List (Int × List UInt8 × Int) × Int × Int × Int) =>
        (c91 rf y18).bind fun (y19 : (List (Int × List UInt8 × Int) × Int × Int × Int) × List (List UInt8 × XL)) =>
        some (y19.1, false, y6.2, y7.2, y10.2.1, y10.2.2, [], y19.2, y13.2)
    else
      (c75 rf y12.1 ([118, 97, 114] : List UInt8)).bind fun (y20 : (List (Int × List UInt8 × Int) × Int × Int × Int) × Bool) =>
      bif y20.2 then
        (c90 rf y20.1).bind fun (y21 : (List (Int × List UInt8 × Int) × Int × Int × Int) × XP) =>
        (c82 rf y21.1 ([108, 101, 116] : List UInt8)).bind fun (y22 : List (Int × List UInt8 × Int) × Int × Int × Int) =>
        (c91 rf y22).bind fun (y23 : (List (Int × List UInt8 × Int) × Int × Int × Int) × List (List UInt8 × XL)) =>
        some (y23.1, false, y6.2, y7.2, y10.2.1, y10.2.2, y21.2, y23.2, [])
      else
        (c82 rf y20.1 ([108, 101, 116] : List UInt8)).bind fun (y24 : List (Int × List UInt8 × Int) × Int × Int × Int) =>
        (c91 rf y24).bind fun (y25 : (List (Int × List UInt8 × Int) × Int × Int × Int) × List (List UInt8 × XL)) =>
        some (y25.1, false, y6.2, y7.2, y10.2.1, y10.2.2, [], y25.2, [])
theorem er74 (rf : T.RF) (rb : T.RB) (d1 : List (Int × List UInt8 × Int) × Int × Int × Int) : T.stepF rf rb 74 d1 = r74 rf rb d1 := by kernel_rfl
theorem or74 {d1 : List (Int × List UInt8 × Int) × Int × Int × Int} {y : ((List (Int × List UInt8 × Int) × Int × Int × Int) × XU)} (h : r74 T.rf T.rb d1 = some y) : c74 T.rf d1 = some y := T.rf_of (f := 74) (d := d1) ((er74 T.rf T.rb d1).trans h)

/- bailmentref06.Parse loop 0 -/
noncomputable def b130q (rf : T.RF) (rb : T.RB) (d1 : List (Int × List UInt8 × Int) × Int × Int × Int) (d2 : List UInt8) (d3 : List UInt8) (d4 : List XU) : Option ((List (Int × List UInt8 × Int) × Int × Int × Int) × List UInt8 × List UInt8 × List XU) :=
  (c76 rf d1 ([110, 111, 100, 101] : List UInt8)).bind fun (y1 : (List (Int × List UInt8 × Int) × Int × Int × Int) × Bool) =>
  bif y1.2 then
    (c83 rf y1.1 (((d4.length : Nat) : Int))).bind fun (y2 : List (Int × List UInt8 × Int) × Int × Int × Int) =>
    agree (
      (c74 rf y2).bind fun (y3 : (List (Int × List UInt8 × Int) × Int × Int × Int) × XU) =>
      bif (Nat.ble (d4.length + 1) most) && true then
        k130 rb y3.1 d2 d3 (d4 ++ [y3.2])
      else
        none
    ) (
      (c74 rf y2).bind fun (y3 : (List (Int × List UInt8 × Int) × Int × Int × Int) × XU) =>
      agN 1 (
        bif (Nat.ble (d4.length + 1) most) && true then
          k130 rb y3.1 d2 d3 (d4 ++ [y3.2])
        else
          none
      )
    )
  else
    (c76 rf y1.1 ([99, 111, 110, 116, 114, 97, 99, 116] : List UInt8)).bind fun (y4 : (List (Int × List UInt8 × Int) × Int × Int × Int) × Bool) =>
    bif y4.2 then
      (c83 rf y4.1 (((d4.length : Nat) : Int))).bind fun (y5 : List (Int × List UInt8 × Int) × Int × Int × Int) =>
      agree (
        (c74 rf y5).bind fun (y6 : (List (Int × List UInt8 × Int) × Int × Int × Int) × XU) =>
        bif (Nat.ble (d4.length + 1) most) && true then
          k130 rb y6.1 d2 d3 (d4 ++ [y6.2])
        else
          none
      ) (
        (c74 rf y5).bind fun (y6 : (List (Int × List UInt8 × Int) × Int × Int × Int) × XU) =>
        agN 1 (
          bif (Nat.ble (d4.length + 1) most) && true then
            k130 rb y6.1 d2 d3 (d4 ++ [y6.2])
          else
            none
        )
      )
    else
      some (y4.1, d2, d3, d4)
noncomputable def b130 (rf : T.RF) (rb : T.RB) (d1 : List (Int × List UInt8 × Int) × Int × Int × Int) (d2 : List UInt8) (d3 : List UInt8) (d4 : List XU) : Option ((List (Int × List UInt8 × Int) × Int × Int × Int) × List UInt8 × List UInt8 × List XU) :=
  (c76 rf d1 ([110, 111, 100, 101] : List UInt8)).bind fun (y1 : (List (Int × List UInt8 × Int) × Int × Int × Int) × Bool) =>
  bif y1.2 then
    (c83 rf y1.1 (((d4.length : Nat) : Int))).bind fun (y2 : List (Int × List UInt8 × Int) × Int × Int × Int) =>
    (c74 rf y2).bind fun (y3 : (List (Int × List UInt8 × Int) × Int × Int × Int) × XU) =>
    bif (Nat.ble (d4.length + 1) most) && true then
      k130 rb y3.1 d2 d3 (d4 ++ [y3.2])
    else
      none
  else
    (c76 rf y1.1 ([99, 111, 110, 116, 114, 97, 99, 116] : List UInt8)).bind fun (y4 : (List (Int × List UInt8 × Int) × Int × Int × Int) × Bool) =>
    bif y4.2 then
      (c83 rf y4.1 (((d4.length : Nat) : Int))).bind fun (y5 : List (Int × List UInt8 × Int) × Int × Int × Int) =>
      (c74 rf y5).bind fun (y6 : (List (Int × List UInt8 × Int) × Int × Int × Int) × XU) =>
      bif (Nat.ble (d4.length + 1) most) && true then
        k130 rb y6.1 d2 d3 (d4 ++ [y6.2])
      else
        none
    else
      some (y4.1, d2, d3, d4)
theorem eb130 (rf : T.RF) (rb : T.RB) (d1 : List (Int × List UInt8 × Int) × Int × Int × Int) (d2 : List UInt8) (d3 : List UInt8) (d4 : List XU) : T.stepB rf rb 130 (d1, d2, d3, d4) = b130q rf rb d1 d2 d3 d4 := by kernel_rfl
theorem sb130 (rf : T.RF) (rb : T.RB) (d1 : List (Int × List UInt8 × Int) × Int × Int × Int) (d2 : List UInt8) (d3 : List UInt8) (d4 : List XU) : b130q rf rb d1 d2 d3 d4 = b130 rf rb d1 d2 d3 d4 := by
  unfold b130q b130; simp only [agN_eq, agree_self, agree_swap]
theorem ob130 {d1 : List (Int × List UInt8 × Int) × Int × Int × Int} {d2 : List UInt8} {d3 : List UInt8} {d4 : List XU} {y : ((List (Int × List UInt8 × Int) × Int × Int × Int) × List UInt8 × List UInt8 × List XU)} (h : b130 T.rf T.rb d1 d2 d3 d4 = some y) : k130 T.rb d1 d2 d3 d4 = some y := T.rb_of (κ := 130) (d := (d1, d2, d3, d4)) (((eb130 T.rf T.rb d1 d2 d3 d4).trans (sb130 T.rf T.rb d1 d2 d3 d4)).trans h)

/- bailmentref06.Parse tail 15 -/
noncomputable def b131q (rf : T.RF) (rb : T.RB) (d1 : List UInt8) (d2 : List UInt8) (d3 : Int × Int) (d4 : List (Int × List UInt8 × Int) × Int × Int × Int) (d5 : List UInt8) (d6 : List UInt8) (d7 : List XU) (d8 : List XU) : Option ((List UInt8 × List UInt8 × (Int × Int) × (List (Int × List UInt8 × Int) × Int × Int × Int) × List UInt8 × List UInt8 × List XU × List XU × List XU) ⊕ (List UInt8 × List UInt8 × (Int × Int) × (List (Int × List UInt8 × Int) × Int × Int × Int) × List UInt8 × List UInt8 × List XU × List XU)) :=
  (c77 rf d4).bind fun (y1 : (List (Int × List UInt8 × Int) × Int × Int × Int) × Bool) =>
  bif y1.2 then
    agN 1 (
      bif decide (y1.1.2.1 < (((y1.1.1.length : Nat) : Int))) then
        (c80 rf y1.1 5).bind fun (y2 : List (Int × List UInt8 × Int) × Int × Int × Int) =>
        (c77 rf y2).bind fun (y3 : (List (Int × List UInt8 × Int) × Int × Int × Int) × Bool) =>
        bif !y3.2 then
          some (.inl (([] : List UInt8), ([] : List UInt8), y3.1.2.2, y3.1, d5, d6, d7, d8, []))
        else
          some (.inr (d5, d6, (0, 0), y3.1, d5, d6, d7, d8))
      else
        (c77 rf y1.1).bind fun (y4 : (List (Int × List UInt8 × Int) × Int × Int × Int) × Bool) =>
        bif !y4.2 then
          some (.inl (([] : List UInt8), ([] : List UInt8), y4.1.2.2, y4.1, d5, d6, d7, d8, []))
        else
          some (.inr (d5, d6, (0, 0), y4.1, d5, d6, d7, d8))
    )
  else
    agN 1 (
      (c77 rf y1.1).bind fun (y5 : (List (Int × List UInt8 × Int) × Int × Int × Int) × Bool) =>
      bif !y5.2 then
        some (.inl (([] : List UInt8), ([] : List UInt8), y5.1.2.2, y5.1, d5, d6, d7, d8, []))
      else
        some (.inr (d5, d6, (0, 0), y5.1, d5, d6, d7, d8))
    )
noncomputable def b131 (rf : T.RF) (rb : T.RB) (d1 : List UInt8) (d2 : List UInt8) (d3 : Int × Int) (d4 : List (Int × List UInt8 × Int) × Int × Int × Int) (d5 : List UInt8) (d6 : List UInt8) (d7 : List XU) (d8 : List XU) : Option ((List UInt8 × List UInt8 × (Int × Int) × (List (Int × List UInt8 × Int) × Int × Int × Int) × List UInt8 × List UInt8 × List XU × List XU × List XU) ⊕ (List UInt8 × List UInt8 × (Int × Int) × (List (Int × List UInt8 × Int) × Int × Int × Int) × List UInt8 × List UInt8 × List XU × List XU)) :=
  (c77 rf d4).bind fun (y1 : (List (Int × List UInt8 × Int) × Int × Int × Int) × Bool) =>
  bif y1.2 then
    bif decide (y1.1.2.1 < (((y1.1.1.length : Nat) : Int))) then
      (c80 rf y1.1 5).bind fun (y2 : List (Int × List UInt8 × Int) × Int × Int × Int) =>
      (c77 rf y2).bind fun (y3 : (List (Int × List UInt8 × Int) × Int × Int × Int) × Bool) =>
      bif !y3.2 then
        some (.inl (([] : List UInt8), ([] : List UInt8), y3.1.2.2, y3.1, d5, d6, d7, d8, []))
      else
        some (.inr (d5, d6, (0, 0), y3.1, d5, d6, d7, d8))
    else
      (c77 rf y1.1).bind fun (y4 : (List (Int × List UInt8 × Int) × Int × Int × Int) × Bool) =>
      bif !y4.2 then
        some (.inl (([] : List UInt8), ([] : List UInt8), y4.1.2.2, y4.1, d5, d6, d7, d8, []))
      else
        some (.inr (d5, d6, (0, 0), y4.1, d5, d6, d7, d8))
  else
    (c77 rf y1.1).bind fun (y5 : (List (Int × List UInt8 × Int) × Int × Int × Int) × Bool) =>
    bif !y5.2 then
      some (.inl (([] : List UInt8), ([] : List UInt8), y5.1.2.2, y5.1, d5, d6, d7, d8, []))
    else
      some (.inr (d5, d6, (0, 0), y5.1, d5, d6, d7, d8))
theorem eb131 (rf : T.RF) (rb : T.RB) (d1 : List UInt8) (d2 : List UInt8) (d3 : Int × Int) (d4 : List (Int × List UInt8 × Int) × Int × Int × Int) (d5 : List UInt8) (d6 : List UInt8) (d7 : List XU) (d8 : List XU) : T.stepB rf rb 131 (d1, d2, d3, d4, d5, d6, d7, d8) = b131q rf rb d1 d2 d3 d4 d5 d6 d7 d8 := by kernel_rfl
theorem sb131 (rf : T.RF) (rb : T.RB) (d1 : List UInt8) (d2 : List UInt8) (d3 : Int × Int) (d4 : List (Int × List UInt8 × Int) × Int × Int × Int) (d5 : List UInt8) (d6 : List UInt8) (d7 : List XU) (d8 : List XU) : b131q rf rb d1 d2 d3 d4 d5 d6 d7 d8 = b131 rf rb d1 d2 d3 d4 d5 d6 d7 d8 := by
  unfold b131q b131; simp only [agN_eq, agree_self, agree_swap]
theorem ob131 {d1 : List UInt8} {d2 : List UInt8} {d3 : Int × Int} {d4 : List (Int × List UInt8 × Int) × Int × Int × Int} {d5 : List UInt8} {d6 : List UInt8} {d7 : List XU} {d8 : List XU} {y : ((List UInt8 × List UInt8 × (Int × Int) × (List (Int × List UInt8 × Int) × Int × Int × Int) × List UInt8 × List UInt8 × List XU × List XU × List XU) ⊕ (List UInt8 × List UInt8 × (Int × Int) × (List (Int × List UInt8 × Int) × Int × Int × Int) × List UInt8 × List UInt8 × List XU × List XU))} (h : b131 T.rf T.rb d1 d2 d3 d4 d5 d6 d7 d8 = some y) : k131 T.rb d1 d2 d3 d4 d5 d6 d7 d8 = some y := T.rb_of (κ := 131) (d := (d1, d2, d3, d4, d5, d6, d7, d8)) (((eb131 T.rf T.rb d1 d2 d3 d4 d5 d6 d7 d8).trans (sb131 T.rf T.rb d1 d2 d3 d4 d5 d6 d7 d8)).trans h)

/- bailmentref06.Parse -/
noncomputable def r69 (rf : T.RF) (rb : T.RB) (d1 : List UInt8) : Option ((List XU × List UInt8 × List UInt8) × Int × Int) :=
  (c4 rf d1).bind fun (y1 : List (Int × List UInt8 × Int) × Int × Int) =>
  bif y1.2.1 != 0 then
    some (([], ([] : List UInt8), ([] : List UInt8)), y1.2)
  else
    (k130 rb (y1.1, 0, 0, 0) ([] : List UInt8) ([] : List UInt8) []).bind fun (z2 : (List (Int × List UInt8 × Int) × Int × Int × Int) × List UInt8 × List UInt8 × List XU) =>
    (c82 rf z2.1 ([109, 97, 105, 110] : List UInt8)).bind fun (y3 : List (Int × List UInt8 × Int) × Int × Int × Int) =>
    (c78 rf y3).bind fun (y4 : (List (Int × List UInt8 × Int) × Int × Int × Int) × List UInt8) =>
    (c82 rf y4.1 ([59] : List UInt8)).bind fun (y5 : List (Int × List UInt8 × Int) × Int × Int × Int) =>
    (c75 rf y5 ([102, 97, 108, 108, 98, 97, 99, 107] : List UInt8)).bind fun (y6 : (List (Int × List UInt8 × Int) × Int × Int × Int) × Bool) =>
    bif y6.2 then
      (c78 rf y6.1).bind fun (y7 : (List (Int × List UInt8 × Int) × Int × Int × Int) × List UInt8) =>
      (c82 rf y7.1 ([59] : List UInt8)).bind fun (y8 : List (Int × List UInt8 × Int) × Int × Int × Int) =>
      (k131 rb ([] : List UInt8) ([] : List UInt8) (0, 0) y8 y4.2 y7.2 [] z2.2.2.2).bind fun (z9 : (List UInt8 × List UInt8 × (Int × Int) × (List (Int × List UInt8 × Int) × Int × Int × Int) × List UInt8 × List UInt8 × List XU × List XU × List XU) ⊕ (List UInt8 × List UInt8 × (Int × Int) × (List (Int × List UInt8 × Int) × Int × Int × Int) × List UInt8 × List UInt8 × List XU × List XU)) =>
      match z9 with
      | .inl u10 =>
        some ((u10.2.2.2.2.2.2.2.2, u10.1, u10.2.1), u10.2.2.1)
      | .inr w11 =>
        some ((w11.2.2.2.2.2.2.2, w11.1, w11.2.1), w11.2.2.1)
    else
      (k131 rb ([] : List UInt8) ([] : List UInt8) (0, 0) y6.1 y4.2 z2.2.2.1 [] z2.2.2.2).bind fun (z12 : (List UInt8 × List UInt8 × (Int × Int) × (List (Int × List UInt8 × Int) × Int × Int × Int) × List UInt8 × List UInt8 × List XU × List XU × List XU) ⊕ (List UInt8 × List UInt8 × (Int × Int) × (List (Int × List UInt8 × Int) × Int × Int × Int) × List UInt8 × List UInt8 × List XU × List XU)) =>
      match z12 with
      | .inl u13 =>
        some ((u13.2.2.2.2.2.2.2.2, u13.1, u13.2.1), u13.2.2.1)
      | .inr w14 =>
        some ((w14.2.2.2.2.2.2.2, w14.1, w14.2.1), w14.2.2.1)
theorem er69 (rf : T.RF) (rb : T.RB) (d1 : List UInt8) : T.stepF rf rb 69 d1 = r69 rf rb d1 := by kernel_rfl
theorem or69 {d1 : List UInt8} {y : ((List XU × List UInt8 × List UInt8) × Int × Int)} (h : r69 T.rf T.rb d1 = some y) : c69 T.rf d1 = some y := T.rf_of (f := 69) (d := d1) ((er69 T.rf T.rb d1).trans h)

/- bailmentref02.Texts loop 0 -/
noncomputable def b132 (rf : T.RF) (rb : T.RB) (d1 : List (List UInt8)) (d2 : List (List UInt8)) (d3 : Int) : Option (Bool ⊕ Unit) :=
  bif decide (d3 < (((d1.length : Nat) : Int))) then
    bif inb d3 d1.length then
      (nth d1 d3.toNat).bind fun (x1 : List UInt8) =>
      bif inb d3 d2.length then
        (nth d2 d3.toNat).bind fun (x2 : List UInt8) =>
        bif !(x1 == x2) then
          some (.inl false)
        else
          k132 rb d1 d2 (IntKind.i64.wrap (d3 + 1))
      else
        none
    else
      none
  else
    some (.inr ())
theorem eb132 (rf : T.RF) (rb : T.RB) (d1 : List (List UInt8)) (d2 : List (List UInt8)) (d3 : Int) : T.stepB rf rb 132 (d1, d2, d3) = b132 rf rb d1 d2 d3 := by kernel_rfl
theorem ob132 {d1 : List (List UInt8)} {d2 : List (List UInt8)} {d3 : Int} {y : (Bool ⊕ Unit)} (h : b132 T.rf T.rb d1 d2 d3 = some y) : k132 T.rb d1 d2 d3 = some y := T.rb_of (κ := 132) (d := (d1, d2, d3)) ((eb132 T.rf T.rb d1 d2 d3).trans h)

/- bailmentref02.Texts -/
noncomputable def r92 (rf : T.RF) (rb : T.RB) (d1 : List (List UInt8)) (d2 : List (List UInt8)) : Option Bool :=
  bif (((d1.length : Nat) : Int)) != (((d2.length : Nat) : Int)) then
    some false
  else
    (k132 rb d1 d2 0).bind fun (z1 : Bool ⊕ Unit) =>
    match z1 with
    | .inl u2 =>
      some u2
    | .inr w3 =>
      some true
theorem er92 (rf : T.RF) (rb : T.RB) (d1 : List (List UInt8)) (d2 : List (List UInt8)) : T.stepF rf rb 92 (d1, d2) = r92 rf rb d1 d2 := by kernel_rfl
theorem or92 {d1 : List (List UInt8)} {d2 : List (List UInt8)} {y : Bool} (h : r92 T.rf T.rb d1 d2 = some y) : c92 T.rf d1 d2 = some y := T.rf_of (f := 92) (d := (d1, d2)) ((er92 T.rf T.rb d1 d2).trans h)

/- bailmentref03.Ints loop 0 -/
noncomputable def b133 (rf : T.RF) (rb : T.RB) (d1 : List Int) (d2 : List Int) (d3 : Int) : Option (Bool ⊕ Unit) :=
  bif decide (d3 < (((d1.length : Nat) : Int))) then
    bif inb d3 d1.length then
      (nth d1 d3.toNat).bind fun (x1 : Int) =>
      bif inb d3 d2.length then
        (nth d2 d3.toNat).bind fun (x2 : Int) =>
        bif x1 != x2 then
          some (.inl false)
        else
          k133 rb d1 d2 (IntKind.i64.wrap (d3 + 1))
      else
        none
    else
      none
  else
    some (.inr ())
theorem eb133 (rf : T.RF) (rb : T.RB) (d1 : List Int) (d2 : List Int) (d3 : Int) : T.stepB rf rb 133 (d1, d2, d3) = b133 rf rb d1 d2 d3 := by kernel_rfl
theorem ob133 {d1 : List Int} {d2 : List Int} {d3 : Int} {y : (Bool ⊕ Unit)} (h : b133 T.rf T.rb d1 d2 d3 = some y) : k133 T.rb d1 d2 d3 = some y := T.rb_of (κ := 133) (d := (d1, d2, d3)) ((eb133 T.rf T.rb d1 d2 d3).trans h)

/- bailmentref03.Ints -/
noncomputable def r93 (rf : T.RF) (rb : T.RB) (d1 : List Int) (d2 : List Int) : Option Bool :=
  bif (((d1.length : Nat) : Int)) != (((d2.length : Nat) : Int)) then
    some false
  else
    (k133 rb d1 d2 0).bind fun (z1 : Bool ⊕ Unit) =>
    match z1 with
    | .inl u2 =>
      some u2
    | .inr w3 =>
      some true
theorem er93 (rf : T.RF) (rb : T.RB) (d1 : List Int) (d2 : List Int) : T.stepF rf rb 93 (d1, d2) = r93 rf rb d1 d2 := by kernel_rfl
theorem or93 {d1 : List Int} {d2 : List Int} {y : Bool} (h : r93 T.rf T.rb d1 d2 = some y) : c93 T.rf d1 d2 = some y := T.rf_of (f := 93) (d := (d1, d2)) ((er93 T.rf T.rb d1 d2).trans h)

/- cause.Check loop 0 -/
noncomputable def b134 (rf : T.RF) (rb : T.RB) (d1 : Int × Int) (d2 : List XU) (d3 : Int) (d4 : Int) : Option ((Int × Int) ⊕ (Int × Int)) :=
  bif decide (d4 < d3) then
    bif inb d4 d2.length then
      (nth d2 d4.toNat).bind fun (x1 : XU) =>
      (c45 rf x1.2.2.2.2.2.2.1).bind fun (y2 : List Int × Int) =>
      bif y2.2 != 0 then
        some (.inl (y2.2, d4))
      else
        k134 rb d1 d2 d3 (IntKind.i64.wrap (d4 + 1))
    else
      none
  else
    some (.inr d1)
theorem eb134 (rf : T.RF) (rb : T.RB) (d1 : Int × Int) (d2 : List XU) (d3 : Int) (d4 : Int) : T.stepB rf rb 134 (d1, d2, d3, d4) = b134 rf rb d1 d2 d3 d4 := by kernel_rfl
theorem ob134 {d1 : Int × Int} {d2 : List XU} {d3 : Int} {d4 : Int} {y : ((Int × Int) ⊕ (Int × Int))} (h : b134 T.rf T.rb d1 d2 d3 d4 = some y) : k134 T.rb d1 d2 d3 d4 = some y := T.rb_of (κ := 134) (d := (d1, d2, d3, d4)) ((eb134 T.rf T.rb d1 d2 d3 d4).trans h)

/- cause.Check -/
noncomputable def r94 (rf : T.RF) (rb : T.RB) (d1 : List XU × List UInt8 × List UInt8) : Option (Int × Int) :=
  (k134 rb (0, 0) d1.1 (((d1.1.length : Nat) : Int)) 0).bind fun (z1 : (Int × Int) ⊕ (Int × Int)) =>
  match z1 with
  | .inl u2 =>
    some u2
  | .inr w3 =>
    some (0, 0)
theorem er94 (rf : T.RF) (rb : T.RB) (d1 : List XU × List UInt8 × List UInt8) : T.stepF rf rb 94 d1 = r94 rf rb d1 := by kernel_rfl
theorem or94 {d1 : List XU × List UInt8 × List UInt8} {y : (Int × Int)} (h : r94 T.rf T.rb d1 = some y) : c94 T.rf d1 = some y := T.rf_of (f := 94) (d := d1) ((er94 T.rf T.rb d1).trans h)

/- bailmentlaw11.live -/
noncomputable def r2 (rf : T.RF) (rb : T.RB) : Option Bool :=
  (c3 rf ([97, 32, 43, 32, 112, 114, 101, 32, 98, 32, 43, 32, 102, 40, 99, 44, 32, 112, 114, 101, 118, 32, 100, 41, 32, 43, 32, 97] : List UInt8)).bind fun (y1 : XL × Int × Int) =>
  (c44 rf ([120] : List UInt8) ([121] : List UInt8)).bind fun (y2 : List UInt8 × XL) =>
  (c44 rf ([121] : List UInt8) ([48, 32, 45, 62, 32, 112, 114, 101, 32, 120] : List UInt8)).bind fun (y3 : List UInt8 × XL) =>
  (c45 rf [y2, y3]).bind fun (y4 : List Int × Int) =>
  (c44 rf ([120] : List UInt8) ([121] : List UInt8)).bind fun (y5 : List UInt8 × XL) =>
  (c44 rf ([121] : List UInt8) ([120] : List UInt8)).bind fun (y6 : List UInt8 × XL) =>
  (c45 rf [y5, y6]).bind fun (y7 : List Int × Int) =>
  (c69 rf ([110, 111, 100, 101, 32, 102, 40, 41, 32, 114, 101, 116, 117, 114, 110, 115, 40, 99, 58, 105, 110, 116, 41, 32, 108, 101, 116, 32, 99, 61, 99, 59, 32, 116, 101, 108, 32, 109, 97, 105, 110, 32, 102, 59] : List UInt8)).bind fun (y8 : (List XU × List UInt8 × List UInt8) × Int × Int) =>
  (c46 rf y1.1).bind fun (y9 : List (List UInt8)) =>
  (c92 rf y9 [([97] : List UInt8), ([99] : List UInt8)]).bind fun (y10 : Bool) =>
  bif y10 then
    (c93 rf y4.1 [1, 0]).bind fun (y11 : Bool) =>
    bif y11 then
      bif y4.2 == 0 then
        bif (((y7.1.length : Nat) : Int)) == 0 then
          bif y7.2 == 12 then
            (c94 rf y8.1).bind fun (y12 : Int × Int) =>
            bif (y12.1 == 12) && (y12.2 == 0) then
              (c94 rf ([], ([] : List UInt8), ([] : List UInt8))).bind fun (y13 : Int × Int) =>
              some ((y13.1 == 0) && (y13.2 == 0))
            else
              some false
          else
            some false
        else
          some false
      else
        some false
    else
      some false
  else
    some false
theorem er2 (rf : T.RF) (rb : T.RB) : T.stepF rf rb 2 () = r2 rf rb := by kernel_rfl
theorem or2 {y : Bool} (h : r2 T.rf T.rb = some y) : c2 T.rf = some y := T.rf_of (f := 2) (d := ()) ((er2 T.rf T.rb).trans h)

/- bailmentlaw11.CauseBehind loop 0 -/
noncomputable def b135 (rf : T.RF) (rb : T.RB) (d1 : List Int) (d2 : List Int) (d3 : List (List UInt8 × XL)) (d4 : Int) : Option ((List Int × List Int × Bool) ⊕ (List Int × List Int)) :=
  bif decide (d4 < (((d1.length : Nat) : Int))) then
    bif inb d4 d1.length then
      (nth d1 d4.toNat).bind fun (x1 : Int) =>
      bif decide (x1 < 0) then
        some (.inl (d1, d2, false))
      else
      bif inb d4 d1.length then
        (nth d1 d4.toNat).bind fun (x2 : Int) =>
        bif decide (x2 ≥ (((d3.length : Nat) : Int))) then
          some (.inl (d1, d2, false))
        else
        bif inb d4 d1.length then
          (nth d1 d4.toNat).bind fun (x3 : Int) =>
          bif inb x3 d2.length then
            (nth d2 x3.toNat).bind fun (x4 : Int) =>
            bif x4 != 0 then
              some (.inl (d1, d2, false))
            else
            bif inb d4 d1.length then
              (nth d1 d4.toNat).bind fun (x5 : Int) =>
              bif inb x5 d2.length then
                bif Nat.blt x5.toNat d2.length then
                  k135 rb d1 (setNth d2 x5.toNat (IntKind.i64.wrap (d4 + 1))) d3 (IntKind.i64.wrap (d4 + 1))
                else
                  none
              else
                none
            else
              none
          else
            none
        else
          none
      else
        none
    else
      none
  else
    some (.inr (d1, d2))
theorem eb135 (rf : T.RF) (rb : T.RB) (d1 : List Int) (d2 : List Int) (d3 : List (List UInt8 × XL)) (d4 : Int) : T.stepB rf rb 135 (d1, d2, d3, d4) = b135 rf rb d1 d2 d3 d4 := by kernel_rfl
theorem ob135 {d1 : List Int} {d2 : List Int} {d3 : List (List UInt8 × XL)} {d4 : Int} {y : ((List Int × List Int × Bool) ⊕ (List Int × List Int))} (h : b135 T.rf T.rb d1 d2 d3 d4 = some y) : k135 T.rb d1 d2 d3 d4 = some y := T.rb_of (κ := 135) (d := (d1, d2, d3, d4)) ((eb135 T.rf T.rb d1 d2 d3 d4).trans h)

/- bailmentlaw11.CauseBehind loop 2 -/
noncomputable def b136 (rf : T.RF) (rb : T.RB) (d1 : List Int) (d2 : List (List UInt8 × XL)) (d3 : Int) : Option ((List Int × Bool) ⊕ (List Int)) :=
  bif decide (d3 < (((d2.length : Nat) : Int))) then
    bif inb d3 d2.length then
      (nth d2 d3.toNat).bind fun (x1 : List UInt8 × XL) =>
      (c46 rf x1.2).bind fun (y2 : List (List UInt8)) =>
      (k137 rb d1 d2 d3 y2 0).bind fun (z3 : (List Int × Bool) ⊕ (List Int)) =>
      match z3 with
      | .inl u4 =>
        some (.inl u4)
      | .inr w5 =>
        k136 rb w5 d2 (IntKind.i64.wrap (d3 + 1))
    else
      none
  else
    some (.inr d1)
theorem eb136 (rf : T.RF) (rb : T.RB) (d1 : List Int) (d2 : List (List UInt8 × XL)) (d3 : Int) : T.stepB rf rb 136 (d1, d2, d3) = b136 rf rb d1 d2 d3 := by kernel_rfl
theorem ob136 {d1 : List Int} {d2 : List (List UInt8 × XL)} {d3 : Int} {y : ((List Int × Bool) ⊕ (List Int))} (h : b136 T.rf T.rb d1 d2 d3 = some y) : k136 T.rb d1 d2 d3 = some y := T.rb_of (κ := 136) (d := (d1, d2, d3)) ((eb136 T.rf T.rb d1 d2 d3).trans h)

/- bailmentlaw11.CauseBehind loop 4 -/
noncomputable def b137 (rf : T.RF) (rb : T.RB) (d1 : List Int) (d2 : List (List UInt8 × XL)) (d3 : Int) (d4 : List (List UInt8)) (d5 : Int) : Option ((List Int × Bool) ⊕ (List Int)) :=
  bif decide (d5 < (((d4.length : Nat) : Int))) then
    (k138 rb d1 d2 d3 d4 d5 0).bind fun (z1 : (List Int × Bool) ⊕ (List Int)) =>
    match z1 with
    | .inl u2 =>
      some (.inl u2)
    | .inr w3 =>
      k137 rb w3 d2 d3 d4 (IntKind.i64.wrap (d5 + 1))
  else
    some (.inr d1)
theorem eb137 (rf : T.RF) (rb : T.RB) (d1 : List Int) (d2 : List (List UInt8 × XL)) (d3 : Int) (d4 : List (List UInt8)) (d5 : Int) : T.stepB rf rb 137 (d1, d2, d3, d4, d5) = b137 rf rb d1 d2 d3 d4 d5 := by kernel_rfl
theorem ob137 {d1 : List Int} {d2 : List (List UInt8 × XL)} {d3 : Int} {d4 : List (List UInt8)} {d5 : Int} {y : ((List Int × Bool) ⊕ (List Int))} (h : b137 T.rf T.rb d1 d2 d3 d4 d5 = some y) : k137 T.rb d1 d2 d3 d4 d5 = some y := T.rb_of (κ := 137) (d := (d1, d2, d3, d4, d5)) ((eb137 T.rf T.rb d1 d2 d3 d4 d5).trans h)

/- bailmentlaw11.CauseBehind loop 6 -/
noncomputable def b138 (rf : T.RF) (rb : T.RB) (d1 : List Int) (d2 : List (List UInt8 × XL)) (d3 : Int) (d4 : List (List UInt8)) (d5 : Int) (d6 : Int) : Option ((List Int × Bool) ⊕ (List Int)) :=
  bif decide (d6 < (((d2.length : Nat) : Int))) then
    bif inb d6 d2.length then
      (nth d2 d6.toNat).bind fun (x1 : List UInt8 × XL) =>
      bif inb d5 d4.length then
        (nth d4 d5.toNat).bind fun (x2 : List UInt8) =>
        bif x1.1 == x2 then
          bif inb d6 d1.length then
            (nth d1 d6.toNat).bind fun (x3 : Int) =>
            bif inb d3 d1.length then
              (nth d1 d3.toNat).bind fun (x4 : Int) =>
              bif decide (x3 ≥ x4) then
                some (.inl (d1, false))
              else
                k138 rb d1 d2 d3 d4 d5 (IntKind.i64.wrap (d6 + 1))
            else
              none
          else
            none
        else
          k138 rb d1 d2 d3 d4 d5 (IntKind.i64.wrap (d6 + 1))
      else
        none
    else
      none
  else
    some (.inr d1)
theorem eb138 (rf : T.RF) (rb : T.RB) (d1 : List Int) (d2 : List (List UInt8 × XL)) (d3 : Int) (d4 : List (List UInt8)) (d5 : Int) (d6 : Int) : T.stepB rf rb 138 (d1, d2, d3, d4, d5, d6) = b138 rf rb d1 d2 d3 d4 d5 d6 := by kernel_rfl
theorem ob138 {d1 : List Int} {d2 : List (List UInt8 × XL)} {d3 : Int} {d4 : List (List UInt8)} {d5 : Int} {d6 : Int} {y : ((List Int × Bool) ⊕ (List Int))} (h : b138 T.rf T.rb d1 d2 d3 d4 d5 d6 = some y) : k138 T.rb d1 d2 d3 d4 d5 d6 = some y := T.rb_of (κ := 138) (d := (d1, d2, d3, d4, d5, d6)) ((eb138 T.rf T.rb d1 d2 d3 d4 d5 d6).trans h)

/- bailmentlaw11.CauseBehind -/
noncomputable def r0 (rf : T.RF) (rb : T.RB) (d1 : List (List UInt8 × XL)) : Option Bool :=
  (c1 rf d1).bind fun (y1 : Bool) =>
  bif !y1 then
    (c2 rf).bind fun (y2 : Bool) =>
    some y2
  else
    (c45 rf d1).bind fun (y3 : List Int × Int) =>
    bif y3.2 != 0 then
      bif (((y3.1.length : Nat) : Int)) == 0 then
        (c2 rf).bind fun (y4 : Bool) =>
        some y4
      else
        some false
    else
    bif (((y3.1.length : Nat) : Int)) != (((d1.length : Nat) : Int)) then
      some false
    else
    bif inb' (((d1.length : Nat) : Int)) most then
      bif inb' (((d1.length : Nat) : Int)) d1.length then
        (k135 rb y3.1 (List.replicate d1.length 0) d1 0).bind fun (z5 : (List Int × List Int × Bool) ⊕ (List Int × List Int)) =>
        match z5 with
        | .inl u6 =>
          some u6.2.2
        | .inr w7 =>
          (k136 rb w7.2 d1 0).bind fun (z8 : (List Int × Bool) ⊕ (List Int)) =>
          match z8 with
          | .inl u9 =>
            some u9.2
          | .inr w10 =>
            (c2 rf).bind fun (y11 : Bool) =>
            some y11
      else
        none
    else
      none
theorem er0 (rf : T.RF) (rb : T.RB) (d1 : List (List UInt8 × XL)) : T.stepF rf rb 0 d1 = r0 rf rb d1 := by kernel_rfl
theorem or0 {d1 : List (List UInt8 × XL)} {y : Bool} (h : r0 T.rf T.rb d1 = some y) : c0 T.rf d1 = some y := T.rf_of (f := 0) (d := d1) ((er0 T.rf T.rb d1).trans h)

/- bailmentlaw11.CauseTurned loop 0 -/
noncomputable def b140 (rf : T.RF) (rb : T.RB) (d1 : List (List UInt8 × XL)) (d2 : List (List UInt8 × XL)) (d3 : Int) : Option (List (List UInt8 × XL)) :=
  bif decide (d3 ≥ 0) then
    bif inb d3 d2.length then
      (nth d2 d3.toNat).bind fun (x1 : List UInt8 × XL) =>
      bif (Nat.ble (d1.length + 1) most) && true then
        k140 rb (d1 ++ [x1]) d2 (IntKind.i64.wrap (d3 - 1))
      else
        none
    else
      none
  else
    some d1
theorem eb140 (rf : T.RF) (rb : T.RB) (d1 : List (List UInt8 × XL)) (d2 : List (List UInt8 × XL)) (d3 : Int) : T.stepB rf rb 140 (d1, d2, d3) = b140 rf rb d1 d2 d3 := by kernel_rfl
theorem ob140 {d1 : List (List UInt8 × XL)} {d2 : List (List UInt8 × XL)} {d3 : Int} {y : (List (List UInt8 × XL))} (h : b140 T.rf T.rb d1 d2 d3 = some y) : k140 T.rb d1 d2 d3 = some y := T.rb_of (κ := 140) (d := (d1, d2, d3)) ((eb140 T.rf T.rb d1 d2 d3).trans h)

/- bailmentlaw11.CauseTurned -/
noncomputable def r95 (rf : T.RF) (rb : T.RB) (d1 : List (List UInt8 × XL)) (d2 : Int) : Option Bool :=
  (c1 rf d1).bind fun (y1 : Bool) =>
  bif !y1 then
    (c2 rf).bind fun (y2 : Bool) =>
    some y2
  else
  bif decide (d2 < 0) then
    (c2 rf).bind fun (y3 : Bool) =>
    some y3
  else
  bif decide (d2 > (((d1.length : Nat) : Int))) then
    (c2 rf).bind fun (y4 : Bool) =>
    some y4
  else
    (c45 rf d1).bind fun (y5 : List Int × Int) =>
    (k140 rb [] d1 (IntKind.i64.wrap ((((d1.length : Nat) : Int)) - 1))).bind fun (z6 : List (List UInt8 × XL)) =>
    (c45 rf z6).bind fun (y7 : List Int × Int) =>
    bif inb' d2 d1.length then
      (c45 rf (sub d1 (some (0, (d2.toNat - 0))))).bind fun (y8 : List Int × Int) =>
      bif y5.2 == y7.2 then
        bif y5.2 != 0 then
          (c2 rf).bind fun (y9 : Bool) =>
          some y9
        else
        bif y8.2 == 0 then
          (c2 rf).bind fun (y10 : Bool) =>
          some y10
        else
          some false
      else
        some false
    else
      none
theorem er95 (rf : T.RF) (rb : T.RB) (d1 : List (List UInt8 × XL)) (d2 : Int) : T.stepF rf rb 95 (d1, d2) = r95 rf rb d1 d2 := by kernel_rfl
theorem or95 {d1 : List (List UInt8 × XL)} {d2 : Int} {y : Bool} (h : r95 T.rf T.rb d1 d2 = some y) : c95 T.rf d1 d2 = some y := T.rf_of (f := 95) (d := (d1, d2)) ((er95 T.rf T.rb d1 d2).trans h)

/- bailmentref03.bare -/
noncomputable def r98 (rf : T.RF) (rb : T.RB) (d1 : XN) : Option Bool :=
  (c30 rf d1).bind fun (y1 : List Int) =>
  bif d1.1 == 27 then
    bif d1.2.2.1 == (-1) then
      some (d1.2.2.2.1 == (-1))
    else
      some false
  else
  bif d1.1 == 28 then
    some (d1.2.2.2.1 == (-1))
  else
  bif decide ((((y1.length : Nat) : Int)) > 0) then
    bif decide ((((y1.length : Nat) : Int)) > 1) then
      bif decide ((((y1.length : Nat) : Int)) > 2) then
        some true
      else
        some (d1.2.2.2.1 == (-1))
    else
    bif d1.2.2.1 == (-1) then
      bif decide ((((y1.length : Nat) : Int)) > 2) then
        some true
      else
        some (d1.2.2.2.1 == (-1))
    else
      some false
  else
  bif d1.2.1 == (-1) then
    bif decide ((((y1.length : Nat) : Int)) > 1) then
      bif decide ((((y1.length : Nat) : Int)) > 2) then
        some true
      else
        some (d1.2.2.2.1 == (-1))
    else
    bif d1.2.2.1 == (-1) then
      bif decide ((((y1.length : Nat) : Int)) > 2) then
        some true
      else
        some (d1.2.2.2.1 == (-1))
    else
      some false
  else
    some false
theorem er98 (rf : T.RF) (rb : T.RB) (d1 : XN) : T.stepF rf rb 98 d1 = r98 rf rb d1 := by kernel_rfl
theorem or98 {d1 : XN} {y : Bool} (h : r98 T.rf T.rb d1 = some y) : c98 T.rf d1 = some y := T.rf_of (f := 98) (d := d1) ((er98 T.rf T.rb d1).trans h)

/- bailmentref03.plain -/
noncomputable def r99 (rf : T.RF) (rb : T.RB) (d1 : XN) : Option Bool :=
  bif d1.1 == 3 then
    bif !((!(d1.2.2.2.2.2 == ([] : List UInt8))) == true) then
      some false
    else
    bif d1.1 == 1 then
      bif decide (d1.2.2.2.2.1 ≥ 0) then
        some (decide (d1.2.2.2.2.1 ≤ 2147483647))
      else
        some false
    else
    bif d1.1 == 2 then
      bif d1.2.2.2.2.1 == 0 then
        some true
      else
        some (d1.2.2.2.2.1 == 1)
    else
    bif d1.1 == 25 then
      bif decide (d1.2.2.2.2.1 ≥ 0) then
        some (decide (d1.2.2.2.2.1 ≤ 1000))
      else
        some false
    else
      some (d1.2.2.2.2.1 == 0)
  else
  bif !((!(d1.2.2.2.2.2 == ([] : List UInt8))) == (d1.1 == 27)) then
    some false
  else
  bif d1.1 == 1 then
    bif decide (d1.2.2.2.2.1 ≥ 0) then
      some (decide (d1.2.2.2.2.1 ≤ 2147483647))
    else
      some false
  else
  bif d1.1 == 2 then
    bif d1.2.2.2.2.1 == 0 then
      some true
    else
      some (d1.2.2.2.2.1 == 1)
  else
  bif d1.1 == 25 then
    bif decide (d1.2.2.2.2.1 ≥ 0) then
      some (decide (d1.2.2.2.2.1 ≤ 1000))
    else
      some false
  else
    some (d1.2.2.2.2.1 == 0)
theorem er99 (rf : T.RF) (rb : T.RB) (d1 : XN) : T.stepF rf rb 99 d1 = r99 rf rb d1 := by kernel_rfl
theorem or99 {d1 : XN} {y : Bool} (h : r99 T.rf T.rb d1 = some y) : c99 T.rf d1 = some y := T.rf_of (f := 99) (d := d1) ((er99 T.rf T.rb d1).trans h)

/- bailmentref03.args loop 0 -/
noncomputable def b143 (rf : T.RF) (rb : T.RB) (d1 : XN) (d2 : List Int) (d3 : XL) (d4 : Int) : Option ((XN × List Int × Bool) ⊕ (XN × List Int)) :=
  bif decide (d4 < (((d2.length : Nat) : Int))) then
    bif inb d4 d2.length then
      (nth d2 d4.toNat).bind fun (x1 : Int) =>
      bif inb x1 d3.length then
        (nth d3 x1.toNat).bind fun (x2 : XN) =>
        bif d1.1 == 27 then
          bif !((x2.1 == 28) == true) then
            some (.inl (d1, d2, false))
          else
            k143 rb d1 d2 d3 (IntKind.i64.wrap (d4 + 1))
        else
        bif d1.1 == 28 then
          bif (((d2.length : Nat) : Int)) == 2 then
            bif !((x2.1 == 28) == (d4 == 0)) then
              some (.inl (d1, d2, false))
            else
              k143 rb d1 d2 d3 (IntKind.i64.wrap (d4 + 1))
          else
          bif !((x2.1 == 28) == false) then
            some (.inl (d1, d2, false))
          else
            k143 rb d1 d2 d3 (IntKind.i64.wrap (d4 + 1))
        else
        bif !((x2.1 == 28) == false) then
          some (.inl (d1, d2, false))
        else
          k143 rb d1 d2 d3 (IntKind.i64.wrap (d4 + 1))
      else
        none
    else
      none
  else
    some (.inr (d1, d2))
theorem eb143 (rf : T.RF) (rb : T.RB) (d1 : XN) (d2 : List Int) (d3 : XL) (d4 : Int) : T.stepB rf rb 143 (d1, d2, d3, d4) = b143 rf rb d1 d2 d3 d4 := by kernel_rfl
theorem ob143 {d1 : XN} {d2 : List Int} {d3 : XL} {d4 : Int} {y : ((XN × List Int × Bool) ⊕ (XN × List Int))} (h : b143 T.rf T.rb d1 d2 d3 d4 = some y) : k143 T.rb d1 d2 d3 d4 = some y := T.rb_of (κ := 143) (d := (d1, d2, d3, d4)) ((eb143 T.rf T.rb d1 d2 d3 d4).trans h)

/- bailmentref03.args -/
noncomputable def r100 (rf : T.RF) (rb : T.RB) (d1 : XL) (d2 : Int) : Option Bool :=
  bif inb d2 d1.length then
    (nth d1 d2.toNat).bind fun (x1 : XN) =>
    (c30 rf x1).bind fun (y2 : List Int) =>
    (k143 rb x1 y2 d1 0).bind fun (z3 : (XN × List Int × Bool) ⊕ (XN × List Int)) =>
    match z3 with
    | .inl u4 =>
      some u4.2.2
    | .inr w5 =>
      some true
  else
    none
theorem er100 (rf : T.RF) (rb : T.RB) (d1 : XL) (d2 : Int) : T.stepF rf rb 100 (d1, d2) = r100 rf rb d1 d2 := by kernel_rfl
theorem or100 {d1 : XL} {d2 : Int} {y : Bool} (h : r100 T.rf T.rb d1 d2 = some y) : c100 T.rf d1 d2 = some y := T.rf_of (f := 100) (d := (d1, d2)) ((er100 T.rf T.rb d1 d2).trans h)

/- bailmentref03.May loop 0 -/
noncomputable def b141 (rf : T.RF) (rb : T.RB) (d1 : List Int) (d2 : XL) (d3 : Int) : Option ((List Int × Bool) ⊕ (List Int)) :=
  bif decide (d3 < (((d2.length : Nat) : Int))) then
    bif inb d3 d2.length then
      (nth d2 d3.toNat).bind fun (x1 : XN) =>
      bif decide (x1.1 < 1) then
        some (.inl (d1, false))
      else
      bif inb d3 d2.length then
        (nth d2 d3.toNat).bind fun (x2 : XN) =>
        bif decide (x2.1 > 28) then
          some (.inl (d1, false))
        else
        bif inb d3 d2.length then
          (nth d2 d3.toNat).bind fun (x3 : XN) =>
          (c98 rf x3).bind fun (y4 : Bool) =>
          bif !y4 then
            some (.inl (d1, false))
          else
          bif inb d3 d2.length then
            (nth d2 d3.toNat).bind fun (x5 : XN) =>
            (c99 rf x5).bind fun (y6 : Bool) =>
            bif !y6 then
              some (.inl (d1, false))
            else
            bif inb d3 d2.length then
              (nth d2 d3.toNat).bind fun (x7 : XN) =>
              (c30 rf x7).bind fun (y8 : List Int) =>
              (k142 rb d1 y8 d3 0).bind fun (z9 : (List Int × List Int × Bool) ⊕ (List Int × List Int)) =>
              match z9 with
              | .inl u10 =>
                some (.inl (u10.1, u10.2.2))
              | .inr w11 =>
                (c100 rf d2 d3).bind fun (y12 : Bool) =>
                bif !y12 then
                  some (.inl (w11.1, false))
                else
                  k141 rb w11.1 d2 (IntKind.i64.wrap (d3 + 1))
            else
              none
          else
            none
        else
          none
      else
        none
    else
      none
  else
    some (.inr d1)
theorem eb141 (rf : T.RF) (rb : T.RB) (d1 : List Int) (d2 : XL) (d3 : Int) : T.stepB rf rb 141 (d1, d2, d3) = b141 rf rb d1 d2 d3 := by kernel_rfl
theorem ob141 {d1 : List Int} {d2 : XL} {d3 : Int} {y : ((List Int × Bool) ⊕ (List Int))} (h : b141 T.rf T.rb d1 d2 d3 = some y) : k141 T.rb d1 d2 d3 = some y := T.rb_of (κ := 141) (d := (d1, d2, d3)) ((eb141 T.rf T.rb d1 d2 d3).trans h)

/- bailmentref03.May loop 2 -/
noncomputable def b142 (rf : T.RF) (rb : T.RB) (d1 : List Int) (d2 : List Int) (d3 : Int) (d4 : Int) : Option ((List Int × List Int × Bool) ⊕ (List Int × List Int)) :=
  bif decide (d4 < (((d2.length : Nat) : Int))) then
    bif inb d4 d2.length then
      (nth d2 d4.toNat).bind fun (x1 : Int) =>
      bif decide (x1 < 0) then
        some (.inl (d1, d2, false))
      else
      bif inb d4 d2.length then
        (nth d2 d4.toNat).bind fun (x2 : Int) =>
        bif decide (x2 ≥ d3) then
          some (.inl (d1, d2, false))
        else
        bif inb d4 d2.length then
          (nth d2 d4.toNat).bind fun (x3 : Int) =>
          bif inb x3 d1.length then
            (nth d1 x3.toNat).bind fun (x4 : Int) =>
            bif inb x3 d1.length then
              bif Nat.blt x3.toNat d1.length then
                k142 rb (setNth d1 x3.toNat (IntKind.i64.wrap (x4 + 1))) d2 d3 (IntKind.i64.wrap (d4 + 1))
              else
                none
            else
              none
          else
            none
        else
          none
      else
        none
    else
      none
  else
    some (.inr (d1, d2))
theorem eb142 (rf : T.RF) (rb : T.RB) (d1 : List Int) (d2 : List Int) (d3 : Int) (d4 : Int) : T.stepB rf rb 142 (d1, d2, d3, d4) = b142 rf rb d1 d2 d3 d4 := by kernel_rfl
theorem ob142 {d1 : List Int} {d2 : List Int} {d3 : Int} {d4 : Int} {y : ((List Int × List Int × Bool) ⊕ (List Int × List Int))} (h : b142 T.rf T.rb d1 d2 d3 d4 = some y) : k142 T.rb d1 d2 d3 d4 = some y := T.rb_of (κ := 142) (d := (d1, d2, d3, d4)) ((eb142 T.rf T.rb d1 d2 d3 d4).trans h)

/- bailmentref03.May loop 4 -/
noncomputable def b144 (rf : T.RF) (rb : T.RB) (d1 : List Int) (d2 : XL) (d3 : Int) : Option ((List Int × Bool) ⊕ (List Int)) :=
  bif decide (d3 < (IntKind.i64.wrap ((((d2.length : Nat) : Int)) - 1))) then
    bif inb d3 d1.length then
      (nth d1 d3.toNat).bind fun (x1 : Int) =>
      bif x1 != 1 then
        some (.inl (d1, false))
      else
        k144 rb d1 d2 (IntKind.i64.wrap (d3 + 1))
    else
      none
  else
    some (.inr d1)
theorem eb144 (rf : T.RF) (rb : T.RB) (d1 : List Int) (d2 : XL) (d3 : Int) : T.stepB rf rb 144 (d1, d2, d3) = b144 rf rb d1 d2 d3 := by kernel_rfl
theorem ob144 {d1 : List Int} {d2 : XL} {d3 : Int} {y : ((List Int × Bool) ⊕ (List Int))} (h : b144 T.rf T.rb d1 d2 d3 = some y) : k144 T.rb d1 d2 d3 = some y := T.rb_of (κ := 144) (d := (d1, d2, d3)) ((eb144 T.rf T.rb d1 d2 d3).trans h)

/- bailmentref03.May -/
noncomputable def r97 (rf : T.RF) (rb : T.RB) (d1 : XL) : Option Bool :=
  bif decide ((((d1.length : Nat) : Int)) < 1) then
    some false
  else
  bif decide ((((d1.length : Nat) : Int)) > 5000) then
    some false
  else
  bif inb' (((d1.length : Nat) : Int)) most then
    bif inb' (((d1.length : Nat) : Int)) d1.length then
      (k141 rb (List.replicate d1.length 0) d1 0).bind fun (z1 : (List Int × Bool) ⊕ (List Int)) =>
      match z1 with
      | .inl u2 =>
        some u2.2
      | .inr w3 =>
        (k144 rb w3 d1 0).bind fun (z4 : (List Int × Bool) ⊕ (List Int)) =>
        match z4 with
        | .inl u5 =>
          some u5.2
        | .inr w6 =>
          bif inb (IntKind.i64.wrap ((((d1.length : Nat) : Int)) - 1)) d1.length then
            (nth d1 (IntKind.i64.wrap ((((d1.length : Nat) : Int)) - 1)).toNat).bind fun (x7 : XN) =>
            bif x7.1 != 28 then
              (c43 rf d1).bind fun (y8 : Int) =>
              some (decide (y8 ≤ 40))
            else
              some false
          else
            none
    else
      none
  else
    none
theorem er97 (rf : T.RF) (rb : T.RB) (d1 : XL) : T.stepF rf rb 97 d1 = r97 rf rb d1 := by kernel_rfl
theorem or97 {d1 : XL} {y : Bool} (h : r97 T.rf T.rb d1 = some y) : c97 T.rf d1 = some y := T.rf_of (f := 97) (d := d1) ((er97 T.rf T.rb d1).trans h)

/- bailmentlaw11.CauseLater -/
noncomputable def r96 (rf : T.RF) (rb : T.RB) (d1 : XL) (d2 : XL) : Option Bool :=
  bif decide ((((d1.length : Nat) : Int)) > 100) then
    (c2 rf).bind fun (y1 : Bool) =>
    some y1
  else
  bif decide ((((d2.length : Nat) : Int)) > 100) then
    (c2 rf).bind fun (y2 : Bool) =>
    some y2
  else
    (c97 rf d1).bind fun (y3 : Bool) =>
    bif !y3 then
      (c2 rf).bind fun (y4 : Bool) =>
      some y4
    else
      (c97 rf d2).bind fun (y5 : Bool) =>
      bif !y5 then
        (c2 rf).bind fun (y6 : Bool) =>
        some y6
      else
        (c28 rf 21 0 ([] : List UInt8) [d1]).bind fun (y7 : XL) =>
        (c28 rf 15 0 ([] : List UInt8) [d1, d2]).bind fun (y8 : XL) =>
        (c97 rf y7).bind fun (y9 : Bool) =>
        bif !y9 then
          (c2 rf).bind fun (y10 : Bool) =>
          some y10
        else
          (c97 rf y8).bind fun (y11 : Bool) =>
          bif !y11 then
            (c2 rf).bind fun (y12 : Bool) =>
            some y12
          else
            (c46 rf d1).bind fun (y13 : List (List UInt8)) =>
            (c46 rf y8).bind fun (y14 : List (List UInt8)) =>
            (c46 rf y7).bind fun (y15 : List (List UInt8)) =>
            bif (((y15.length : Nat) : Int)) == 0 then
              bif decide ((((y14.length : Nat) : Int)) ≥ (((y13.length : Nat) : Int))) then
                bif inb' (((y13.length : Nat) : Int)) y14.length then
                  (c92 rf (sub y14 (some (0, (y13.length - 0)))) y13).bind fun (y16 : Bool) =>
                  bif y16 then
                    (c46 rf d2).bind fun (y17 : List (List UInt8)) =>
                    bif decide ((((y14.length : Nat) : Int)) ≤ (IntKind.i64.wrap ((((y13.length : Nat) : Int)) + (((y17.length : Nat) : Int))))) then
                      (c2 rf).bind fun (y18 : Bool) =>
                      some y18
                    else
                      some false
                  else
                    some false
                else
                  none
              else
                some false
            else
              some false
theorem er96 (rf : T.RF) (rb : T.RB) (d1 : XL) (d2 : XL) : T.stepF rf rb 96 (d1, d2) = r96 rf rb d1 d2 := by kernel_rfl
theorem or96 {d1 : XL} {d2 : XL} {y : Bool} (h : r96 T.rf T.rb d1 d2 = some y) : c96 T.rf d1 d2 = some y := T.rf_of (f := 96) (d := (d1, d2)) ((er96 T.rf T.rb d1 d2).trans h)

/- bailmentlaw11.CauseFree loop 0 -/
noncomputable def b145 (rf : T.RF) (rb : T.RB) (d1 : List (List UInt8 × XL)) (d2 : Int) : Option (Bool ⊕ Unit) :=
  bif decide (d2 < (((d1.length : Nat) : Int))) then
    bif inb d2 d1.length then
      (nth d1 d2.toNat).bind fun (x1 : List UInt8 × XL) =>
      (c46 rf x1.2).bind fun (y2 : List (List UInt8)) =>
      (k146 rb d1 y2 0).bind fun (z3 : Bool ⊕ Unit) =>
      match z3 with
      | .inl u4 =>
        some (.inl u4)
      | .inr w5 =>
        k145 rb d1 (IntKind.i64.wrap (d2 + 1))
    else
      none
  else
    some (.inr ())
theorem eb145 (rf : T.RF) (rb : T.RB) (d1 : List (List UInt8 × XL)) (d2 : Int) : T.stepB rf rb 145 (d1, d2) = b145 rf rb d1 d2 := by kernel_rfl
theorem ob145 {d1 : List (List UInt8 × XL)} {d2 : Int} {y : (Bool ⊕ Unit)} (h : b145 T.rf T.rb d1 d2 = some y) : k145 T.rb d1 d2 = some y := T.rb_of (κ := 145) (d := (d1, d2)) ((eb145 T.rf T.rb d1 d2).trans h)

/- bailmentlaw11.CauseFree loop 2 -/
noncomputable def b146 (rf : T.RF) (rb : T.RB) (d1 : List (List UInt8 × XL)) (d2 : List (List UInt8)) (d3 : Int) : Option (Bool ⊕ Unit) :=
  bif decide (d3 < (((d2.length : Nat) : Int))) then
    (k147 rb d1 d2 d3 0).bind fun (z1 : Bool ⊕ Unit) =>
    match z1 with
    | .inl u2 =>
      some (.inl u2)
    | .inr w3 =>
      k146 rb d1 d2 (IntKind.i64.wrap (d3 + 1))
  else
    some (.inr ())
theorem eb146 (rf : T.RF) (rb : T.RB) (d1 : List (List UInt8 × XL)) (d2 : List (List UInt8)) (d3 : Int) : T.stepB rf rb 146 (d1, d2, d3) = b146 rf rb d1 d2 d3 := by kernel_rfl
theorem ob146 {d1 : List (List UInt8 × XL)} {d2 : List (List UInt8)} {d3 : Int} {y : (Bool ⊕ Unit)} (h : b146 T.rf T.rb d1 d2 d3 = some y) : k146 T.rb d1 d2 d3 = some y := T.rb_of (κ := 146) (d := (d1, d2, d3)) ((eb146 T.rf T.rb d1 d2 d3).trans h)

/- bailmentlaw11.CauseFree loop 4 -/
noncomputable def b147 (rf : T.RF) (rb : T.RB) (d1 : List (List UInt8 × XL)) (d2 : List (List UInt8)) (d3 : Int) (d4 : Int) : Option (Bool ⊕ Unit) :=
  bif decide (d4 < (((d1.length : Nat) : Int))) then
    bif inb d4 d1.length then
      (nth d1 d4.toNat).bind fun (x1 : List UInt8 × XL) =>
      bif inb d3 d2.length then
        (nth d2 d3.toNat).bind fun (x2 : List UInt8) =>
        bif x1.1 == x2 then
          (c2 rf).bind fun (y3 : Bool) =>
          some (.inl y3)
        else
          k147 rb d1 d2 d3 (IntKind.i64.wrap (d4 + 1))
      else
        none
    else
      none
  else
    some (.inr ())
theorem eb147 (rf : T.RF) (rb : T.RB) (d1 : List (List UInt8 × XL)) (d2 : List (List UInt8)) (d3 : Int) (d4 : Int) : T.stepB rf rb 147 (d1, d2, d3, d4) = b147 rf rb d1 d2 d3 d4 := by kernel_rfl
theorem ob147 {d1 : List (List UInt8 × XL)} {d2 : List (List UInt8)} {d3 : Int} {d4 : Int} {y : (Bool ⊕ Unit)} (h : b147 T.rf T.rb d1 d2 d3 d4 = some y) : k147 T.rb d1 d2 d3 d4 = some y := T.rb_of (κ := 147) (d := (d1, d2, d3, d4)) ((eb147 T.rf T.rb d1 d2 d3 d4).trans h)

/- bailmentlaw11.CauseFree loop 6 -/
noncomputable def b148 (rf : T.RF) (rb : T.RB) (d1 : List Int) (d2 : Int) : Option ((List Int × Bool) ⊕ (List Int)) :=
  bif decide (d2 < (((d1.length : Nat) : Int))) then
    bif inb d2 d1.length then
      (nth d1 d2.toNat).bind fun (x1 : Int) =>
      bif x1 != d2 then
        some (.inl (d1, false))
      else
        k148 rb d1 (IntKind.i64.wrap (d2 + 1))
    else
      none
  else
    some (.inr d1)
theorem eb148 (rf : T.RF) (rb : T.RB) (d1 : List Int) (d2 : Int) : T.stepB rf rb 148 (d1, d2) = b148 rf rb d1 d2 := by kernel_rfl
theorem ob148 {d1 : List Int} {d2 : Int} {y : ((List Int × Bool) ⊕ (List Int))} (h : b148 T.rf T.rb d1 d2 = some y) : k148 T.rb d1 d2 = some y := T.rb_of (κ := 148) (d := (d1, d2)) ((eb148 T.rf T.rb d1 d2).trans h)

/- bailmentlaw11.CauseFree -/
noncomputable def r101 (rf : T.RF) (rb : T.RB) (d1 : List (List UInt8 × XL)) : Option Bool :=
  (c1 rf d1).bind fun (y1 : Bool) =>
  bif !y1 then
    (c2 rf).bind fun (y2 : Bool) =>
    some y2
  else
    (k145 rb d1 0).bind fun (z3 : Bool ⊕ Unit) =>
    match z3 with
    | .inl u4 =>
      some u4
    | .inr w5 =>
      (c45 rf d1).bind fun (y6 : List Int × Int) =>
      (k148 rb y6.1 0).bind fun (z7 : (List Int × Bool) ⊕ (List Int)) =>
      match z7 with
      | .inl u8 =>
        some u8.2
      | .inr w9 =>
        bif y6.2 == 0 then
          bif (((w9.length : Nat) : Int)) == (((d1.length : Nat) : Int)) then
            (c2 rf).bind fun (y10 : Bool) =>
            some y10
          else
            some false
        else
          some false
theorem er101 (rf : T.RF) (rb : T.RB) (d1 : List (List UInt8 × XL)) : T.stepF rf rb 101 d1 = r101 rf rb d1 := by kernel_rfl
theorem or101 {d1 : List (List UInt8 × XL)} {y : Bool} (h : r101 T.rf T.rb d1 = some y) : c101 T.rf d1 = some y := T.rf_of (f := 101) (d := d1) ((er101 T.rf T.rb d1).trans h)

theorem place_len : tabs.placeL.length = 149 := rfl
end Go.Proofs.Ytifoobdekbjmdaa.R
