/-
  OUR OWN, PRINTED BY A PROGRAM OF OURS (table2.py): the table of the functions, and what each comes to.
-/
import Derived.Test.YtifoobdekbjmdaaGreatResPA
namespace Go.Proofs.YtifoobdekbjmdaaGreat.R
open Go Go.Bm Go.Proofs
set_option linter.unusedVariables false
set_option linter.unusedSimpArgs false
set_option maxRecDepth 100000

/- (*bailment/bailmentref06.reader).is -/
noncomputable def r69q (rf : T.RF) (rb : T.RB) (d1 : Int) (d2 : Int) (d3 : Int) (d4 : List (Int × List UInt8 × Int)) (d5 : List UInt8) : Option (Int × Int × Int × List (Int × List UInt8 × Int) × Bool) :=
  (c70 rf d1 d2 d3 d4).bind fun (y1 : Int × Int × Int × List (Int × List UInt8 × Int) × Bool) =>
  bif !y1.2.2.2.2 then
    agN 1 (
      some (y1.1, y1.2.1, y1.2.2.1, y1.2.2.2.1, false)
    )
  else
    agN 1 (
      bif decide (y1.1 ≥ (((y1.2.2.2.1.length : Nat) : Int))) then
        some (y1.1, y1.2.1, y1.2.2.1, y1.2.2.2.1, false)
      else
      bif inb y1.1 y1.2.2.2.1.length then
        (nth y1.2.2.2.1 y1.1.toNat).bind fun (x2 : Int × List UInt8 × Int) =>
        bif x2.1 == 4 then
          some (y1.1, y1.2.1, y1.2.2.1, y1.2.2.2.1, x2.2.1 == d5)
        else
        bif x2.1 == 3 then
          some (y1.1, y1.2.1, y1.2.2.1, y1.2.2.2.1, x2.2.1 == d5)
        else
          some (y1.1, y1.2.1, y1.2.2.1, y1.2.2.2.1, false)
      else
        none
    )
noncomputable def r69 (rf : T.RF) (rb : T.RB) (d1 : Int) (d2 : Int) (d3 : Int) (d4 : List (Int × List UInt8 × Int)) (d5 : List UInt8) : Option (Int × Int × Int × List (Int × List UInt8 × Int) × Bool) :=
  (c70 rf d1 d2 d3 d4).bind fun (y1 : Int × Int × Int × List (Int × List UInt8 × Int) × Bool) =>
  bif !y1.2.2.2.2 then
    some (y1.1, y1.2.1, y1.2.2.1, y1.2.2.2.1, false)
  else
  bif decide (y1.1 ≥ (((y1.2.2.2.1.length : Nat) : Int))) then
    some (y1.1, y1.2.1, y1.2.2.1, y1.2.2.2.1, false)
  else
  bif inb y1.1 y1.2.2.2.1.length then
    (nth y1.2.2.2.1 y1.1.toNat).bind fun (x2 : Int × List UInt8 × Int) =>
    bif x2.1 == 4 then
      some (y1.1, y1.2.1, y1.2.2.1, y1.2.2.2.1, x2.2.1 == d5)
    else
    bif x2.1 == 3 then
      some (y1.1, y1.2.1, y1.2.2.1, y1.2.2.2.1, x2.2.1 == d5)
    else
      some (y1.1, y1.2.1, y1.2.2.1, y1.2.2.2.1, false)
  else
    none
theorem er69 (rf : T.RF) (rb : T.RB) (d1 : Int) (d2 : Int) (d3 : Int) (d4 : List (Int × List UInt8 × Int)) (d5 : List UInt8) : T.stepF rf rb 69 (d1, d2, d3, d4, d5) = r69q rf rb d1 d2 d3 d4 d5 := by kernel_rfl
theorem sr69 (rf : T.RF) (rb : T.RB) (d1 : Int) (d2 : Int) (d3 : Int) (d4 : List (Int × List UInt8 × Int)) (d5 : List UInt8) : r69q rf rb d1 d2 d3 d4 d5 = r69 rf rb d1 d2 d3 d4 d5 := by
  unfold r69q r69; simp only [agN_eq, agree_self, agree_swap]
theorem or69 {d1 : Int} {d2 : Int} {d3 : Int} {d4 : List (Int × List UInt8 × Int)} {d5 : List UInt8} {y : (Int × Int × Int × List (Int × List UInt8 × Int) × Bool)} (h : r69 T.rf T.rb d1 d2 d3 d4 d5 = some y) : c69 T.rf d1 d2 d3 d4 d5 = some y := T.rf_of (f := 69) (d := (d1, d2, d3, d4, d5)) (((er69 T.rf T.rb d1 d2 d3 d4 d5).trans (sr69 T.rf T.rb d1 d2 d3 d4 d5)).trans h)

/- (*bailment/bailmentref06.reader).fail -/
noncomputable def r72q (rf : T.RF) (rb : T.RB) (d1 : Int) (d2 : Int) (d3 : Int) (d4 : List (Int × List UInt8 × Int)) (d5 : Int) : Option (List (Int × List UInt8 × Int) × Int × Int × Int) :=
  (c70 rf d1 d2 d3 d4).bind fun (y1 : Int × Int × Int × List (Int × List UInt8 × Int) × Bool) =>
  bif y1.2.2.2.2 then
    agN 1 (
      (c25 rf y1.2.2.2.1 y1.1).bind fun (y2 : Int) =>
      some (y1.2.2.2.1, y1.1, d5, y2)
    )
  else
    some (y1.2.2.2.1, y1.1, y1.2.1, y1.2.2.1)
noncomputable def r72 (rf : T.RF) (rb : T.RB) (d1 : Int) (d2 : Int) (d3 : Int) (d4 : List (Int × List UInt8 × Int)) (d5 : Int) : Option (List (Int × List UInt8 × Int) × Int × Int × Int) :=
  (c70 rf d1 d2 d3 d4).bind fun (y1 : Int × Int × Int × List (Int × List UInt8 × Int) × Bool) =>
  bif y1.2.2.2.2 then
    (c25 rf y1.2.2.2.1 y1.1).bind fun (y2 : Int) =>
    some (y1.2.2.2.1, y1.1, d5, y2)
  else
    some (y1.2.2.2.1, y1.1, y1.2.1, y1.2.2.1)
theorem er72 (rf : T.RF) (rb : T.RB) (d1 : Int) (d2 : Int) (d3 : Int) (d4 : List (Int × List UInt8 × Int)) (d5 : Int) : T.stepF rf rb 72 (d1, d2, d3, d4, d5) = r72q rf rb d1 d2 d3 d4 d5 := by kernel_rfl
theorem sr72 (rf : T.RF) (rb : T.RB) (d1 : Int) (d2 : Int) (d3 : Int) (d4 : List (Int × List UInt8 × Int)) (d5 : Int) : r72q rf rb d1 d2 d3 d4 d5 = r72 rf rb d1 d2 d3 d4 d5 := by
  unfold r72q r72; simp only [agN_eq, agree_self, agree_swap]
theorem or72 {d1 : Int} {d2 : Int} {d3 : Int} {d4 : List (Int × List UInt8 × Int)} {d5 : Int} {y : (List (Int × List UInt8 × Int) × Int × Int × Int)} (h : r72 T.rf T.rb d1 d2 d3 d4 d5 = some y) : c72 T.rf d1 d2 d3 d4 d5 = some y := T.rf_of (f := 72) (d := (d1, d2, d3, d4, d5)) (((er72 T.rf T.rb d1 d2 d3 d4 d5).trans (sr72 T.rf T.rb d1 d2 d3 d4 d5)).trans h)

/- (*bailment/bailmentref06.reader).room -/
noncomputable def r71 (rf : T.RF) (rb : T.RB) (d1 : Int) (d2 : Int) (d3 : Int) (d4 : List (Int × List UInt8 × Int)) (d5 : Int) : Option (List (Int × List UInt8 × Int) × Int × Int × Int) :=
  bif decide (d5 ≥ 200) then
    (c72 rf d1 d2 d3 d4 7).bind fun (y1 : List (Int × List UInt8 × Int) × Int × Int × Int) =>
    some y1
  else
    some (d4, d1, d2, d3)
theorem er71 (rf : T.RF) (rb : T.RB) (d1 : Int) (d2 : Int) (d3 : Int) (d4 : List (Int × List UInt8 × Int)) (d5 : Int) : T.stepF rf rb 71 (d1, d2, d3, d4, d5) = r71 rf rb d1 d2 d3 d4 d5 := by kernel_rfl
theorem or71 {d1 : Int} {d2 : Int} {d3 : Int} {d4 : List (Int × List UInt8 × Int)} {d5 : Int} {y : (List (Int × List UInt8 × Int) × Int × Int × Int)} (h : r71 T.rf T.rb d1 d2 d3 d4 d5 = some y) : c71 T.rf d1 d2 d3 d4 d5 = some y := T.rf_of (f := 71) (d := (d1, d2, d3, d4, d5)) ((er71 T.rf T.rb d1 d2 d3 d4 d5).trans h)

/- (*bailment/bailmentref06.reader).ok -/
noncomputable def r76 (rf : T.RF) (rb : T.RB) (d1 : List (Int × List UInt8 × Int) × Int × Int × Int) : Option ((List (Int × List UInt8 × Int) × Int × Int × Int) × Bool) :=
  some (d1, d1.2.2.1 == 0)
theorem er76 (rf : T.RF) (rb : T.RB) (d1 : List (Int × List UInt8 × Int) × Int × Int × Int) : T.stepF rf rb 76 d1 = r76 rf rb d1 := by kernel_rfl
theorem or76 {d1 : List (Int × List UInt8 × Int) × Int × Int × Int} {y : ((List (Int × List UInt8 × Int) × Int × Int × Int) × Bool)} (h : r76 T.rf T.rb d1 = some y) : c76 T.rf d1 = some y := T.rf_of (f := 76) (d := d1) ((er76 T.rf T.rb d1).trans h)

/- (*bailment/bailmentref06.reader).is -/
noncomputable def r75q (rf : T.RF) (rb : T.RB) (d1 : List (Int × List UInt8 × Int) × Int × Int × Int) (d2 : List UInt8) : Option ((List (Int × List UInt8 × Int) × Int × Int × Int) × Bool) :=
  (c76 rf d1).bind fun (y1 : (List (Int × List UInt8 × Int) × Int × Int × Int) × Bool) =>
  bif !y1.2 then
    agN 1 (
      some (y1.1, false)
    )
  else
    agN 1 (
      bif decide (y1.1.2.1 ≥ (((y1.1.1.length : Nat) : Int))) then
        some (y1.1, false)
      else
      bif inb y1.1.2.1 y1.1.1.length then
        (nth y1.1.1 y1.1.2.1.toNat).bind fun (x2 : Int × List UInt8 × Int) =>
        bif x2.1 == 4 then
          some (y1.1, x2.2.1 == d2)
        else
        bif x2.1 == 3 then
          some (y1.1, x2.2.1 == d2)
        else
          some (y1.1, false)
      else
        none
    )
noncomputable def r75 (rf : T.RF) (rb : T.RB) (d1 : List (Int × List UInt8 × Int) × Int × Int × Int) (d2 : List UInt8) : Option ((List (Int × List UInt8 × Int) × Int × Int × Int) × Bool) :=
  (c76 rf d1).bind fun (y1 : (List (Int × List UInt8 × Int) × Int × Int × Int) × Bool) =>
  bif !y1.2 then
    some (y1.1, false)
  else
  bif decide (y1.1.2.1 ≥ (((y1.1.1.length : Nat) : Int))) then
    some (y1.1, false)
  else
  bif inb y1.1.2.1 y1.1.1.length then
    (nth y1.1.1 y1.1.2.1.toNat).bind fun (x2 : Int × List UInt8 × Int) =>
    bif x2.1 == 4 then
      some (y1.1, x2.2.1 == d2)
    else
    bif x2.1 == 3 then
      some (y1.1, x2.2.1 == d2)
    else
      some (y1.1, false)
  else
    none
theorem er75 (rf : T.RF) (rb : T.RB) (d1 : List (Int × List UInt8 × Int) × Int × Int × Int) (d2 : List UInt8) : T.stepF rf rb 75 (d1, d2) = r75q rf rb d1 d2 := by kernel_rfl
theorem sr75 (rf : T.RF) (rb : T.RB) (d1 : List (Int × List UInt8 × Int) × Int × Int × Int) (d2 : List UInt8) : r75q rf rb d1 d2 = r75 rf rb d1 d2 := by
  unfold r75q r75; simp only [agN_eq, agree_self, agree_swap]
theorem or75 {d1 : List (Int × List UInt8 × Int) × Int × Int × Int} {d2 : List UInt8} {y : ((List (Int × List UInt8 × Int) × Int × Int × Int) × Bool)} (h : r75 T.rf T.rb d1 d2 = some y) : c75 T.rf d1 d2 = some y := T.rf_of (f := 75) (d := (d1, d2)) (((er75 T.rf T.rb d1 d2).trans (sr75 T.rf T.rb d1 d2)).trans h)

/- (*bailment/bailmentref06.reader).take -/
noncomputable def r74 (rf : T.RF) (rb : T.RB) (d1 : List (Int × List UInt8 × Int) × Int × Int × Int) (d2 : List UInt8) : Option ((List (Int × List UInt8 × Int) × Int × Int × Int) × Bool) :=
  (c75 rf d1 d2).bind fun (y1 : (List (Int × List UInt8 × Int) × Int × Int × Int) × Bool) =>
  bif !y1.2 then
    some (y1.1, false)
  else
    some ((y1.1.1, IntKind.i64.wrap (y1.1.2.1 + 1), y1.1.2.2), true)
theorem er74 (rf : T.RF) (rb : T.RB) (d1 : List (Int × List UInt8 × Int) × Int × Int × Int) (d2 : List UInt8) : T.stepF rf rb 74 (d1, d2) = r74 rf rb d1 d2 := by kernel_rfl
theorem or74 {d1 : List (Int × List UInt8 × Int) × Int × Int × Int} {d2 : List UInt8} {y : ((List (Int × List UInt8 × Int) × Int × Int × Int) × Bool)} (h : r74 T.rf T.rb d1 d2 = some y) : c74 T.rf d1 d2 = some y := T.rf_of (f := 74) (d := (d1, d2)) ((er74 T.rf T.rb d1 d2).trans h)

/- (*bailment/bailmentref06.reader).named -/
noncomputable def r78q (rf : T.RF) (rb : T.RB) (d1 : List (Int × List UInt8 × Int) × Int × Int × Int) : Option ((List (Int × List UInt8 × Int) × Int × Int × Int) × Bool) :=
  (c76 rf d1).bind fun (y1 : (List (Int × List UInt8 × Int) × Int × Int × Int) × Bool) =>
  bif y1.2 then
    agN 1 (
      bif decide (y1.1.2.1 < (((y1.1.1.length : Nat) : Int))) then
        agN 1 (
          bif inb y1.1.2.1 y1.1.1.length then
            (nth y1.1.1 y1.1.2.1.toNat).bind fun (x2 : Int × List UInt8 × Int) =>
            some (y1.1, x2.1 == 1)
          else
            none
        )
      else
        agN 1 (
          some (y1.1, false)
        )
    )
  else
    agN 1 (
      agN 1 (
        some (y1.1, false)
      )
    )
noncomputable def r78 (rf : T.RF) (rb : T.RB) (d1 : List (Int × List UInt8 × Int) × Int × Int × Int) : Option ((List (Int × List UInt8 × Int) × Int × Int × Int) × Bool) :=
  (c76 rf d1).bind fun (y1 : (List (Int × List UInt8 × Int) × Int × Int × Int) × Bool) =>
  bif y1.2 then
    bif decide (y1.1.2.1 < (((y1.1.1.length : Nat) : Int))) then
      bif inb y1.1.2.1 y1.1.1.length then
        (nth y1.1.1 y1.1.2.1.toNat).bind fun (x2 : Int × List UInt8 × Int) =>
        some (y1.1, x2.1 == 1)
      else
        none
    else
      some (y1.1, false)
  else
    some (y1.1, false)
theorem er78 (rf : T.RF) (rb : T.RB) (d1 : List (Int × List UInt8 × Int) × Int × Int × Int) : T.stepF rf rb 78 d1 = r78q rf rb d1 := by kernel_rfl
theorem sr78 (rf : T.RF) (rb : T.RB) (d1 : List (Int × List UInt8 × Int) × Int × Int × Int) : r78q rf rb d1 = r78 rf rb d1 := by
  unfold r78q r78; simp only [agN_eq, agree_self, agree_swap]
theorem or78 {d1 : List (Int × List UInt8 × Int) × Int × Int × Int} {y : ((List (Int × List UInt8 × Int) × Int × Int × Int) × Bool)} (h : r78 T.rf T.rb d1 = some y) : c78 T.rf d1 = some y := T.rf_of (f := 78) (d := d1) (((er78 T.rf T.rb d1).trans (sr78 T.rf T.rb d1)).trans h)

/- (*bailment/bailmentref06.reader).fail -/
noncomputable def r79q (rf : T.RF) (rb : T.RB) (d1 : List (Int × List UInt8 × Int) × Int × Int × Int) (d2 : Int) : Option (List (Int × List UInt8 × Int) × Int × Int × Int) :=
  (c76 rf d1).bind fun (y1 : (List (Int × List UInt8 × Int) × Int × Int × Int) × Bool) =>
  bif y1.2 then
    agN 1 (
      (c25 rf y1.1.1 y1.1.2.1).bind fun (y2 : Int) =>
      some (y1.1.1, y1.1.2.1, d2, y2)
    )
  else
    some y1.1
noncomputable def r79 (rf : T.RF) (rb : T.RB) (d1 : List (Int × List UInt8 × Int) × Int × Int × Int) (d2 : Int) : Option (List (Int × List UInt8 × Int) × Int × Int × Int) :=
  (c76 rf d1).bind fun (y1 : (List (Int × List UInt8 × Int) × Int × Int × Int) × Bool) =>
  bif y1.2 then
    (c25 rf y1.1.1 y1.1.2.1).bind fun (y2 : Int) =>
    some (y1.1.1, y1.1.2.1, d2, y2)
  else
    some y1.1
theorem er79 (rf : T.RF) (rb : T.RB) (d1 : List (Int × List UInt8 × Int) × Int × Int × Int) (d2 : Int) : T.stepF rf rb 79 (d1, d2) = r79q rf rb d1 d2 := by kernel_rfl
theorem sr79 (rf : T.RF) (rb : T.RB) (d1 : List (Int × List UInt8 × Int) × Int × Int × Int) (d2 : Int) : r79q rf rb d1 d2 = r79 rf rb d1 d2 := by
  unfold r79q r79; simp only [agN_eq, agree_self, agree_swap]
theorem or79 {d1 : List (Int × List UInt8 × Int) × Int × Int × Int} {d2 : Int} {y : (List (Int × List UInt8 × Int) × Int × Int × Int)} (h : r79 T.rf T.rb d1 d2 = some y) : c79 T.rf d1 d2 = some y := T.rf_of (f := 79) (d := (d1, d2)) (((er79 T.rf T.rb d1 d2).trans (sr79 T.rf T.rb d1 d2)).trans h)

/- (*bailment/bailmentref06.reader).name -/
noncomputable def r77 (rf : T.RF) (rb : T.RB) (d1 : List (Int × List UInt8 × Int) × Int × Int × Int) : Option ((List (Int × List UInt8 × Int) × Int × Int × Int) × List UInt8) :=
  (c78 rf d1).bind fun (y1 : (List (Int × List UInt8 × Int) × Int × Int × Int) × Bool) =>
  bif !y1.2 then
    (c79 rf y1.1 5).bind fun (y2 : List (Int × List UInt8 × Int) × Int × Int × Int) =>
    some (y2, ([] : List UInt8))
  else
  bif inb (IntKind.i64.wrap ((IntKind.i64.wrap (y1.1.2.1 + 1)) - 1)) y1.1.1.length then
    (nth y1.1.1 (IntKind.i64.wrap ((IntKind.i64.wrap (y1.1.2.1 + 1)) - 1)).toNat).bind fun (x3 : Int × List UInt8 × Int) =>
    some ((y1.1.1, IntKind.i64.wrap (y1.1.2.1 + 1), y1.1.2.2), x3.2.1)
  else
    none
theorem er77 (rf : T.RF) (rb : T.RB) (d1 : List (Int × List UInt8 × Int) × Int × Int × Int) : T.stepF rf rb 77 d1 = r77 rf rb d1 := by kernel_rfl
theorem or77 {d1 : List (Int × List UInt8 × Int) × Int × Int × Int} {y : ((List (Int × List UInt8 × Int) × Int × Int × Int) × List UInt8)} (h : r77 T.rf T.rb d1 = some y) : c77 T.rf d1 = some y := T.rf_of (f := 77) (d := d1) ((er77 T.rf T.rb d1).trans h)

/- (*bailment/bailmentref06.reader).need -/
noncomputable def r81 (rf : T.RF) (rb : T.RB) (d1 : List (Int × List UInt8 × Int) × Int × Int × Int) (d2 : List UInt8) : Option (List (Int × List UInt8 × Int) × Int × Int × Int) :=
  (c74 rf d1 d2).bind fun (y1 : (List (Int × List UInt8 × Int) × Int × Int × Int) × Bool) =>
  bif !y1.2 then
    (c79 rf y1.1 5).bind fun (y2 : List (Int × List UInt8 × Int) × Int × Int × Int) =>
    some y2
  else
    some y1.1
theorem er81 (rf : T.RF) (rb : T.RB) (d1 : List (Int × List UInt8 × Int) × Int × Int × Int) (d2 : List UInt8) : T.stepF rf rb 81 (d1, d2) = r81 rf rb d1 d2 := by kernel_rfl
theorem or81 {d1 : List (Int × List UInt8 × Int) × Int × Int × Int} {d2 : List UInt8} {y : (List (Int × List UInt8 × Int) × Int × Int × Int)} (h : r81 T.rf T.rb d1 d2 = some y) : c81 T.rf d1 d2 = some y := T.rf_of (f := 81) (d := (d1, d2)) ((er81 T.rf T.rb d1 d2).trans h)

/- (*bailment/bailmentref06.reader).room -/
noncomputable def r82 (rf : T.RF) (rb : T.RB) (d1 : List (Int × List UInt8 × Int) × Int × Int × Int) (d2 : Int) : Option (List (Int × List UInt8 × Int) × Int × Int × Int) :=
  bif decide (d2 ≥ 200) then
    (c79 rf d1 7).bind fun (y1 : List (Int × List UInt8 × Int) × Int × Int × Int) =>
    some y1
  else
    some d1
theorem er82 (rf : T.RF) (rb : T.RB) (d1 : List (Int × List UInt8 × Int) × Int × Int × Int) (d2 : Int) : T.stepF rf rb 82 (d1, d2) = r82 rf rb d1 d2 := by kernel_rfl
theorem or82 {d1 : List (Int × List UInt8 × Int) × Int × Int × Int} {d2 : Int} {y : (List (Int × List UInt8 × Int) × Int × Int × Int)} (h : r82 T.rf T.rb d1 d2 = some y) : c82 T.rf d1 d2 = some y := T.rf_of (f := 82) (d := (d1, d2)) ((er82 T.rf T.rb d1 d2).trans h)

/- (*bailment/bailmentref06.reader).param -/
noncomputable def r83 (rf : T.RF) (rb : T.RB) (d1 : List (Int × List UInt8 × Int) × Int × Int × Int) : Option ((List (Int × List UInt8 × Int) × Int × Int × Int) × List UInt8 × Int) :=
  (c77 rf d1).bind fun (y1 : (List (Int × List UInt8 × Int) × Int × Int × Int) × List UInt8) =>
  (c81 rf y1.1 ([58] : List UInt8)).bind fun (y2 : List (Int × List UInt8 × Int) × Int × Int × Int) =>
  (c74 rf y2 ([98, 111, 111, 108] : List UInt8)).bind fun (y3 : (List (Int × List UInt8 × Int) × Int × Int × Int) × Bool) =>
  bif y3.2 then
    some (y3.1, y1.2, 1)
  else
    (c74 rf y3.1 ([105, 110, 116] : List UInt8)).bind fun (y4 : (List (Int × List UInt8 × Int) × Int × Int × Int) × Bool) =>
    bif y4.2 then
      some (y4.1, y1.2, 2)
    else
      (c79 rf y4.1 5).bind fun (y5 : List (Int × List UInt8 × Int) × Int × Int × Int) =>
      some (y5, y1.2, 0)
theorem er83 (rf : T.RF) (rb : T.RB) (d1 : List (Int × List UInt8 × Int) × Int × Int × Int) : T.stepF rf rb 83 d1 = r83 rf rb d1 := by kernel_rfl
theorem or83 {d1 : List (Int × List UInt8 × Int) × Int × Int × Int} {y : ((List (Int × List UInt8 × Int) × Int × Int × Int) × List UInt8 × Int)} (h : r83 T.rf T.rb d1 = some y) : c83 T.rf d1 = some y := T.rf_of (f := 83) (d := d1) ((er83 T.rf T.rb d1).trans h)

/- (*bailment/bailmentref06.reader).inputs loop 0 -/
noncomputable def b105 (rf : T.RF) (rb : T.RB) (d1 : List (Int × List UInt8 × Int) × Int × Int × Int) (d2 : XP) : Option (((List (Int × List UInt8 × Int) × Int × Int × Int) × XP) ⊕ (List (Int × List UInt8 × Int) × Int × Int × Int)) :=
  (c76 rf d1).bind fun (y1 : (List (Int × List UInt8 × Int) × Int × Int × Int) × Bool) =>
  bif y1.2 then
    (c82 rf y1.1 (((d2.length : Nat) : Int))).bind fun (y2 : List (Int × List UInt8 × Int) × Int × Int × Int) =>
    (c83 rf y2).bind fun (y3 : (List (Int × List UInt8 × Int) × Int × Int × Int) × List UInt8 × Int) =>
    bif (Nat.ble (d2.length + 1) most) && true then
      (c74 rf y3.1 ([41] : List UInt8)).bind fun (y4 : (List (Int × List UInt8 × Int) × Int × Int × Int) × Bool) =>
      bif y4.2 then
        some (.inl (y4.1, d2 ++ [y3.2]))
      else
        (c81 rf y4.1 ([59] : List UInt8)).bind fun (y5 : List (Int × List UInt8 × Int) × Int × Int × Int) =>
        k105 rb y5 (d2 ++ [y3.2])
    else
      none
  else
    some (.inr y1.1)
theorem eb105 (rf : T.RF) (rb : T.RB) (d1 : List (Int × List UInt8 × Int) × Int × Int × Int) (d2 : XP) : T.stepB rf rb 105 (d1, d2) = b105 rf rb d1 d2 := by kernel_rfl
theorem ob105 {d1 : List (Int × List UInt8 × Int) × Int × Int × Int} {d2 : XP} {y : (((List (Int × List UInt8 × Int) × Int × Int × Int) × XP) ⊕ (List (Int × List UInt8 × Int) × Int × Int × Int))} (h : b105 T.rf T.rb d1 d2 = some y) : k105 T.rb d1 d2 = some y := T.rb_of (κ := 105) (d := (d1, d2)) ((eb105 T.rf T.rb d1 d2).trans h)

/- (*bailment/bailmentref06.reader).inputs -/
noncomputable def r80 (rf : T.RF) (rb : T.RB) (d1 : List (Int × List UInt8 × Int) × Int × Int × Int) : Option ((List (Int × List UInt8 × Int) × Int × Int × Int) × XP) :=
  (c81 rf d1 ([40] : List UInt8)).bind fun (y1 : List (Int × List UInt8 × Int) × Int × Int × Int) =>
  (c74 rf y1 ([41] : List UInt8)).bind fun (y2 : (List (Int × List UInt8 × Int) × Int × Int × Int) × Bool) =>
  bif y2.2 then
    some (y2.1, [])
  else
    (k105 rb y2.1 []).bind fun (z3 : ((List (Int × List UInt8 × Int) × Int × Int × Int) × XP) ⊕ (List (Int × List UInt8 × Int) × Int × Int × Int)) =>
    match z3 with
    | .inl u4 =>
      some u4
    | .inr w5 =>
      some (w5, [])
theorem er80 (rf : T.RF) (rb : T.RB) (d1 : List (Int × List UInt8 × Int) × Int × Int × Int) : T.stepF rf rb 80 d1 = r80 rf rb d1 := by kernel_rfl
theorem or80 {d1 : List (Int × List UInt8 × Int) × Int × Int × Int} {y : ((List (Int × List UInt8 × Int) × Int × Int × Int) × XP)} (h : r80 T.rf T.rb d1 = some y) : c80 T.rf d1 = some y := T.rf_of (f := 80) (d := d1) ((er80 T.rf T.rb d1).trans h)

/- (*bailment/bailmentref06.reader).begins -/
noncomputable def r85 (rf : T.RF) (rb : T.RB) (d1 : List (Int × List UInt8 × Int) × Int × Int × Int) : Option ((List (Int × List UInt8 × Int) × Int × Int × Int) × Bool) :=
  (c75 rf d1 ([97, 115, 115, 117, 109, 101] : List UInt8)).bind fun (y1 : (List (Int × List UInt8 × Int) × Int × Int × Int) × Bool) =>
  bif y1.2 then
    some (y1.1, true)
  else
    (c75 rf y1.1 ([103, 117, 97, 114, 97, 110, 116, 101, 101] : List UInt8)).bind fun (y2 : (List (Int × List UInt8 × Int) × Int × Int × Int) × Bool) =>
    bif y2.2 then
      some (y2.1, true)
    else
      (c75 rf y2.1 ([103, 104, 111, 115, 116] : List UInt8)).bind fun (y3 : (List (Int × List UInt8 × Int) × Int × Int × Int) × Bool) =>
      bif y3.2 then
        some (y3.1, true)
      else
        (c75 rf y3.1 ([109, 111, 100, 101] : List UInt8)).bind fun (y4 : (List (Int × List UInt8 × Int) × Int × Int × Int) × Bool) =>
        bif y4.2 then
          some (y4.1, true)
        else
          (c75 rf y4.1 ([105, 109, 112, 111, 114, 116] : List UInt8)).bind fun (y5 : (List (Int × List UInt8 × Int) × Int × Int × Int) × Bool) =>
          some y5
theorem er85 (rf : T.RF) (rb : T.RB) (d1 : List (Int × List UInt8 × Int) × Int × Int × Int) : T.stepF rf rb 85 d1 = r85 rf rb d1 := by kernel_rfl
theorem or85 {d1 : List (Int × List UInt8 × Int) × Int × Int × Int} {y : ((List (Int × List UInt8 × Int) × Int × Int × Int) × Bool)} (h : r85 T.rf T.rb d1 = some y) : c85 T.rf d1 = some y := T.rf_of (f := 85) (d := d1) ((er85 T.rf T.rb d1).trans h)

/- (*bailment/bailmentref06.reader).expr tail 4 -/
noncomputable def b107 (rf : T.RF) (rb : T.RB) (d1 : List (Int × List UInt8 × Int) × Int × Int × Int) (d2 : Int × Int) (d3 : XL) (d4 : Int) : Option ((List (Int × List UInt8 × Int) × Int × Int × Int) × (Int × Int) × XL) :=
  bif d2.1 != 0 then
    some ((d1.1, d1.2.1, d2), d2, [])
  else
    some ((d1.1, d4, d1.2.2), d2, d3)
theorem eb107 (rf : T.RF) (rb : T.RB) (d1 : List (Int × List UInt8 × Int) × Int × Int × Int) (d2 : Int × Int) (d3 : XL) (d4 : Int) : T.stepB rf rb 107 (d1, d2, d3, d4) = b107 rf rb d1 d2 d3 d4 := by kernel_rfl
theorem ob107 {d1 : List (Int × List UInt8 × Int) × Int × Int × Int} {d2 : Int × Int} {d3 : XL} {d4 : Int} {y : ((List (Int × List UInt8 × Int) × Int × Int × Int) × (Int × Int) × XL)} (h : b107 T.rf T.rb d1 d2 d3 d4 = some y) : k107 T.rb d1 d2 d3 d4 = some y := T.rb_of (κ := 107) (d := (d1, d2, d3, d4)) ((eb107 T.rf T.rb d1 d2 d3 d4).trans h)

/- (*bailment/bailmentref06.reader).expr -/
noncomputable def r87q (rf : T.RF) (rb : T.RB) (d1 : List (Int × List UInt8 × Int) × Int × Int × Int) : Option ((List (Int × List UInt8 × Int) × Int × Int × Int) × XL) :=
  (c76 rf d1).bind fun (y1 : (List (Int × List UInt8 × Int) × Int × Int × Int) × Bool) =>
  bif !y1.2 then
    some (y1.1, [])
  else
    agN 1 (
      (c14 rf y1.1.1 y1.1.2.1).bind fun (y2 : XL × Int × Int × Int) =>
      (k107 rb y1.1 y2.2.2 y2.1 y2.2.1).bind fun (z3 : (List (Int × List UInt8 × Int) × Int × Int × Int) × (Int × Int) × XL) =>
      some (z3.1, z3.2.2)
    )
noncomputable def r87 (rf : T.RF) (rb : T.RB) (d1 : List (Int × List UInt8 × Int) × Int × Int × Int) : Option ((List (Int × List UInt8 × Int) × Int × Int × Int) × XL) :=
  (c76 rf d1).bind fun (y1 : (List (Int × List UInt8 × Int) × Int × Int × Int) × Bool) =>
  bif !y1.2 then
    some (y1.1, [])
  else
    (c14 rf y1.1.1 y1.1.2.1).bind fun (y2 : XL × Int × Int × Int) =>
    (k107 rb y1.1 y2.2.2 y2.1 y2.2.1).bind fun (z3 : (List (Int × List UInt8 × Int) × Int × Int × Int) × (Int × Int) × XL) =>
    some (z3.1, z3.2.2)
theorem er87 (rf : T.RF) (rb : T.RB) (d1 : List (Int × List UInt8 × Int) × Int × Int × Int) : T.stepF rf rb 87 d1 = r87q rf rb d1 := by kernel_rfl
theorem sr87 (rf : T.RF) (rb : T.RB) (d1 : List (Int × List UInt8 × Int) × Int × Int × Int) : r87q rf rb d1 = r87 rf rb d1 := by
  unfold r87q r87; simp only [agN_eq, agree_self, agree_swap]
theorem or87 {d1 : List (Int × List UInt8 × Int) × Int × Int × Int} {y : ((List (Int × List UInt8 × Int) × Int × Int × Int) × XL)} (h : r87 T.rf T.rb d1 = some y) : c87 T.rf d1 = some y := T.rf_of (f := 87) (d := d1) (((er87 T.rf T.rb d1).trans (sr87 T.rf T.rb d1)).trans h)

/- (*bailment/bailmentref06.reader).args loop 0 -/
noncomputable def b109 (rf : T.RF) (rb : T.RB) (d1 : List (Int × List UInt8 × Int) × Int × Int × Int) (d2 : List XL) : Option (((List (Int × List UInt8 × Int) × Int × Int × Int) × List XL) ⊕ (List (Int × List UInt8 × Int) × Int × Int × Int)) :=
  (c76 rf d1).bind fun (y1 : (List (Int × List UInt8 × Int) × Int × Int × Int) × Bool) =>
  bif y1.2 then
    (c82 rf y1.1 (((d2.length : Nat) : Int))).bind fun (y2 : List (Int × List UInt8 × Int) × Int × Int × Int) =>
    (c87 rf y2).bind fun (y3 : (List (Int × List UInt8 × Int) × Int × Int × Int) × XL) =>
    bif (Nat.ble (d2.length + 1) most) && true then
      (c74 rf y3.1 ([41] : List UInt8)).bind fun (y4 : (List (Int × List UInt8 × Int) × Int × Int × Int) × Bool) =>
      bif y4.2 then
        some (.inl (y4.1, d2 ++ [y3.2]))
      else
        (c81 rf y4.1 ([44] : List UInt8)).bind fun (y5 : List (Int × List UInt8 × Int) × Int × Int × Int) =>
        k109 rb y5 (d2 ++ [y3.2])
    else
      none
  else
    some (.inr y1.1)
theorem eb109 (rf : T.RF) (rb : T.RB) (d1 : List (Int × List UInt8 × Int) × Int × Int × Int) (d2 : List XL) : T.stepB rf rb 109 (d1, d2) = b109 rf rb d1 d2 := by kernel_rfl
theorem ob109 {d1 : List (Int × List UInt8 × Int) × Int × Int × Int} {d2 : List XL} {y : (((List (Int × List UInt8 × Int) × Int × Int × Int) × List XL) ⊕ (List (Int × List UInt8 × Int) × Int × Int × Int))} (h : b109 T.rf T.rb d1 d2 = some y) : k109 T.rb d1 d2 = some y := T.rb_of (κ := 109) (d := (d1, d2)) ((eb109 T.rf T.rb d1 d2).trans h)

/- (*bailment/bailmentref06.reader).args -/
noncomputable def r88 (rf : T.RF) (rb : T.RB) (d1 : List (Int × List UInt8 × Int) × Int × Int × Int) : Option ((List (Int × List UInt8 × Int) × Int × Int × Int) × List XL) :=
  (c81 rf d1 ([40] : List UInt8)).bind fun (y1 : List (Int × List UInt8 × Int) × Int × Int × Int) =>
  (c74 rf y1 ([41] : List UInt8)).bind fun (y2 : (List (Int × List UInt8 × Int) × Int × Int × Int) × Bool) =>
  bif y2.2 then
    some (y2.1, [])
  else
    (k109 rb y2.1 []).bind fun (z3 : ((List (Int × List UInt8 × Int) × Int × Int × Int) × List XL) ⊕ (List (Int × List UInt8 × Int) × Int × Int × Int)) =>
    match z3 with
    | .inl u4 =>
      some u4
    | .inr w5 =>
      some (w5, [])
theorem er88 (rf : T.RF) (rb : T.RB) (d1 : List (Int × List UInt8 × Int) × Int × Int × Int) : T.stepF rf rb 88 d1 = r88 rf rb d1 := by kernel_rfl
theorem or88 {d1 : List (Int × List UInt8 × Int) × Int × Int × Int} {y : ((List (Int × List UInt8 × Int) × Int × Int × Int) × List XL)} (h : r88 T.rf T.rb d1 = some y) : c88 T.rf d1 = some y := T.rf_of (f := 88) (d := d1) ((er88 T.rf T.rb d1).trans h)

/- (*bailment/bailmentref06.reader).item -/
noncomputable def r86 (rf : T.RF) (rb : T.RB) (d1 : List (Int × List UInt8 × Int) × Int × Int × Int) : Option ((List (Int × List UInt8 × Int) × Int × Int × Int) × XI × Bool) :=
  (c74 rf d1 ([97, 115, 115, 117, 109, 101] : List UInt8)).bind fun (y1 : (List (Int × List UInt8 × Int) × Int × Int × Int) × Bool) =>
  bif y1.2 then
    (c87 rf y1.1).bind fun (y2 : (List (Int × List UInt8 × Int) × Int × Int × Int) × XL) =>
    (c81 rf y2.1 ([59] : List UInt8)).bind fun (y3 : List (Int × List UInt8 × Int) × Int × Int × Int) =>
    some (y3, (1, ([] : List UInt8), 0, y2.2, [], []), true)
  else
    (c74 rf y1.1 ([103, 117, 97, 114, 97, 110, 116, 101, 101] : List UInt8)).bind fun (y4 : (List (Int × List UInt8 × Int) × Int × Int × Int) × Bool) =>
    bif y4.2 then
      (c87 rf y4.1).bind fun (y5 : (List (Int × List UInt8 × Int) × Int × Int × Int) × XL) =>
      (c81 rf y5.1 ([59] : List UInt8)).bind fun (y6 : List (Int × List UInt8 × Int) × Int × Int × Int) =>
      some (y6, (2, ([] : List UInt8), 0, y5.2, [], []), true)
    else
      (c74 rf y4.1 ([103, 104, 111, 115, 116] : List UInt8)).bind fun (y7 : (List (Int × List UInt8 × Int) × Int × Int × Int) × Bool) =>
      bif y7.2 then
        (c83 rf y7.1).bind fun (y8 : (List (Int × List UInt8 × Int) × Int × Int × Int) × List UInt8 × Int) =>
        (c81 rf y8.1 ([61] : List UInt8)).bind fun (y9 : List (Int × List UInt8 × Int) × Int × Int × Int) =>
        (c87 rf y9).bind fun (y10 : (List (Int × List UInt8 × Int) × Int × Int × Int) × XL) =>
        (c81 rf y10.1 ([59] : List UInt8)).bind fun (y11 : List (Int × List UInt8 × Int) × Int × Int × Int) =>
        some (y11, (3, y8.2.1, y8.2.2, y10.2, [], []), true)
      else
        (c74 rf y7.1 ([109, 111, 100, 101] : List UInt8)).bind fun (y12 : (List (Int × List UInt8 × Int) × Int × Int × Int) × Bool) =>
        bif y12.2 then
          (c77 rf y12.1).bind fun (y13 : (List (Int × List UInt8 × Int) × Int × Int × Int) × List UInt8) =>
          (c81 rf y13.1 ([114, 101, 113, 117, 105, 114, 101] : List UInt8)).bind fun (y14 : List (Int × List UInt8 × Int) × Int × Int × Int) =>
          (c87 rf y14).bind fun (y15 : (List (Int × List UInt8 × Int) × Int × Int × Int) × XL) =>
          (c81 rf y15.1 ([101, 110, 115, 117, 114, 101] : List UInt8)).bind fun (y16 : List (Int × List UInt8 × Int) × Int × Int × Int) =>
          (c87 rf y16).bind fun (y17 : (List (Int × List UInt8 × Int) × Int × Int × Int) × XL) =>
          (c81 rf y17.1 ([59] : List UInt8)).bind fun (y18 : List (Int × List UInt8 × Int) × Int × Int × Int) =>
          some (y18, (4, y13.2, 0, y15.2, y17.2, []), true)
        else
          (c74 rf y12.1 ([105, 109, 112, 111, 114, 116] : List UInt8)).bind fun (y19 : (List (Int × List UInt8 × Int) × Int × Int × Int) × Bool) =>
          bif y19.2 then
            (c77 rf y19.1).bind fun (y20 : (List (Int × List UInt8 × Int) × Int × Int × Int) × List UInt8) =>
            (c88 rf y20.1).bind fun (y21 : (List (Int × List UInt8 × Int) × Int × Int × Int) × List XL) =>
            (c81 rf y21.1 ([59] : List UInt8)).bind fun (y22 : List (Int × List UInt8 × Int) × Int × Int × Int) =>
            some (y22, (5, y20.2, 0, [], [], y21.2), true)
          else
            some (y19.1, (0, ([] : List UInt8), 0, [], [], []), false)
theorem er86 (rf : T.RF) (rb : T.RB) (d1 : List (Int × List UInt8 × Int) × Int × Int × Int) : T.stepF rf rb 86 d1 = r86 rf rb d1 := by kernel_rfl
theorem or86 {d1 : List (Int × List UInt8 × Int) × Int × Int × Int} {y : ((List (Int × List UInt8 × Int) × Int × Int × Int) × XI × Bool)} (h : r86 T.rf T.rb d1 = some y) : c86 T.rf d1 = some y := T.rf_of (f := 86) (d := d1) ((er86 T.rf T.rb d1).trans h)

/- (*bailment/bailmentref06.reader).items loop 0 -/
noncomputable def b110 (rf : T.RF) (rb : T.RB) (d1 : List (Int × List UInt8 × Int) × Int × Int × Int) (d2 : List XI) : Option ((List (Int × List UInt8 × Int) × Int × Int × Int) × List XI) :=
  (c85 rf d1).bind fun (y1 : (List (Int × List UInt8 × Int) × Int × Int × Int) × Bool) =>
  bif y1.2 then
    (c82 rf y1.1 (((d2.length : Nat) : Int))).bind fun (y2 : List (Int × List UInt8 × Int) × Int × Int × Int) =>
    (c86 rf y2).bind fun (y3 : (List (Int × List UInt8 × Int) × Int × Int × Int) × XI × Bool) =>
    bif y3.2.2 then
      bif (Nat.ble (d2.length + 1) most) && true then
        k110 rb y3.1 (d2 ++ [y3.2.1])
      else
        none
    else
      k110 rb y3.1 d2
  else
    some (y1.1, d2)
theorem eb110 (rf : T.RF) (rb : T.RB) (d1 : List (Int × List UInt8 × Int) × Int × Int × Int) (d2 : List XI) : T.stepB rf rb 110 (d1, d2) = b110 rf rb d1 d2 := by kernel_rfl
theorem ob110 {d1 : List (Int × List UInt8 × Int) × Int × Int × Int} {d2 : List XI} {y : ((List (Int × List UInt8 × Int) × Int × Int × Int) × List XI)} (h : b110 T.rf T.rb d1 d2 = some y) : k110 T.rb d1 d2 = some y := T.rb_of (κ := 110) (d := (d1, d2)) ((eb110 T.rf T.rb d1 d2).trans h)

/- (*bailment/bailmentref06.reader).items -/
noncomputable def r84 (rf : T.RF) (rb : T.RB) (d1 : List (Int × List UInt8 × Int) × Int × Int × Int) : Option ((List (Int × List UInt8 × Int) × Int × Int × Int) × List XI) :=
  (k110 rb d1 []).bind fun (z1 : (List (Int × List UInt8 × Int) × Int × Int × Int) × List XI) =>
  (c81 rf z1.1 ([101, 110, 100] : List UInt8)).bind fun (y2 : List (Int × List UInt8 × Int) × Int × Int × Int) =>
  some (y2, z1.2)
theorem er84 (rf : T.RF) (rb : T.RB) (d1 : List (Int × List UInt8 × Int) × Int × Int × Int) : T.stepF rf rb 84 d1 = r84 rf rb d1 := by kernel_rfl
theorem or84 {d1 : List (Int × List UInt8 × Int) × Int × Int × Int} {y : ((List (Int × List UInt8 × Int) × Int × Int × Int) × List XI)} (h : r84 T.rf T.rb d1 = some y) : c84 T.rf d1 = some y := T.rf_of (f := 84) (d := d1) ((er84 T.rf T.rb d1).trans h)

/- (*bailment/bailmentref06.reader).vars loop 0 -/
noncomputable def b112 (rf : T.RF) (rb : T.RB) (d1 : List (Int × List UInt8 × Int) × Int × Int × Int) (d2 : XP) : Option (((List (Int × List UInt8 × Int) × Int × Int × Int) × XP) ⊕ (List (Int × List UInt8 × Int) × Int × Int × Int)) :=
  (c76 rf d1).bind fun (y1 : (List (Int × List UInt8 × Int) × Int × Int × Int) × Bool) =>
  bif y1.2 then
    (c82 rf y1.1 (((d2.length : Nat) : Int))).bind fun (y2 : List (Int × List UInt8 × Int) × Int × Int × Int) =>
    (c83 rf y2).bind fun (y3 : (List (Int × List UInt8 × Int) × Int × Int × Int) × List UInt8 × Int) =>
    bif (Nat.ble (d2.length + 1) most) && true then
      (c81 rf y3.1 ([59] : List UInt8)).bind fun (y4 : List (Int × List UInt8 × Int) × Int × Int × Int) =>
      (c78 rf y4).bind fun (y5 : (List (Int × List UInt8 × Int) × Int × Int × Int) × Bool) =>
      bif !y5.2 then
        some (.inl (y5.1, d2 ++ [y3.2]))
      else
        k112 rb y5.1 (d2 ++ [y3.2])
    else
      none
  else
    some (.inr y1.1)
theorem eb112 (rf : T.RF) (rb : T.RB) (d1 : List (Int × List UInt8 × Int) × Int × Int × Int) (d2 : XP) : T.stepB rf rb 112 (d1, d2) = b112 rf rb d1 d2 := by kernel_rfl
theorem ob112 {d1 : List (Int × List UInt8 × Int) × Int × Int × Int} {d2 : XP} {y : (((List (Int × List UInt8 × Int) × Int × Int × Int) × XP) ⊕ (List (Int × List UInt8 × Int) × Int × Int × Int))} (h : b112 T.rf T.rb d1 d2 = some y) : k112 T.rb d1 d2 = some y := T.rb_of (κ := 112) (d := (d1, d2)) ((eb112 T.rf T.rb d1 d2).trans h)

/- (*bailment/bailmentref06.reader).vars -/
noncomputable def r89 (rf : T.RF) (rb : T.RB) (d1 : List (Int × List UInt8 × Int) × Int × Int × Int) : Option ((List (Int × List UInt8 × Int) × Int × Int × Int) × XP) :=
  (k112 rb d1 []).bind fun (z1 : ((List (Int × List UInt8 × Int) × Int × Int × Int) × XP) ⊕ (List (Int × List UInt8 × Int) × Int × Int × Int)) =>
  match z1 with
  | .inl u2 =>
    some u2
  | .inr w3 =>
    some (w3, [])
theorem er89 (rf : T.RF) (rb : T.RB) (d1 : List (Int × List UInt8 × Int) × Int × Int × Int) : T.stepF rf rb 89 d1 = r89 rf rb d1 := by kernel_rfl
theorem or89 {d1 : List (Int × List UInt8 × Int) × Int × Int × Int} {y : ((List (Int × List UInt8 × Int) × Int × Int × Int) × XP)} (h : r89 T.rf T.rb d1 = some y) : c89 T.rf d1 = some y := T.rf_of (f := 89) (d := d1) ((er89 T.rf T.rb d1).trans h)

/- (*bailment/bailmentref06.reader).equations loop 0 -/
noncomputable def b114 (rf : T.RF) (rb : T.RB) (d1 : List (Int × List UInt8 × Int) × Int × Int × Int) (d2 : List (List UInt8 × XL)) : Option ((List (Int × List UInt8 × Int) × Int × Int × Int) × List (List UInt8 × XL)) :=
  (c78 rf d1).bind fun (y1 : (List (Int × List UInt8 × Int) × Int × Int × Int) × Bool) =>
  bif y1.2 then
    (c82 rf y1.1 (((d2.length : Nat) : Int))).bind fun (y2 : List (Int × List UInt8 × Int) × Int × Int × Int) =>
    (c77 rf y2).bind fun (y3 : (List (Int × List UInt8 × Int) × Int × Int × Int) × List UInt8) =>
    (c81 rf y3.1 ([61] : List UInt8)).bind fun (y4 : List (Int × List UInt8 × Int) × Int × Int × Int) =>
    (c87 rf y4).bind fun (y5 : (List (Int × List UInt8 × Int) × Int × Int × Int) × XL) =>
    (c81 rf y5.1 ([59] : List UInt8)).bind fun (y6 : List (Int × List UInt8 × Int) × Int × Int × Int) =>
    bif (Nat.ble (d2.length + 1) most) && true then
      k114 rb y6 (d2 ++ [(y3.2, y5.2)])
    else
      none
  else
    some (y1.1, d2)
theorem eb114 (rf : T.RF) (rb : T.RB) (d1 : List (Int × List UInt8 × Int) × Int × Int × Int) (d2 : List (List UInt8 × XL)) : T.stepB rf rb 114 (d1, d2) = b114 rf rb d1 d2 := by kernel_rfl
theorem ob114 {d1 : List (Int × List UInt8 × Int) × Int × Int × Int} {d2 : List (List UInt8 × XL)} {y : ((List (Int × List UInt8 × Int) × Int × Int × Int) × List (List UInt8 × XL))} (h : b114 T.rf T.rb d1 d2 = some y) : k114 T.rb d1 d2 = some y := T.rb_of (κ := 114) (d := (d1, d2)) ((eb114 T.rf T.rb d1 d2).trans h)

/- (*bailment/bailmentref06.reader).equations -/
noncomputable def r90 (rf : T.RF) (rb : T.RB) (d1 : List (Int × List UInt8 × Int) × Int × Int × Int) : Option ((List (Int × List UInt8 × Int) × Int × Int × Int) × List (List UInt8 × XL)) :=
  (k114 rb d1 []).bind fun (z1 : (List (Int × List UInt8 × Int) × Int × Int × Int) × List (List UInt8 × XL)) =>
  (c81 rf z1.1 ([116, 101, 108] : List UInt8)).bind fun (y2 : List (Int × List UInt8 × Int) × Int × Int × Int) =>
  some (y2, z1.2)
theorem er90 (rf : T.RF) (rb : T.RB) (d1 : List (Int × List UInt8 × Int) × Int × Int × Int) : T.stepF rf rb 90 d1 = r90 rf rb d1 := by kernel_rfl
theorem or90 {d1 : List (Int × List UInt8 × Int) × Int × Int × Int} {y : ((List (Int × List UInt8 × Int) × Int × Int × Int) × List (List UInt8 × XL))} (h : r90 T.rf T.rb d1 = some y) : c90 T.rf d1 = some y := T.rf_of (f := 90) (d := d1) ((er90 T.rf T.rb d1).trans h)

/- (*bailment/bailmentref06.reader).unit -/
noncomputable def r73 (rf : T.RF) (rb : T.RB) (d1 : List (Int × List UInt8 × Int) × Int × Int × Int) : Option ((List (Int × List UInt8 × Int) × Int × Int × Int) × XU) :=
  (c74 rf d1 ([99, 111, 110, 116, 114, 97, 99, 116] : List UInt8)).bind fun (y1 : (List (Int × List UInt8 × Int) × Int × Int × Int) × Bool) =>
  bif y1.2 then
    (c77 rf y1.1).bind fun (y2 : (List (Int × List UInt8 × Int) × Int × Int × Int) × List UInt8) =>
    (c80 rf y2.1).bind fun (y3 : (List (Int × List UInt8 × Int) × Int × Int × Int) × XP) =>
    (c84 rf y3.1).bind fun (y4 : (List (Int × List UInt8 × Int) × Int × Int × Int) × List XI) =>
    some (y4.1, true, y2.2, y3.2, ([] : List UInt8), 0, [], [], y4.2)
  else
    (c81 rf y1.1 ([110, 111, 100, 101] : List UInt8)).bind fun (y5 : List (Int × List UInt8 × Int) × Int × Int × Int) =>
    (c77 rf y5).bind fun (y6 : (List (Int × List UInt8 × Int) × Int × Int × Int) × List UInt8) =>
    (c80 rf y6.1).bind fun (y7 : (List (Int × List UInt8 × Int) × Int × Int × Int) × XP) =>
    (c81 rf y7.1 ([114, 101, 116, 117, 114, 110, 115] : List UInt8)).bind fun (y8 : List (Int × List UInt8 × Int) × Int × Int × Int) =>
    (c81 rf y8 ([40] : List UInt8)).bind fun (y9 : List (Int × List UInt8 × Int) × Int × Int × Int) =>
    (c83 rf y9).bind fun (y10 : (List (Int × List UInt8 × Int) × Int × Int × Int) × List UInt8 × Int) =>
    (c81 rf y10.1 ([41] : List UInt8)).bind fun (y11 : List (Int × List UInt8 × Int) × Int × Int × Int) =>
    (c74 rf y11 ([99, 111, 110, 116, 114, 97, 99, 116] : List UInt8)).bind fun (y12 : (List (Int × List UInt8 × Int) × Int × Int × Int) × Bool) =>
    bif y12.2 then
      (c84 rf y12.1).bind fun (y13 : (List (Int × List UInt8 × Int) × Int × Int × Int) × List XI) =>
      (c74 rf y13.1 ([118, 97, 114] : List UInt8)).bind fun (y14 : (List (Int × List UInt8 × Int) × Int × Int × Int) × Bool) =>
      bif y14.2 then
        (c89 rf y14.1).bind fun (y15 : (List (Int × List UInt8 × Int) × Int × Int × Int) × XP) =>
        (c81 rf y15.1 ([108, 101, 116] : List UInt8)).bind fun (y16 : List (Int × List UInt8 × Int) × Int × Int × Int) =>
        (c90 rf y16).bind fun (y17 : (List (Int × List UInt8 × Int) × Int × Int × Int) × List (List UInt8 × XL)) =>
        some (y17.1, false, y6.2, y7.2, y10.2.1, y10.2.2, y15.2, y17.2, y13.2)
      else
        (c81 rf y14.1 ([108, 101, 116] : List UInt8)).bind fun (y18 : List (Int × List UInt8 × Int) × Int × Int × Int) =>
        (c90 rf y18).bind fun (y19 : (List (Int × List UInt8 × Int) × Int × Int × Int) × List (List UInt8 × XL)) =>
        some (y19.1, false, y6.2, y7.2, y10.2.1, y10.2.2, [], y19.2, y13.2)
    else
      (c74 rf y12.1 ([118, 97, 114] : List UInt8)).bind fun (y20 : (List (Int × List UInt8 × Int) × Int × Int × Int) × Bool) =>
      bif y20.2 then
        (c89 rf y20.1).bind fun (y21 : (List (Int × List UInt8 × Int) × Int × Int × Int) × XP) =>
        (c81 rf y21.1 ([108, 101, 116] : List UInt8)).bind fun (y22 : List (Int × List UInt8 × Int) × Int × Int × Int) =>
        (c90 rf y22).bind fun (y23 : (List (Int × List UInt8 × Int) × Int × Int × Int) × List (List UInt8 × XL)) =>
        some (y23.1, false, y6.2, y7.2, y10.2.1, y10.2.2, y21.2, y23.2, [])
      else
        (c81 rf y20.1 ([108, 101, 116] : List UInt8)).bind fun (y24 : List (Int × List UInt8 × Int) × Int × Int × Int) =>
        (c90 rf y24).bind fun (y25 : (List (Int × List UInt8 × Int) × Int × Int × Int) × List (List UInt8 × XL)) =>
        some (y25.1, false, y6.2, y7.2, y10.2.1, y10.2.2, [], y25.2, [])
theorem er73 (rf : T.RF) (rb : T.RB) (d1 : List (Int × List UInt8 × Int) × Int × Int × Int) : T.stepF rf rb 73 d1 = r73 rf rb d1 := by kernel_rfl
theorem or73 {d1 : List (Int × List UInt8 × Int) × Int × Int × Int} {y : ((List (Int × List UInt8 × Int) × Int × Int × Int) × XU)} (h : r73 T.rf T.rb d1 = some y) : c73 T.rf d1 = some y := T.rf_of (f := 73) (d := d1) ((er73 T.rf T.rb d1).trans h)

/- bailmentref06.Parse loop 0 -/
noncomputable def b129q (rf : T.RF) (rb : T.RB) (d1 : List (Int × List UInt8 × Int) × Int × Int × Int) (d2 : List UInt8) (d3 : List UInt8) (d4 : List XU) : Option ((List (Int × List UInt8 × Int) × Int × Int × Int) × List UInt8 × List UInt8 × List XU) :=
  (c75 rf d1 ([110, 111, 100, 101] : List UInt8)).bind fun (y1 : (List (Int × List UInt8 × Int) × Int × Int × Int) × Bool) =>
  bif y1.2 then
    (c82 rf y1.1 (((d4.length : Nat) : Int))).bind fun (y2 : List (Int × List UInt8 × Int) × Int × Int × Int) =>
    agree (
      (c73 rf y2).bind fun (y3 : (List (Int × List UInt8 × Int) × Int × Int × Int) × XU) =>
      bif (Nat.ble (d4.length + 1) most) && true then
        k129 rb y3.1 d2 d3 (d4 ++ [y3.2])
      else
        none
    ) (
      (c73 rf y2).bind fun (y3 : (List (Int × List UInt8 × Int) × Int × Int × Int) × XU) =>
      agN 1 (
        bif (Nat.ble (d4.length + 1) most) && true then
          k129 rb y3.1 d2 d3 (d4 ++ [y3.2])
        else
          none
      )
    )
  else
    (c75 rf y1.1 ([99, 111, 110, 116, 114, 97, 99, 116] : List UInt8)).bind fun (y4 : (List (Int × List UInt8 × Int) × Int × Int × Int) × Bool) =>
    bif y4.2 then
      (c82 rf y4.1 (((d4.length : Nat) : Int))).bind fun (y5 : List (Int × List UInt8 × Int) × Int × Int × Int) =>
      agree (
        (c73 rf y5).bind fun (y6 : (List (Int × List UInt8 × Int) × Int × Int × Int) × XU) =>
        bif (Nat.ble (d4.length + 1) most) && true then
          k129 rb y6.1 d2 d3 (d4 ++ [y6.2])
        else
          none
      ) (
        (c73 rf y5).bind fun (y6 : (List (Int × List UInt8 × Int) × Int × Int × Int) × XU) =>
        agN 1 (
          bif (Nat.ble (d4.length + 1) most) && true then
            k129 rb y6.1 d2 d3 (d4 ++ [y6.2])
          else
            none
        )
      )
    else
      some (y4.1, d2, d3, d4)
noncomputable def b129 (rf : T.RF) (rb : T.RB) (d1 : List (Int × List UInt8 × Int) × Int × Int × Int) (d2 : List UInt8) (d3 : List UInt8) (d4 : List XU) : Option ((List (Int × List UInt8 × Int) × Int × Int × Int) × List UInt8 × List UInt8 × List XU) :=
  (c75 rf d1 ([110, 111, 100, 101] : List UInt8)).bind fun (y1 : (List (Int × List UInt8 × Int) × Int × Int × Int) × Bool) =>
  bif y1.2 then
    (c82 rf y1.1 (((d4.length : Nat) : Int))).bind fun (y2 : List (Int × List UInt8 × Int) × Int × Int × Int) =>
    (c73 rf y2).bind fun (y3 : (List (Int × List UInt8 × Int) × Int × Int × Int) × XU) =>
    bif (Nat.ble (d4.length + 1) most) && true then
      k129 rb y3.1 d2 d3 (d4 ++ [y3.2])
    else
      none
  else
    (c75 rf y1.1 ([99, 111, 110, 116, 114, 97, 99, 116] : List UInt8)).bind fun (y4 : (List (Int × List UInt8 × Int) × Int × Int × Int) × Bool) =>
    bif y4.2 then
      (c82 rf y4.1 (((d4.length : Nat) : Int))).bind fun (y5 : List (Int × List UInt8 × Int) × Int × Int × Int) =>
      (c73 rf y5).bind fun (y6 : (List (Int × List UInt8 × Int) × Int × Int × Int) × XU) =>
      bif (Nat.ble (d4.length + 1) most) && true then
        k129 rb y6.1 d2 d3 (d4 ++ [y6.2])
      else
        none
    else
      some (y4.1, d2, d3, d4)
theorem eb129 (rf : T.RF) (rb : T.RB) (d1 : List (Int × List UInt8 × Int) × Int × Int × Int) (d2 : List UInt8) (d3 : List UInt8) (d4 : List XU) : T.stepB rf rb 129 (d1, d2, d3, d4) = b129q rf rb d1 d2 d3 d4 := by kernel_rfl
theorem sb129 (rf : T.RF) (rb : T.RB) (d1 : List (Int × List UInt8 × Int) × Int × Int × Int) (d2 : List UInt8) (d3 : List UInt8) (d4 : List XU) : b129q rf rb d1 d2 d3 d4 = b129 rf rb d1 d2 d3 d4 := by
  unfold b129q b129; simp only [agN_eq, agree_self, agree_swap]
theorem ob129 {d1 : List (Int × List UInt8 × Int) × Int × Int × Int} {d2 : List UInt8} {d3 : List UInt8} {d4 : List XU} {y : ((List (Int × List UInt8 × Int) × Int × Int × Int) × List UInt8 × List UInt8 × List XU)} (h : b129 T.rf T.rb d1 d2 d3 d4 = some y) : k129 T.rb d1 d2 d3 d4 = some y := T.rb_of (κ := 129) (d := (d1, d2, d3, d4)) (((eb129 T.rf T.rb d1 d2 d3 d4).trans (sb129 T.rf T.rb d1 d2 d3 d4)).trans h)

/- bailmentref06.Parse tail 15 -/
noncomputable def b130q (rf : T.RF) (rb : T.RB) (d1 : List UInt8) (d2 : List UInt8) (d3 : Int × Int) (d4 : List (Int × List UInt8 × Int) × Int × Int × Int) (d5 : List UInt8) (d6 : List UInt8) (d7 : List XU) (d8 : List XU) : Option ((List UInt8 × List UInt8 × (Int × Int) × (List (Int × List UInt8 × Int) × Int × Int × Int) × List UInt8 × List UInt8 × List XU × List XU × List XU) ⊕ (List UInt8 × List UInt8 × (Int × Int) × (List (Int × List UInt8 × Int) × Int × Int × Int) × List UInt8 × List UInt8 × List XU × List XU)) :=
  (c76 rf d4).bind fun (y1 : (List (Int × List UInt8 × Int) × Int × Int × Int) × Bool) =>
  bif y1.2 then
    agN 1 (
      bif decide (y1.1.2.1 < (((y1.1.1.length : Nat) : Int))) then
        (c79 rf y1.1 5).bind fun (y2 : List (Int × List UInt8 × Int) × Int × Int × Int) =>
        (c76 rf y2).bind fun (y3 : (List (Int × List UInt8 × Int) × Int × Int × Int) × Bool) =>
        bif !y3.2 then
          some (.inl (([] : List UInt8), ([] : List UInt8), y3.1.2.2, y3.1, d5, d6, d7, d8, []))
        else
          some (.inr (d5, d6, (0, 0), y3.1, d5, d6, d7, d8))
      else
        (c76 rf y1.1).bind fun (y4 : (List (Int × List UInt8 × Int) × Int × Int × Int) × Bool) =>
        bif !y4.2 then
          some (.inl (([] : List UInt8), ([] : List UInt8), y4.1.2.2, y4.1, d5, d6, d7, d8, []))
        else
          some (.inr (d5, d6, (0, 0), y4.1, d5, d6, d7, d8))
    )
  else
    agN 1 (
      (c76 rf y1.1).bind fun (y5 : (List (Int × List UInt8 × Int) × Int × Int × Int) × Bool) =>
      bif !y5.2 then
        some (.inl (([] : List UInt8), ([] : List UInt8), y5.1.2.2, y5.1, d5, d6, d7, d8, []))
      else
        some (.inr (d5, d6, (0, 0), y5.1, d5, d6, d7, d8))
    )
noncomputable def b130 (rf : T.RF) (rb : T.RB) (d1 : List UInt8) (d2 : List UInt8) (d3 : Int × Int) (d4 : List (Int × List UInt8 × Int) × Int × Int × Int) (d5 : List UInt8) (d6 : List UInt8) (d7 : List XU) (d8 : List XU) : Option ((List UInt8 × List UInt8 × (Int × Int) × (List (Int × List UInt8 × Int) × Int × Int × Int) × List UInt8 × List UInt8 × List XU × List XU × List XU) ⊕ (List UInt8 × List UInt8 × (Int × Int) × (List (Int × List UInt8 × Int) × Int × Int × Int) × List UInt8 × List UInt8 × List XU × List XU)) :=
  (c76 rf d4).bind fun (y1 : (List (Int × List UInt8 × Int) × Int × Int × Int) × Bool) =>
  bif y1.2 then
    bif decide (y1.1.2.1 < (((y1.1.1.length : Nat) : Int))) then
      (c79 rf y1.1 5).bind fun (y2 : List (Int × List UInt8 × Int) × Int × Int × Int) =>
      (c76 rf y2).bind fun (y3 : (List (Int × List UInt8 × Int) × Int × Int × Int) × Bool) =>
      bif !y3.2 then
        some (.inl (([] : List UInt8), ([] : List UInt8), y3.1.2.2, y3.1, d5, d6, d7, d8, []))
      else
        some (.inr (d5, d6, (0, 0), y3.1, d5, d6, d7, d8))
    else
      (c76 rf y1.1).bind fun (y4 : (List (Int × List UInt8 × Int) × Int × Int × Int) × Bool) =>
      bif !y4.2 then
        some (.inl (([] : List UInt8), ([] : List UInt8), y4.1.2.2, y4.1, d5, d6, d7, d8, []))
      else
        some (.inr (d5, d6, (0, 0), y4.1, d5, d6, d7, d8))
  else
    (c76 rf y1.1).bind fun (y5 : (List (Int × List UInt8 × Int) × Int × Int × Int) × Bool) =>
    bif !y5.2 then
      some (.inl (([] : List UInt8), ([] : List UInt8), y5.1.2.2, y5.1, d5, d6, d7, d8, []))
    else
      some (.inr (d5, d6, (0, 0), y5.1, d5, d6, d7, d8))
theorem eb130 (rf : T.RF) (rb : T.RB) (d1 : List UInt8) (d2 : List UInt8) (d3 : Int × Int) (d4 : List (Int × List UInt8 × Int) × Int × Int × Int) (d5 : List UInt8) (d6 : List UInt8) (d7 : List XU) (d8 : List XU) : T.stepB rf rb 130 (d1, d2, d3, d4, d5, d6, d7, d8) = b130q rf rb d1 d2 d3 d4 d5 d6 d7 d8 := by kernel_rfl
theorem sb130 (rf : T.RF) (rb : T.RB) (d1 : List UInt8) (d2 : List UInt8) (d3 : Int × Int) (d4 : List (Int × List UInt8 × Int) × Int × Int × Int) (d5 : List UInt8) (d6 : List UInt8) (d7 : List XU) (d8 : List XU) : b130q rf rb d1 d2 d3 d4 d5 d6 d7 d8 = b130 rf rb d1 d2 d3 d4 d5 d6 d7 d8 := by
  unfold b130q b130; simp only [agN_eq, agree_self, agree_swap]
theorem ob130 {d1 : List UInt8} {d2 : List UInt8} {d3 : Int × Int} {d4 : List (Int × List UInt8 × Int) × Int × Int × Int} {d5 : List UInt8} {d6 : List UInt8} {d7 : List XU} {d8 : List XU} {y : ((List UInt8 × List UInt8 × (Int × Int) × (List (Int × List UInt8 × Int) × Int × Int × Int) × List UInt8 × List UInt8 × List XU × List XU × List XU) ⊕ (List UInt8 × List UInt8 × (Int × Int) × (List (Int × List UInt8 × Int) × Int × Int × Int) × List UInt8 × List UInt8 × List XU × List XU))} (h : b130 T.rf T.rb d1 d2 d3 d4 d5 d6 d7 d8 = some y) : k130 T.rb d1 d2 d3 d4 d5 d6 d7 d8 = some y := T.rb_of (κ := 130) (d := (d1, d2, d3, d4, d5, d6, d7, d8)) (((eb130 T.rf T.rb d1 d2 d3 d4 d5 d6 d7 d8).trans (sb130 T.rf T.rb d1 d2 d3 d4 d5 d6 d7 d8)).trans h)

/- bailmentref06.Parse -/
noncomputable def r68 (rf : T.RF) (rb : T.RB) (d1 : List UInt8) : Option ((List XU × List UInt8 × List UInt8) × Int × Int) :=
  (c3 rf d1).bind fun (y1 : List (Int × List UInt8 × Int) × Int × Int) =>
  bif y1.2.1 != 0 then
    some (([], ([] : List UInt8), ([] : List UInt8)), y1.2)
  else
    (k129 rb (y1.1, 0, 0, 0) ([] : List UInt8) ([] : List UInt8) []).bind fun (z2 : (List (Int × List UInt8 × Int) × Int × Int × Int) × List UInt8 × List UInt8 × List XU) =>
    (c81 rf z2.1 ([109, 97, 105, 110] : List UInt8)).bind fun (y3 : List (Int × List UInt8 × Int) × Int × Int × Int) =>
    (c77 rf y3).bind fun (y4 : (List (Int × List UInt8 × Int) × Int × Int × Int) × List UInt8) =>
    (c81 rf y4.1 ([59] : List UInt8)).bind fun (y5 : List (Int × List UInt8 × Int) × Int × Int × Int) =>
    (c74 rf y5 ([102, 97, 108, 108, 98, 97, 99, 107] : List UInt8)).bind fun (y6 : (List (Int × List UInt8 × Int) × Int × Int × Int) × Bool) =>
    bif y6.2 then
      (c77 rf y6.1).bind fun (y7 : (List (Int × List UInt8 × Int) × Int × Int × Int) × List UInt8) =>
      (c81 rf y7.1 ([59] : List UInt8)).bind fun (y8 : List (Int × List UInt8 × Int) × Int × Int × Int) =>
      (k130 rb ([] : List UInt8) ([] : List UInt8) (0, 0) y8 y4.2 y7.2 [] z2.2.2.2).bind fun (z9 : (List UInt8 × List UInt8 × (Int × Int) × (List (Int × List UInt8 × Int) × Int × Int × Int) × List UInt8 × List UInt8 × List XU × List XU × List XU) ⊕ (List UInt8 × List UInt8 × (Int × Int) × (List (Int × List UInt8 × Int) × Int × Int × Int) × List UInt8 × List UInt8 × List XU × List XU)) =>
      match z9 with
      | .inl u10 =>
        some ((u10.2.2.2.2.2.2.2.2, u10.1, u10.2.1), u10.2.2.1)
      | .inr w11 =>
        some ((w11.2.2.2.2.2.2.2, w11.1, w11.2.1), w11.2.2.1)
    else
      (k130 rb ([] : List UInt8) ([] : List UInt8) (0, 0) y6.1 y4.2 z2.2.2.1 [] z2.2.2.2).bind fun (z12 : (List UInt8 × List UInt8 × (Int × Int) × (List (Int × List UInt8 × Int) × Int × Int × Int) × List UInt8 × List UInt8 × List XU × List XU × List XU) ⊕ (List UInt8 × List UInt8 × (Int × Int) × (List (Int × List UInt8 × Int) × Int × Int × Int) × List UInt8 × List UInt8 × List XU × List XU)) =>
      match z12 with
      | .inl u13 =>
        some ((u13.2.2.2.2.2.2.2.2, u13.1, u13.2.1), u13.2.2.1)
      | .inr w14 =>
        some ((w14.2.2.2.2.2.2.2, w14.1, w14.2.1), w14.2.2.1)
theorem er68 (rf : T.RF) (rb : T.RB) (d1 : List UInt8) : T.stepF rf rb 68 d1 = r68 rf rb d1 := by kernel_rfl
theorem or68 {d1 : List UInt8} {y : ((List XU × List UInt8 × List UInt8) × Int × Int)} (h : r68 T.rf T.rb d1 = some y) : c68 T.rf d1 = some y := T.rf_of (f := 68) (d := d1) ((er68 T.rf T.rb d1).trans h)

/- bailmentref02.Texts loop 0 -/
noncomputable def b131 (rf : T.RF) (rb : T.RB) (d1 : List (List UInt8)) (d2 : List (List UInt8)) (d3 : Int) : Option (Bool ⊕ Unit) :=
  bif decide (d3 < (((d1.length : Nat) : Int))) then
    bif inb d3 d1.length then
      (nth d1 d3.toNat).bind fun (x1 : List UInt8) =>
      bif inb d3 d2.length then
        (nth d2 d3.toNat).bind fun (x2 : List UInt8) =>
        bif !(x1 == x2) then
          some (.inl false)
        else
          k131 rb d1 d2 (IntKind.i64.wrap (d3 + 1))
      else
        none
    else
      none
  else
    some (.inr ())
theorem eb131 (rf : T.RF) (rb : T.RB) (d1 : List (List UInt8)) (d2 : List (List UInt8)) (d3 : Int) : T.stepB rf rb 131 (d1, d2, d3) = b131 rf rb d1 d2 d3 := by kernel_rfl
theorem ob131 {d1 : List (List UInt8)} {d2 : List (List UInt8)} {d3 : Int} {y : (Bool ⊕ Unit)} (h : b131 T.rf T.rb d1 d2 d3 = some y) : k131 T.rb d1 d2 d3 = some y := T.rb_of (κ := 131) (d := (d1, d2, d3)) ((eb131 T.rf T.rb d1 d2 d3).trans h)

/- bailmentref02.Texts -/
noncomputable def r91 (rf : T.RF) (rb : T.RB) (d1 : List (List UInt8)) (d2 : List (List UInt8)) : Option Bool :=
  bif (((d1.length : Nat) : Int)) != (((d2.length : Nat) : Int)) then
    some false
  else
    (k131 rb d1 d2 0).bind fun (z1 : Bool ⊕ Unit) =>
    match z1 with
    | .inl u2 =>
      some u2
    | .inr w3 =>
      some true
theorem er91 (rf : T.RF) (rb : T.RB) (d1 : List (List UInt8)) (d2 : List (List UInt8)) : T.stepF rf rb 91 (d1, d2) = r91 rf rb d1 d2 := by kernel_rfl
theorem or91 {d1 : List (List UInt8)} {d2 : List (List UInt8)} {y : Bool} (h : r91 T.rf T.rb d1 d2 = some y) : c91 T.rf d1 d2 = some y := T.rf_of (f := 91) (d := (d1, d2)) ((er91 T.rf T.rb d1 d2).trans h)

/- bailmentref03.Ints loop 0 -/
noncomputable def b132 (rf : T.RF) (rb : T.RB) (d1 : List Int) (d2 : List Int) (d3 : Int) : Option (Bool ⊕ Unit) :=
  bif decide (d3 < (((d1.length : Nat) : Int))) then
    bif inb d3 d1.length then
      (nth d1 d3.toNat).bind fun (x1 : Int) =>
      bif inb d3 d2.length then
        (nth d2 d3.toNat).bind fun (x2 : Int) =>
        bif x1 != x2 then
          some (.inl false)
        else
          k132 rb d1 d2 (IntKind.i64.wrap (d3 + 1))
      else
        none
    else
      none
  else
    some (.inr ())
theorem eb132 (rf : T.RF) (rb : T.RB) (d1 : List Int) (d2 : List Int) (d3 : Int) : T.stepB rf rb 132 (d1, d2, d3) = b132 rf rb d1 d2 d3 := by kernel_rfl
theorem ob132 {d1 : List Int} {d2 : List Int} {d3 : Int} {y : (Bool ⊕ Unit)} (h : b132 T.rf T.rb d1 d2 d3 = some y) : k132 T.rb d1 d2 d3 = some y := T.rb_of (κ := 132) (d := (d1, d2, d3)) ((eb132 T.rf T.rb d1 d2 d3).trans h)

/- bailmentref03.Ints -/
noncomputable def r92 (rf : T.RF) (rb : T.RB) (d1 : List Int) (d2 : List Int) : Option Bool :=
  bif (((d1.length : Nat) : Int)) != (((d2.length : Nat) : Int)) then
    some false
  else
    (k132 rb d1 d2 0).bind fun (z1 : Bool ⊕ Unit) =>
    match z1 with
    | .inl u2 =>
      some u2
    | .inr w3 =>
      some true
theorem er92 (rf : T.RF) (rb : T.RB) (d1 : List Int) (d2 : List Int) : T.stepF rf rb 92 (d1, d2) = r92 rf rb d1 d2 := by kernel_rfl
theorem or92 {d1 : List Int} {d2 : List Int} {y : Bool} (h : r92 T.rf T.rb d1 d2 = some y) : c92 T.rf d1 d2 = some y := T.rf_of (f := 92) (d := (d1, d2)) ((er92 T.rf T.rb d1 d2).trans h)

/- cause.Check loop 0 -/
noncomputable def b133 (rf : T.RF) (rb : T.RB) (d1 : Int × Int) (d2 : List XU) (d3 : Int) (d4 : Int) : Option ((Int × Int) ⊕ (Int × Int)) :=
  bif decide (d4 < d3) then
    bif inb d4 d2.length then
      (nth d2 d4.toNat).bind fun (x1 : XU) =>
      (c44 rf x1.2.2.2.2.2.2.1).bind fun (y2 : List Int × Int) =>
      bif y2.2 != 0 then
        some (.inl (y2.2, d4))
      else
        k133 rb d1 d2 d3 (IntKind.i64.wrap (d4 + 1))
    else
      none
  else
    some (.inr d1)
theorem eb133 (rf : T.RF) (rb : T.RB) (d1 : Int × Int) (d2 : List XU) (d3 : Int) (d4 : Int) : T.stepB rf rb 133 (d1, d2, d3, d4) = b133 rf rb d1 d2 d3 d4 := by kernel_rfl
theorem ob133 {d1 : Int × Int} {d2 : List XU} {d3 : Int} {d4 : Int} {y : ((Int × Int) ⊕ (Int × Int))} (h : b133 T.rf T.rb d1 d2 d3 d4 = some y) : k133 T.rb d1 d2 d3 d4 = some y := T.rb_of (κ := 133) (d := (d1, d2, d3, d4)) ((eb133 T.rf T.rb d1 d2 d3 d4).trans h)

/- cause.Check -/
noncomputable def r93 (rf : T.RF) (rb : T.RB) (d1 : List XU × List UInt8 × List UInt8) : Option (Int × Int) :=
  (k133 rb (0, 0) d1.1 (((d1.1.length : Nat) : Int)) 0).bind fun (z1 : (Int × Int) ⊕ (Int × Int)) =>
  match z1 with
  | .inl u2 =>
    some u2
  | .inr w3 =>
    some (0, 0)
theorem er93 (rf : T.RF) (rb : T.RB) (d1 : List XU × List UInt8 × List UInt8) : T.stepF rf rb 93 d1 = r93 rf rb d1 := by kernel_rfl
theorem or93 {d1 : List XU × List UInt8 × List UInt8} {y : (Int × Int)} (h : r93 T.rf T.rb d1 = some y) : c93 T.rf d1 = some y := T.rf_of (f := 93) (d := d1) ((er93 T.rf T.rb d1).trans h)

/- bailmentlaw11.live -/
noncomputable def r1 (rf : T.RF) (rb : T.RB) : Option Bool :=
  (c2 rf ([97, 32, 43, 32, 112, 114, 101, 32, 98, 32, 43, 32, 102, 40, 99, 44, 32, 112, 114, 101, 118, 32, 100, 41, 32, 43, 32, 97] : List UInt8)).bind fun (y1 : XL × Int × Int) =>
  (c43 rf ([120] : List UInt8) ([121] : List UInt8)).bind fun (y2 : List UInt8 × XL) =>
  (c43 rf ([121] : List UInt8) ([48, 32, 45, 62, 32, 112, 114, 101, 32, 120] : List UInt8)).bind fun (y3 : List UInt8 × XL) =>
  (c44 rf [y2, y3]).bind fun (y4 : List Int × Int) =>
  (c43 rf ([120] : List UInt8) ([121] : List UInt8)).bind fun (y5 : List UInt8 × XL) =>
  (c43 rf ([121] : List UInt8) ([120] : List UInt8)).bind fun (y6 : List UInt8 × XL) =>
  (c44 rf [y5, y6]).bind fun (y7 : List Int × Int) =>
  (c68 rf ([110, 111, 100, 101, 32, 102, 40, 41, 32, 114, 101, 116, 117, 114, 110, 115, 40, 99, 58, 105, 110, 116, 41, 32, 108, 101, 116, 32, 99, 61, 99, 59, 32, 116, 101, 108, 32, 109, 97, 105, 110, 32, 102, 59] : List UInt8)).bind fun (y8 : (List XU × List UInt8 × List UInt8) × Int × Int) =>
  (c45 rf y1.1).bind fun (y9 : List (List UInt8)) =>
  (c91 rf y9 [([97] : List UInt8), ([99] : List UInt8)]).bind fun (y10 : Bool) =>
  bif y10 then
    (c92 rf y4.1 [1, 0]).bind fun (y11 : Bool) =>
    bif y11 then
      bif y4.2 == 0 then
        bif (((y7.1.length : Nat) : Int)) == 0 then
          bif y7.2 == 12 then
            (c93 rf y8.1).bind fun (y12 : Int × Int) =>
            bif (y12.1 == 12) && (y12.2 == 0) then
              (c93 rf ([], ([] : List UInt8), ([] : List UInt8))).bind fun (y13 : Int × Int) =>
              some ((y13.1 == 0) && (y13.2 == 0))
            else
              some false
          else
            some false
        else
          some false
      else
        some false
    else
      some false
  else
    some false
theorem er1 (rf : T.RF) (rb : T.RB) : T.stepF rf rb 1 () = r1 rf rb := by kernel_rfl
theorem or1 {y : Bool} (h : r1 T.rf T.rb = some y) : c1 T.rf = some y := T.rf_of (f := 1) (d := ()) ((er1 T.rf T.rb).trans h)

/- bailmentref03.bare -/
noncomputable def r98 (rf : T.RF) (rb : T.RB) (d1 : XN) : Option Bool :=
  (c29 rf d1).bind fun (y1 : List Int) =>
  bif d1.1 == 27 then
    bif d1.2.2.1 == (-1) then
      some (d1.2.2.2.1 == (-1))
    else
      some false
  else
  bif d1.1 == 28 then
    some (d1.2.2.2.1 == (-1))
  else
  bif decide ((((y1.length : Nat) : Int)) > 0) then
    bif decide ((((y1.length : Nat) : Int)) > 1) then
      bif decide ((((y1.length : Nat) : Int)) > 2) then
        some true
      else
        some (d1.2.2.2.1 == (-1))
    else
    bif d1.2.2.1 == (-1) then
      bif decide ((((y1.length : Nat) : Int)) > 2) then
        some true
      else
        some (d1.2.2.2.1 == (-1))
    else
      some false
  else
  bif d1.2.1 == (-1) then
    bif decide ((((y1.length : Nat) : Int)) > 1) then
      bif decide ((((y1.length : Nat) : Int)) > 2) then
        some true
      else
        some (d1.2.2.2.1 == (-1))
    else
    bif d1.2.2.1 == (-1) then
      bif decide ((((y1.length : Nat) : Int)) > 2) then
        some true
      else
        some (d1.2.2.2.1 == (-1))
    else
      some false
  else
    some false
theorem er98 (rf : T.RF) (rb : T.RB) (d1 : XN) : T.stepF rf rb 98 d1 = r98 rf rb d1 := by kernel_rfl
theorem or98 {d1 : XN} {y : Bool} (h : r98 T.rf T.rb d1 = some y) : c98 T.rf d1 = some y := T.rf_of (f := 98) (d := d1) ((er98 T.rf T.rb d1).trans h)

/- bailmentref03.plain -/
noncomputable def r99 (rf : T.RF) (rb : T.RB) (d1 : XN) : Option Bool :=
  bif d1.1 == 3 then
    bif !((!(d1.2.2.2.2.2 == ([] : List UInt8))) == true) then
      some false
    else
    bif d1.1 == 1 then
      bif decide (d1.2.2.2.2.1 ≥ 0) then
        some (decide (d1.2.2.2.2.1 ≤ 2147483647))
      else
        some false
    else
    bif d1.1 == 2 then
      bif d1.2.2.2.2.1 == 0 then
        some true
      else
        some (d1.2.2.2.2.1 == 1)
    else
    bif d1.1 == 25 then
      bif decide (d1.2.2.2.2.1 ≥ 0) then
        some (decide (d1.2.2.2.2.1 ≤ 1000))
      else
        some false
    else
      some (d1.2.2.2.2.1 == 0)
  else
  bif !((!(d1.2.2.2.2.2 == ([] : List UInt8))) == (d1.1 == 27)) then
    some false
  else
  bif d1.1 == 1 then
    bif decide (d1.2.2.2.2.1 ≥ 0) then
      some (decide (d1.2.2.2.2.1 ≤ 2147483647))
    else
      some false
  else
  bif d1.1 == 2 then
    bif d1.2.2.2.2.1 == 0 then
      some true
    else
      some (d1.2.2.2.2.1 == 1)
  else
  bif d1.1 == 25 then
    bif decide (d1.2.2.2.2.1 ≥ 0) then
      some (decide (d1.2.2.2.2.1 ≤ 1000))
    else
      some false
  else
    some (d1.2.2.2.2.1 == 0)
theorem er99 (rf : T.RF) (rb : T.RB) (d1 : XN) : T.stepF rf rb 99 d1 = r99 rf rb d1 := by kernel_rfl
theorem or99 {d1 : XN} {y : Bool} (h : r99 T.rf T.rb d1 = some y) : c99 T.rf d1 = some y := T.rf_of (f := 99) (d := d1) ((er99 T.rf T.rb d1).trans h)

/- bailmentref03.args loop 0 -/
noncomputable def b136 (rf : T.RF) (rb : T.RB) (d1 : XN) (d2 : List Int) (d3 : XL) (d4 : Int) : Option ((XN × List Int × Bool) ⊕ (XN × List Int)) :=
  bif decide (d4 < (((d2.length : Nat) : Int))) then
    bif inb d4 d2.length then
      (nth d2 d4.toNat).bind fun (x1 : Int) =>
      bif inb x1 d3.length then
        (nth d3 x1.toNat).bind fun (x2 : XN) =>
        bif d1.1 == 27 then
          bif !((x2.1 == 28) == true) then
            some (.inl (d1, d2, false))
          else
            k136 rb d1 d2 d3 (IntKind.i64.wrap (d4 + 1))
        else
        bif d1.1 == 28 then
          bif (((d2.length : Nat) : Int)) == 2 then
            bif !((x2.1 == 28) == (d4 == 0)) then
              some (.inl (d1, d2, false))
            else
              k136 rb d1 d2 d3 (IntKind.i64.wrap (d4 + 1))
          else
          bif !((x2.1 == 28) == false) then
            some (.inl (d1, d2, false))
          else
            k136 rb d1 d2 d3 (IntKind.i64.wrap (d4 + 1))
        else
        bif !((x2.1 == 28) == false) then
          some (.inl (d1, d2, false))
        else
          k136 rb d1 d2 d3 (IntKind.i64.wrap (d4 + 1))
      else
        none
    else
      none
  else
    some (.inr (d1, d2))
theorem eb136 (rf : T.RF) (rb : T.RB) (d1 : XN) (d2 : List Int) (d3 : XL) (d4 : Int) : T.stepB rf rb 136 (d1, d2, d3, d4) = b136 rf rb d1 d2 d3 d4 := by kernel_rfl
theorem ob136 {d1 : XN} {d2 : List Int} {d3 : XL} {d4 : Int} {y : ((XN × List Int × Bool) ⊕ (XN × List Int))} (h : b136 T.rf T.rb d1 d2 d3 d4 = some y) : k136 T.rb d1 d2 d3 d4 = some y := T.rb_of (κ := 136) (d := (d1, d2, d3, d4)) ((eb136 T.rf T.rb d1 d2 d3 d4).trans h)

/- bailmentref03.args -/
noncomputable def r100 (rf : T.RF) (rb : T.RB) (d1 : XL) (d2 : Int) : Option Bool :=
  bif inb d2 d1.length then
    (nth d1 d2.toNat).bind fun (x1 : XN) =>
    (c29 rf x1).bind fun (y2 : List Int) =>
    (k136 rb x1 y2 d1 0).bind fun (z3 : (XN × List Int × Bool) ⊕ (XN × List Int)) =>
    match z3 with
    | .inl u4 =>
      some u4.2.2
    | .inr w5 =>
      some true
  else
    none
theorem er100 (rf : T.RF) (rb : T.RB) (d1 : XL) (d2 : Int) : T.stepF rf rb 100 (d1, d2) = r100 rf rb d1 d2 := by kernel_rfl
theorem or100 {d1 : XL} {d2 : Int} {y : Bool} (h : r100 T.rf T.rb d1 d2 = some y) : c100 T.rf d1 d2 = some y := T.rf_of (f := 100) (d := (d1, d2)) ((er100 T.rf T.rb d1 d2).trans h)

/- bailmentref03.May loop 0 -/
noncomputable def b134 (rf : T.RF) (rb : T.RB) (d1 : List Int) (d2 : XL) (d3 : Int) : Option ((List Int × Bool) ⊕ (List Int)) :=
  bif decide (d3 < (((d2.length : Nat) : Int))) then
    bif inb d3 d2.length then
      (nth d2 d3.toNat).bind fun (x1 : XN) =>
      bif decide (x1.1 < 1) then
        some (.inl (d1, false))
      else
      bif inb d3 d2.length then
        (nth d2 d3.toNat).bind fun (x2 : XN) =>
        bif decide (x2.1 > 28) then
          some (.inl (d1, false))
        else
        bif inb d3 d2.length then
          (nth d2 d3.toNat).bind fun (x3 : XN) =>
          (c98 rf x3).bind fun (y4 : Bool) =>
          bif !y4 then
            some (.inl (d1, false))
          else
          bif inb d3 d2.length then
            (nth d2 d3.toNat).bind fun (x5 : XN) =>
            (c99 rf x5).bind fun (y6 : Bool) =>
            bif !y6 then
              some (.inl (d1, false))
            else
            bif inb d3 d2.length then
              (nth d2 d3.toNat).bind fun (x7 : XN) =>
              (c29 rf x7).bind fun (y8 : List Int) =>
              (k135 rb d1 y8 d3 0).bind fun (z9 : (List Int × List Int × Bool) ⊕ (List Int × List Int)) =>
              match z9 with
              | .inl u10 =>
                some (.inl (u10.1, u10.2.2))
              | .inr w11 =>
                (c100 rf d2 d3).bind fun (y12 : Bool) =>
                bif !y12 then
                  some (.inl (w11.1, false))
                else
                  k134 rb w11.1 d2 (IntKind.i64.wrap (d3 + 1))
            else
              none
          else
            none
        else
          none
      else
        none
    else
      none
  else
    some (.inr d1)
theorem eb134 (rf : T.RF) (rb : T.RB) (d1 : List Int) (d2 : XL) (d3 : Int) : T.stepB rf rb 134 (d1, d2, d3) = b134 rf rb d1 d2 d3 := by kernel_rfl
theorem ob134 {d1 : List Int} {d2 : XL} {d3 : Int} {y : ((List Int × Bool) ⊕ (List Int))} (h : b134 T.rf T.rb d1 d2 d3 = some y) : k134 T.rb d1 d2 d3 = some y := T.rb_of (κ := 134) (d := (d1, d2, d3)) ((eb134 T.rf T.rb d1 d2 d3).trans h)

/- bailmentref03.May loop 2 -/
noncomputable def b135 (rf : T.RF) (rb : T.RB) (d1 : List Int) (d2 : List Int) (d3 : Int) (d4 : Int) : Option ((List Int × List Int × Bool) ⊕ (List Int × List Int)) :=
  bif decide (d4 < (((d2.length : Nat) : Int))) then
    bif inb d4 d2.length then
      (nth d2 d4.toNat).bind fun (x1 : Int) =>
      bif decide (x1 < 0) then
        some (.inl (d1, d2, false))
      else
      bif inb d4 d2.length then
        (nth d2 d4.toNat).bind fun (x2 : Int) =>
        bif decide (x2 ≥ d3) then
          some (.inl (d1, d2, false))
        else
        bif inb d4 d2.length then
          (nth d2 d4.toNat).bind fun (x3 : Int) =>
          bif inb x3 d1.length then
            (nth d1 x3.toNat).bind fun (x4 : Int) =>
            bif inb x3 d1.length then
              bif Nat.blt x3.toNat d1.length then
                k135 rb (setNth d1 x3.toNat (IntKind.i64.wrap (x4 + 1))) d2 d3 (IntKind.i64.wrap (d4 + 1))
              else
                none
            else
              none
          else
            none
        else
          none
      else
        none
    else
      none
  else
    some (.inr (d1, d2))
theorem eb135 (rf : T.RF) (rb : T.RB) (d1 : List Int) (d2 : List Int) (d3 : Int) (d4 : Int) : T.stepB rf rb 135 (d1, d2, d3, d4) = b135 rf rb d1 d2 d3 d4 := by kernel_rfl
theorem ob135 {d1 : List Int} {d2 : List Int} {d3 : Int} {d4 : Int} {y : ((List Int × List Int × Bool) ⊕ (List Int × List Int))} (h : b135 T.rf T.rb d1 d2 d3 d4 = some y) : k135 T.rb d1 d2 d3 d4 = some y := T.rb_of (κ := 135) (d := (d1, d2, d3, d4)) ((eb135 T.rf T.rb d1 d2 d3 d4).trans h)

/- bailmentref03.May loop 4 -/
noncomputable def b137 (rf : T.RF) (rb : T.RB) (d1 : List Int) (d2 : XL) (d3 : Int) : Option ((List Int × Bool) ⊕ (List Int)) :=
  bif decide (d3 < (IntKind.i64.wrap ((((d2.length : Nat) : Int)) - 1))) then
    bif inb d3 d1.length then
      (nth d1 d3.toNat).bind fun (x1 : Int) =>
      bif x1 != 1 then
        some (.inl (d1, false))
      else
        k137 rb d1 d2 (IntKind.i64.wrap (d3 + 1))
    else
      none
  else
    some (.inr d1)
theorem eb137 (rf : T.RF) (rb : T.RB) (d1 : List Int) (d2 : XL) (d3 : Int) : T.stepB rf rb 137 (d1, d2, d3) = b137 rf rb d1 d2 d3 := by kernel_rfl
theorem ob137 {d1 : List Int} {d2 : XL} {d3 : Int} {y : ((List Int × Bool) ⊕ (List Int))} (h : b137 T.rf T.rb d1 d2 d3 = some y) : k137 T.rb d1 d2 d3 = some y := T.rb_of (κ := 137) (d := (d1, d2, d3)) ((eb137 T.rf T.rb d1 d2 d3).trans h)

/- bailmentref03.May -/
noncomputable def r97 (rf : T.RF) (rb : T.RB) (d1 : XL) : Option Bool :=
  bif decide ((((d1.length : Nat) : Int)) < 1) then
    some false
  else
  bif decide ((((d1.length : Nat) : Int)) > 5000) then
    some false
  else
  bif inb' (((d1.length : Nat) : Int)) most then
    bif inb' (((d1.length : Nat) : Int)) d1.length then
      (k134 rb (List.replicate d1.length 0) d1 0).bind fun (z1 : (List Int × Bool) ⊕ (List Int)) =>
      match z1 with
      | .inl u2 =>
        some u2.2
      | .inr w3 =>
        (k137 rb w3 d1 0).bind fun (z4 : (List Int × Bool) ⊕ (List Int)) =>
        match z4 with
        | .inl u5 =>
          some u5.2
        | .inr w6 =>
          bif inb (IntKind.i64.wrap ((((d1.length : Nat) : Int)) - 1)) d1.length then
            (nth d1 (IntKind.i64.wrap ((((d1.length : Nat) : Int)) - 1)).toNat).bind fun (x7 : XN) =>
            bif x7.1 != 28 then
              (c42 rf d1).bind fun (y8 : Int) =>
              some (decide (y8 ≤ 40))
            else
              some false
          else
            none
    else
      none
  else
    none
theorem er97 (rf : T.RF) (rb : T.RB) (d1 : XL) : T.stepF rf rb 97 d1 = r97 rf rb d1 := by kernel_rfl
theorem or97 {d1 : XL} {y : Bool} (h : r97 T.rf T.rb d1 = some y) : c97 T.rf d1 = some y := T.rf_of (f := 97) (d := d1) ((er97 T.rf T.rb d1).trans h)

/- bailmentref03.order loop 0 -/
noncomputable def b139 (rf : T.RF) (rb : T.RB) (d1 : XL) (d2 : List Int) (d3 : List Int) (d4 : XL) (d5 : Int) : Option (List Int × XL × List Int) :=
  bif decide (d5 < (((d2.length : Nat) : Int))) then
    bif inb d5 d2.length then
      (nth d2 d5.toNat).bind fun (x1 : Int) =>
      (c101 rf d1 d4 x1).bind fun (y2 : XL) =>
      bif (Nat.ble (d3.length + 1) most) && true then
        k139 rb y2 d2 (d3 ++ [IntKind.i64.wrap ((((y2.length : Nat) : Int)) - 1)]) d4 (IntKind.i64.wrap (d5 + 1))
      else
        none
    else
      none
  else
    some (d2, d1, d3)
theorem eb139 (rf : T.RF) (rb : T.RB) (d1 : XL) (d2 : List Int) (d3 : List Int) (d4 : XL) (d5 : Int) : T.stepB rf rb 139 (d1, d2, d3, d4, d5) = b139 rf rb d1 d2 d3 d4 d5 := by kernel_rfl
theorem ob139 {d1 : XL} {d2 : List Int} {d3 : List Int} {d4 : XL} {d5 : Int} {y : (List Int × XL × List Int)} (h : b139 T.rf T.rb d1 d2 d3 d4 d5 = some y) : k139 T.rb d1 d2 d3 d4 d5 = some y := T.rb_of (κ := 139) (d := (d1, d2, d3, d4, d5)) ((eb139 T.rf T.rb d1 d2 d3 d4 d5).trans h)

/- bailmentref03.order -/
noncomputable def r101 (rf : T.RF) (rb : T.RB) (d1 : XL) (d2 : XL) (d3 : Int) : Option XL :=
  bif inb d3 d2.length then
    (nth d2 d3.toNat).bind fun (x1 : XN) =>
    (c29 rf x1).bind fun (y2 : List Int) =>
    (k139 rb d1 y2 [] d2 0).bind fun (z3 : List Int × XL × List Int) =>
    bif inb d3 d2.length then
      (nth d2 d3.toNat).bind fun (x4 : XN) =>
      (c32 rf x4 z3.2.2).bind fun (y5 : XN) =>
      bif (Nat.ble (z3.2.1.length + 1) most) && true then
        some (z3.2.1 ++ [y5])
      else
        none
    else
      none
  else
    none
theorem er101 (rf : T.RF) (rb : T.RB) (d1 : XL) (d2 : XL) (d3 : Int) : T.stepF rf rb 101 (d1, d2, d3) = r101 rf rb d1 d2 d3 := by kernel_rfl
theorem or101 {d1 : XL} {d2 : XL} {d3 : Int} {y : XL} (h : r101 T.rf T.rb d1 d2 d3 = some y) : c101 T.rf d1 d2 d3 = some y := T.rf_of (f := 101) (d := (d1, d2, d3)) ((er101 T.rf T.rb d1 d2 d3).trans h)

/- bailmentref03.Sub -/
noncomputable def r96 (rf : T.RF) (rb : T.RB) (d1 : XL) (d2 : Int) : Option XL :=
  (c97 rf d1).bind fun (y1 : Bool) =>
  bif !y1 then
    some []
  else
  bif decide (d2 < 0) then
    some []
  else
  bif decide (d2 ≥ (((d1.length : Nat) : Int))) then
    some []
  else
    (c101 rf [] d1 d2).bind fun (y2 : XL) =>
    some y2
theorem er96 (rf : T.RF) (rb : T.RB) (d1 : XL) (d2 : Int) : T.stepF rf rb 96 (d1, d2) = r96 rf rb d1 d2 := by kernel_rfl
theorem or96 {d1 : XL} {d2 : Int} {y : XL} (h : r96 T.rf T.rb d1 d2 = some y) : c96 T.rf d1 d2 = some y := T.rf_of (f := 96) (d := (d1, d2)) ((er96 T.rf T.rb d1 d2).trans h)

/- bailmentref03.Norm -/
noncomputable def r95 (rf : T.RF) (rb : T.RB) (d1 : XL) : Option XL :=
  (c96 rf d1 (IntKind.i64.wrap ((((d1.length : Nat) : Int)) - 1))).bind fun (y1 : XL) =>
  some y1
theorem er95 (rf : T.RF) (rb : T.RB) (d1 : XL) : T.stepF rf rb 95 d1 = r95 rf rb d1 := by kernel_rfl
theorem or95 {d1 : XL} {y : XL} (h : r95 T.rf T.rb d1 = some y) : c95 T.rf d1 = some y := T.rf_of (f := 95) (d := d1) ((er95 T.rf T.rb d1).trans h)

/- bailmentref11.Later loop 0 -/
noncomputable def b144 (rf : T.RF) (rb : T.RB) (d1 : List Bool) (d2 : XL) (d3 : Int) : Option (List Bool) :=
  bif decide (d3 ≥ 0) then
    bif inb d3 d2.length then
      (nth d2 d3.toNat).bind fun (x1 : XN) =>
      (c29 rf x1).bind fun (y2 : List Int) =>
      (k145 rb d1 y2 d2 d3 0).bind fun (z3 : List Bool × List Int) =>
      k144 rb z3.1 d2 (IntKind.i64.wrap (d3 - 1))
    else
      none
  else
    some d1
theorem eb144 (rf : T.RF) (rb : T.RB) (d1 : List Bool) (d2 : XL) (d3 : Int) : T.stepB rf rb 144 (d1, d2, d3) = b144 rf rb d1 d2 d3 := by kernel_rfl
theorem ob144 {d1 : List Bool} {d2 : XL} {d3 : Int} {y : (List Bool)} (h : b144 T.rf T.rb d1 d2 d3 = some y) : k144 T.rb d1 d2 d3 = some y := T.rb_of (κ := 144) (d := (d1, d2, d3)) ((eb144 T.rf T.rb d1 d2 d3).trans h)

/- bailmentref11.Later loop 2 -/
noncomputable def b145 (rf : T.RF) (rb : T.RB) (d1 : List Bool) (d2 : List Int) (d3 : XL) (d4 : Int) (d5 : Int) : Option (List Bool × List Int) :=
  bif decide (d5 < (((d2.length : Nat) : Int))) then
    bif inb d5 d2.length then
      (nth d2 d5.toNat).bind fun (x1 : Int) =>
      bif inb d4 d1.length then
        (nth d1 d4.toNat).bind fun (x2 : Bool) =>
        bif x2 then
          bif inb x1 d1.length then
            bif Nat.blt x1.toNat d1.length then
              k145 rb (setNth d1 x1.toNat true) d2 d3 d4 (IntKind.i64.wrap (d5 + 1))
            else
              none
          else
            none
        else
        bif inb d4 d3.length then
          (nth d3 d4.toNat).bind fun (x3 : XN) =>
          bif x3.1 == 21 then
            bif inb x1 d1.length then
              bif Nat.blt x1.toNat d1.length then
                k145 rb (setNth d1 x1.toNat true) d2 d3 d4 (IntKind.i64.wrap (d5 + 1))
              else
                none
            else
              none
          else
          bif inb d4 d3.length then
            (nth d3 d4.toNat).bind fun (x4 : XN) =>
            bif inb x1 d1.length then
              bif Nat.blt x1.toNat d1.length then
                k145 rb (setNth d1 x1.toNat (x4.1 == 24)) d2 d3 d4 (IntKind.i64.wrap (d5 + 1))
              else
                none
            else
              none
          else
            none
        else
          none
      else
        none
    else
      none
  else
    some (d1, d2)
theorem eb145 (rf : T.RF) (rb : T.RB) (d1 : List Bool) (d2 : List Int) (d3 : XL) (d4 : Int) (d5 : Int) : T.stepB rf rb 145 (d1, d2, d3, d4, d5) = b145 rf rb d1 d2 d3 d4 d5 := by kernel_rfl
theorem ob145 {d1 : List Bool} {d2 : List Int} {d3 : XL} {d4 : Int} {d5 : Int} {y : (List Bool × List Int)} (h : b145 T.rf T.rb d1 d2 d3 d4 d5 = some y) : k145 T.rb d1 d2 d3 d4 d5 = some y := T.rb_of (κ := 145) (d := (d1, d2, d3, d4, d5)) ((eb145 T.rf T.rb d1 d2 d3 d4 d5).trans h)

/- bailmentref11.Later -/
noncomputable def r102 (rf : T.RF) (rb : T.RB) (d1 : XL) : Option (List Bool) :=
  bif inb' (((d1.length : Nat) : Int)) most then
    bif inb' (((d1.length : Nat) : Int)) d1.length then
      (k144 rb (List.replicate d1.length false) d1 (IntKind.i64.wrap ((((d1.length : Nat) : Int)) - 1))).bind fun (z1 : List Bool) =>
      some z1
    else
      none
  else
    none
theorem er102 (rf : T.RF) (rb : T.RB) (d1 : XL) : T.stepF rf rb 102 d1 = r102 rf rb d1 := by kernel_rfl
theorem or102 {d1 : XL} {y : (List Bool)} (h : r102 T.rf T.rb d1 = some y) : c102 T.rf d1 = some y := T.rf_of (f := 102) (d := d1) ((er102 T.rf T.rb d1).trans h)

/- bailmentref11.has loop 0 -/
noncomputable def b147 (rf : T.RF) (rb : T.RB) (d1 : List (List UInt8)) (d2 : List UInt8) (d3 : Int) : Option ((List (List UInt8) × Bool) ⊕ (List (List UInt8))) :=
  bif decide (d3 < (((d1.length : Nat) : Int))) then
    bif inb d3 d1.length then
      (nth d1 d3.toNat).bind fun (x1 : List UInt8) =>
      bif x1 == d2 then
        some (.inl (d1, true))
      else
        k147 rb d1 d2 (IntKind.i64.wrap (d3 + 1))
    else
      none
  else
    some (.inr d1)
theorem eb147 (rf : T.RF) (rb : T.RB) (d1 : List (List UInt8)) (d2 : List UInt8) (d3 : Int) : T.stepB rf rb 147 (d1, d2, d3) = b147 rf rb d1 d2 d3 := by kernel_rfl
theorem ob147 {d1 : List (List UInt8)} {d2 : List UInt8} {d3 : Int} {y : ((List (List UInt8) × Bool) ⊕ (List (List UInt8)))} (h : b147 T.rf T.rb d1 d2 d3 = some y) : k147 T.rb d1 d2 d3 = some y := T.rb_of (κ := 147) (d := (d1, d2, d3)) ((eb147 T.rf T.rb d1 d2 d3).trans h)

/- bailmentref11.has -/
noncomputable def r103 (rf : T.RF) (rb : T.RB) (d1 : List (List UInt8)) (d2 : List UInt8) : Option (List (List UInt8) × Bool) :=
  (k147 rb d1 d2 0).bind fun (z1 : (List (List UInt8) × Bool) ⊕ (List (List UInt8))) =>
  match z1 with
  | .inl u2 =>
    some u2
  | .inr w3 =>
    some (w3, false)
theorem er103 (rf : T.RF) (rb : T.RB) (d1 : List (List UInt8)) (d2 : List UInt8) : T.stepF rf rb 103 (d1, d2) = r103 rf rb d1 d2 := by kernel_rfl
theorem or103 {d1 : List (List UInt8)} {d2 : List UInt8} {y : (List (List UInt8) × Bool)} (h : r103 T.rf T.rb d1 d2 = some y) : c103 T.rf d1 d2 = some y := T.rf_of (f := 103) (d := (d1, d2)) ((er103 T.rf T.rb d1 d2).trans h)

/- bailmentref11.Needs loop 0 -/
noncomputable def b148 (rf : T.RF) (rb : T.RB) (d1 : List Bool) (d2 : List (List UInt8)) (d3 : XL) (d4 : Int) : Option (List Bool × List (List UInt8)) :=
  bif decide (d4 < (((d3.length : Nat) : Int))) then
    bif inb d4 d3.length then
      (nth d3 d4.toNat).bind fun (x1 : XN) =>
      bif x1.1 == 3 then
        bif inb d4 d1.length then
          (nth d1 d4.toNat).bind fun (x2 : Bool) =>
          bif !x2 then
            bif inb d4 d3.length then
              (nth d3 d4.toNat).bind fun (x3 : XN) =>
              (c103 rf d2 x3.2.2.2.2.2).bind fun (y4 : List (List UInt8) × Bool) =>
              bif !y4.2 then
                bif inb d4 d3.length then
                  (nth d3 d4.toNat).bind fun (x5 : XN) =>
                  bif (Nat.ble (y4.1.length + 1) most) && true then
                    k148 rb d1 (y4.1 ++ [x5.2.2.2.2.2]) d3 (IntKind.i64.wrap (d4 + 1))
                  else
                    none
                else
                  none
              else
                k148 rb d1 y4.1 d3 (IntKind.i64.wrap (d4 + 1))
            else
              none
          else
            k148 rb d1 d2 d3 (IntKind.i64.wrap (d4 + 1))
        else
          none
      else
        k148 rb d1 d2 d3 (IntKind.i64.wrap (d4 + 1))
    else
      none
  else
    some (d1, d2)
theorem eb148 (rf : T.RF) (rb : T.RB) (d1 : List Bool) (d2 : List (List UInt8)) (d3 : XL) (d4 : Int) : T.stepB rf rb 148 (d1, d2, d3, d4) = b148 rf rb d1 d2 d3 d4 := by kernel_rfl
theorem ob148 {d1 : List Bool} {d2 : List (List UInt8)} {d3 : XL} {d4 : Int} {y : (List Bool × List (List UInt8))} (h : b148 T.rf T.rb d1 d2 d3 d4 = some y) : k148 T.rb d1 d2 d3 d4 = some y := T.rb_of (κ := 148) (d := (d1, d2, d3, d4)) ((eb148 T.rf T.rb d1 d2 d3 d4).trans h)

/- bailmentref11.Needs -/
noncomputable def r94 (rf : T.RF) (rb : T.RB) (d1 : XL) : Option (List (List UInt8)) :=
  (c95 rf d1).bind fun (y1 : XL) =>
  (c102 rf y1).bind fun (y2 : List Bool) =>
  (k148 rb y2 [] y1 0).bind fun (z3 : List Bool × List (List UInt8)) =>
  some z3.2
theorem er94 (rf : T.RF) (rb : T.RB) (d1 : XL) : T.stepF rf rb 94 d1 = r94 rf rb d1 := by kernel_rfl
theorem or94 {d1 : XL} {y : (List (List UInt8))} (h : r94 T.rf T.rb d1 = some y) : c94 T.rf d1 = some y := T.rf_of (f := 94) (d := d1) ((er94 T.rf T.rb d1).trans h)

/- bailmentlaw11.CauseNeeds -/
noncomputable def r0 (rf : T.RF) (rb : T.RB) (d1 : XL) : Option Bool :=
  bif decide ((((d1.length : Nat) : Int)) > 300) then
    (c1 rf).bind fun (y1 : Bool) =>
    some y1
  else
    (c45 rf d1).bind fun (y2 : List (List UInt8)) =>
    (c94 rf d1).bind fun (y3 : List (List UInt8)) =>
    (c91 rf y2 y3).bind fun (y4 : Bool) =>
    bif y4 then
      (c1 rf).bind fun (y5 : Bool) =>
      some y5
    else
      some false
theorem er0 (rf : T.RF) (rb : T.RB) (d1 : XL) : T.stepF rf rb 0 d1 = r0 rf rb d1 := by kernel_rfl
theorem or0 {d1 : XL} {y : Bool} (h : r0 T.rf T.rb d1 = some y) : c0 T.rf d1 = some y := T.rf_of (f := 0) (d := d1) ((er0 T.rf T.rb d1).trans h)

/- bailmentlaw11.few loop 0 -/
noncomputable def b149 (rf : T.RF) (rb : T.RB) (d1 : List (List UInt8 × XL)) (d2 : Int) : Option (Bool ⊕ Unit) :=
  bif decide (d2 < (((d1.length : Nat) : Int))) then
    bif inb d2 d1.length then
      (nth d1 d2.toNat).bind fun (x1 : List UInt8 × XL) =>
      bif decide ((((x1.2.length : Nat) : Int)) > 100) then
        some (.inl false)
      else
      bif inb d2 d1.length then
        (nth d1 d2.toNat).bind fun (x2 : List UInt8 × XL) =>
        bif decide ((((x2.1.length : Nat) : Int)) > 100) then
          some (.inl false)
        else
          k149 rb d1 (IntKind.i64.wrap (d2 + 1))
      else
        none
    else
      none
  else
    some (.inr ())
theorem eb149 (rf : T.RF) (rb : T.RB) (d1 : List (List UInt8 × XL)) (d2 : Int) : T.stepB rf rb 149 (d1, d2) = b149 rf rb d1 d2 := by kernel_rfl
theorem ob149 {d1 : List (List UInt8 × XL)} {d2 : Int} {y : (Bool ⊕ Unit)} (h : b149 T.rf T.rb d1 d2 = some y) : k149 T.rb d1 d2 = some y := T.rb_of (κ := 149) (d := (d1, d2)) ((eb149 T.rf T.rb d1 d2).trans h)

/- bailmentlaw11.few -/
noncomputable def r105 (rf : T.RF) (rb : T.RB) (d1 : List (List UInt8 × XL)) : Option Bool :=
  bif decide ((((d1.length : Nat) : Int)) > 40) then
    some false
  else
    (k149 rb d1 0).bind fun (z1 : Bool ⊕ Unit) =>
    match z1 with
    | .inl u2 =>
      some u2
    | .inr w3 =>
      some true
theorem er105 (rf : T.RF) (rb : T.RB) (d1 : List (List UInt8 × XL)) : T.stepF rf rb 105 d1 = r105 rf rb d1 := by kernel_rfl
theorem or105 {d1 : List (List UInt8 × XL)} {y : Bool} (h : r105 T.rf T.rb d1 = some y) : c105 T.rf d1 = some y := T.rf_of (f := 105) (d := d1) ((er105 T.rf T.rb d1).trans h)

/- bailmentref11.has loop 0 -/
noncomputable def b155 (rf : T.RF) (rb : T.RB) (d1 : List (List UInt8)) (d2 : List UInt8) (d3 : Int) : Option (Bool ⊕ Unit) :=
  bif decide (d3 < (((d1.length : Nat) : Int))) then
    bif inb d3 d1.length then
      (nth d1 d3.toNat).bind fun (x1 : List UInt8) =>
      bif x1 == d2 then
        some (.inl true)
      else
        k155 rb d1 d2 (IntKind.i64.wrap (d3 + 1))
    else
      none
  else
    some (.inr ())
theorem eb155 (rf : T.RF) (rb : T.RB) (d1 : List (List UInt8)) (d2 : List UInt8) (d3 : Int) : T.stepB rf rb 155 (d1, d2, d3) = b155 rf rb d1 d2 d3 := by kernel_rfl
theorem ob155 {d1 : List (List UInt8)} {d2 : List UInt8} {d3 : Int} {y : (Bool ⊕ Unit)} (h : b155 T.rf T.rb d1 d2 d3 = some y) : k155 T.rb d1 d2 d3 = some y := T.rb_of (κ := 155) (d := (d1, d2, d3)) ((eb155 T.rf T.rb d1 d2 d3).trans h)

/- bailmentref11.has -/
noncomputable def r108 (rf : T.RF) (rb : T.RB) (d1 : List (List UInt8)) (d2 : List UInt8) : Option Bool :=
  (k155 rb d1 d2 0).bind fun (z1 : Bool ⊕ Unit) =>
  match z1 with
  | .inl u2 =>
    some u2
  | .inr w3 =>
    some false
theorem er108 (rf : T.RF) (rb : T.RB) (d1 : List (List UInt8)) (d2 : List UInt8) : T.stepF rf rb 108 (d1, d2) = r108 rf rb d1 d2 := by kernel_rfl
theorem or108 {d1 : List (List UInt8)} {d2 : List UInt8} {y : Bool} (h : r108 T.rf T.rb d1 d2 = some y) : c108 T.rf d1 d2 = some y := T.rf_of (f := 108) (d := (d1, d2)) ((er108 T.rf T.rb d1 d2).trans h)

/- bailmentref11.waits loop 0 -/
noncomputable def b154 (rf : T.RF) (rb : T.RB) (d1 : List Bool) (d2 : List (List UInt8 × XL)) (d3 : List (List UInt8)) (d4 : Int) : Option ((List Bool × Bool) ⊕ (List Bool)) :=
  bif decide (d4 < (((d2.length : Nat) : Int))) then
    bif inb d4 d1.length then
      (nth d1 d4.toNat).bind fun (x1 : Bool) =>
      bif !x1 then
        bif inb d4 d2.length then
          (nth d2 d4.toNat).bind fun (x2 : List UInt8 × XL) =>
          (c108 rf d3 x2.1).bind fun (y3 : Bool) =>
          bif y3 then
            some (.inl (d1, true))
          else
            k154 rb d1 d2 d3 (IntKind.i64.wrap (d4 + 1))
        else
          none
      else
        k154 rb d1 d2 d3 (IntKind.i64.wrap (d4 + 1))
    else
      none
  else
    some (.inr d1)
theorem eb154 (rf : T.RF) (rb : T.RB) (d1 : List Bool) (d2 : List (List UInt8 × XL)) (d3 : List (List UInt8)) (d4 : Int) : T.stepB rf rb 154 (d1, d2, d3, d4) = b154 rf rb d1 d2 d3 d4 := by kernel_rfl
theorem ob154 {d1 : List Bool} {d2 : List (List UInt8 × XL)} {d3 : List (List UInt8)} {d4 : Int} {y : ((List Bool × Bool) ⊕ (List Bool))} (h : b154 T.rf T.rb d1 d2 d3 d4 = some y) : k154 T.rb d1 d2 d3 d4 = some y := T.rb_of (κ := 154) (d := (d1, d2, d3, d4)) ((eb154 T.rf T.rb d1 d2 d3 d4).trans h)

/- bailmentref11.waits -/
noncomputable def r107 (rf : T.RF) (rb : T.RB) (d1 : List Bool) (d2 : List (List UInt8 × XL)) (d3 : List (List UInt8)) : Option (List Bool × Bool) :=
  (k154 rb d1 d2 d3 0).bind fun (z1 : (List Bool × Bool) ⊕ (List Bool)) =>
  match z1 with
  | .inl u2 =>
    some u2
  | .inr w3 =>
    some (w3, false)
theorem er107 (rf : T.RF) (rb : T.RB) (d1 : List Bool) (d2 : List (List UInt8 × XL)) (d3 : List (List UInt8)) : T.stepF rf rb 107 (d1, d2, d3) = r107 rf rb d1 d2 d3 := by kernel_rfl
theorem or107 {d1 : List Bool} {d2 : List (List UInt8 × XL)} {d3 : List (List UInt8)} {y : (List Bool × Bool)} (h : r107 T.rf T.rb d1 d2 d3 = some y) : c107 T.rf d1 d2 d3 = some y := T.rf_of (f := 107) (d := (d1, d2, d3)) ((er107 T.rf T.rb d1 d2 d3).trans h)

/- bailmentref11.Order loop 0 -/
noncomputable def b156 (rf : T.RF) (rb : T.RB) (d1 : List (List (List UInt8))) (d2 : List (List UInt8 × XL)) (d3 : Int) : Option (List (List (List UInt8))) :=
  bif decide (d3 < (((d2.length : Nat) : Int))) then
    bif inb d3 d2.length then
      (nth d2 d3.toNat).bind fun (x1 : List UInt8 × XL) =>
      (c94 rf x1.2).bind fun (y2 : List (List UInt8)) =>
      bif (Nat.ble (d1.length + 1) most) && true then
        k156 rb (d1 ++ [y2]) d2 (IntKind.i64.wrap (d3 + 1))
      else
        none
    else
      none
  else
    some d1
theorem eb156 (rf : T.RF) (rb : T.RB) (d1 : List (List (List UInt8))) (d2 : List (List UInt8 × XL)) (d3 : Int) : T.stepB rf rb 156 (d1, d2, d3) = b156 rf rb d1 d2 d3 := by kernel_rfl
theorem ob156 {d1 : List (List (List UInt8))} {d2 : List (List UInt8 × XL)} {d3 : Int} {y : (List (List (List UInt8)))} (h : b156 T.rf T.rb d1 d2 d3 = some y) : k156 T.rb d1 d2 d3 = some y := T.rb_of (κ := 156) (d := (d1, d2, d3)) ((eb156 T.rf T.rb d1 d2 d3).trans h)

/- bailmentref11.Order loop 2 -/
noncomputable def b157 (rf : T.RF) (rb : T.RB) (d1 : List (List (List UInt8))) (d2 : List Bool) (d3 : List Int) (d4 : List (List UInt8 × XL)) : Option ((List (List (List UInt8)) × List Bool × List Int × Int) ⊕ (List (List (List UInt8)) × List Bool × List Int)) :=
  bif decide ((((d3.length : Nat) : Int)) < (((d4.length : Nat) : Int))) then
    (k158 rb d1 d2 d4 (-1) (IntKind.i64.wrap ((((d4.length : Nat) : Int)) - 1))).bind fun (z1 : List (List (List UInt8)) × List Bool × Int) =>
    bif decide (z1.2.2 < 0) then
      some (.inl (z1.1, z1.2.1, [], 12))
    else
    bif inb z1.2.2 z1.2.1.length then
      bif Nat.blt z1.2.2.toNat z1.2.1.length then
        bif (Nat.ble (d3.length + 1) most) && true then
          k157 rb z1.1 (setNth z1.2.1 z1.2.2.toNat true) (d3 ++ [z1.2.2]) d4
        else
          none
      else
        none
    else
      none
  else
    some (.inr (d1, d2, d3))
theorem eb157 (rf : T.RF) (rb : T.RB) (d1 : List (List (List UInt8))) (d2 : List Bool) (d3 : List Int) (d4 : List (List UInt8 × XL)) : T.stepB rf rb 157 (d1, d2, d3, d4) = b157 rf rb d1 d2 d3 d4 := by kernel_rfl
theorem ob157 {d1 : List (List (List UInt8))} {d2 : List Bool} {d3 : List Int} {d4 : List (List UInt8 × XL)} {y : ((List (List (List UInt8)) × List Bool × List Int × Int) ⊕ (List (List (List UInt8)) × List Bool × List Int))} (h : b157 T.rf T.rb d1 d2 d3 d4 = some y) : k157 T.rb d1 d2 d3 d4 = some y := T.rb_of (κ := 157) (d := (d1, d2, d3, d4)) ((eb157 T.rf T.rb d1 d2 d3 d4).trans h)

/- bailmentref11.Order loop 4 -/
noncomputable def b158 (rf : T.RF) (rb : T.RB) (d1 : List (List (List UInt8))) (d2 : List Bool) (d3 : List (List UInt8 × XL)) (d4 : Int) (d5 : Int) : Option (List (List (List UInt8)) × List Bool × Int) :=
  bif decide (d5 ≥ 0) then
    bif inb d5 d2.length then
      (nth d2 d5.toNat).bind fun (x1 : Bool) =>
      bif !x1 then
        bif inb d5 d1.length then
          (nth d1 d5.toNat).bind fun (x2 : List (List UInt8)) =>
          (c107 rf d2 d3 x2).bind fun (y3 : List Bool × Bool) =>
          bif !y3.2 then
            k158 rb d1 y3.1 d3 d5 (IntKind.i64.wrap (d5 - 1))
          else
            k158 rb d1 y3.1 d3 d4 (IntKind.i64.wrap (d5 - 1))
        else
          none
      else
        k158 rb d1 d2 d3 d4 (IntKind.i64.wrap (d5 - 1))
    else
      none
  else
    some (d1, d2, d4)
theorem eb158 (rf : T.RF) (rb : T.RB) (d1 : List (List (List UInt8))) (d2 : List Bool) (d3 : List (List UInt8 × XL)) (d4 : Int) (d5 : Int) : T.stepB rf rb 158 (d1, d2, d3, d4, d5) = b158 rf rb d1 d2 d3 d4 d5 := by kernel_rfl
theorem ob158 {d1 : List (List (List UInt8))} {d2 : List Bool} {d3 : List (List UInt8 × XL)} {d4 : Int} {d5 : Int} {y : (List (List (List UInt8)) × List Bool × Int)} (h : b158 T.rf T.rb d1 d2 d3 d4 d5 = some y) : k158 T.rb d1 d2 d3 d4 d5 = some y := T.rb_of (κ := 158) (d := (d1, d2, d3, d4, d5)) ((eb158 T.rf T.rb d1 d2 d3 d4 d5).trans h)

/- bailmentref11.Order -/
noncomputable def r106 (rf : T.RF) (rb : T.RB) (d1 : List (List UInt8 × XL)) : Option (List Int × Int) :=
  bif decide ((((d1.length : Nat) : Int)) > 4000) then
    some ([], 7)
  else
    (k156 rb [] d1 0).bind fun (z1 : List (List (List UInt8))) =>
    bif inb' (((d1.length : Nat) : Int)) most then
      bif inb' (((d1.length : Nat) : Int)) d1.length then
        (k157 rb z1 (List.replicate d1.length false) [] d1).bind fun (z2 : (List (List (List UInt8)) × List Bool × List Int × Int) ⊕ (List (List (List UInt8)) × List Bool × List Int)) =>
        match z2 with
        | .inl u3 =>
          some u3.2.2
        | .inr w4 =>
          some (w4.2.2, 0)
      else
        none
    else
      none
theorem er106 (rf : T.RF) (rb : T.RB) (d1 : List (List UInt8 × XL)) : T.stepF rf rb 106 d1 = r106 rf rb d1 := by kernel_rfl
theorem or106 {d1 : List (List UInt8 × XL)} {y : (List Int × Int)} (h : r106 T.rf T.rb d1 = some y) : c106 T.rf d1 = some y := T.rf_of (f := 106) (d := d1) ((er106 T.rf T.rb d1).trans h)

/- bailmentref11.Check loop 0 -/
noncomputable def b159 (rf : T.RF) (rb : T.RB) (d1 : List XU × List UInt8 × List UInt8) (d2 : Int × Int) (d3 : Int) : Option (((List XU × List UInt8 × List UInt8) × Int × Int) ⊕ ((List XU × List UInt8 × List UInt8) × Int × Int)) :=
  bif decide (d3 < (((d1.1.length : Nat) : Int))) then
    bif inb d3 d1.1.length then
      (nth d1.1 d3.toNat).bind fun (x1 : XU) =>
      (c106 rf x1.2.2.2.2.2.2.1).bind fun (y2 : List Int × Int) =>
      bif y2.2 != 0 then
        some (.inl (d1, y2.2, d3))
      else
        k159 rb d1 d2 (IntKind.i64.wrap (d3 + 1))
    else
      none
  else
    some (.inr (d1, d2))
theorem eb159 (rf : T.RF) (rb : T.RB) (d1 : List XU × List UInt8 × List UInt8) (d2 : Int × Int) (d3 : Int) : T.stepB rf rb 159 (d1, d2, d3) = b159 rf rb d1 d2 d3 := by kernel_rfl
theorem ob159 {d1 : List XU × List UInt8 × List UInt8} {d2 : Int × Int} {d3 : Int} {y : (((List XU × List UInt8 × List UInt8) × Int × Int) ⊕ ((List XU × List UInt8 × List UInt8) × Int × Int))} (h : b159 T.rf T.rb d1 d2 d3 = some y) : k159 T.rb d1 d2 d3 = some y := T.rb_of (κ := 159) (d := (d1, d2, d3)) ((eb159 T.rf T.rb d1 d2 d3).trans h)

/- bailmentref11.Check -/
noncomputable def r109 (rf : T.RF) (rb : T.RB) (d1 : List XU × List UInt8 × List UInt8) : Option (Int × Int) :=
  (k159 rb d1 (0, 0) 0).bind fun (z1 : ((List XU × List UInt8 × List UInt8) × Int × Int) ⊕ ((List XU × List UInt8 × List UInt8) × Int × Int)) =>
  match z1 with
  | .inl u2 =>
    some u2.2
  | .inr w3 =>
    some (0, 0)
theorem er109 (rf : T.RF) (rb : T.RB) (d1 : List XU × List UInt8 × List UInt8) : T.stepF rf rb 109 d1 = r109 rf rb d1 := by kernel_rfl
theorem or109 {d1 : List XU × List UInt8 × List UInt8} {y : (Int × Int)} (h : r109 T.rf T.rb d1 = some y) : c109 T.rf d1 = some y := T.rf_of (f := 109) (d := d1) ((er109 T.rf T.rb d1).trans h)

/- bailmentlaw11.CauseOrders -/
noncomputable def r104 (rf : T.RF) (rb : T.RB) (d1 : List (List UInt8 × XL)) (d2 : List (List UInt8 × XL)) : Option Bool :=
  (c105 rf d1).bind fun (y1 : Bool) =>
  bif !y1 then
    (c1 rf).bind fun (y2 : Bool) =>
    some y2
  else
    (c105 rf d2).bind fun (y3 : Bool) =>
    bif !y3 then
      (c1 rf).bind fun (y4 : Bool) =>
      some y4
    else
      (c44 rf d1).bind fun (y5 : List Int × Int) =>
      (c106 rf d1).bind fun (y6 : List Int × Int) =>
      (c92 rf y5.1 y6.1).bind fun (y7 : Bool) =>
      bif y7 then
        bif y5.2 == y6.2 then
          (c93 rf ([(false, ([] : List UInt8), [], ([] : List UInt8), 0, [], d1, []), (false, ([] : List UInt8), [], ([] : List UInt8), 0, [], d2, [])], ([] : List UInt8), ([] : List UInt8))).bind fun (y8 : Int × Int) =>
          (c109 rf ([(false, ([] : List UInt8), [], ([] : List UInt8), 0, [], d1, []), (false, ([] : List UInt8), [], ([] : List UInt8), 0, [], d2, [])], ([] : List UInt8), ([] : List UInt8))).bind fun (y9 : Int × Int) =>
          bif (y8.1 == y9.1) && (y8.2 == y9.2) then
            (c1 rf).bind fun (y10 : Bool) =>
            some y10
          else
            some false
        else
          some false
      else
        some false
theorem er104 (rf : T.RF) (rb : T.RB) (d1 : List (List UInt8 × XL)) (d2 : List (List UInt8 × XL)) : T.stepF rf rb 104 (d1, d2) = r104 rf rb d1 d2 := by kernel_rfl
theorem or104 {d1 : List (List UInt8 × XL)} {d2 : List (List UInt8 × XL)} {y : Bool} (h : r104 T.rf T.rb d1 d2 = some y) : c104 T.rf d1 d2 = some y := T.rf_of (f := 104) (d := (d1, d2)) ((er104 T.rf T.rb d1 d2).trans h)

theorem place_len : tabs.placeL.length = 160 := rfl
end Go.Proofs.YtifoobdekbjmdaaGreat.R
