/-
  OUR OWN, PRINTED BY A PROGRAM OF OURS (table2.py): the table of the functions, and what each comes to.
-/
import Derived.Test.YtanomapnincmoaaResPA
namespace Go.Proofs.Ytanomapnincmoaa.R
open Go Go.Bm Go.Proofs
set_option linter.unusedVariables false
set_option linter.unusedSimpArgs false
set_option maxRecDepth 100000

/- (bailment/code.Code).isPlain -/
noncomputable def r68 (rf : T.RF) (rb : T.RB) (d1 : XC) (d2 : XI) : Option Bool :=
  (c48 rf d2.1).bind fun (y1 : Int) =>
  bif decide (0 ≥ y1) then
    bif decide (1 ≥ y1) then
      bif decide (2 ≥ y1) then
        bif d2.1 == 30 then
          bif decide (y1 ≥ 0) then
            bif (d2.1 == d2.1) && ((d2.2.1 == 0) && ((d2.2.2.1 == 0) && ((d2.2.2.2.1 == 0) && ((d2.2.2.2.2.1 == 0) && (d2.2.2.2.2.2 == d2.2.2.2.2.2))))) then
              bif decide (d2.2.2.2.2.2 ≥ 0) then
                some (decide (d2.2.2.2.2.2 ≤ (IntKind.i64.wrap (d1.2.2.1 - 1))))
              else
                some false
            else
              some false
          else
            some false
        else
        bif d2.1 == 21 then
          bif decide (y1 ≥ 0) then
            bif (d2.1 == d2.1) && ((d2.2.1 == d2.2.1) && ((d2.2.2.1 == 0) && ((d2.2.2.2.1 == 0) && ((d2.2.2.2.2.1 == 0) && (d2.2.2.2.2.2 == d2.2.2.2.2.2))))) then
              bif decide (d2.2.2.2.2.2 ≥ 0) then
                some (decide (d2.2.2.2.2.2 ≤ (IntKind.i64.wrap (d1.2.2.1 - 1))))
              else
                some false
            else
              some false
          else
            some false
        else
        bif d2.1 == 3 then
          bif decide (y1 ≥ 0) then
            bif (d2.1 == d2.1) && ((d2.2.1 == d2.2.1) && ((d2.2.2.1 == 0) && ((d2.2.2.2.1 == 0) && ((d2.2.2.2.2.1 == 0) && (d2.2.2.2.2.2 == d2.2.2.2.2.2))))) then
              bif decide (d2.2.2.2.2.2 ≥ 0) then
                some (decide (d2.2.2.2.2.2 ≤ (IntKind.i64.wrap ((((d1.2.2.2.2.length : Nat) : Int)) - 1))))
              else
                some false
            else
              some false
          else
            some false
        else
        bif d2.1 == 2 then
          bif decide (y1 ≥ 0) then
            bif (d2.1 == d2.1) && ((d2.2.1 == d2.2.1) && ((d2.2.2.1 == 0) && ((d2.2.2.2.1 == 0) && ((d2.2.2.2.2.1 == 0) && (d2.2.2.2.2.2 == d2.2.2.2.2.2))))) then
              bif decide (d2.2.2.2.2.2 ≥ 0) then
                some (decide (d2.2.2.2.2.2 ≤ 1))
              else
                some false
            else
              some false
          else
            some false
        else
        bif d2.1 == 1 then
          bif (d2.1 == d2.1) && ((d2.2.1 == d2.2.1) && ((d2.2.2.1 == 0) && ((d2.2.2.2.1 == 0) && ((d2.2.2.2.2.1 == 0) && (d2.2.2.2.2.2 == d2.2.2.2.2.2))))) then
            (c19 rf d2.2.2.2.2.2).bind fun (y2 : Bool) =>
            some y2
          else
            some false
        else
        bif decide (y1 ≥ 0) then
          bif (d2.1 == d2.1) && ((d2.2.1 == d2.2.1) && ((d2.2.2.1 == 0) && ((d2.2.2.2.1 == 0) && ((d2.2.2.2.2.1 == 0) && (d2.2.2.2.2.2 == 0))))) then
            bif decide (d2.2.2.2.2.2 ≥ 0) then
              some (decide (d2.2.2.2.2.2 ≤ 0))
            else
              some false
          else
            some false
        else
          some false
      else
      bif d2.1 == 30 then
        bif decide (y1 ≥ 0) then
          bif (d2.1 == d2.1) && ((d2.2.1 == 0) && ((d2.2.2.1 == 0) && ((d2.2.2.2.1 == 0) && ((d2.2.2.2.2.1 == d2.2.2.2.2.1) && (d2.2.2.2.2.2 == d2.2.2.2.2.2))))) then
            bif decide (d2.2.2.2.2.2 ≥ 0) then
              some (decide (d2.2.2.2.2.2 ≤ (IntKind.i64.wrap (d1.2.2.1 - 1))))
            else
              some false
          else
            some false
        else
          some false
      else
      bif d2.1 == 21 then
        bif decide (y1 ≥ 0) then
          bif (d2.1 == d2.1) && ((d2.2.1 == d2.2.1) && ((d2.2.2.1 == 0) && ((d2.2.2.2.1 == 0) && ((d2.2.2.2.2.1 == d2.2.2.2.2.1) && (d2.2.2.2.2.2 == d2.2.2.2.2.2))))) then
            bif decide (d2.2.2.2.2.2 ≥ 0) then
              some (decide (d2.2.2.2.2.2 ≤ (IntKind.i64.wrap (d1.2.2.1 - 1))))
            else
              some false
          else
            some false
        else
          some false
      else
      bif d2.1 == 3 then
        bif decide (y1 ≥ 0) then
          bif (d2.1 == d2.1) && ((d2.2.1 == d2.2.1) && ((d2.2.2.1 == 0) && ((d2.2.2.2.1 == 0) && ((d2.2.2.2.2.1 == d2.2.2.2.2.1) && (d2.2.2.2.2.2 == d2.2.2.2.2.2))))) then
            bif decide (d2.2.2.2.2.2 ≥ 0) then
              some (decide (d2.2.2.2.2.2 ≤ (IntKind.i64.wrap ((((d1.2.2.2.2.length : Nat) : Int)) - 1))))
            else
              some false
          else
            some false
        else
          some false
      else
      bif d2.1 == 2 then
        bif decide (y1 ≥ 0) then
          bif (d2.1 == d2.1) && ((d2.2.1 == d2.2.1) && ((d2.2.2.1 == 0) && ((d2.2.2.2.1 == 0) && ((d2.2.2.2.2.1 == d2.2.2.2.2.1) && (d2.2.2.2.2.2 == d2.2.2.2.2.2))))) then
            bif decide (d2.2.2.2.2.2 ≥ 0) then
              some (decide (d2.2.2.2.2.2 ≤ 1))
            else
              some false
          else
            some false
        else
          some false
      else
      bif d2.1 == 1 then
        bif (d2.1 == d2.1) && ((d2.2.1 == d2.2.1) && ((d2.2.2.1 == 0) && ((d2.2.2.2.1 == 0) && ((d2.2.2.2.2.1 == d2.2.2.2.2.1) && (d2.2.2.2.2.2 == d2.2.2.2.2.2))))) then
          (c19 rf d2.2.2.2.2.2).bind fun (y3 : Bool) =>
          some y3
        else
          some false
      else
      bif decide (y1 ≥ 0) then
        bif (d2.1 == d2.1) && ((d2.2.1 == d2.2.1) && ((d2.2.2.1 == 0) && ((d2.2.2.2.1 == 0) && ((d2.2.2.2.2.1 == d2.2.2.2.2.1) && (d2.2.2.2.2.2 == 0))))) then
          bif decide (d2.2.2.2.2.2 ≥ 0) then
            some (decide (d2.2.2.2.2.2 ≤ 0))
          else
            some false
        else
          some false
      else
        some false
    else
    bif decide (2 ≥ y1) then
      bif d2.1 == 30 then
        bif decide (y1 ≥ 0) then
          bif (d2.1 == d2.1) && ((d2.2.1 == 0) && ((d2.2.2.1 == 0) && ((d2.2.2.2.1 == d2.2.2.2.1) && ((d2.2.2.2.2.1 == 0) && (d2.2.2.2.2.2 == d2.2.2.2.2.2))))) then
            bif decide (d2.2.2.2.2.2 ≥ 0) then
              some (decide (d2.2.2.2.2.2 ≤ (IntKind.i64.wrap (d1.2.2.1 - 1))))
            else
              some false
          else
            some false
        else
          some false
      else
      bif d2.1 == 21 then
        bif decide (y1 ≥ 0) then
          bif (d2.1 == d2.1) && ((d2.2.1 == d2.2.1) && ((d2.2.2.1 == 0) && ((d2.2.2.2.1 == d2.2.2.2.1) && ((d2.2.2.2.2.1 == 0) && (d2.2.2.2.2.2 == d2.2.2.2.2.2))))) then
            bif decide (d2.2.2.2.2.2 ≥ 0) then
              some (decide (d2.2.2.2.2.2 ≤ (IntKind.i64.wrap (d1.2.2.1 - 1))))
            else
              some false
          else
            some false
        else
          some false
      else
      bif d2.1 == 3 then
        bif decide (y1 ≥ 0) then
          bif (d2.1 == d2.1) && ((d2.2.1 == d2.2.1) && ((d2.2.2.1 == 0) && ((d2.2.2.2.1 == d2.2.2.2.1) && ((d2.2.2.2.2.1 == 0) && (d2.2.2.2.2.2 == d2.2.2.2.2.2))))) then
            bif decide (d2.2.2.2.2.2 ≥ 0) then
              some (decide (d2.2.2.2.2.2 ≤ (IntKind.i64.wrap ((((d1.2.2.2.2.length : Nat) : Int)) - 1))))
            else
              some false
          else
            some false
        else
          some false
      else
      bif d2.1 == 2 then
        bif decide (y1 ≥ 0) then
          bif (d2.1 == d2.1) && ((d2.2.1 == d2.2.1) && ((d2.2.2.1 == 0) && ((d2.2.2.2.1 == d2.2.2.2.1) && ((d2.2.2.2.2.1 == 0) && (d2.2.2.2.2.2 == d2.2.2.2.2.2))))) then
            bif decide (d2.2.2.2.2.2 ≥ 0) then
              some (decide (d2.2.2.2.2.2 ≤ 1))
            else
              some false
          else
            some false
        else
          some false
      else
      bif d2.1 == 1 then
        bif (d2.1 == d2.1) && ((d2.2.1 == d2.2.1) && ((d2.2.2.1 == 0) && ((d2.2.2.2.1 == d2.2.2.2.1) && ((d2.2.2.2.2.1 == 0) && (d2.2.2.2.2.2 == d2.2.2.2.2.2))))) then
          (c19 rf d2.2.2.2.2.2).bind fun (y4 : Bool) =>
          some y4
        else
          some false
      else
      bif decide (y1 ≥ 0) then
        bif (d2.1 == d2.1) && ((d2.2.1 == d2.2.1) && ((d2.2.2.1 == 0) && ((d2.2.2.2.1 == d2.2.2.2.1) && ((d2.2.2.2.2.1 == 0) && (d2.2.2.2.2.2 == 0))))) then
          bif decide (d2.2.2.2.2.2 ≥ 0) then
            some (decide (d2.2.2.2.2.2 ≤ 0))
          else
            some false
        else
          some false
      else
        some false
    else
    bif d2.1 == 30 then
      bif decide (y1 ≥ 0) then
        bif (d2.1 == d2.1) && ((d2.2.1 == 0) && ((d2.2.2.1 == 0) && ((d2.2.2.2.1 == d2.2.2.2.1) && ((d2.2.2.2.2.1 == d2.2.2.2.2.1) && (d2.2.2.2.2.2 == d2.2.2.2.2.2))))) then
          bif decide (d2.2.2.2.2.2 ≥ 0) then
            some (decide (d2.2.2.2.2.2 ≤ (IntKind.i64.wrap (d1.2.2.1 - 1))))
          else
            some false
        else
          some false
      else
        some false
    else
    bif d2.1 == 21 then
      bif decide (y1 ≥ 0) then
        bif (d2.1 == d2.1) && ((d2.2.1 == d2.2.1) && ((d2.2.2.1 == 0) && ((d2.2.2.2.1 == d2.2.2.2.1) && ((d2.2.2.2.2.1 == d2.2.2.2.2.1) && (d2.2.2.2.2.2 == d2.2.2.2.2.2))))) then
          bif decide (d2.2.2.2.2.2 ≥ 0) then
            some (decide (d2.2.2.2.2.2 ≤ (IntKind.i64.wrap (d1.2.2.1 - 1))))
          else
            some false
        else
          some false
      else
        some false
    else
    bif d2.1 == 3 then
      bif decide (y1 ≥ 0) then
        bif (d2.1 == d2.1) && ((d2.2.1 == d2.2.1) && ((d2.2.2.1 == 0) && ((d2.2.2.2.1 == d2.2.2.2.1) && ((d2.2.2.2.2.1 == d2.2.2.2.2.1) && (d2.2.2.2.2.2 == d2.2.2.2.2.2))))) then
          bif decide (d2.2.2.2.2.2 ≥ 0) then
            some (decide (d2.2.2.2.2.2 ≤ (IntKind.i64.wrap ((((d1.2.2.2.2.length : Nat) : Int)) - 1))))
          else
            some false
        else
          some false
      else
        some false
    else
    bif d2.1 == 2 then
      bif decide (y1 ≥ 0) then
        bif (d2.1 == d2.1) && ((d2.2.1 == d2.2.1) && ((d2.2.2.1 == 0) && ((d2.2.2.2.1 == d2.2.2.2.1) && ((d2.2.2.2.2.1 == d2.2.2.2.2.1) && (d2.2.2.2.2.2 == d2.2.2.2.2.2))))) then
          bif decide (d2.2.2.2.2.2 ≥ 0) then
            some (decide (d2.2.2.2.2.2 ≤ 1))
          else
            some false
        else
          some false
      else
        some false
    else
    bif d2.1 == 1 then
      bif (d2.1 == d2.1) && ((d2.2.1 == d2.2.1) && ((d2.2.2.1 == 0) && ((d2.2.2.2.1 == d2.2.2.2.1) && ((d2.2.2.2.2.1 == d2.2.2.2.2.1) && (d2.2.2.2.2.2 == d2.2.2.2.2.2))))) then
        (c19 rf d2.2.2.2.2.2).bind fun (y5 : Bool) =>
        some y5
      else
        some false
    else
    bif decide (y1 ≥ 0) then
      bif (d2.1 == d2.1) && ((d2.2.1 == d2.2.1) && ((d2.2.2.1 == 0) && ((d2.2.2.2.1 == d2.2.2.2.1) && ((d2.2.2.2.2.1 == d2.2.2.2.2.1) && (d2.2.2.2.2.2 == 0))))) then
        bif decide (d2.2.2.2.2.2 ≥ 0) then
          some (decide (d2.2.2.2.2.2 ≤ 0))
        else
          some false
      else
        some false
    else
      some false
  else
  bif decide (1 ≥ y1) then
    bif decide (2 ≥ y1) then
      bif d2.1 == 30 then
        bif decide (y1 ≥ 0) then
          bif (d2.1 == d2.1) && ((d2.2.1 == 0) && ((d2.2.2.1 == d2.2.2.1) && ((d2.2.2.2.1 == 0) && ((d2.2.2.2.2.1 == 0) && (d2.2.2.2.2.2 == d2.2.2.2.2.2))))) then
            bif decide (d2.2.2.2.2.2 ≥ 0) then
              some (decide (d2.2.2.2.2.2 ≤ (IntKind.i64.wrap (d1.2.2.1 - 1))))
            else
              some false
          else
            some false
        else
          some false
      else
      bif d2.1 == 21 then
        bif decide (y1 ≥ 0) then
          bif (d2.1 == d2.1) && ((d2.2.1 == d2.2.1) && ((d2.2.2.1 == d2.2.2.1) && ((d2.2.2.2.1 == 0) && ((d2.2.2.2.2.1 == 0) && (d2.2.2.2.2.2 == d2.2.2.2.2.2))))) then
            bif decide (d2.2.2.2.2.2 ≥ 0) then
              some (decide (d2.2.2.2.2.2 ≤ (IntKind.i64.wrap (d1.2.2.1 - 1))))
            else
              some false
          else
            some false
        else
          some false
      else
      bif d2.1 == 3 then
        bif decide (y1 ≥ 0) then
          bif (d2.1 == d2.1) && ((d2.2.1 == d2.2.1) && ((d2.2.2.1 == d2.2.2.1) && ((d2.2.2.2.1 == 0) && ((d2.2.2.2.2.1 == 0) && (d2.2.2.2.2.2 == d2.2.2.2.2.2))))) then
            bif decide (d2.2.2.2.2.2 ≥ 0) then
              some (decide (d2.2.2.2.2.2 ≤ (IntKind.i64.wrap ((((d1.2.2.2.2.length : Nat) : Int)) - 1))))
            else
              some false
          else
            some false
        else
          some false
      else
      bif d2.1 == 2 then
        bif decide (y1 ≥ 0) then
          bif (d2.1 == d2.1) && ((d2.2.1 == d2.2.1) && ((d2.2.2.1 == d2.2.2.1) && ((d2.2.2.2.1 == 0) && ((d2.2.2.2.2.1 == 0) && (d2.2.2.2.2.2 == d2.2.2.2.2.2))))) then
            bif decide (d2.2.2.2.2.2 ≥ 0) then
              some (decide (d2.2.2.2.2.2 ≤ 1))
            else
              some false
          else
            some false
        else
          some false
      else
      bif d2.1 == 1 then
        bif (d2.1 == d2.1) && ((d2.2.1 == d2.2.1) && ((d2.2.2.1 == d2.2.2.1) && ((d2.2.2.2.1 == 0) && ((d2.2.2.2.2.1 == 0) && (d2.2.2.2.2.2 == d2.2.2.2.2.2))))) then
          (c19 rf d2.2.2.2.2.2).bind fun (y6 : Bool) =>
          some y6
        else
          some false
      else
      bif decide (y1 ≥ 0) then
        bif (d2.1 == d2.1) && ((d2.2.1 == d2.2.1) && ((d2.2.2.1 == d2.2.2.1) && ((d2.2.2.2.1 == 0) && ((d2.2.2.2.2.1 == 0) && (d2.2.2.2.2.2 == 0))))) then
          bif decide (d2.2.2.2.2.2 ≥ 0) then
            some (decide (d2.2.2.2.2.2 ≤ 0))
          else
            some false
        else
          some false
      else
        some false
    else
    bif d2.1 == 30 then
      bif decide (y1 ≥ 0) then
        bif (d2.1 == d2.1) && ((d2.2.1 == 0) && ((d2.2.2.1 == d2.2.2.1) && ((d2.2.2.2.1 == 0) && ((d2.2.2.2.2.1 == d2.2.2.2.2.1) && (d2.2.2.2.2.2 == d2.2.2.2.2.2))))) then
          bif decide (d2.2.2.2.2.2 ≥ 0) then
            some (decide (d2.2.2.2.2.2 ≤ (IntKind.i64.wrap (d1.2.2.1 - 1))))
          else
            some false
        else
          some false
      else
        some false
    else
    bif d2.1 == 21 then
      bif decide (y1 ≥ 0) then
        bif (d2.1 == d2.1) && ((d2.2.1 == d2.2.1) && ((d2.2.2.1 == d2.2.2.1) && ((d2.2.2.2.1 == 0) && ((d2.2.2.2.2.1 == d2.2.2.2.2.1) && (d2.2.2.2.2.2 == d2.2.2.2.2.2))))) then
          bif decide (d2.2.2.2.2.2 ≥ 0) then
            some (decide (d2.2.2.2.2.2 ≤ (IntKind.i64.wrap (d1.2.2.1 - 1))))
          else
            some false
        else
          some false
      else
        some false
    else
    bif d2.1 == 3 then
      bif decide (y1 ≥ 0) then
        bif (d2.1 == d2.1) && ((d2.2.1 == d2.2.1) && ((d2.2.2.1 == d2.2.2.1) && ((d2.2.2.2.1 == 0) && ((d2.2.2.2.2.1 == d2.2.2.2.2.1) && (d2.2.2.2.2.2 == d2.2.2.2.2.2))))) then
          bif decide (d2.2.2.2.2.2 ≥ 0) then
            some (decide (d2.2.2.2.2.2 ≤ (IntKind.i64.wrap ((((d1.2.2.2.2.length : Nat) : Int)) - 1))))
          else
            some false
        else
          some false
      else
        some false
    else
    bif d2.1 == 2 then
      bif decide (y1 ≥ 0) then
        bif (d2.1 == d2.1) && ((d2.2.1 == d2.2.1) && ((d2.2.2.1 == d2.2.2.1) && ((d2.2.2.2.1 == 0) && ((d2.2.2.2.2.1 == d2.2.2.2.2.1) && (d2.2.2.2.2.2 == d2.2.2.2.2.2))))) then
          bif decide (d2.2.2.2.2.2 ≥ 0) then
            some (decide (d2.2.2.2.2.2 ≤ 1))
          else
            some false
        else
          some false
      else
        some false
    else
    bif d2.1 == 1 then
      bif (d2.1 == d2.1) && ((d2.2.1 == d2.2.1) && ((d2.2.2.1 == d2.2.2.1) && ((d2.2.2.2.1 == 0) && ((d2.2.2.2.2.1 == d2.2.2.2.2.1) && (d2.2.2.2.2.2 == d2.2.2.2.2.2))))) then
        (c19 rf d2.2.2.2.2.2).bind fun (y7 : Bool) =>
        some y7
      else
        some false
    else
    bif decide (y1 ≥ 0) then
      bif (d2.1 == d2.1) && ((d2.2.1 == d2.2.1) && ((d2.2.2.1 == d2.2.2.1) && ((d2.2.2.2.1 == 0) && ((d2.2.2.2.2.1 == d2.2.2.2.2.1) && (d2.2.2.2.2.2 == 0))))) then
        bif decide (d2.2.2.2.2.2 ≥ 0) then
          some (decide (d2.2.2.2.2.2 ≤ 0))
        else
          some false
      else
        some false
    else
      some false
  else
  bif decide (2 ≥ y1) then
    bif d2.1 == 30 then
      bif decide (y1 ≥ 0) then
        bif (d2.1 == d2.1) && ((d2.2.1 == 0) && ((d2.2.2.1 == d2.2.2.1) && ((d2.2.2.2.1 == d2.2.2.2.1) && ((d2.2.2.2.2.1 == 0) && (d2.2.2.2.2.2 == d2.2.2.2.2.2))))) then
          bif decide (d2.2.2.2.2.2 ≥ 0) then
            some (decide (d2.2.2.2.2.2 ≤ (IntKind.i64.wrap (d1.2.2.1 - 1))))
          else
            some false
        else
          some false
      else
        some false
    else
    bif d2.1 == 21 then
      bif decide (y1 ≥ 0) then
        bif (d2.1 == d2.1) && ((d2.2.1 == d2.2.1) && ((d2.2.2.1 == d2.2.2.1) && ((d2.2.2.2.1 == d2.2.2.2.1) && ((d2.2.2.2.2.1 == 0) && (d2.2.2.2.2.2 == d2.2.2.2.2.2))))) then
          bif decide (d2.2.2.2.2.2 ≥ 0) then
            some (decide (d2.2.2.2.2.2 ≤ (IntKind.i64.wrap (d1.2.2.1 - 1))))
          else
            some false
        else
          some false
      else
        some false
    else
    bif d2.1 == 3 then
      bif decide (y1 ≥ 0) then
        bif (d2.1 == d2.1) && ((d2.2.1 == d2.2.1) && ((d2.2.2.1 == d2.2.2.1) && ((d2.2.2.2.1 == d2.2.2.2.1) && ((d2.2.2.2.2.1 == 0) && (d2.2.2.2.2.2 == d2.2.2.2.2.2))))) then
          bif decide (d2.2.2.2.2.2 ≥ 0) then
            some (decide (d2.2.2.2.2.2 ≤ (IntKind.i64.wrap ((((d1.2.2.2.2.length : Nat) : Int)) - 1))))
          else
            some false
        else
          some false
      else
        some false
    else
    bif d2.1 == 2 then
      bif decide (y1 ≥ 0) then
        bif (d2.1 == d2.1) && ((d2.2.1 == d2.2.1) && ((d2.2.2.1 == d2.2.2.1) && ((d2.2.2.2.1 == d2.2.2.2.1) && ((d2.2.2.2.2.1 == 0) && (d2.2.2.2.2.2 == d2.2.2.2.2.2))))) then
          bif decide (d2.2.2.2.2.2 ≥ 0) then
            some (decide (d2.2.2.2.2.2 ≤ 1))
          else
            some false
        else
          some false
      else
        some false
    else
    bif d2.1 == 1 then
      bif (d2.1 == d2.1) && ((d2.2.1 == d2.2.1) && ((d2.2.2.1 == d2.2.2.1) && ((d2.2.2.2.1 == d2.2.2.2.1) && ((d2.2.2.2.2.1 == 0) && (d2.2.2.2.2.2 == d2.2.2.2.2.2))))) then
        (c19 rf d2.2.2.2.2.2).bind fun (y8 : Bool) =>
        some y8
      else
        some false
    else
    bif decide (y1 ≥ 0) then
      bif (d2.1 == d2.1) && ((d2.2.1 == d2.2.1) && ((d2.2.2.1 == d2.2.2.1) && ((d2.2.2.2.1 == d2.2.2.2.1) && ((d2.2.2.2.2.1 == 0) && (d2.2.2.2.2.2 == 0))))) then
        bif decide (d2.2.2.2.2.2 ≥ 0) then
          some (decide (d2.2.2.2.2.2 ≤ 0))
        else
          some false
      else
        some false
    else
      some false
  else
  bif d2.1 == 30 then
    bif decide (y1 ≥ 0) then
      bif (d2.1 == d2.1) && ((d2.2.1 == 0) && ((d2.2.2.1 == d2.2.2.1) && ((d2.2.2.2.1 == d2.2.2.2.1) && ((d2.2.2.2.2.1 == d2.2.2.2.2.1) && (d2.2.2.2.2.2 == d2.2.2.2.2.2))))) then
        bif decide (d2.2.2.2.2.2 ≥ 0) then
          some (decide (d2.2.2.2.2.2 ≤ (IntKind.i64.wrap (d1.2.2.1 - 1))))
        else
          some false
      else
        some false
    else
      some false
  else
  bif d2.1 == 21 then
    bif decide (y1 ≥ 0) then
      bif (d2.1 == d2.1) && ((d2.2.1 == d2.2.1) && ((d2.2.2.1 == d2.2.2.1) && ((d2.2.2.2.1 == d2.2.2.2.1) && ((d2.2.2.2.2.1 == d2.2.2.2.2.1) && (d2.2.2.2.2.2 == d2.2.2.2.2.2))))) then
        bif decide (d2.2.2.2.2.2 ≥ 0) then
          some (decide (d2.2.2.2.2.2 ≤ (IntKind.i64.wrap (d1.2.2.1 - 1))))
        else
          some false
      else
        some false
    else
      some false
  else
  bif d2.1 == 3 then
    bif decide (y1 ≥ 0) then
      bif (d2.1 == d2.1) && ((d2.2.1 == d2.2.1) && ((d2.2.2.1 == d2.2.2.1) && ((d2.2.2.2.1 == d2.2.2.2.1) && ((d2.2.2.2.2.1 == d2.2.2.2.2.1) && (d2.2.2.2.2.2 == d2.2.2.2.2.2))))) then
        bif decide (d2.2.2.2.2.2 ≥ 0) then
          some (decide (d2.2.2.2.2.2 ≤ (IntKind.i64.wrap ((((d1.2.2.2.2.length : Nat) : Int)) - 1))))
        else
          some false
      else
        some false
    else
      some false
  else
  bif d2.1 == 2 then
    bif decide (y1 ≥ 0) then
      bif (d2.1 == d2.1) && ((d2.2.1 == d2.2.1) && ((d2.2.2.1 == d2.2.2.1) && ((d2.2.2.2.1 == d2.2.2.2.1) && ((d2.2.2.2.2.1 == d2.2.2.2.2.1) && (d2.2.2.2.2.2 == d2.2.2.2.2.2))))) then
        bif decide (d2.2.2.2.2.2 ≥ 0) then
          some (decide (d2.2.2.2.2.2 ≤ 1))
        else
          some false
      else
        some false
    else
      some false
  else
  bif d2.1 == 1 then
    bif (d2.1 == d2.1) && ((d2.2.1 == d2.2.1) && ((d2.2.2.1 == d2.2.2.1) && ((d2.2.2.2.1 == d2.2.2.2.1) && ((d2.2.2.2.2.1 == d2.2.2.2.2.1) && (d2.2.2.2.2.2 == d2.2.2.2.2.2))))) then
      (c19 rf d2.2.2.2.2.2).bind fun (y9 : Bool) =>
      some y9
    else
      some false
  else
  bif decide (y1 ≥ 0) then
    bif (d2.1 == d2.1) && ((d2.2.1 == d2.2.1) && ((d2.2.2.1 == d2.2.2.1) && ((d2.2.2.2.1 == d2.2.2.2.1) && ((d2.2.2.2.2.1 == d2.2.2.2.2.1) && (d2.2.2.2.2.2 == 0))))) then
      bif decide (d2.2.2.2.2.2 ≥ 0) then
        some (decide (d2.2.2.2.2.2 ≤ 0))
      else
        some false
    else
      some false
  else
    some false
theorem er68 (rf : T.RF) (rb : T.RB) (d1 : XC) (d2 : XI) : T.stepF rf rb 68 (d1, d2) = r68 rf rb d1 d2 := by kernel_rfl
theorem or68 {d1 : XC} {d2 : XI} {y : Bool} (h : r68 T.rf T.rb d1 d2 = some y) : c68 T.rf d1 d2 = some y := T.rf_of (f := 68) (d := (d1, d2)) ((er68 T.rf T.rb d1 d2).trans h)

/- code.Check$1 -/
noncomputable def r71 (rf : T.RF) (rb : T.RB) (d1 : List (Int × Bool)) (d2 : Int) : Option (List (Int × Bool) × Bool) :=
  some (d1, !(assocGet (CT.eqK (.int .i64)) false d1 d2))
theorem er71 (rf : T.RF) (rb : T.RB) (d1 : List (Int × Bool)) (d2 : Int) : T.stepF rf rb 71 (d1, d2) = r71 rf rb d1 d2 := by kernel_rfl
theorem or71 {d1 : List (Int × Bool)} {d2 : Int} {y : (List (Int × Bool) × Bool)} (h : r71 T.rf T.rb d1 d2 = some y) : c71 T.rf d1 d2 = some y := T.rf_of (f := 71) (d := (d1, d2)) ((er71 T.rf T.rb d1 d2).trans h)

/- slices.IndexFunc[[]int,int] loop 0 -/
noncomputable def b226 (rf : T.RF) (rb : T.RB) (d1 : List (Int × Bool)) (d2 : List Int) (d3 : Int) (d4 : Int) : Option ((List (Int × Bool) × Int) ⊕ (List (Int × Bool))) :=
  bif decide (d4 < d3) then
    bif inb d4 d2.length then
      (nth d2 d4.toNat).bind fun (x1 : Int) =>
      (c71 rf d1 x1).bind fun (y2 : List (Int × Bool) × Bool) =>
      bif y2.2 then
        some (.inl (y2.1, d4))
      else
        k226 rb y2.1 d2 d3 (IntKind.i64.wrap (d4 + 1))
    else
      none
  else
    some (.inr d1)
theorem eb226 (rf : T.RF) (rb : T.RB) (d1 : List (Int × Bool)) (d2 : List Int) (d3 : Int) (d4 : Int) : T.stepB rf rb 226 (d1, d2, d3, d4) = b226 rf rb d1 d2 d3 d4 := by kernel_rfl
theorem ob226 {d1 : List (Int × Bool)} {d2 : List Int} {d3 : Int} {d4 : Int} {y : ((List (Int × Bool) × Int) ⊕ (List (Int × Bool)))} (h : b226 T.rf T.rb d1 d2 d3 d4 = some y) : k226 T.rb d1 d2 d3 d4 = some y := T.rb_of (κ := 226) (d := (d1, d2, d3, d4)) ((eb226 T.rf T.rb d1 d2 d3 d4).trans h)

/- slices.IndexFunc[[]int,int] -/
noncomputable def r70 (rf : T.RF) (rb : T.RB) (d1 : List (Int × Bool)) (d2 : List Int) : Option (List (Int × Bool) × Int) :=
  (k226 rb d1 d2 (((d2.length : Nat) : Int)) 0).bind fun (z1 : (List (Int × Bool) × Int) ⊕ (List (Int × Bool))) =>
  match z1 with
  | .inl u2 =>
    some u2
  | .inr w3 =>
    some (w3, (-1))
theorem er70 (rf : T.RF) (rb : T.RB) (d1 : List (Int × Bool)) (d2 : List Int) : T.stepF rf rb 70 (d1, d2) = r70 rf rb d1 d2 := by kernel_rfl
theorem or70 {d1 : List (Int × Bool)} {d2 : List Int} {y : (List (Int × Bool) × Int)} (h : r70 T.rf T.rb d1 d2 = some y) : c70 T.rf d1 d2 = some y := T.rf_of (f := 70) (d := (d1, d2)) ((er70 T.rf T.rb d1 d2).trans h)

/- slices.ContainsFunc[[]int,int] -/
noncomputable def r69 (rf : T.RF) (rb : T.RB) (d1 : List (Int × Bool)) (d2 : List Int) : Option (List (Int × Bool) × Bool) :=
  (c70 rf d1 d2).bind fun (y1 : List (Int × Bool) × Int) =>
  some (y1.1, decide (y1.2 ≥ 0))
theorem er69 (rf : T.RF) (rb : T.RB) (d1 : List (Int × Bool)) (d2 : List Int) : T.stepF rf rb 69 (d1, d2) = r69 rf rb d1 d2 := by kernel_rfl
theorem or69 {d1 : List (Int × Bool)} {d2 : List Int} {y : (List (Int × Bool) × Bool)} (h : r69 T.rf T.rb d1 d2 = some y) : c69 T.rf d1 d2 = some y := T.rf_of (f := 69) (d := (d1, d2)) ((er69 T.rf T.rb d1 d2).trans h)

/- code.Check loop 0 -/
noncomputable def b224q (rf : T.RF) (rb : T.RB) (d1 : XC) (d2 : List (Int × Bool)) (d3 : List (Int × Bool)) (d4 : List XI) (d5 : Int) (d6 : Int) : Option ((XC × List (Int × Bool) × List (Int × Bool) × Int) ⊕ (XC × List (Int × Bool) × List (Int × Bool))) :=
  bif decide (d6 < d5) then
    bif inb d6 d4.length then
      (nth d4 d6.toNat).bind fun (x1 : XI) =>
      (c68 rf d1 x1).bind fun (y2 : Bool) =>
      bif !y2 then
        some (.inl (d1, d2, d3, 1))
      else
        agN 1 (
          (c48 rf x1.1).bind fun (y3 : Int) =>
          bif inb' y3 3 then
            (k225 rb (sub [x1.2.2.1, x1.2.2.2.1, x1.2.2.2.2.1] (some (0, (y3.toNat - 0)))) d3 ((((y3.toNat - 0) : Nat) : Int)) 0).bind fun (z4 : (List Int × List (Int × Bool) × Int) ⊕ (List Int × List (Int × Bool))) =>
            match z4 with
            | .inl u5 =>
              some (.inl (d1, d2, u5.2))
            | .inr w6 =>
              bif x1.1 == 30 then
                bif assocGet (CT.eqK (.int .i64)) false d2 x1.2.2.2.2.2 then
                  some (.inl (d1, d2, w6.2, 1))
                else
                  k224 rb d1 (assocSet (CT.eqK (.int .i64)) d2 x1.2.2.2.2.2 true) w6.2 d4 d5 (IntKind.i64.wrap (d6 + 1))
              else
              bif decide (x1.2.1 < 0) then
                some (.inl (d1, d2, w6.2, 1))
              else
              bif decide (x1.2.1 ≥ d1.2.1) then
                some (.inl (d1, d2, w6.2, 1))
              else
              bif x1.1 == 21 then
                bif decide ((((d2.length : Nat) : Int)) > 0) then
                  some (.inl (d1, d2, w6.2, 1))
                else
                  k224 rb d1 d2 (assocSet (CT.eqK (.int .i64)) w6.2 x1.2.1 true) d4 d5 (IntKind.i64.wrap (d6 + 1))
              else
                k224 rb d1 d2 (assocSet (CT.eqK (.int .i64)) w6.2 x1.2.1 true) d4 d5 (IntKind.i64.wrap (d6 + 1))
          else
            none
        )
    else
      none
  else
    some (.inr (d1, d2, d3))
noncomputable def b224 (rf : T.RF) (rb : T.RB) (d1 : XC) (d2 : List (Int × Bool)) (d3 : List (Int × Bool)) (d4 : List XI) (d5 : Int) (d6 : Int) : Option ((XC × List (Int × Bool) × List (Int × Bool) × Int) ⊕ (XC × List (Int × Bool) × List (Int × Bool))) :=
  bif decide (d6 < d5) then
    bif inb d6 d4.length then
      (nth d4 d6.toNat).bind fun (x1 : XI) =>
      (c68 rf d1 x1).bind fun (y2 : Bool) =>
      bif !y2 then
        some (.inl (d1, d2, d3, 1))
      else
        (c48 rf x1.1).bind fun (y3 : Int) =>
        bif inb' y3 3 then
          (k225 rb (sub [x1.2.2.1, x1.2.2.2.1, x1.2.2.2.2.1] (some (0, (y3.toNat - 0)))) d3 ((((y3.toNat - 0) : Nat) : Int)) 0).bind fun (z4 : (List Int × List (Int × Bool) × Int) ⊕ (List Int × List (Int × Bool))) =>
          match z4 with
          | .inl u5 =>
            some (.inl (d1, d2, u5.2))
          | .inr w6 =>
            bif x1.1 == 30 then
              bif assocGet (CT.eqK (.int .i64)) false d2 x1.2.2.2.2.2 then
                some (.inl (d1, d2, w6.2, 1))
              else
                k224 rb d1 (assocSet (CT.eqK (.int .i64)) d2 x1.2.2.2.2.2 true) w6.2 d4 d5 (IntKind.i64.wrap (d6 + 1))
            else
            bif decide (x1.2.1 < 0) then
              some (.inl (d1, d2, w6.2, 1))
            else
            bif decide (x1.2.1 ≥ d1.2.1) then
              some (.inl (d1, d2, w6.2, 1))
            else
            bif x1.1 == 21 then
              bif decide ((((d2.length : Nat) : Int)) > 0) then
                some (.inl (d1, d2, w6.2, 1))
              else
                k224 rb d1 d2 (assocSet (CT.eqK (.int .i64)) w6.2 x1.2.1 true) d4 d5 (IntKind.i64.wrap (d6 + 1))
            else
              k224 rb d1 d2 (assocSet (CT.eqK (.int .i64)) w6.2 x1.2.1 true) d4 d5 (IntKind.i64.wrap (d6 + 1))
        else
          none
    else
      none
  else
    some (.inr (d1, d2, d3))
theorem eb224 (rf : T.RF) (rb : T.RB) (d1 : XC) (d2 : List (Int × Bool)) (d3 : List (Int × Bool)) (d4 : List XI) (d5 : Int) (d6 : Int) : T.stepB rf rb 224 (d1, d2, d3, d4, d5, d6) = b224q rf rb d1 d2 d3 d4 d5 d6 := by kernel_rfl
theorem sb224 (rf : T.RF) (rb : T.RB) (d1 : XC) (d2 : List (Int × Bool)) (d3 : List (Int × Bool)) (d4 : List XI) (d5 : Int) (d6 : Int) : b224q rf rb d1 d2 d3 d4 d5 d6 = b224 rf rb d1 d2 d3 d4 d5 d6 := by
  unfold b224q b224; simp only [agN_eq, agree_self, agree_swap]
theorem ob224 {d1 : XC} {d2 : List (Int × Bool)} {d3 : List (Int × Bool)} {d4 : List XI} {d5 : Int} {d6 : Int} {y : ((XC × List (Int × Bool) × List (Int × Bool) × Int) ⊕ (XC × List (Int × Bool) × List (Int × Bool)))} (h : b224 T.rf T.rb d1 d2 d3 d4 d5 d6 = some y) : k224 T.rb d1 d2 d3 d4 d5 d6 = some y := T.rb_of (κ := 224) (d := (d1, d2, d3, d4, d5, d6)) (((eb224 T.rf T.rb d1 d2 d3 d4 d5 d6).trans (sb224 T.rf T.rb d1 d2 d3 d4 d5 d6)).trans h)

/- code.Check loop 2 -/
noncomputable def b225 (rf : T.RF) (rb : T.RB) (d1 : List Int) (d2 : List (Int × Bool)) (d3 : Int) (d4 : Int) : Option ((List Int × List (Int × Bool) × Int) ⊕ (List Int × List (Int × Bool))) :=
  bif decide (d4 < d3) then
    bif inb d4 d1.length then
      (nth d1 d4.toNat).bind fun (x1 : Int) =>
      bif !(assocGet (CT.eqK (.int .i64)) false d2 x1) then
        some (.inl (d1, d2, 1))
      else
        k225 rb d1 d2 d3 (IntKind.i64.wrap (d4 + 1))
    else
      none
  else
    some (.inr (d1, d2))
theorem eb225 (rf : T.RF) (rb : T.RB) (d1 : List Int) (d2 : List (Int × Bool)) (d3 : Int) (d4 : Int) : T.stepB rf rb 225 (d1, d2, d3, d4) = b225 rf rb d1 d2 d3 d4 := by kernel_rfl
theorem ob225 {d1 : List Int} {d2 : List (Int × Bool)} {d3 : Int} {d4 : Int} {y : ((List Int × List (Int × Bool) × Int) ⊕ (List Int × List (Int × Bool)))} (h : b225 T.rf T.rb d1 d2 d3 d4 = some y) : k225 T.rb d1 d2 d3 d4 = some y := T.rb_of (κ := 225) (d := (d1, d2, d3, d4)) ((eb225 T.rf T.rb d1 d2 d3 d4).trans h)

/- code.Check -/
noncomputable def r67 (rf : T.RF) (rb : T.RB) (d1 : XC) : Option Int :=
  bif decide (d1.2.1 < 0) then
    some 1
  else
  bif decide (d1.2.1 > 100000) then
    some 1
  else
  bif decide (d1.2.2.1 < 0) then
    some 1
  else
  bif decide (d1.2.2.1 > 100000) then
    some 1
  else
  bif decide ((((d1.1.length : Nat) : Int)) > 200000) then
    some 1
  else
    (k224 rb d1 [] [] d1.1 (((d1.1.length : Nat) : Int)) 0).bind fun (z1 : (XC × List (Int × Bool) × List (Int × Bool) × Int) ⊕ (XC × List (Int × Bool) × List (Int × Bool))) =>
    match z1 with
    | .inl u2 =>
      some u2.2.2.2
    | .inr w3 =>
      (c69 rf w3.2.2 w3.1.2.2.2.1).bind fun (y4 : List (Int × Bool) × Bool) =>
      bif y4.2 then
        some 1
      else
        some 0
theorem er67 (rf : T.RF) (rb : T.RB) (d1 : XC) : T.stepF rf rb 67 d1 = r67 rf rb d1 := by kernel_rfl
theorem or67 {d1 : XC} {y : Int} (h : r67 T.rf T.rb d1 = some y) : c67 T.rf d1 = some y := T.rf_of (f := 67) (d := d1) ((er67 T.rf T.rb d1).trans h)

/- bailmentref03.Ints loop 0 -/
noncomputable def b228 (rf : T.RF) (rb : T.RB) (d1 : List Int) (d2 : List Int) (d3 : Int) : Option (Bool ⊕ Unit) :=
  bif decide (d3 < (((d1.length : Nat) : Int))) then
    bif inb d3 d1.length then
      (nth d1 d3.toNat).bind fun (x1 : Int) =>
      bif inb d3 d2.length then
        (nth d2 d3.toNat).bind fun (x2 : Int) =>
        bif x1 != x2 then
          some (.inl false)
        else
          k228 rb d1 d2 (IntKind.i64.wrap (d3 + 1))
      else
        none
    else
      none
  else
    some (.inr ())
theorem eb228 (rf : T.RF) (rb : T.RB) (d1 : List Int) (d2 : List Int) (d3 : Int) : T.stepB rf rb 228 (d1, d2, d3) = b228 rf rb d1 d2 d3 := by kernel_rfl
theorem ob228 {d1 : List Int} {d2 : List Int} {d3 : Int} {y : (Bool ⊕ Unit)} (h : b228 T.rf T.rb d1 d2 d3 = some y) : k228 T.rb d1 d2 d3 = some y := T.rb_of (κ := 228) (d := (d1, d2, d3)) ((eb228 T.rf T.rb d1 d2 d3).trans h)

/- bailmentref03.Ints -/
noncomputable def r73 (rf : T.RF) (rb : T.RB) (d1 : List Int) (d2 : List Int) : Option Bool :=
  bif (((d1.length : Nat) : Int)) != (((d2.length : Nat) : Int)) then
    some false
  else
    (k228 rb d1 d2 0).bind fun (z1 : Bool ⊕ Unit) =>
    match z1 with
    | .inl u2 =>
      some u2
    | .inr w3 =>
      some true
theorem er73 (rf : T.RF) (rb : T.RB) (d1 : List Int) (d2 : List Int) : T.stepF rf rb 73 (d1, d2) = r73 rf rb d1 d2 := by kernel_rfl
theorem or73 {d1 : List Int} {d2 : List Int} {y : Bool} (h : r73 T.rf T.rb d1 d2 = some y) : c73 T.rf d1 d2 = some y := T.rf_of (f := 73) (d := (d1, d2)) ((er73 T.rf T.rb d1 d2).trans h)

/- bailmentref12.Rows loop 0 -/
noncomputable def b227 (rf : T.RF) (rb : T.RB) (d1 : List (List Int)) (d2 : List (List Int)) (d3 : Int) : Option (Bool ⊕ Unit) :=
  bif decide (d3 < (((d1.length : Nat) : Int))) then
    bif inb d3 d1.length then
      (nth d1 d3.toNat).bind fun (x1 : List Int) =>
      bif inb d3 d2.length then
        (nth d2 d3.toNat).bind fun (x2 : List Int) =>
        (c73 rf x1 x2).bind fun (y3 : Bool) =>
        bif !y3 then
          some (.inl false)
        else
          k227 rb d1 d2 (IntKind.i64.wrap (d3 + 1))
      else
        none
    else
      none
  else
    some (.inr ())
theorem eb227 (rf : T.RF) (rb : T.RB) (d1 : List (List Int)) (d2 : List (List Int)) (d3 : Int) : T.stepB rf rb 227 (d1, d2, d3) = b227 rf rb d1 d2 d3 := by kernel_rfl
theorem ob227 {d1 : List (List Int)} {d2 : List (List Int)} {d3 : Int} {y : (Bool ⊕ Unit)} (h : b227 T.rf T.rb d1 d2 d3 = some y) : k227 T.rb d1 d2 d3 = some y := T.rb_of (κ := 227) (d := (d1, d2, d3)) ((eb227 T.rf T.rb d1 d2 d3).trans h)

/- bailmentref12.Rows -/
noncomputable def r72 (rf : T.RF) (rb : T.RB) (d1 : List (List Int)) (d2 : List (List Int)) : Option Bool :=
  bif (((d1.length : Nat) : Int)) != (((d2.length : Nat) : Int)) then
    some false
  else
    (k227 rb d1 d2 0).bind fun (z1 : Bool ⊕ Unit) =>
    match z1 with
    | .inl u2 =>
      some u2
    | .inr w3 =>
      some true
theorem er72 (rf : T.RF) (rb : T.RB) (d1 : List (List Int)) (d2 : List (List Int)) : T.stepF rf rb 72 (d1, d2) = r72 rf rb d1 d2 := by kernel_rfl
theorem or72 {d1 : List (List Int)} {d2 : List (List Int)} {y : Bool} (h : r72 T.rf T.rb d1 d2 = some y) : c72 T.rf d1 d2 = some y := T.rf_of (f := 72) (d := (d1, d2)) ((er72 T.rf T.rb d1 d2).trans h)

/- bailmentlaw16.live -/
noncomputable def r2 (rf : T.RF) (rb : T.RB) : Option Bool :=
  (c3 rf ([(3, (-1), (-1), (-1), 0), (1, (-1), (-1), (-1), 1), (14, 3, 1, (-1), 0), (21, 2, (-1), (-1), 0)], [2, 0], [2])).bind fun (y1 : XT) =>
  (c4 rf y1 [0]).bind fun (y2 : XC × Int) =>
  (c3 rf ([(3, (-1), (-1), (-1), 0), (1, (-1), (-1), (-1), 1), (14, 3, 1, (-1), 0), (21, 2, (-1), (-1), 0)], [2, 0], [2])).bind fun (y3 : XT) =>
  (c4 rf y3 [2]).bind fun (y4 : XC × Int) =>
  (c49 rf y2.1).bind fun (y5 : XC) =>
  (c50 rf y5 [[7], [7], [7]]).bind fun (y6 : List (List Int) × Int) =>
  (c67 rf ([], 0, 0, [0], [])).bind fun (y7 : Int) =>
  bif y2.2 == 0 then
    bif y4.2 == 1 then
      bif y6.2 == 0 then
        (c72 rf y6.1 [[1], [2], [3]]).bind fun (y8 : Bool) =>
        bif y8 then
          (c67 rf y2.1).bind fun (y9 : Int) =>
          bif y9 == 0 then
            bif y7 == 1 then
              (c67 rf ([], 0, 0, [], [])).bind fun (y10 : Int) =>
              some (y10 == 0)
            else
              some false
          else
            some false
        else
          some false
      else
        some false
    else
      some false
  else
    some false
theorem er2 (rf : T.RF) (rb : T.RB) : T.stepF rf rb 2 () = r2 rf rb := by kernel_rfl
theorem or2 {y : Bool} (h : r2 T.rf T.rb = some y) : c2 T.rf = some y := T.rf_of (f := 2) (d := ()) ((er2 T.rf T.rb).trans h)

/- bailmentlaw16.Own loop 0 -/
noncomputable def b230 (rf : T.RF) (rb : T.RB) (d1 : XC) (d2 : Int) (d3 : Int) (d4 : List Int) (d5 : List Int) (d6 : List XI) (d7 : Int) : Option (XC × Int × Int × List Int × List Int × List XI) :=
  bif decide (d7 < (((d1.1.length : Nat) : Int))) then
    bif inb d7 d1.1.length then
      (nth d1.1 d7.toNat).bind fun (x1 : XI) =>
      bif (Nat.ble (d6.length + 1) most) && true then
        k230 rb d1 d2 d3 d4 d5 (d6 ++ [x1]) (IntKind.i64.wrap (d7 + 1))
      else
        none
    else
      none
  else
    some (d1, d2, d3, d4, d5, d6)
theorem eb230 (rf : T.RF) (rb : T.RB) (d1 : XC) (d2 : Int) (d3 : Int) (d4 : List Int) (d5 : List Int) (d6 : List XI) (d7 : Int) : T.stepB rf rb 230 (d1, d2, d3, d4, d5, d6, d7) = b230 rf rb d1 d2 d3 d4 d5 d6 d7 := by kernel_rfl
theorem ob230 {d1 : XC} {d2 : Int} {d3 : Int} {d4 : List Int} {d5 : List Int} {d6 : List XI} {d7 : Int} {y : (XC × Int × Int × List Int × List Int × List XI)} (h : b230 T.rf T.rb d1 d2 d3 d4 d5 d6 d7 = some y) : k230 T.rb d1 d2 d3 d4 d5 d6 d7 = some y := T.rb_of (κ := 230) (d := (d1, d2, d3, d4, d5, d6, d7)) ((eb230 T.rf T.rb d1 d2 d3 d4 d5 d6 d7).trans h)

/- bailmentlaw16.Own -/
noncomputable def r74 (rf : T.RF) (rb : T.RB) (d1 : XC) : Option XC :=
  (k230 rb d1 d1.2.1 d1.2.2.1 d1.2.2.2.1 d1.2.2.2.2 [] 0).bind fun (z1 : XC × Int × Int × List Int × List Int × List XI) =>
  some (z1.2.2.2.2.2, z1.2.1, z1.2.2.1, z1.2.2.2.1, z1.2.2.2.2.1)
theorem er74 (rf : T.RF) (rb : T.RB) (d1 : XC) : T.stepF rf rb 74 d1 = r74 rf rb d1 := by kernel_rfl
theorem or74 {d1 : XC} {y : XC} (h : r74 T.rf T.rb d1 = some y) : c74 T.rf d1 = some y := T.rf_of (f := 74) (d := d1) ((er74 T.rf T.rb d1).trans h)

/- bailmentlaw16.CodeChecks -/
noncomputable def r0 (rf : T.RF) (rb : T.RB) (d1 : XC) : Option Bool :=
  (c1 rf d1).bind fun (y1 : Bool) =>
  bif !y1 then
    (c2 rf).bind fun (y2 : Bool) =>
    some y2
  else
    (c74 rf d1).bind fun (y3 : XC) =>
    (c67 rf y3).bind fun (y4 : Int) =>
    (c51 rf d1).bind fun (y5 : Int) =>
    bif y4 == y5 then
      (c2 rf).bind fun (y6 : Bool) =>
      some y6
    else
      some false
theorem er0 (rf : T.RF) (rb : T.RB) (d1 : XC) : T.stepF rf rb 0 d1 = r0 rf rb d1 := by kernel_rfl
theorem or0 {d1 : XC} {y : Bool} (h : r0 T.rf T.rb d1 = some y) : c0 T.rf d1 = some y := T.rf_of (f := 0) (d := d1) ((er0 T.rf T.rb d1).trans h)

/- bailmentref14.Small -/
noncomputable def r76 (rf : T.RF) (rb : T.RB) (d1 : XT) : Option Bool :=
  bif decide ((((d1.1.length : Nat) : Int)) ≤ 300) then
    bif decide ((((d1.2.1.length : Nat) : Int)) ≤ 60) then
      some (decide ((((d1.2.2.length : Nat) : Int)) ≤ 60))
    else
      some false
  else
    some false
theorem er76 (rf : T.RF) (rb : T.RB) (d1 : XT) : T.stepF rf rb 76 d1 = r76 rf rb d1 := by kernel_rfl
theorem or76 {d1 : XT} {y : Bool} (h : r76 T.rf T.rb d1 = some y) : c76 T.rf d1 = some y := T.rf_of (f := 76) (d := d1) ((er76 T.rf T.rb d1).trans h)

/- bailmentref12.Small loop 0 -/
noncomputable def b231 (rf : T.RF) (rb : T.RB) (d1 : List (List UInt8 × Int × List (Int × Int × Int × Int × Int × List UInt8))) (d2 : Int) : Option (Bool ⊕ Unit) :=
  bif decide (d2 < (((d1.length : Nat) : Int))) then
    bif inb d2 d1.length then
      (nth d1 d2.toNat).bind fun (x1 : List UInt8 × Int × List (Int × Int × Int × Int × Int × List UInt8)) =>
      bif decide ((((x1.2.2.length : Nat) : Int)) > 100) then
        some (.inl false)
      else
      bif inb d2 d1.length then
        (nth d1 d2.toNat).bind fun (x2 : List UInt8 × Int × List (Int × Int × Int × Int × Int × List UInt8)) =>
        bif decide ((((x2.1.length : Nat) : Int)) > 100) then
          some (.inl false)
        else
          k231 rb d1 (IntKind.i64.wrap (d2 + 1))
      else
        none
    else
      none
  else
    some (.inr ())
theorem eb231 (rf : T.RF) (rb : T.RB) (d1 : List (List UInt8 × Int × List (Int × Int × Int × Int × Int × List UInt8))) (d2 : Int) : T.stepB rf rb 231 (d1, d2) = b231 rf rb d1 d2 := by kernel_rfl
theorem ob231 {d1 : List (List UInt8 × Int × List (Int × Int × Int × Int × Int × List UInt8))} {d2 : Int} {y : (Bool ⊕ Unit)} (h : b231 T.rf T.rb d1 d2 = some y) : k231 T.rb d1 d2 = some y := T.rb_of (κ := 231) (d := (d1, d2)) ((eb231 T.rf T.rb d1 d2).trans h)

/- bailmentref12.Small loop 2 -/
noncomputable def b232 (rf : T.RF) (rb : T.RB) (d1 : List (List Int)) (d2 : Int) : Option (Bool ⊕ Unit) :=
  bif decide (d2 < (((d1.length : Nat) : Int))) then
    bif inb d2 d1.length then
      (nth d1 d2.toNat).bind fun (x1 : List Int) =>
      bif decide ((((x1.length : Nat) : Int)) > 60) then
        some (.inl false)
      else
        k232 rb d1 (IntKind.i64.wrap (d2 + 1))
    else
      none
  else
    some (.inr ())
theorem eb232 (rf : T.RF) (rb : T.RB) (d1 : List (List Int)) (d2 : Int) : T.stepB rf rb 232 (d1, d2) = b232 rf rb d1 d2 := by kernel_rfl
theorem ob232 {d1 : List (List Int)} {d2 : Int} {y : (Bool ⊕ Unit)} (h : b232 T.rf T.rb d1 d2 = some y) : k232 T.rb d1 d2 = some y := T.rb_of (κ := 232) (d := (d1, d2)) ((eb232 T.rf T.rb d1 d2).trans h)

/- bailmentref12.Small -/
noncomputable def r77 (rf : T.RF) (rb : T.RB) (d1 : List (List UInt8 × Int × List (Int × Int × Int × Int × Int × List UInt8))) (d2 : List (List Int)) : Option Bool :=
  bif decide ((((d1.length : Nat) : Int)) > 60) then
    some false
  else
  bif decide ((((d2.length : Nat) : Int)) > 20) then
    some false
  else
    (k231 rb d1 0).bind fun (z1 : Bool ⊕ Unit) =>
    match z1 with
    | .inl u2 =>
      some u2
    | .inr w3 =>
      (k232 rb d2 0).bind fun (z4 : Bool ⊕ Unit) =>
      match z4 with
      | .inl u5 =>
        some u5
      | .inr w6 =>
        some true
theorem er77 (rf : T.RF) (rb : T.RB) (d1 : List (List UInt8 × Int × List (Int × Int × Int × Int × Int × List UInt8))) (d2 : List (List Int)) : T.stepF rf rb 77 (d1, d2) = r77 rf rb d1 d2 := by kernel_rfl
theorem or77 {d1 : List (List UInt8 × Int × List (Int × Int × Int × Int × Int × List UInt8))} {d2 : List (List Int)} {y : Bool} (h : r77 T.rf T.rb d1 d2 = some y) : c77 T.rf d1 d2 = some y := T.rf_of (f := 77) (d := (d1, d2)) ((er77 T.rf T.rb d1 d2).trans h)

/- bailmentref14.Kids -/
noncomputable def r80 (rf : T.RF) (rb : T.RB) (d1 : Int) : Option Int :=
  bif d1 == 3 then
    bif d1 == 3 then
      some 0
    else
    bif d1 == 21 then
      some 1
    else
    bif d1 == 19 then
      some 2
    else
      (c53 rf d1).bind fun (y1 : Int) =>
      some y1
  else
  bif d1 == 1 then
    bif d1 == 1 then
      some 0
    else
    bif d1 == 21 then
      some 1
    else
    bif d1 == 19 then
      some 2
    else
      (c53 rf d1).bind fun (y2 : Int) =>
      some y2
  else
  bif d1 == 2 then
    some 0
  else
  bif d1 == 21 then
    some 1
  else
  bif d1 == 19 then
    some 2
  else
    (c53 rf d1).bind fun (y3 : Int) =>
    some y3
theorem er80 (rf : T.RF) (rb : T.RB) (d1 : Int) : T.stepF rf rb 80 d1 = r80 rf rb d1 := by kernel_rfl
theorem or80 {d1 : Int} {y : Int} (h : r80 T.rf T.rb d1 = some y) : c80 T.rf d1 = some y := T.rf_of (f := 80) (d := d1) ((er80 T.rf T.rb d1).trans h)

/- bailmentref14.plain -/
noncomputable def r81 (rf : T.RF) (rb : T.RB) (d1 : XT) (d2 : XO) : Option Bool :=
  bif d2.1 == 3 then
    bif decide (d2.2.2.2.2 ≥ 0) then
      some (decide (d2.2.2.2.2 < (((d1.2.2.length : Nat) : Int))))
    else
      some false
  else
  bif d2.1 == 1 then
    (c56 rf d2.2.2.2.2).bind fun (y1 : Bool) =>
    some y1
  else
  bif d2.1 == 2 then
    bif d2.2.2.2.2 == 0 then
      some true
    else
      some (d2.2.2.2.2 == 1)
  else
    some (d2.2.2.2.2 == 0)
theorem er81 (rf : T.RF) (rb : T.RB) (d1 : XT) (d2 : XO) : T.stepF rf rb 81 (d1, d2) = r81 rf rb d1 d2 := by kernel_rfl
theorem or81 {d1 : XT} {d2 : XO} {y : Bool} (h : r81 T.rf T.rb d1 d2 = some y) : c81 T.rf d1 d2 = some y := T.rf_of (f := 81) (d := (d1, d2)) ((er81 T.rf T.rb d1 d2).trans h)

/- bailmentref14.operand -/
noncomputable def r82 (rf : T.RF) (rb : T.RB) (d1 : XT) (d2 : Int) (d3 : Int) (d4 : Int) : Option Bool :=
  bif decide (d4 ≥ d3) then
    some (d2 == (-1))
  else
  bif decide (d2 ≥ 0) then
    some (decide (d2 < (((d1.1.length : Nat) : Int))))
  else
    some false
theorem er82 (rf : T.RF) (rb : T.RB) (d1 : XT) (d2 : Int) (d3 : Int) (d4 : Int) : T.stepF rf rb 82 (d1, d2, d3, d4) = r82 rf rb d1 d2 d3 d4 := by kernel_rfl
theorem or82 {d1 : XT} {d2 : Int} {d3 : Int} {d4 : Int} {y : Bool} (h : r82 T.rf T.rb d1 d2 d3 d4 = some y) : c82 T.rf d1 d2 d3 d4 = some y := T.rf_of (f := 82) (d := (d1, d2, d3, d4)) ((er82 T.rf T.rb d1 d2 d3 d4).trans h)

/- bailmentref14.May loop 0 -/
noncomputable def b233 (rf : T.RF) (rb : T.RB) (d1 : XT) (d2 : Int) : Option ((XT × Bool) ⊕ XT) :=
  bif decide (d2 < (((d1.1.length : Nat) : Int))) then
    bif inb d2 d1.1.length then
      (nth d1.1 d2.toNat).bind fun (x1 : XO) =>
      (c80 rf x1.1).bind fun (y2 : Int) =>
      bif decide (y2 < 0) then
        some (.inl (d1, false))
      else
        (c81 rf d1 x1).bind fun (y3 : Bool) =>
        bif !y3 then
          some (.inl (d1, false))
        else
          (c82 rf d1 x1.2.1 y2 0).bind fun (y4 : Bool) =>
          bif !y4 then
            some (.inl (d1, false))
          else
            (c82 rf d1 x1.2.2.1 y2 1).bind fun (y5 : Bool) =>
            bif !y5 then
              some (.inl (d1, false))
            else
              (c82 rf d1 x1.2.2.2.1 y2 2).bind fun (y6 : Bool) =>
              bif !y6 then
                some (.inl (d1, false))
              else
                k233 rb d1 (IntKind.i64.wrap (d2 + 1))
    else
      none
  else
    some (.inr d1)
theorem eb233 (rf : T.RF) (rb : T.RB) (d1 : XT) (d2 : Int) : T.stepB rf rb 233 (d1, d2) = b233 rf rb d1 d2 := by kernel_rfl
theorem ob233 {d1 : XT} {d2 : Int} {y : ((XT × Bool) ⊕ XT)} (h : b233 T.rf T.rb d1 d2 = some y) : k233 T.rb d1 d2 = some y := T.rb_of (κ := 233) (d := (d1, d2)) ((eb233 T.rf T.rb d1 d2).trans h)

/- bailmentref14.May loop 2 -/
noncomputable def b234 (rf : T.RF) (rb : T.RB) (d1 : XT) (d2 : Int) : Option ((XT × Bool) ⊕ XT) :=
  bif decide (d2 < (((d1.2.1.length : Nat) : Int))) then
    bif inb d2 d1.2.1.length then
      (nth d1.2.1 d2.toNat).bind fun (x1 : Int) =>
      bif decide (x1 < 0) then
        some (.inl (d1, false))
      else
      bif inb d2 d1.2.1.length then
        (nth d1.2.1 d2.toNat).bind fun (x2 : Int) =>
        bif decide (x2 ≥ (((d1.1.length : Nat) : Int))) then
          some (.inl (d1, false))
        else
          k234 rb d1 (IntKind.i64.wrap (d2 + 1))
      else
        none
    else
      none
  else
    some (.inr d1)
theorem eb234 (rf : T.RF) (rb : T.RB) (d1 : XT) (d2 : Int) : T.stepB rf rb 234 (d1, d2) = b234 rf rb d1 d2 := by kernel_rfl
theorem ob234 {d1 : XT} {d2 : Int} {y : ((XT × Bool) ⊕ XT)} (h : b234 T.rf T.rb d1 d2 = some y) : k234 T.rb d1 d2 = some y := T.rb_of (κ := 234) (d := (d1, d2)) ((eb234 T.rf T.rb d1 d2).trans h)

/- bailmentref14.May -/
noncomputable def r79 (rf : T.RF) (rb : T.RB) (d1 : XT) : Option Bool :=
  bif decide ((((d1.1.length : Nat) : Int)) > 100000) then
    some false
  else
    (k233 rb d1 0).bind fun (z1 : (XT × Bool) ⊕ XT) =>
    match z1 with
    | .inl u2 =>
      some u2.2
    | .inr w3 =>
      (k234 rb w3 0).bind fun (z4 : (XT × Bool) ⊕ XT) =>
      match z4 with
      | .inl u5 =>
        some u5.2
      | .inr w6 =>
        some true
theorem er79 (rf : T.RF) (rb : T.RB) (d1 : XT) : T.stepF rf rb 79 d1 = r79 rf rb d1 := by kernel_rfl
theorem or79 {d1 : XT} {y : Bool} (h : r79 T.rf T.rb d1 = some y) : c79 T.rf d1 = some y := T.rf_of (f := 79) (d := d1) ((er79 T.rf T.rb d1).trans h)

/- bailmentref14.Operands -/
noncomputable def r84 (rf : T.RF) (rb : T.RB) (d1 : XO) : Option (List Int) :=
  bif d1.1 == 21 then
    some []
  else
    (c80 rf d1.1).bind fun (y1 : Int) =>
    bif inb' y1 3 then
      some (sub [d1.2.1, d1.2.2.1, d1.2.2.2.1] (some (0, (y1.toNat - 0))))
    else
      none
theorem er84 (rf : T.RF) (rb : T.RB) (d1 : XO) : T.stepF rf rb 84 d1 = r84 rf rb d1 := by kernel_rfl
theorem or84 {d1 : XO} {y : (List Int)} (h : r84 T.rf T.rb d1 = some y) : c84 T.rf d1 = some y := T.rf_of (f := 84) (d := d1) ((er84 T.rf T.rb d1).trans h)

/- bailmentref14.Order loop 0 -/
noncomputable def b238 (rf : T.RF) (rb : T.RB) (d1 : XT) (d2 : List Bool) (d3 : List Int) : Option (XT × List Bool × List Int) :=
  (k239 rb d1 d2 (-1) (IntKind.i64.wrap ((((d1.1.length : Nat) : Int)) - 1))).bind fun (z1 : XT × List Bool × Int) =>
  bif decide (z1.2.2 < 0) then
    some (z1.1, z1.2.1, d3)
  else
  bif inb z1.2.2 z1.2.1.length then
    bif Nat.blt z1.2.2.toNat z1.2.1.length then
      bif (Nat.ble (d3.length + 1) most) && true then
        k238 rb z1.1 (setNth z1.2.1 z1.2.2.toNat true) (d3 ++ [z1.2.2])
      else
        none
    else
      none
  else
    none
theorem eb238 (rf : T.RF) (rb : T.RB) (d1 : XT) (d2 : List Bool) (d3 : List Int) : T.stepB rf rb 238 (d1, d2, d3) = b238 rf rb d1 d2 d3 := by kernel_rfl
theorem ob238 {d1 : XT} {d2 : List Bool} {d3 : List Int} {y : (XT × List Bool × List Int)} (h : b238 T.rf T.rb d1 d2 d3 = some y) : k238 T.rb d1 d2 d3 = some y := T.rb_of (κ := 238) (d := (d1, d2, d3)) ((eb238 T.rf T.rb d1 d2 d3).trans h)

/- bailmentref14.Order loop 2 -/
noncomputable def b239 (rf : T.RF) (rb : T.RB) (d1 : XT) (d2 : List Bool) (d3 : Int) (d4 : Int) : Option (XT × List Bool × Int) :=
  bif decide (d4 ≥ 0) then
    bif inb d4 d2.length then
      (nth d2 d4.toNat).bind fun (x1 : Bool) =>
      bif inb d4 d1.1.length then
        (nth d1.1 d4.toNat).bind fun (x2 : XO) =>
        (c84 rf x2).bind fun (y3 : List Int) =>
        (k240 rb d2 y3 (!x1) 0).bind fun (z4 : List Bool × List Int × Bool) =>
        bif z4.2.2 then
          k239 rb d1 z4.1 d4 (IntKind.i64.wrap (d4 - 1))
        else
          k239 rb d1 z4.1 d3 (IntKind.i64.wrap (d4 - 1))
      else
        none
    else
      none
  else
    some (d1, d2, d3)
theorem eb239 (rf : T.RF) (rb : T.RB) (d1 : XT) (d2 : List Bool) (d3 : Int) (d4 : Int) : T.stepB rf rb 239 (d1, d2, d3, d4) = b239 rf rb d1 d2 d3 d4 := by kernel_rfl
theorem ob239 {d1 : XT} {d2 : List Bool} {d3 : Int} {d4 : Int} {y : (XT × List Bool × Int)} (h : b239 T.rf T.rb d1 d2 d3 d4 = some y) : k239 T.rb d1 d2 d3 d4 = some y := T.rb_of (κ := 239) (d := (d1, d2, d3, d4)) ((eb239 T.rf T.rb d1 d2 d3 d4).trans h)

/- bailmentref14.Order loop 4 -/
noncomputable def b240 (rf : T.RF) (rb : T.RB) (d1 : List Bool) (d2 : List Int) (d3 : Bool) (d4 : Int) : Option (List Bool × List Int × Bool) :=
  bif decide (d4 < (((d2.length : Nat) : Int))) then
    bif d3 then
      bif inb d4 d2.length then
        (nth d2 d4.toNat).bind fun (x1 : Int) =>
        bif inb x1 d1.length then
          (nth d1 x1.toNat).bind fun (x2 : Bool) =>
          k240 rb d1 d2 x2 (IntKind.i64.wrap (d4 + 1))
        else
          none
      else
        none
    else
      k240 rb d1 d2 false (IntKind.i64.wrap (d4 + 1))
  else
    some (d1, d2, d3)
theorem eb240 (rf : T.RF) (rb : T.RB) (d1 : List Bool) (d2 : List Int) (d3 : Bool) (d4 : Int) : T.stepB rf rb 240 (d1, d2, d3, d4) = b240 rf rb d1 d2 d3 d4 := by kernel_rfl
theorem ob240 {d1 : List Bool} {d2 : List Int} {d3 : Bool} {d4 : Int} {y : (List Bool × List Int × Bool)} (h : b240 T.rf T.rb d1 d2 d3 d4 = some y) : k240 T.rb d1 d2 d3 d4 = some y := T.rb_of (κ := 240) (d := (d1, d2, d3, d4)) ((eb240 T.rf T.rb d1 d2 d3 d4).trans h)

/- bailmentref14.Order -/
noncomputable def r83 (rf : T.RF) (rb : T.RB) (d1 : XT) : Option (List Int) :=
  bif inb' (((d1.1.length : Nat) : Int)) most then
    bif inb' (((d1.1.length : Nat) : Int)) d1.1.length then
      (k238 rb d1 (List.replicate d1.1.length false) []).bind fun (z1 : XT × List Bool × List Int) =>
      some z1.2.2
    else
      none
  else
    none
theorem er83 (rf : T.RF) (rb : T.RB) (d1 : XT) : T.stepF rf rb 83 d1 = r83 rf rb d1 := by kernel_rfl
theorem or83 {d1 : XT} {y : (List Int)} (h : r83 T.rf T.rb d1 = some y) : c83 T.rf d1 = some y := T.rf_of (f := 83) (d := d1) ((er83 T.rf T.rb d1).trans h)

/- bailmentref14.Check -/
noncomputable def r78 (rf : T.RF) (rb : T.RB) (d1 : XT) : Option Int :=
  (c79 rf d1).bind fun (y1 : Bool) =>
  bif !y1 then
    some 1
  else
    (c83 rf d1).bind fun (y2 : List Int) =>
    bif decide ((((y2.length : Nat) : Int)) < (((d1.1.length : Nat) : Int))) then
      some 12
    else
      some 0
theorem er78 (rf : T.RF) (rb : T.RB) (d1 : XT) : T.stepF rf rb 78 d1 = r78 rf rb d1 := by kernel_rfl
theorem or78 {d1 : XT} {y : Int} (h : r78 T.rf T.rb d1 = some y) : c78 T.rf d1 = some y := T.rf_of (f := 78) (d := d1) ((er78 T.rf T.rb d1).trans h)

/- bailmentref14.frame loop 0 -/
noncomputable def b243 (rf : T.RF) (rb : T.RB) (d1 : XT) (d2 : List Int) (d3 : Int) : Option ((XT × Bool) ⊕ XT) :=
  bif decide (d3 < (((d2.length : Nat) : Int))) then
    bif inb d3 d2.length then
      (nth d2 d3.toNat).bind fun (x1 : Int) =>
      (c56 rf x1).bind fun (y2 : Bool) =>
      bif !y2 then
        some (.inl (d1, false))
      else
      bif inb d3 d1.2.2.length then
        (nth d1.2.2 d3.toNat).bind fun (x3 : Int) =>
        bif x3 == 1 then
          bif inb d3 d2.length then
            (nth d2 d3.toNat).bind fun (x4 : Int) =>
            bif x4 != 0 then
              bif inb d3 d2.length then
                (nth d2 d3.toNat).bind fun (x5 : Int) =>
                bif x5 != 1 then
                  some (.inl (d1, false))
                else
                  k243 rb d1 d2 (IntKind.i64.wrap (d3 + 1))
              else
                none
            else
              k243 rb d1 d2 (IntKind.i64.wrap (d3 + 1))
          else
            none
        else
          k243 rb d1 d2 (IntKind.i64.wrap (d3 + 1))
      else
        none
    else
      none
  else
    some (.inr d1)
theorem eb243 (rf : T.RF) (rb : T.RB) (d1 : XT) (d2 : List Int) (d3 : Int) : T.stepB rf rb 243 (d1, d2, d3) = b243 rf rb d1 d2 d3 := by kernel_rfl
theorem ob243 {d1 : XT} {d2 : List Int} {d3 : Int} {y : ((XT × Bool) ⊕ XT)} (h : b243 T.rf T.rb d1 d2 d3 = some y) : k243 T.rb d1 d2 d3 = some y := T.rb_of (κ := 243) (d := (d1, d2, d3)) ((eb243 T.rf T.rb d1 d2 d3).trans h)

/- bailmentref14.frame -/
noncomputable def r86 (rf : T.RF) (rb : T.RB) (d1 : XT) (d2 : List Int) : Option Bool :=
  bif (((d2.length : Nat) : Int)) != (((d1.2.2.length : Nat) : Int)) then
    some false
  else
    (k243 rb d1 d2 0).bind fun (z1 : (XT × Bool) ⊕ XT) =>
    match z1 with
    | .inl u2 =>
      some u2.2
    | .inr w3 =>
      some true
theorem er86 (rf : T.RF) (rb : T.RB) (d1 : XT) (d2 : List Int) : T.stepF rf rb 86 (d1, d2) = r86 rf rb d1 d2 := by kernel_rfl
theorem or86 {d1 : XT} {d2 : List Int} {y : Bool} (h : r86 T.rf T.rb d1 d2 = some y) : c86 T.rf d1 d2 = some y := T.rf_of (f := 86) (d := (d1, d2)) ((er86 T.rf T.rb d1 d2).trans h)

/- bailmentref14.value tail 15 -/
noncomputable def b247 (rf : T.RF) (rb : T.RB) (d1 : List Int) (d2 : XO) : Option (List Int × XO × Int × Int) :=
  (c84 rf d2).bind fun (y1 : List Int) =>
  (k248 rb d1 y1 [0, 0, 0] 0).bind fun (z2 : List Int × List Int × List Int) =>
  bif inb 0 z2.2.2.length then
    (nth z2.2.2 0).bind fun (x3 : Int) =>
    bif inb 1 z2.2.2.length then
      (nth z2.2.2 1).bind fun (x4 : Int) =>
      bif inb 2 z2.2.2.length then
        (nth z2.2.2 2).bind fun (x5 : Int) =>
        (c62 rf d2.1 x3 x4 x5).bind fun (y6 : Int × Int) =>
        some (z2.1, d2, y6)
      else
        none
    else
      none
  else
    none
theorem eb247 (rf : T.RF) (rb : T.RB) (d1 : List Int) (d2 : XO) : T.stepB rf rb 247 (d1, d2) = b247 rf rb d1 d2 := by kernel_rfl
theorem ob247 {d1 : List Int} {d2 : XO} {y : (List Int × XO × Int × Int)} (h : b247 T.rf T.rb d1 d2 = some y) : k247 T.rb d1 d2 = some y := T.rb_of (κ := 247) (d := (d1, d2)) ((eb247 T.rf T.rb d1 d2).trans h)

/- bailmentref14.value loop 1 -/
noncomputable def b248 (rf : T.RF) (rb : T.RB) (d1 : List Int) (d2 : List Int) (d3 : List Int) (d4 : Int) : Option (List Int × List Int × List Int) :=
  bif decide (d4 < (((d2.length : Nat) : Int))) then
    bif inb d4 d2.length then
      (nth d2 d4.toNat).bind fun (x1 : Int) =>
      bif inb x1 d1.length then
        (nth d1 x1.toNat).bind fun (x2 : Int) =>
        bif inb d4 d3.length then
          bif Nat.blt d4.toNat d3.length then
            k248 rb d1 d2 (setNth d3 d4.toNat x2) (IntKind.i64.wrap (d4 + 1))
          else
            none
        else
          none
      else
        none
    else
      none
  else
    some (d1, d2, d3)
theorem eb248 (rf : T.RF) (rb : T.RB) (d1 : List Int) (d2 : List Int) (d3 : List Int) (d4 : Int) : T.stepB rf rb 248 (d1, d2, d3, d4) = b248 rf rb d1 d2 d3 d4 := by kernel_rfl
theorem ob248 {d1 : List Int} {d2 : List Int} {d3 : List Int} {d4 : Int} {y : (List Int × List Int × List Int)} (h : b248 T.rf T.rb d1 d2 d3 d4 = some y) : k248 T.rb d1 d2 d3 d4 = some y := T.rb_of (κ := 248) (d := (d1, d2, d3, d4)) ((eb248 T.rf T.rb d1 d2 d3 d4).trans h)

/- bailmentref14.value -/
noncomputable def r87 (rf : T.RF) (rb : T.RB) (d1 : List Int) (d2 : XO) (d3 : List Int) (d4 : List Int) : Option (List Int × Int × Int) :=
  bif d2.1 == 3 then
    bif inb d2.2.2.2.2 d3.length then
      (nth d3 d2.2.2.2.2.toNat).bind fun (x1 : Int) =>
      some (d1, x1, 0)
    else
      none
  else
  bif d2.1 == 1 then
    bif d2.1 == 1 then
      some (d1, d2.2.2.2.2, 0)
    else
    bif d2.1 == 19 then
      bif (((d4.length : Nat) : Int)) == 0 then
        bif inb d2.2.1 d1.length then
          (nth d1 d2.2.1.toNat).bind fun (x2 : Int) =>
          some (d1, x2, 0)
        else
          none
      else
      bif inb d2.2.2.1 d1.length then
        (nth d1 d2.2.2.1.toNat).bind fun (x3 : Int) =>
        some (d1, x3, 0)
      else
        none
    else
    bif d2.1 == 21 then
      bif (((d4.length : Nat) : Int)) == 0 then
        some (d1, 0, 0)
      else
      bif inb d2.2.1 d4.length then
        (nth d4 d2.2.1.toNat).bind fun (x4 : Int) =>
        some (d1, x4, 0)
      else
        none
    else
      (k247 rb d1 d2).bind fun (z5 : List Int × XO × Int × Int) =>
      some (z5.1, z5.2.2)
  else
  bif d2.1 == 2 then
    some (d1, d2.2.2.2.2, 0)
  else
  bif d2.1 == 19 then
    bif (((d4.length : Nat) : Int)) == 0 then
      bif inb d2.2.1 d1.length then
        (nth d1 d2.2.1.toNat).bind fun (x6 : Int) =>
        some (d1, x6, 0)
      else
        none
    else
    bif inb d2.2.2.1 d1.length then
      (nth d1 d2.2.2.1.toNat).bind fun (x7 : Int) =>
      some (d1, x7, 0)
    else
      none
  else
  bif d2.1 == 21 then
    bif (((d4.length : Nat) : Int)) == 0 then
      some (d1, 0, 0)
    else
    bif inb d2.2.1 d4.length then
      (nth d4 d2.2.1.toNat).bind fun (x8 : Int) =>
      some (d1, x8, 0)
    else
      none
  else
    (k247 rb d1 d2).bind fun (z9 : List Int × XO × Int × Int) =>
    some (z9.1, z9.2.2)
theorem er87 (rf : T.RF) (rb : T.RB) (d1 : List Int) (d2 : XO) (d3 : List Int) (d4 : List Int) : T.stepF rf rb 87 (d1, d2, d3, d4) = r87 rf rb d1 d2 d3 d4 := by kernel_rfl
theorem or87 {d1 : List Int} {d2 : XO} {d3 : List Int} {d4 : List Int} {y : (List Int × Int × Int)} (h : r87 T.rf T.rb d1 d2 d3 d4 = some y) : c87 T.rf d1 d2 d3 d4 = some y := T.rf_of (f := 87) (d := (d1, d2, d3, d4)) ((er87 T.rf T.rb d1 d2 d3 d4).trans h)

/- bailmentref14.Run loop 0 -/
noncomputable def b253 (rf : T.RF) (rb : T.RB) (d1 : XT) (d2 : List Int) (d3 : List (List Int)) (d4 : List (List Int)) (d5 : List Int) (d6 : Int) : Option ((XT × List Int × List (List Int) × Int) ⊕ (XT × List Int × List (List Int))) :=
  bif decide (d6 < (((d4.length : Nat) : Int))) then
    bif inb d6 d4.length then
      (nth d4 d6.toNat).bind fun (x1 : List Int) =>
      (c86 rf d1 x1).bind fun (y2 : Bool) =>
      bif !y2 then
        some (.inl (d1, d2, d3, 17))
      else
      bif inb' (((d1.1.length : Nat) : Int)) most then
        bif inb' (((d1.1.length : Nat) : Int)) d1.1.length then
          (k254 rb d1 d2 (List.replicate d1.1.length (0 : Int)) d4 d5 d6 0 0).bind fun (z3 : XT × List Int × List Int × Int) =>
          bif z3.2.2.2 != 0 then
            some (.inl (z3.1, z3.2.1, d3, z3.2.2.2))
          else
            (k255 rb z3.1 z3.2.2.1 [] 0).bind fun (z4 : XT × List Int × List Int) =>
            bif (Nat.ble (d3.length + 1) most) && true then
              k253 rb z4.1 z3.2.1 (d3 ++ [z4.2.2]) d4 z4.2.1 (IntKind.i64.wrap (d6 + 1))
            else
              none
        else
          none
      else
        none
    else
      none
  else
    some (.inr (d1, d2, d3))
theorem eb253 (rf : T.RF) (rb : T.RB) (d1 : XT) (d2 : List Int) (d3 : List (List Int)) (d4 : List (List Int)) (d5 : List Int) (d6 : Int) : T.stepB rf rb 253 (d1, d2, d3, d4, d5, d6) = b253 rf rb d1 d2 d3 d4 d5 d6 := by kernel_rfl
theorem ob253 {d1 : XT} {d2 : List Int} {d3 : List (List Int)} {d4 : List (List Int)} {d5 : List Int} {d6 : Int} {y : ((XT × List Int × List (List Int) × Int) ⊕ (XT × List Int × List (List Int)))} (h : b253 T.rf T.rb d1 d2 d3 d4 d5 d6 = some y) : k253 T.rb d1 d2 d3 d4 d5 d6 = some y := T.rb_of (κ := 253) (d := (d1, d2, d3, d4, d5, d6)) ((eb253 T.rf T.rb d1 d2 d3 d4 d5 d6).trans h)

/- bailmentref14.Run loop 2 -/
noncomputable def b254 (rf : T.RF) (rb : T.RB) (d1 : XT) (d2 : List Int) (d3 : List Int) (d4 : List (List Int)) (d5 : List Int) (d6 : Int) (d7 : Int) (d8 : Int) : Option (XT × List Int × List Int × Int) :=
  bif decide (d8 < (((d2.length : Nat) : Int))) then
    bif inb d8 d2.length then
      (nth d2 d8.toNat).bind fun (x1 : Int) =>
      bif inb x1 d1.1.length then
        (nth d1.1 x1.toNat).bind fun (x2 : XO) =>
        bif inb d6 d4.length then
          (nth d4 d6.toNat).bind fun (x3 : List Int) =>
          (c87 rf d3 x2 x3 d5).bind fun (y4 : List Int × Int × Int) =>
          bif inb d8 d2.length then
            (nth d2 d8.toNat).bind fun (x5 : Int) =>
            bif inb x5 y4.1.length then
              bif Nat.blt x5.toNat y4.1.length then
                bif y4.2.2 != 0 then
                  bif d7 == 0 then
                    k254 rb d1 d2 (setNth y4.1 x5.toNat y4.2.1) d4 d5 d6 y4.2.2 (IntKind.i64.wrap (d8 + 1))
                  else
                  bif decide (y4.2.2 < d7) then
                    k254 rb d1 d2 (setNth y4.1 x5.toNat y4.2.1) d4 d5 d6 y4.2.2 (IntKind.i64.wrap (d8 + 1))
                  else
                    k254 rb d1 d2 (setNth y4.1 x5.toNat y4.2.1) d4 d5 d6 d7 (IntKind.i64.wrap (d8 + 1))
                else
                  k254 rb d1 d2 (setNth y4.1 x5.toNat y4.2.1) d4 d5 d6 d7 (IntKind.i64.wrap (d8 + 1))
              else
                none
            else
              none
          else
            none
        else
          none
      else
        none
    else
      none
  else
    some (d1, d2, d3, d7)
theorem eb254 (rf : T.RF) (rb : T.RB) (d1 : XT) (d2 : List Int) (d3 : List Int) (d4 : List (List Int)) (d5 : List Int) (d6 : Int) (d7 : Int) (d8 : Int) : T.stepB rf rb 254 (d1, d2, d3, d4, d5, d6, d7, d8) = b254 rf rb d1 d2 d3 d4 d5 d6 d7 d8 := by kernel_rfl
theorem ob254 {d1 : XT} {d2 : List Int} {d3 : List Int} {d4 : List (List Int)} {d5 : List Int} {d6 : Int} {d7 : Int} {d8 : Int} {y : (XT × List Int × List Int × Int)} (h : b254 T.rf T.rb d1 d2 d3 d4 d5 d6 d7 d8 = some y) : k254 T.rb d1 d2 d3 d4 d5 d6 d7 d8 = some y := T.rb_of (κ := 254) (d := (d1, d2, d3, d4, d5, d6, d7, d8)) ((eb254 T.rf T.rb d1 d2 d3 d4 d5 d6 d7 d8).trans h)

/- bailmentref14.Run loop 4 -/
noncomputable def b255 (rf : T.RF) (rb : T.RB) (d1 : XT) (d2 : List Int) (d3 : List Int) (d4 : Int) : Option (XT × List Int × List Int) :=
  bif decide (d4 < (((d1.2.1.length : Nat) : Int))) then
    bif inb d4 d1.2.1.length then
      (nth d1.2.1 d4.toNat).bind fun (x1 : Int) =>
      bif inb x1 d2.length then
        (nth d2 x1.toNat).bind fun (x2 : Int) =>
        bif (Nat.ble (d3.length + 1) most) && true then
          k255 rb d1 d2 (d3 ++ [x2]) (IntKind.i64.wrap (d4 + 1))
        else
          none
      else
        none
    else
      none
  else
    some (d1, d2, d3)
theorem eb255 (rf : T.RF) (rb : T.RB) (d1 : XT) (d2 : List Int) (d3 : List Int) (d4 : Int) : T.stepB rf rb 255 (d1, d2, d3, d4) = b255 rf rb d1 d2 d3 d4 := by kernel_rfl
theorem ob255 {d1 : XT} {d2 : List Int} {d3 : List Int} {d4 : Int} {y : (XT × List Int × List Int)} (h : b255 T.rf T.rb d1 d2 d3 d4 = some y) : k255 T.rb d1 d2 d3 d4 = some y := T.rb_of (κ := 255) (d := (d1, d2, d3, d4)) ((eb255 T.rf T.rb d1 d2 d3 d4).trans h)

/- bailmentref14.Run -/
noncomputable def r85 (rf : T.RF) (rb : T.RB) (d1 : XT) (d2 : List (List Int)) : Option (List (List Int) × Int) :=
  (c78 rf d1).bind fun (y1 : Int) =>
  bif y1 != 0 then
    some ([], y1)
  else
    (c83 rf d1).bind fun (y2 : List Int) =>
    (k253 rb d1 y2 [] d2 [] 0).bind fun (z3 : (XT × List Int × List (List Int) × Int) ⊕ (XT × List Int × List (List Int))) =>
    match z3 with
    | .inl u4 =>
      some u4.2.2
    | .inr w5 =>
      some (w5.2.2, 0)
theorem er85 (rf : T.RF) (rb : T.RB) (d1 : XT) (d2 : List (List Int)) : T.stepF rf rb 85 (d1, d2) = r85 rf rb d1 d2 := by kernel_rfl
theorem or85 {d1 : XT} {d2 : List (List Int)} {y : (List (List Int) × Int)} (h : r85 T.rf T.rb d1 d2 = some y) : c85 T.rf d1 d2 = some y := T.rf_of (f := 85) (d := (d1, d2)) ((er85 T.rf T.rb d1 d2).trans h)

/- bailmentlaw16.CodeSame loop 0 -/
noncomputable def b241 (rf : T.RF) (rb : T.RB) (d1 : XT) (d2 : List Int) (d3 : Int) (d4 : Int) : Option (XT × Int) :=
  bif decide (d4 < (((d2.length : Nat) : Int))) then
    bif d3 == 0 then
      bif inb d4 d2.length then
        (nth d2 d4.toNat).bind fun (x1 : Int) =>
        bif decide (x1 < 0) then
          k241 rb d1 d2 1 (IntKind.i64.wrap (d4 + 1))
        else
        bif inb d4 d2.length then
          (nth d2 d4.toNat).bind fun (x2 : Int) =>
          bif decide (x2 ≥ (((d1.2.1.length : Nat) : Int))) then
            k241 rb d1 d2 1 (IntKind.i64.wrap (d4 + 1))
          else
            k241 rb d1 d2 d3 (IntKind.i64.wrap (d4 + 1))
        else
          none
      else
        none
    else
      some (d1, d3)
  else
    some (d1, d3)
theorem eb241 (rf : T.RF) (rb : T.RB) (d1 : XT) (d2 : List Int) (d3 : Int) (d4 : Int) : T.stepB rf rb 241 (d1, d2, d3, d4) = b241 rf rb d1 d2 d3 d4 := by kernel_rfl
theorem ob241 {d1 : XT} {d2 : List Int} {d3 : Int} {d4 : Int} {y : (XT × Int)} (h : b241 T.rf T.rb d1 d2 d3 d4 = some y) : k241 T.rb d1 d2 d3 d4 = some y := T.rb_of (κ := 241) (d := (d1, d2, d3, d4)) ((eb241 T.rf T.rb d1 d2 d3 d4).trans h)

/- bailmentlaw16.CodeSame loop 2 -/
noncomputable def b256 (rf : T.RF) (rb : T.RB) (d1 : List (List Int)) (d2 : List (List Int)) (d3 : List Int) (d4 : Int) : Option ((List (List Int) × List (List Int) × Bool) ⊕ (List (List Int) × List (List Int))) :=
  bif decide (d4 < (((d1.length : Nat) : Int))) then
    bif inb d4 d2.length then
      (nth d2 d4.toNat).bind fun (x1 : List Int) =>
      bif (((x1.length : Nat) : Int)) != (((d3.length : Nat) : Int)) then
        some (.inl (d1, d2, false))
      else
        (k257 rb d1 d2 d3 d4 0).bind fun (z2 : (List (List Int) × List (List Int) × Bool) ⊕ (List (List Int) × List (List Int))) =>
        match z2 with
        | .inl u3 =>
          some (.inl u3)
        | .inr w4 =>
          k256 rb w4.1 w4.2 d3 (IntKind.i64.wrap (d4 + 1))
    else
      none
  else
    some (.inr (d1, d2))
theorem eb256 (rf : T.RF) (rb : T.RB) (d1 : List (List Int)) (d2 : List (List Int)) (d3 : List Int) (d4 : Int) : T.stepB rf rb 256 (d1, d2, d3, d4) = b256 rf rb d1 d2 d3 d4 := by kernel_rfl
theorem ob256 {d1 : List (List Int)} {d2 : List (List Int)} {d3 : List Int} {d4 : Int} {y : ((List (List Int) × List (List Int) × Bool) ⊕ (List (List Int) × List (List Int)))} (h : b256 T.rf T.rb d1 d2 d3 d4 = some y) : k256 T.rb d1 d2 d3 d4 = some y := T.rb_of (κ := 256) (d := (d1, d2, d3, d4)) ((eb256 T.rf T.rb d1 d2 d3 d4).trans h)

/- bailmentlaw16.CodeSame loop 4 -/
noncomputable def b257 (rf : T.RF) (rb : T.RB) (d1 : List (List Int)) (d2 : List (List Int)) (d3 : List Int) (d4 : Int) (d5 : Int) : Option ((List (List Int) × List (List Int) × Bool) ⊕ (List (List Int) × List (List Int))) :=
  bif decide (d5 < (((d3.length : Nat) : Int))) then
    bif inb d4 d2.length then
      (nth d2 d4.toNat).bind fun (x1 : List Int) =>
      bif inb d5 x1.length then
        (nth x1 d5.toNat).bind fun (x2 : Int) =>
        bif inb d4 d1.length then
          (nth d1 d4.toNat).bind fun (x3 : List Int) =>
          bif inb d5 d3.length then
            (nth d3 d5.toNat).bind fun (x4 : Int) =>
            bif inb x4 x3.length then
              (nth x3 x4.toNat).bind fun (x5 : Int) =>
              bif x2 != x5 then
                some (.inl (d1, d2, false))
              else
                k257 rb d1 d2 d3 d4 (IntKind.i64.wrap (d5 + 1))
            else
              none
          else
            none
        else
          none
      else
        none
    else
      none
  else
    some (.inr (d1, d2))
theorem eb257 (rf : T.RF) (rb : T.RB) (d1 : List (List Int)) (d2 : List (List Int)) (d3 : List Int) (d4 : Int) (d5 : Int) : T.stepB rf rb 257 (d1, d2, d3, d4, d5) = b257 rf rb d1 d2 d3 d4 d5 := by kernel_rfl
theorem ob257 {d1 : List (List Int)} {d2 : List (List Int)} {d3 : List Int} {d4 : Int} {d5 : Int} {y : ((List (List Int) × List (List Int) × Bool) ⊕ (List (List Int) × List (List Int)))} (h : b257 T.rf T.rb d1 d2 d3 d4 d5 = some y) : k257 T.rb d1 d2 d3 d4 d5 = some y := T.rb_of (κ := 257) (d := (d1, d2, d3, d4, d5)) ((eb257 T.rf T.rb d1 d2 d3 d4 d5).trans h)

/- bailmentlaw16.CodeSame -/
noncomputable def r75 (rf : T.RF) (rb : T.RB) (d1 : XT) (d2 : List Int) (d3 : List (List Int)) : Option Bool :=
  (c76 rf d1).bind fun (y1 : Bool) =>
  bif !y1 then
    (c2 rf).bind fun (y2 : Bool) =>
    some y2
  else
    (c77 rf [] d3).bind fun (y3 : Bool) =>
    bif !y3 then
      (c2 rf).bind fun (y4 : Bool) =>
      some y4
    else
    bif decide ((((d2.length : Nat) : Int)) > 60) then
      (c2 rf).bind fun (y5 : Bool) =>
      some y5
    else
      (c3 rf d1).bind fun (y6 : XT) =>
      (c4 rf y6 d2).bind fun (y7 : XC × Int) =>
      (c78 rf d1).bind fun (y8 : Int) =>
      (k241 rb d1 d2 y8 0).bind fun (z9 : XT × Int) =>
      bif y7.2 != z9.2 then
        some false
      else
      bif y7.2 != 0 then
        bif (((y7.1.1.length : Nat) : Int)) == 0 then
          (c2 rf).bind fun (y10 : Bool) =>
          some y10
        else
          some false
      else
        (c49 rf y7.1).bind fun (y11 : XC) =>
        (c85 rf z9.1 d3).bind fun (y12 : List (List Int) × Int) =>
        (c50 rf y11 d3).bind fun (y13 : List (List Int) × Int) =>
        bif y12.2 != y13.2 then
          some false
        else
        bif (((y12.1.length : Nat) : Int)) != (((y13.1.length : Nat) : Int)) then
          some false
        else
          (c73 rf y7.1.2.2.2.2 z9.1.2.2).bind fun (y14 : Bool) =>
          bif !y14 then
            some false
          else
            (k256 rb y12.1 y13.1 d2 0).bind fun (z15 : (List (List Int) × List (List Int) × Bool) ⊕ (List (List Int) × List (List Int))) =>
            match z15 with
            | .inl u16 =>
              some u16.2.2
            | .inr w17 =>
              (c2 rf).bind fun (y18 : Bool) =>
              some y18
theorem er75 (rf : T.RF) (rb : T.RB) (d1 : XT) (d2 : List Int) (d3 : List (List Int)) : T.stepF rf rb 75 (d1, d2, d3) = r75 rf rb d1 d2 d3 := by kernel_rfl
theorem or75 {d1 : XT} {d2 : List Int} {d3 : List (List Int)} {y : Bool} (h : r75 T.rf T.rb d1 d2 d3 = some y) : c75 T.rf d1 d2 d3 = some y := T.rf_of (f := 75) (d := (d1, d2, d3)) ((er75 T.rf T.rb d1 d2 d3).trans h)

/- bailmentlaw16.CodeSizes loop 0 -/
noncomputable def b258 (rf : T.RF) (rb : T.RB) (d1 : XT) (d2 : Int) (d3 : Int) : Option (XT × Int) :=
  bif decide (d3 < (((d1.1.length : Nat) : Int))) then
    bif inb d3 d1.1.length then
      (nth d1.1 d3.toNat).bind fun (x1 : XO) =>
      bif x1.1 == 21 then
        k258 rb d1 (IntKind.i64.wrap (d2 + 1)) (IntKind.i64.wrap (d3 + 1))
      else
        k258 rb d1 d2 (IntKind.i64.wrap (d3 + 1))
    else
      none
  else
    some (d1, d2)
theorem eb258 (rf : T.RF) (rb : T.RB) (d1 : XT) (d2 : Int) (d3 : Int) : T.stepB rf rb 258 (d1, d2, d3) = b258 rf rb d1 d2 d3 := by kernel_rfl
theorem ob258 {d1 : XT} {d2 : Int} {d3 : Int} {y : (XT × Int)} (h : b258 T.rf T.rb d1 d2 d3 = some y) : k258 T.rb d1 d2 d3 = some y := T.rb_of (κ := 258) (d := (d1, d2, d3)) ((eb258 T.rf T.rb d1 d2 d3).trans h)

/- bailmentlaw16.CodeSizes -/
noncomputable def r88 (rf : T.RF) (rb : T.RB) (d1 : XT) (d2 : List Int) : Option Bool :=
  (c76 rf d1).bind fun (y1 : Bool) =>
  bif !y1 then
    (c2 rf).bind fun (y2 : Bool) =>
    some y2
  else
  bif decide ((((d2.length : Nat) : Int)) > 60) then
    (c2 rf).bind fun (y3 : Bool) =>
    some y3
  else
    (c3 rf d1).bind fun (y4 : XT) =>
    (c4 rf y4 d2).bind fun (y5 : XC × Int) =>
    bif y5.2 != 0 then
      (c2 rf).bind fun (y6 : Bool) =>
      some y6
    else
      (k258 rb d1 0 0).bind fun (z7 : XT × Int) =>
      (c67 rf y5.1).bind fun (y8 : Int) =>
      bif y8 == 0 then
        bif decide ((((y5.1.1.length : Nat) : Int)) ≤ (IntKind.i64.wrap ((((z7.1.1.length : Nat) : Int)) + z7.2))) then
          bif decide (y5.1.2.1 ≤ (((z7.1.1.length : Nat) : Int))) then
            bif decide (y5.1.2.2.1 ≤ z7.2) then
              bif (((y5.1.2.2.2.1.length : Nat) : Int)) == (((d2.length : Nat) : Int)) then
                (c2 rf).bind fun (y9 : Bool) =>
                some y9
              else
                some false
            else
              some false
          else
            some false
        else
          some false
      else
        some false
theorem er88 (rf : T.RF) (rb : T.RB) (d1 : XT) (d2 : List Int) : T.stepF rf rb 88 (d1, d2) = r88 rf rb d1 d2 := by kernel_rfl
theorem or88 {d1 : XT} {d2 : List Int} {y : Bool} (h : r88 T.rf T.rb d1 d2 = some y) : c88 T.rf d1 d2 = some y := T.rf_of (f := 88) (d := (d1, d2)) ((er88 T.rf T.rb d1 d2).trans h)

/- bailmentlaw16.CodeTold loop 0 -/
noncomputable def b259 (rf : T.RF) (rb : T.RB) (d1 : List (List Int)) (d2 : List (List Int)) (d3 : List Int) (d4 : Int) : Option ((List (List Int) × List (List Int) × Bool) ⊕ (List (List Int) × List (List Int))) :=
  bif decide (d4 < (((d2.length : Nat) : Int))) then
    bif inb d4 d2.length then
      (nth d2 d4.toNat).bind fun (x1 : List Int) =>
      bif (((x1.length : Nat) : Int)) != 0 then
        some (.inl (d1, d2, false))
      else
      bif inb d4 d1.length then
        (nth d1 d4.toNat).bind fun (x2 : List Int) =>
        bif (((x2.length : Nat) : Int)) != (((d3.length : Nat) : Int)) then
          some (.inl (d1, d2, false))
        else
          k259 rb d1 d2 d3 (IntKind.i64.wrap (d4 + 1))
      else
        none
    else
      none
  else
    some (.inr (d1, d2))
theorem eb259 (rf : T.RF) (rb : T.RB) (d1 : List (List Int)) (d2 : List (List Int)) (d3 : List Int) (d4 : Int) : T.stepB rf rb 259 (d1, d2, d3, d4) = b259 rf rb d1 d2 d3 d4 := by kernel_rfl
theorem ob259 {d1 : List (List Int)} {d2 : List (List Int)} {d3 : List Int} {d4 : Int} {y : ((List (List Int) × List (List Int) × Bool) ⊕ (List (List Int) × List (List Int)))} (h : b259 T.rf T.rb d1 d2 d3 d4 = some y) : k259 T.rb d1 d2 d3 d4 = some y := T.rb_of (κ := 259) (d := (d1, d2, d3, d4)) ((eb259 T.rf T.rb d1 d2 d3 d4).trans h)

/- bailmentlaw16.CodeTold -/
noncomputable def r89 (rf : T.RF) (rb : T.RB) (d1 : XT) (d2 : List Int) (d3 : List (List Int)) : Option Bool :=
  (c76 rf d1).bind fun (y1 : Bool) =>
  bif !y1 then
    (c2 rf).bind fun (y2 : Bool) =>
    some y2
  else
    (c77 rf [] d3).bind fun (y3 : Bool) =>
    bif !y3 then
      (c2 rf).bind fun (y4 : Bool) =>
      some y4
    else
    bif decide ((((d2.length : Nat) : Int)) > 60) then
      (c2 rf).bind fun (y5 : Bool) =>
      some y5
    else
      (c3 rf d1).bind fun (y6 : XT) =>
      (c4 rf y6 d2).bind fun (y7 : XC × Int) =>
      (c3 rf d1).bind fun (y8 : XT) =>
      (c4 rf y8 []).bind fun (y9 : XC × Int) =>
      bif y7.2 != 0 then
        bif y9.2 == 0 then
          (c2 rf).bind fun (y10 : Bool) =>
          some y10
        else
        bif y7.2 == y9.2 then
          (c2 rf).bind fun (y11 : Bool) =>
          some y11
        else
          some false
      else
      bif y9.2 != 0 then
        bif y9.2 == 0 then
          (c2 rf).bind fun (y12 : Bool) =>
          some y12
        else
        bif y7.2 == y9.2 then
          (c2 rf).bind fun (y13 : Bool) =>
          some y13
        else
          some false
      else
        (c49 rf y7.1).bind fun (y14 : XC) =>
        (c50 rf y14 d3).bind fun (y15 : List (List Int) × Int) =>
        (c49 rf y9.1).bind fun (y16 : XC) =>
        (c50 rf y16 d3).bind fun (y17 : List (List Int) × Int) =>
        bif y15.2 != y17.2 then
          some false
        else
        bif (((y15.1.length : Nat) : Int)) != (((y17.1.length : Nat) : Int)) then
          some false
        else
          (k259 rb y15.1 y17.1 d2 0).bind fun (z18 : (List (List Int) × List (List Int) × Bool) ⊕ (List (List Int) × List (List Int))) =>
          match z18 with
          | .inl u19 =>
            some u19.2.2
          | .inr w20 =>
            (c2 rf).bind fun (y21 : Bool) =>
            some y21
theorem er89 (rf : T.RF) (rb : T.RB) (d1 : XT) (d2 : List Int) (d3 : List (List Int)) : T.stepF rf rb 89 (d1, d2, d3) = r89 rf rb d1 d2 d3 := by kernel_rfl
theorem or89 {d1 : XT} {d2 : List Int} {d3 : List (List Int)} {y : Bool} (h : r89 T.rf T.rb d1 d2 d3 = some y) : c89 T.rf d1 d2 d3 = some y := T.rf_of (f := 89) (d := (d1, d2, d3)) ((er89 T.rf T.rb d1 d2 d3).trans h)

/- bailmentlaw16.CodeFewer -/
noncomputable def r90 (rf : T.RF) (rb : T.RB) (d1 : XC) (d2 : Int) (d3 : Int) : Option Bool :=
  (c1 rf d1).bind fun (y1 : Bool) =>
  bif !y1 then
    (c2 rf).bind fun (y2 : Bool) =>
    some y2
  else
  bif decide (d2 < 0) then
    (c2 rf).bind fun (y3 : Bool) =>
    some y3
  else
  bif decide (d2 > (((d1.1.length : Nat) : Int))) then
    (c2 rf).bind fun (y4 : Bool) =>
    some y4
  else
  bif decide (d3 < 0) then
    (c2 rf).bind fun (y5 : Bool) =>
    some y5
  else
  bif decide (d3 > 1000) then
    (c2 rf).bind fun (y6 : Bool) =>
    some y6
  else
    (c74 rf d1).bind fun (y7 : XC) =>
    (c67 rf y7).bind fun (y8 : Int) =>
    bif y8 != 0 then
      (c2 rf).bind fun (y9 : Bool) =>
      some y9
    else
    bif inb' d2 y7.1.length then
      (c67 rf (sub y7.1 (some (0, (d2.toNat - 0))), y7.2.1, y7.2.2.1, [], y7.2.2.2.2)).bind fun (y10 : Int) =>
      bif y10 == 0 then
        (c67 rf (y7.1, IntKind.i64.wrap (y7.2.1 + d3), IntKind.i64.wrap (y7.2.2.1 + d3), y7.2.2.2)).bind fun (y11 : Int) =>
        bif y11 == 0 then
          (c2 rf).bind fun (y12 : Bool) =>
          some y12
        else
          some false
      else
        some false
    else
      none
theorem er90 (rf : T.RF) (rb : T.RB) (d1 : XC) (d2 : Int) (d3 : Int) : T.stepF rf rb 90 (d1, d2, d3) = r90 rf rb d1 d2 d3 := by kernel_rfl
theorem or90 {d1 : XC} {d2 : Int} {d3 : Int} {y : Bool} (h : r90 T.rf T.rb d1 d2 d3 = some y) : c90 T.rf d1 d2 d3 = some y := T.rf_of (f := 90) (d := (d1, d2, d3)) ((er90 T.rf T.rb d1 d2 d3).trans h)

theorem place_len : tabs.placeL.length = 260 := rfl
end Go.Proofs.Ytanomapnincmoaa.R
