/-
  OUR OWN, PRINTED BY A PROGRAM OF OURS (table2.py): the table of the functions, and what each comes to.
-/
import Derived.Test.YtomofgclaiaikaaResPA
namespace Go.Proofs.Ytomofgclaiaikaa.R
open Go Go.Bm Go.Proofs
set_option linter.unusedVariables false
set_option linter.unusedSimpArgs false
set_option maxRecDepth 100000

/- (*bailment/types.checker).node -/
noncomputable def r55q (rf : T.RF) (rb : T.RB) (d1 : XP × List XU) (d2 : List Int) (d3 : XL) (d4 : XN) : Option ((XP × List XU) × List Int × Int × Int) :=
  bif d4.1 == 28 then
    some (d1, d2, 0, 0)
  else
  bif d4.1 == 3 then
    (c56 rf d4 d1.1).bind fun (y1 : XN × Int) =>
    bif decide (y1.2 < 0) then
      some (d1, d2, 0, 8)
    else
    bif inb y1.2 d1.1.length then
      (nth d1.1 y1.2.toNat).bind fun (x2 : List UInt8 × Int) =>
      some (d1, d2, x2.2, 0)
    else
      none
  else
  bif d4.1 == 27 then
    (c58 rf d4 d1.2).bind fun (y3 : XN × Int) =>
    (c60 rf d2 d3 y3.1).bind fun (y4 : List Int × List Int) =>
    bif decide (y3.2 < 0) then
      some (d1, y4.1, 0, 14)
    else
    bif inb y3.2 d1.2.length then
      (nth d1.2 y3.2.toNat).bind fun (x5 : XU) =>
      bif (((x5.2.2.1.length : Nat) : Int)) != (((y4.2.length : Nat) : Int)) then
        some (d1, y4.1, 0, 14)
      else
      bif inb y3.2 d1.2.length then
        (nth d1.2 y3.2.toNat).bind fun (x6 : XU) =>
        (k62 rb y4.2 x6.2.2.1 (((x6.2.2.1.length : Nat) : Int)) 0).bind fun (z7 : (List Int × Int × Int) ⊕ (List Int)) =>
        match z7 with
        | .inl u8 =>
          some (d1, y4.1, u8.2)
        | .inr w9 =>
          bif inb y3.2 d1.2.length then
            (nth d1.2 y3.2.toNat).bind fun (x10 : XU) =>
            some (d1, y4.1, x10.2.2.2.2.1, 0)
          else
            none
      else
        none
    else
      none
  else
  bif d4.1 == 26 then
    bif inb d4.2.1 d2.length then
      (nth d2 d4.2.1.toNat).bind fun (x11 : Int) =>
      bif x11 != 1 then
        some (d1, d2, 0, 10)
      else
      bif inb d4.2.2.1 d2.length then
        (nth d2 d4.2.2.1.toNat).bind fun (x12 : Int) =>
        bif inb d4.2.2.2.1 d2.length then
          (nth d2 d4.2.2.2.1.toNat).bind fun (x13 : Int) =>
          bif x12 != x13 then
            some (d1, d2, 0, 10)
          else
          bif inb d4.2.2.1 d2.length then
            (nth d2 d4.2.2.1.toNat).bind fun (x14 : Int) =>
            some (d1, d2, x14, 0)
          else
            none
        else
          none
      else
        none
    else
      none
  else
    agN 1 (
      (c62 rf).bind fun (y15 : Int × Int × Int × Int × Int × Int × Int × Int × Int × Int × Int × Int × Int × Int × Int × Int × Int × Int × Int × Int × Int × Int × Int × Int × Int × Int × Int × Int × Int × Int × Int × Int × Int × Int × Int × Int × Int × Int × Int × Int × Int × Int × Int × Int × Int × Int × Int × Int × Int × Int × Int × Int) =>
      bif inb d4.1 26 then
        (nth [(y15.1, y15.2.1), (y15.2.2.1, y15.2.2.2.1), (y15.2.2.2.2.1, y15.2.2.2.2.2.1), (y15.2.2.2.2.2.2.1, y15.2.2.2.2.2.2.2.1), (y15.2.2.2.2.2.2.2.2.1, y15.2.2.2.2.2.2.2.2.2.1), (y15.2.2.2.2.2.2.2.2.2.2.1, y15.2.2.2.2.2.2.2.2.2.2.2.1), (y15.2.2.2.2.2.2.2.2.2.2.2.2.1, y15.2.2.2.2.2.2.2.2.2.2.2.2.2.1), (y15.2.2.2.2.2.2.2.2.2.2.2.2.2.2.1, y15.2.2.2.2.2.2.2.2.2.2.2.2.2.2.2.1), (y15.2.2.2.2.2.2.2.2.2.2.2.2.2.2.2.2.1, y15.2.2.2.2.2.2.2.2.2.2.2.2.2.2.2.2.2.1), (y15.2.2.2.2.2.2.2.2.2.2.2.2.2.2.2.2.2.2.1, y15.2.2.2.2.2.2.2.2.2.2.2.2.2.2.2.2.2.2.2.1), (y15.2.2.2.2.2.2.2.2.2.2.2.2.2.2.2.2.2.2.2.2.1, y15.2.2.2.2.2.2.2.2.2.2.2.2.2.2.2.2.2.2.2.2.2.1), (y15.2.2.2.2.2.2.2.2.2.2.2.2.2.2.2.2.2.2.2.2.2.2.1, y15.2.2.2.2.2.2.2.2.2.2.2.2.2.2.2.2.2.2.2.2.2.2.2.1), (y15.2.2.2.2.2.2.2.2.2.2.2.2.2.2.2.2.2.2.2.2.2.2.2.2.1, y15.2.2.2.2.2.2.2.2.2.2.2.2.2.2.2.2.2.2.2.2.2.2.2.2.2.1), (y15.2.2.2.2.2.2.2.2.2.2.2.2.2.2.2.2.2.2.2.2.2.2.2.2.2.2.1, y15.2.2.2.2.2.2.2.2.2.2.2.2.2.2.2.2.2.2.2.2.2.2.2.2.2.2.2.1), (y15.2.2.2.2.2.2.2.2.2.2.2.2.2.2.2.2.2.2.2.2.2.2.2.2.2.2.2.2.1, y15.2.2.2.2.2.2.2.2.2.2.2.2.2.2.2.2.2.2.2.2.2.2.2.2.2.2.2.2.2.1), (y15.2.2.2.2.2.2.2.2.2.2.2.2.2.2.2.2.2.2.2.2.2.2.2.2.2.2.2.2.2.2.1, y15.2.2.2.2.2.2.2.2.2.2.2.2.2.2.2.2.2.2.2.2.2.2.2.2.2.2.2.2.2.2.2.1), (y15.2.2.2.2.2.2.2.2.2.2.2.2.2.2.2.2.2.2.2.2.2.2.2.2.2.2.2.2.2.2.2.2.1, y15.2.2.2.2.2.2.2.2.2.2.2.2.2.2.2.2.2.2.2.2.2.2.2.2.2.2.2.2.2.2.2.2.2.1), (y15.2.2.2.2.2.2.2.2.2.2.2.2.2.2.2.2.2.2.2.2.2.2.2.2.2.2.2.2.2.2.2.2.2.2.1, y15.2.2.2.2.2.2.2.2.2.2.2.2.2.2.2.2.2.2.2.2.2.2.2.2.2.2.2.2.2.2.2.2.2.2.2.1), (y15.2.2.2.2.2.2.2.2.2.2.2.2.2.2.2.2.2.2.2.2.2.2.2.2.2.2.2.2.2.2.2.2.2.2.2.2.1, y15.2.2.2.2.2.2.2.2.2.2.2.2.2.2.2.2.2.2.2.2.2.2.2.2.2.2.2.2.2.2.2.2.2.2.2.2.2.1), (y15.2.2.2.2.2.2.2.2.2.2.2.2.2.2.2.2.2.2.2.2.2.2.2.2.2.2.2.2.2.2.2.2.2.2.2.2.2.2.1, y15.2.2.2.2.2.2.2.2.2.2.2.2.2.2.2.2.2.2.2.2.2.2.2.2.2.2.2.2.2.2.2.2.2.2.2.2.2.2.2.1), (y15.2.2.2.2.2.2.2.2.2.2.2.2.2.2.2.2.2.2.2.2.2.2.2.2.2.2.2.2.2.2.2.2.2.2.2.2.2.2.2.2.1, y15.2.2.2.2.2.2.2.2.2.2.2.2.2.2.2.2.2.2.2.2.2.2.2.2.2.2.2.2.2.2.2.2.2.2.2.2.2.2.2.2.2.1), (y15.2.2.2.2.2.2.2.2.2.2.2.2.2.2.2.2.2.2.2.2.2.2.2.2.2.2.2.2.2.2.2.2.2.2.2.2.2.2.2.2.2.2.1, y15.2.2.2.2.2.2.2.2.2.2.2.2.2.2.2.2.2.2.2.2.2.2.2.2.2.2.2.2.2.2.2.2.2.2.2.2.2.2.2.2.2.2.2.1), (y15.2.2.2.2.2.2.2.2.2.2.2.2.2.2.2.2.2.2.2.2.2.2.2.2.2.2.2.2.2.2.2.2.2.2.2.2.2.2.2.2.2.2.2.2.1, y15.2.2.2.2.2.2.2.2.2.2.2.2.2.2.2.2.2.2.2.2.2.2.2.2.2.2.2.2.2.2.2.2.2.2.2.2.2.2.2.2.2.2.2.2.2.1), (y15.2.2.2.2.2.2.2.2.2.2.2.2.2.2.2.2.2.2.2.2.2.2.2.2.2.2.2.2.2.2.2.2.2.2.2.2.2.2.2.2.2.2.2.2.2.2.1, y15.2.2.2.2.2.2.2.2.2.2.2.2.2.2.2.2.2.2.2.2.2.2.2.2.2.2.2.2.2.2.2.2.2.2.2.2.2.2.2.2.2.2.2.2.2.2.2.1), (y15.2.2.2.2.2.2.2.2.2.2.2.2.2.2.2.2.2.2.2.2.2.2.2.2.2.2.2.2.2.2.2.2.2.2.2.2.2.2.2.2.2.2.2.2.2.2.2.2.1, y15.2.2.2.2.2.2.2.2.2.2.2.2.2.2.2.2.2.2.2.2.2.2.2.2.2.2.2.2.2.2.2.2.2.2.2.2.2.2.2.2.2.2.2.2.2.2.2.2.2.1), y15.2.2.2.2.2.2.2.2.2.2.2.2.2.2.2.2.2.2.2.2.2.2.2.2.2.2.2.2.2.2.2.2.2.2.2.2.2.2.2.2.2.2.2.2.2.2.2.2.2.2] d4.1.toNat).bind fun (x16 : Int × Int) =>
        (k63 rb d2 d4 x16 0).bind fun (z17 : List Int × XN × (Int × Int) × Int × Int) =>
        some (d1, z17.1, z17.2.2.2)
      else
        none
    )
noncomputable def r55 (rf : T.RF) (rb : T.RB) (d1 : XP × List XU) (d2 : List Int) (d3 : XL) (d4 : XN) : Option ((XP × List XU) × List Int × Int × Int) :=
  bif d4.1 == 28 then
    some (d1, d2, 0, 0)
  else
  bif d4.1 == 3 then
    (c56 rf d4 d1.1).bind fun (y1 : XN × Int) =>
    bif decide (y1.2 < 0) then
      some (d1, d2, 0, 8)
    else
    bif inb y1.2 d1.1.length then
      (nth d1.1 y1.2.toNat).bind fun (x2 : List UInt8 × Int) =>
      some (d1, d2, x2.2, 0)
    else
      none
  else
  bif d4.1 == 27 then
    (c58 rf d4 d1.2).bind fun (y3 : XN × Int) =>
    (c60 rf d2 d3 y3.1).bind fun (y4 : List Int × List Int) =>
    bif decide (y3.2 < 0) then
      some (d1, y4.1, 0, 14)
    else
    bif inb y3.2 d1.2.length then
      (nth d1.2 y3.2.toNat).bind fun (x5 : XU) =>
      bif (((x5.2.2.1.length : Nat) : Int)) != (((y4.2.length : Nat) : Int)) then
        some (d1, y4.1, 0, 14)
      else
      bif inb y3.2 d1.2.length then
        (nth d1.2 y3.2.toNat).bind fun (x6 : XU) =>
        (k62 rb y4.2 x6.2.2.1 (((x6.2.2.1.length : Nat) : Int)) 0).bind fun (z7 : (List Int × Int × Int) ⊕ (List Int)) =>
        match z7 with
        | .inl u8 =>
          some (d1, y4.1, u8.2)
        | .inr w9 =>
          bif inb y3.2 d1.2.length then
            (nth d1.2 y3.2.toNat).bind fun (x10 : XU) =>
            some (d1, y4.1, x10.2.2.2.2.1, 0)
          else
            none
      else
        none
    else
      none
  else
  bif d4.1 == 26 then
    bif inb d4.2.1 d2.length then
      (nth d2 d4.2.1.toNat).bind fun (x11 : Int) =>
      bif x11 != 1 then
        some (d1, d2, 0, 10)
      else
      bif inb d4.2.2.1 d2.length then
        (nth d2 d4.2.2.1.toNat).bind fun (x12 : Int) =>
        bif inb d4.2.2.2.1 d2.length then
          (nth d2 d4.2.2.2.1.toNat).bind fun (x13 : Int) =>
          bif x12 != x13 then
            some (d1, d2, 0, 10)
          else
          bif inb d4.2.2.1 d2.length then
            (nth d2 d4.2.2.1.toNat).bind fun (x14 : Int) =>
            some (d1, d2, x14, 0)
          else
            none
        else
          none
      else
        none
    else
      none
  else
    (c62 rf).bind fun (y15 : Int × Int × Int × Int × Int × Int × Int × Int × Int × Int × Int × Int × Int × Int × Int × Int × Int × Int × Int × Int × Int × Int × Int × Int × Int × Int × Int × Int × Int × Int × Int × Int × Int × Int × Int × Int × Int × Int × Int × Int × Int × Int × Int × Int × Int × Int × Int × Int × Int × Int × Int × Int) =>
    bif inb d4.1 26 then
      (nth [(y15.1, y15.2.1), (y15.2.2.1, y15.2.2.2.1), (y15.2.2.2.2.1, y15.2.2.2.2.2.1), (y15.2.2.2.2.2.2.1, y15.2.2.2.2.2.2.2.1), (y15.2.2.2.2.2.2.2.2.1, y15.2.2.2.2.2.2.2.2.2.1), (y15.2.2.2.2.2.2.2.2.2.2.1, y15.2.2.2.2.2.2.2.2.2.2.2.1), (y15.2.2.2.2.2.2.2.2.2.2.2.2.1, y15.2.2.2.2.2.2.2.2.2.2.2.2.2.1), (y15.2.2.2.2.2.2.2.2.2.2.2.2.2.2.1, y15.2.2.2.2.2.2.2.2.2.2.2.2.2.2.2.1), (y15.2.2.2.2.2.2.2.2.2.2.2.2.2.2.2.2.1, y15.2.2.2.2.2.2.2.2.2.2.2.2.2.2.2.2.2.1), (y15.2.2.2.2.2.2.2.2.2.2.2.2.2.2.2.2.2.2.1, y15.2.2.2.2.2.2.2.2.2.2.2.2.2.2.2.2.2.2.2.1), (y15.2.2.2.2.2.2.2.2.2.2.2.2.2.2.2.2.2.2.2.2.1, y15.2.2.2.2.2.2.2.2.2.2.2.2.2.2.2.2.2.2.2.2.2.1), (y15.2.2.2.2.2.2.2.2.2.2.2.2.2.2.2.2.2.2.2.2.2.2.1, y15.2.2.2.2.2.2.2.2.2.2.2.2.2.2.2.2.2.2.2.2.2.2.2.1), (y15.2.2.2.2.2.2.2.2.2.2.2.2.2.2.2.2.2.2.2.2.2.2.2.2.1, y15.2.2.2.2.2.2.2.2.2.2.2.2.2.2.2.2.2.2.2.2.2.2.2.2.2.1), (y15.2.2.2.2.2.2.2.2.2.2.2.2.2.2.2.2.2.2.2.2.2.2.2.2.2.2.1, y15.2.2.2.2.2.2.2.2.2.2.2.2.2.2.2.2.2.2.2.2.2.2.2.2.2.2.2.1), (y15.2.2.2.2.2.2.2.2.2.2.2.2.2.2.2.2.2.2.2.2.2.2.2.2.2.2.2.2.1, y15.2.2.2.2.2.2.2.2.2.2.2.2.2.2.2.2.2.2.2.2.2.2.2.2.2.2.2.2.2.1), (y15.2.2.2.2.2.2.2.2.2.2.2.2.2.2.2.2.2.2.2.2.2.2.2.2.2.2.2.2.2.2.1, y15.2.2.2.2.2.2.2.2.2.2.2.2.2.2.2.2.2.2.2.2.2.2.2.2.2.2.2.2.2.2.2.1), (y15.2.2.2.2.2.2.2.2.2.2.2.2.2.2.2.2.2.2.2.2.2.2.2.2.2.2.2.2.2.2.2.2.1, y15.2.2.2.2.2.2.2.2.2.2.2.2.2.2.2.2.2.2.2.2.2.2.2.2.2.2.2.2.2.2.2.2.2.1), (y15.2.2.2.2.2.2.2.2.2.2.2.2.2.2.2.2.2.2.2.2.2.2.2.2.2.2.2.2.2.2.2.2.2.2.1, y15.2.2.2.2.2.2.2.2.2.2.2.2.2.2.2.2.2.2.2.2.2.2.2.2.2.2.2.2.2.2.2.2.2.2.2.1), (y15.2.2.2.2.2.2.2.2.2.2.2.2.2.2.2.2.2.2.2.2.2.2.2.2.2.2.2.2.2.2.2.2.2.2.2.2.1, y15.2.2.2.2.2.2.2.2.2.2.2.2.2.2.2.2.2.2.2.2.2.2.2.2.2.2.2.2.2.2.2.2.2.2.2.2.2.1), (y15.2.2.2.2.2.2.2.2.2.2.2.2.2.2.2.2.2.2.2.2.2.2.2.2.2.2.2.2.2.2.2.2.2.2.2.2.2.2.1, y15.2.2.2.2.2.2.2.2.2.2.2.2.2.2.2.2.2.2.2.2.2.2.2.2.2.2.2.2.2.2.2.2.2.2.2.2.2.2.2.1), (y15.2.2.2.2.2.2.2.2.2.2.2.2.2.2.2.2.2.2.2.2.2.2.2.2.2.2.2.2.2.2.2.2.2.2.2.2.2.2.2.2.1, y15.2.2.2.2.2.2.2.2.2.2.2.2.2.2.2.2.2.2.2.2.2.2.2.2.2.2.2.2.2.2.2.2.2.2.2.2.2.2.2.2.2.1), (y15.2.2.2.2.2.2.2.2.2.2.2.2.2.2.2.2.2.2.2.2.2.2.2.2.2.2.2.2.2.2.2.2.2.2.2.2.2.2.2.2.2.2.1, y15.2.2.2.2.2.2.2.2.2.2.2.2.2.2.2.2.2.2.2.2.2.2.2.2.2.2.2.2.2.2.2.2.2.2.2.2.2.2.2.2.2.2.2.1), (y15.2.2.2.2.2.2.2.2.2.2.2.2.2.2.2.2.2.2.2.2.2.2.2.2.2.2.2.2.2.2.2.2.2.2.2.2.2.2.2.2.2.2.2.2.1, y15.2.2.2.2.2.2.2.2.2.2.2.2.2.2.2.2.2.2.2.2.2.2.2.2.2.2.2.2.2.2.2.2.2.2.2.2.2.2.2.2.2.2.2.2.2.1), (y15.2.2.2.2.2.2.2.2.2.2.2.2.2.2.2.2.2.2.2.2.2.2.2.2.2.2.2.2.2.2.2.2.2.2.2.2.2.2.2.2.2.2.2.2.2.2.1, y15.2.2.2.2.2.2.2.2.2.2.2.2.2.2.2.2.2.2.2.2.2.2.2.2.2.2.2.2.2.2.2.2.2.2.2.2.2.2.2.2.2.2.2.2.2.2.2.1), (y15.2.2.2.2.2.2.2.2.2.2.2.2.2.2.2.2.2.2.2.2.2.2.2.2.2.2.2.2.2.2.2.2.2.2.2.2.2.2.2.2.2.2.2.2.2.2.2.2.1, y15.2.2.2.2.2.2.2.2.2.2.2.2.2.2.2.2.2.2.2.2.2.2.2.2.2.2.2.2.2.2.2.2.2.2.2.2.2.2.2.2.2.2.2.2.2.2.2.2.2.1), y15.2.2.2.2.2.2.2.2.2.2.2.2.2.2.2.2.2.2.2.2.2.2.2.2.2.2.2.2.2.2.2.2.2.2.2.2.2.2.2.2.2.2.2.2.2.2.2.2.2.2] d4.1.toNat).bind fun (x16 : Int × Int) =>
      (k63 rb d2 d4 x16 0).bind fun (z17 : List Int × XN × (Int × Int) × Int × Int) =>
      some (d1, z17.1, z17.2.2.2)
    else
      none
theorem er55 (rf : T.RF) (rb : T.RB) (d1 : XP × List XU) (d2 : List Int) (d3 : XL) (d4 : XN) : T.stepF rf rb 55 (d1, d2, d3, d4) = r55q rf rb d1 d2 d3 d4 := by kernel_rfl
theorem sr55 (rf : T.RF) (rb : T.RB) (d1 : XP × List XU) (d2 : List Int) (d3 : XL) (d4 : XN) : r55q rf rb d1 d2 d3 d4 = r55 rf rb d1 d2 d3 d4 := by
  unfold r55q r55; simp only [agN_eq, agree_self, agree_swap]
theorem or55 {d1 : XP × List XU} {d2 : List Int} {d3 : XL} {d4 : XN} {y : ((XP × List XU) × List Int × Int × Int)} (h : r55 T.rf T.rb d1 d2 d3 d4 = some y) : c55 T.rf d1 d2 d3 d4 = some y := T.rf_of (f := 55) (d := (d1, d2, d3, d4)) (((er55 T.rf T.rb d1 d2 d3 d4).trans (sr55 T.rf T.rb d1 d2 d3 d4)).trans h)

/- types.Of loop 0 -/
noncomputable def b66 (rf : T.RF) (rb : T.RB) (d1 : XP × List XU) (d2 : List Int) (d3 : XL) (d4 : XL) (d5 : Int) (d6 : Int) : Option (((XP × List XU) × Int × Int) ⊕ ((XP × List XU) × List Int)) :=
  bif decide (d6 < d5) then
    bif inb d6 d4.length then
      (nth d4 d6.toNat).bind fun (x1 : XN) =>
      (c55 rf d1 d2 d3 x1).bind fun (y2 : (XP × List XU) × List Int × Int × Int) =>
      bif y2.2.2.2 != 0 then
        some (.inl (y2.1, 0, y2.2.2.2))
      else
      bif (Nat.ble (y2.2.1.length + 1) most) && true then
        k66 rb y2.1 (y2.2.1 ++ [y2.2.2.1]) d3 d4 d5 (IntKind.i64.wrap (d6 + 1))
      else
        none
    else
      none
  else
    some (.inr (d1, d2))
theorem eb66 (rf : T.RF) (rb : T.RB) (d1 : XP × List XU) (d2 : List Int) (d3 : XL) (d4 : XL) (d5 : Int) (d6 : Int) : T.stepB rf rb 66 (d1, d2, d3, d4, d5, d6) = b66 rf rb d1 d2 d3 d4 d5 d6 := by kernel_rfl
theorem ob66 {d1 : XP × List XU} {d2 : List Int} {d3 : XL} {d4 : XL} {d5 : Int} {d6 : Int} {y : (((XP × List XU) × Int × Int) ⊕ ((XP × List XU) × List Int))} (h : b66 T.rf T.rb d1 d2 d3 d4 d5 d6 = some y) : k66 T.rb d1 d2 d3 d4 d5 d6 = some y := T.rb_of (κ := 66) (d := (d1, d2, d3, d4, d5, d6)) ((eb66 T.rf T.rb d1 d2 d3 d4 d5 d6).trans h)

/- types.Of -/
noncomputable def r44 (rf : T.RF) (rb : T.RB) (d1 : XL) (d2 : XP) (d3 : List XU) : Option (Int × Int) :=
  (c45 rf d1).bind fun (y1 : Bool) =>
  bif !y1 then
    some (0, 1)
  else
    (c53 rf d1 (IntKind.i64.wrap ((((d1.length : Nat) : Int)) - 1))).bind fun (y2 : XL) =>
    (k66 rb (d2, d3) [] y2 y2 (((y2.length : Nat) : Int)) 0).bind fun (z3 : ((XP × List XU) × Int × Int) ⊕ ((XP × List XU) × List Int)) =>
    match z3 with
    | .inl u4 =>
      some u4.2
    | .inr w5 =>
      bif inb (IntKind.i64.wrap ((((w5.2.length : Nat) : Int)) - 1)) w5.2.length then
        (nth w5.2 (IntKind.i64.wrap ((((w5.2.length : Nat) : Int)) - 1)).toNat).bind fun (x6 : Int) =>
        some (x6, 0)
      else
        none
theorem er44 (rf : T.RF) (rb : T.RB) (d1 : XL) (d2 : XP) (d3 : List XU) : T.stepF rf rb 44 (d1, d2, d3) = r44 rf rb d1 d2 d3 := by kernel_rfl
theorem or44 {d1 : XL} {d2 : XP} {d3 : List XU} {y : (Int × Int)} (h : r44 T.rf T.rb d1 d2 d3 = some y) : c44 T.rf d1 d2 d3 = some y := T.rf_of (f := 44) (d := (d1, d2, d3)) ((er44 T.rf T.rb d1 d2 d3).trans h)

/- (*bailment/bailmentref06.reader).ok -/
noncomputable def r65 (rf : T.RF) (rb : T.RB) (d1 : Int) (d2 : Int) (d3 : Int) (d4 : List (Int × List UInt8 × Int)) : Option (Int × Int × Int × List (Int × List UInt8 × Int) × Bool) :=
  some (d1, d2, d3, d4, d2 == 0)
theorem er65 (rf : T.RF) (rb : T.RB) (d1 : Int) (d2 : Int) (d3 : Int) (d4 : List (Int × List UInt8 × Int)) : T.stepF rf rb 65 (d1, d2, d3, d4) = r65 rf rb d1 d2 d3 d4 := by kernel_rfl
theorem or65 {d1 : Int} {d2 : Int} {d3 : Int} {d4 : List (Int × List UInt8 × Int)} {y : (Int × Int × Int × List (Int × List UInt8 × Int) × Bool)} (h : r65 T.rf T.rb d1 d2 d3 d4 = some y) : c65 T.rf d1 d2 d3 d4 = some y := T.rf_of (f := 65) (d := (d1, d2, d3, d4)) ((er65 T.rf T.rb d1 d2 d3 d4).trans h)

/- (*bailment/bailmentref06.reader).is -/
noncomputable def r64q (rf : T.RF) (rb : T.RB) (d1 : Int) (d2 : Int) (d3 : Int) (d4 : List (Int × List UInt8 × Int)) (d5 : List UInt8) : Option (Int × Int × Int × List (Int × List UInt8 × Int) × Bool) :=
  (c65 rf d1 d2 d3 d4).bind fun (y1 : Int × Int × Int × List (Int × List UInt8 × Int) × Bool) =>
  bif !y1.2.2.2.2 then
    agN 1 (
      some (y1.1, y1.2.1, y1.2.2.1, y1.2.2.2.1, false)
    )
  else
    agN 1 (
      bif decide (y1.1 ≥ (((y1.2.2.2.1.length : Nat) : Int))) then
        some (y1.1, y1.2.1, y1.2.2.1, y1.2.2.2.1, false)
      else
      bif inb y1.1 y1.2.2.2.1.length then
        (nth y1.2.2.2.1 y1.1.toNat).bind fun (x2 : Int × List UInt8 × Int) =>
        bif x2.1 == 4 then
          some (y1.1, y1.2.1, y1.2.2.1, y1.2.2.2.1, x2.2.1 == d5)
        else
        bif x2.1 == 3 then
          some (y1.1, y1.2.1, y1.2.2.1, y1.2.2.2.1, x2.2.1 == d5)
        else
          some (y1.1, y1.2.1, y1.2.2.1, y1.2.2.2.1, false)
      else
        none
    )
noncomputable def r64 (rf : T.RF) (rb : T.RB) (d1 : Int) (d2 : Int) (d3 : Int) (d4 : List (Int × List UInt8 × Int)) (d5 : List UInt8) : Option (Int × Int × Int × List (Int × List UInt8 × Int) × Bool) :=
  (c65 rf d1 d2 d3 d4).bind fun (y1 : Int × Int × Int × List (Int × List UInt8 × Int) × Bool) =>
  bif !y1.2.2.2.2 then
    some (y1.1, y1.2.1, y1.2.2.1, y1.2.2.2.1, false)
  else
  bif decide (y1.1 ≥ (((y1.2.2.2.1.length : Nat) : Int))) then
    some (y1.1, y1.2.1, y1.2.2.1, y1.2.2.2.1, false)
  else
  bif inb y1.1 y1.2.2.2.1.length then
    (nth y1.2.2.2.1 y1.1.toNat).bind fun (x2 : Int × List UInt8 × Int) =>
    bif x2.1 == 4 then
      some (y1.1, y1.2.1, y1.2.2.1, y1.2.2.2.1, x2.2.1 == d5)
    else
    bif x2.1 == 3 then
      some (y1.1, y1.2.1, y1.2.2.1, y1.2.2.2.1, x2.2.1 == d5)
    else
      some (y1.1, y1.2.1, y1.2.2.1, y1.2.2.2.1, false)
  else
    none
theorem er64 (rf : T.RF) (rb : T.RB) (d1 : Int) (d2 : Int) (d3 : Int) (d4 : List (Int × List UInt8 × Int)) (d5 : List UInt8) : T.stepF rf rb 64 (d1, d2, d3, d4, d5) = r64q rf rb d1 d2 d3 d4 d5 := by kernel_rfl
theorem sr64 (rf : T.RF) (rb : T.RB) (d1 : Int) (d2 : Int) (d3 : Int) (d4 : List (Int × List UInt8 × Int)) (d5 : List UInt8) : r64q rf rb d1 d2 d3 d4 d5 = r64 rf rb d1 d2 d3 d4 d5 := by
  unfold r64q r64; simp only [agN_eq, agree_self, agree_swap]
theorem or64 {d1 : Int} {d2 : Int} {d3 : Int} {d4 : List (Int × List UInt8 × Int)} {d5 : List UInt8} {y : (Int × Int × Int × List (Int × List UInt8 × Int) × Bool)} (h : r64 T.rf T.rb d1 d2 d3 d4 d5 = some y) : c64 T.rf d1 d2 d3 d4 d5 = some y := T.rf_of (f := 64) (d := (d1, d2, d3, d4, d5)) (((er64 T.rf T.rb d1 d2 d3 d4 d5).trans (sr64 T.rf T.rb d1 d2 d3 d4 d5)).trans h)

/- (*bailment/bailmentref06.reader).fail -/
noncomputable def r67q (rf : T.RF) (rb : T.RB) (d1 : Int) (d2 : Int) (d3 : Int) (d4 : List (Int × List UInt8 × Int)) (d5 : Int) : Option (List (Int × List UInt8 × Int) × Int × Int × Int) :=
  (c65 rf d1 d2 d3 d4).bind fun (y1 : Int × Int × Int × List (Int × List UInt8 × Int) × Bool) =>
  bif y1.2.2.2.2 then
    agN 1 (
      (c26 rf y1.2.2.2.1 y1.1).bind fun (y2 : Int) =>
      some (y1.2.2.2.1, y1.1, d5, y2)
    )
  else
    some (y1.2.2.2.1, y1.1, y1.2.1, y1.2.2.1)
noncomputable def r67 (rf : T.RF) (rb : T.RB) (d1 : Int) (d2 : Int) (d3 : Int) (d4 : List (Int × List UInt8 × Int)) (d5 : Int) : Option (List (Int × List UInt8 × Int) × Int × Int × Int) :=
  (c65 rf d1 d2 d3 d4).bind fun (y1 : Int × Int × Int × List (Int × List UInt8 × Int) × Bool) =>
  bif y1.2.2.2.2 then
    (c26 rf y1.2.2.2.1 y1.1).bind fun (y2 : Int) =>
    some (y1.2.2.2.1, y1.1, d5, y2)
  else
    some (y1.2.2.2.1, y1.1, y1.2.1, y1.2.2.1)
theorem er67 (rf : T.RF) (rb : T.RB) (d1 : Int) (d2 : Int) (d3 : Int) (d4 : List (Int × List UInt8 × Int)) (d5 : Int) : T.stepF rf rb 67 (d1, d2, d3, d4, d5) = r67q rf rb d1 d2 d3 d4 d5 := by kernel_rfl
theorem sr67 (rf : T.RF) (rb : T.RB) (d1 : Int) (d2 : Int) (d3 : Int) (d4 : List (Int × List UInt8 × Int)) (d5 : Int) : r67q rf rb d1 d2 d3 d4 d5 = r67 rf rb d1 d2 d3 d4 d5 := by
  unfold r67q r67; simp only [agN_eq, agree_self, agree_swap]
theorem or67 {d1 : Int} {d2 : Int} {d3 : Int} {d4 : List (Int × List UInt8 × Int)} {d5 : Int} {y : (List (Int × List UInt8 × Int) × Int × Int × Int)} (h : r67 T.rf T.rb d1 d2 d3 d4 d5 = some y) : c67 T.rf d1 d2 d3 d4 d5 = some y := T.rf_of (f := 67) (d := (d1, d2, d3, d4, d5)) (((er67 T.rf T.rb d1 d2 d3 d4 d5).trans (sr67 T.rf T.rb d1 d2 d3 d4 d5)).trans h)

/- (*bailment/bailmentref06.reader).room -/
noncomputable def r66 (rf : T.RF) (rb : T.RB) (d1 : Int) (d2 : Int) (d3 : Int) (d4 : List (Int × List UInt8 × Int)) (d5 : Int) : Option (List (Int × List UInt8 × Int) × Int × Int × Int) :=
  bif decide (d5 ≥ 200) then
    (c67 rf d1 d2 d3 d4 7).bind fun (y1 : List (Int × List UInt8 × Int) × Int × Int × Int) =>
    some y1
  else
    some (d4, d1, d2, d3)
theorem er66 (rf : T.RF) (rb : T.RB) (d1 : Int) (d2 : Int) (d3 : Int) (d4 : List (Int × List UInt8 × Int)) (d5 : Int) : T.stepF rf rb 66 (d1, d2, d3, d4, d5) = r66 rf rb d1 d2 d3 d4 d5 := by kernel_rfl
theorem or66 {d1 : Int} {d2 : Int} {d3 : Int} {d4 : List (Int × List UInt8 × Int)} {d5 : Int} {y : (List (Int × List UInt8 × Int) × Int × Int × Int)} (h : r66 T.rf T.rb d1 d2 d3 d4 d5 = some y) : c66 T.rf d1 d2 d3 d4 d5 = some y := T.rf_of (f := 66) (d := (d1, d2, d3, d4, d5)) ((er66 T.rf T.rb d1 d2 d3 d4 d5).trans h)

/- (*bailment/bailmentref06.reader).ok -/
noncomputable def r71 (rf : T.RF) (rb : T.RB) (d1 : List (Int × List UInt8 × Int) × Int × Int × Int) : Option ((List (Int × List UInt8 × Int) × Int × Int × Int) × Bool) :=
  some (d1, d1.2.2.1 == 0)
theorem er71 (rf : T.RF) (rb : T.RB) (d1 : List (Int × List UInt8 × Int) × Int × Int × Int) : T.stepF rf rb 71 d1 = r71 rf rb d1 := by kernel_rfl
theorem or71 {d1 : List (Int × List UInt8 × Int) × Int × Int × Int} {y : ((List (Int × List UInt8 × Int) × Int × Int × Int) × Bool)} (h : r71 T.rf T.rb d1 = some y) : c71 T.rf d1 = some y := T.rf_of (f := 71) (d := d1) ((er71 T.rf T.rb d1).trans h)

/- (*bailment/bailmentref06.reader).is -/
noncomputable def r70q (rf : T.RF) (rb : T.RB) (d1 : List (Int × List UInt8 × Int) × Int × Int × Int) (d2 : List UInt8) : Option ((List (Int × List UInt8 × Int) × Int × Int × Int) × Bool) :=
  (c71 rf d1).bind fun (y1 : (List (Int × List UInt8 × Int) × Int × Int × Int) × Bool) =>
  bif !y1.2 then
    agN 1 (
      some (y1.1, false)
    )
  else
    agN 1 (
      bif decide (y1.1.2.1 ≥ (((y1.1.1.length : Nat) : Int))) then
        some (y1.1, false)
      else
      bif inb y1.1.2.1 y1.1.1.length then
        (nth y1.1.1 y1.1.2.1.toNat).bind fun (x2 : Int × List UInt8 × Int) =>
        bif x2.1 == 4 then
          some (y1.1, x2.2.1 == d2)
        else
        bif x2.1 == 3 then
          some (y1.1, x2.2.1 == d2)
        else
          some (y1.1, false)
      else
        none
    )
noncomputable def r70 (rf : T.RF) (rb : T.RB) (d1 : List (Int × List UInt8 × Int) × Int × Int × Int) (d2 : List UInt8) : Option ((List (Int × List UInt8 × Int) × Int × Int × Int) × Bool) :=
  (c71 rf d1).bind fun (y1 : (List (Int × List UInt8 × Int) × Int × Int × Int) × Bool) =>
  bif !y1.2 then
    some (y1.1, false)
  else
  bif decide (y1.1.2.1 ≥ (((y1.1.1.length : Nat) : Int))) then
    some (y1.1, false)
  else
  bif inb y1.1.2.1 y1.1.1.length then
    (nth y1.1.1 y1.1.2.1.toNat).bind fun (x2 : Int × List UInt8 × Int) =>
    bif x2.1 == 4 then
      some (y1.1, x2.2.1 == d2)
    else
    bif x2.1 == 3 then
      some (y1.1, x2.2.1 == d2)
    else
      some (y1.1, false)
  else
    none
theorem er70 (rf : T.RF) (rb : T.RB) (d1 : List (Int × List UInt8 × Int) × Int × Int × Int) (d2 : List UInt8) : T.stepF rf rb 70 (d1, d2) = r70q rf rb d1 d2 := by kernel_rfl
theorem sr70 (rf : T.RF) (rb : T.RB) (d1 : List (Int × List UInt8 × Int) × Int × Int × Int) (d2 : List UInt8) : r70q rf rb d1 d2 = r70 rf rb d1 d2 := by
  unfold r70q r70; simp only [agN_eq, agree_self, agree_swap]
theorem or70 {d1 : List (Int × List UInt8 × Int) × Int × Int × Int} {d2 : List UInt8} {y : ((List (Int × List UInt8 × Int) × Int × Int × Int) × Bool)} (h : r70 T.rf T.rb d1 d2 = some y) : c70 T.rf d1 d2 = some y := T.rf_of (f := 70) (d := (d1, d2)) (((er70 T.rf T.rb d1 d2).trans (sr70 T.rf T.rb d1 d2)).trans h)

/- (*bailment/bailmentref06.reader).take -/
noncomputable def r69 (rf : T.RF) (rb : T.RB) (d1 : List (Int × List UInt8 × Int) × Int × Int × Int) (d2 : List UInt8) : Option ((List (Int × List UInt8 × Int) × Int × Int × Int) × Bool) :=
  (c70 rf d1 d2).bind fun (y1 : (List (Int × List UInt8 × Int) × Int × Int × Int) × Bool) =>
  bif !y1.2 then
    some (y1.1, false)
  else
    some ((y1.1.1, IntKind.i64.wrap (y1.1.2.1 + 1), y1.1.2.2), true)
theorem er69 (rf : T.RF) (rb : T.RB) (d1 : List (Int × List UInt8 × Int) × Int × Int × Int) (d2 : List UInt8) : T.stepF rf rb 69 (d1, d2) = r69 rf rb d1 d2 := by kernel_rfl
theorem or69 {d1 : List (Int × List UInt8 × Int) × Int × Int × Int} {d2 : List UInt8} {y : ((List (Int × List UInt8 × Int) × Int × Int × Int) × Bool)} (h : r69 T.rf T.rb d1 d2 = some y) : c69 T.rf d1 d2 = some y := T.rf_of (f := 69) (d := (d1, d2)) ((er69 T.rf T.rb d1 d2).trans h)

/- (*bailment/bailmentref06.reader).named -/
noncomputable def r73q (rf : T.RF) (rb : T.RB) (d1 : List (Int × List UInt8 × Int) × Int × Int × Int) : Option ((List (Int × List UInt8 × Int) × Int × Int × Int) × Bool) :=
  (c71 rf d1).bind fun (y1 : (List (Int × List UInt8 × Int) × Int × Int × Int) × Bool) =>
  bif y1.2 then
    agN 1 (
      bif decide (y1.1.2.1 < (((y1.1.1.length : Nat) : Int))) then
        agN 1 (
          bif inb y1.1.2.1 y1.1.1.length then
            (nth y1.1.1 y1.1.2.1.toNat).bind fun (x2 : Int × List UInt8 × Int) =>
            some (y1.1, x2.1 == 1)
          else
            none
        )
      else
        agN 1 (
          some (y1.1, false)
        )
    )
  else
    agN 1 (
      agN 1 (
        some (y1.1, false)
      )
    )
noncomputable def r73 (rf : T.RF) (rb : T.RB) (d1 : List (Int × List UInt8 × Int) × Int × Int × Int) : Option ((List (Int × List UInt8 × Int) × Int × Int × Int) × Bool) :=
  (c71 rf d1).bind fun (y1 : (List (Int × List UInt8 × Int) × Int × Int × Int) × Bool) =>
  bif y1.2 then
    bif decide (y1.1.2.1 < (((y1.1.1.length : Nat) : Int))) then
      bif inb y1.1.2.1 y1.1.1.length then
        (nth y1.1.1 y1.1.2.1.toNat).bind fun (x2 : Int × List UInt8 × Int) =>
        some (y1.1, x2.1 == 1)
      else
        none
    else
      some (y1.1, false)
  else
    some (y1.1, false)
theorem er73 (rf : T.RF) (rb : T.RB) (d1 : List (Int × List UInt8 × Int) × Int × Int × Int) : T.stepF rf rb 73 d1 = r73q rf rb d1 := by kernel_rfl
theorem sr73 (rf : T.RF) (rb : T.RB) (d1 : List (Int × List UInt8 × Int) × Int × Int × Int) : r73q rf rb d1 = r73 rf rb d1 := by
  unfold r73q r73; simp only [agN_eq, agree_self, agree_swap]
theorem or73 {d1 : List (Int × List UInt8 × Int) × Int × Int × Int} {y : ((List (Int × List UInt8 × Int) × Int × Int × Int) × Bool)} (h : r73 T.rf T.rb d1 = some y) : c73 T.rf d1 = some y := T.rf_of (f := 73) (d := d1) (((er73 T.rf T.rb d1).trans (sr73 T.rf T.rb d1)).trans h)

/- (*bailment/bailmentref06.reader).fail -/
noncomputable def r74q (rf : T.RF) (rb : T.RB) (d1 : List (Int × List UInt8 × Int) × Int × Int × Int) (d2 : Int) : Option (List (Int × List UInt8 × Int) × Int × Int × Int) :=
  (c71 rf d1).bind fun (y1 : (List (Int × List UInt8 × Int) × Int × Int × Int) × Bool) =>
  bif y1.2 then
    agN 1 (
      (c26 rf y1.1.1 y1.1.2.1).bind fun (y2 : Int) =>
      some (y1.1.1, y1.1.2.1, d2, y2)
    )
  else
    some y1.1
noncomputable def r74 (rf : T.RF) (rb : T.RB) (d1 : List (Int × List UInt8 × Int) × Int × Int × Int) (d2 : Int) : Option (List (Int × List UInt8 × Int) × Int × Int × Int) :=
  (c71 rf d1).bind fun (y1 : (List (Int × List UInt8 × Int) × Int × Int × Int) × Bool) =>
  bif y1.2 then
    (c26 rf y1.1.1 y1.1.2.1).bind fun (y2 : Int) =>
    some (y1.1.1, y1.1.2.1, d2, y2)
  else
    some y1.1
theorem er74 (rf : T.RF) (rb : T.RB) (d1 : List (Int × List UInt8 × Int) × Int × Int × Int) (d2 : Int) : T.stepF rf rb 74 (d1, d2) = r74q rf rb d1 d2 := by kernel_rfl
theorem sr74 (rf : T.RF) (rb : T.RB) (d1 : List (Int × List UInt8 × Int) × Int × Int × Int) (d2 : Int) : r74q rf rb d1 d2 = r74 rf rb d1 d2 := by
  unfold r74q r74; simp only [agN_eq, agree_self, agree_swap]
theorem or74 {d1 : List (Int × List UInt8 × Int) × Int × Int × Int} {d2 : Int} {y : (List (Int × List UInt8 × Int) × Int × Int × Int)} (h : r74 T.rf T.rb d1 d2 = some y) : c74 T.rf d1 d2 = some y := T.rf_of (f := 74) (d := (d1, d2)) (((er74 T.rf T.rb d1 d2).trans (sr74 T.rf T.rb d1 d2)).trans h)

/- (*bailment/bailmentref06.reader).name -/
noncomputable def r72 (rf : T.RF) (rb : T.RB) (d1 : List (Int × List UInt8 × Int) × Int × Int × Int) : Option ((List (Int × List UInt8 × Int) × Int × Int × Int) × List UInt8) :=
  (c73 rf d1).bind fun (y1 : (List (Int × List UInt8 × Int) × Int × Int × Int) × Bool) =>
  bif !y1.2 then
    (c74 rf y1.1 5).bind fun (y2 : List (Int × List UInt8 × Int) × Int × Int × Int) =>
    some (y2, ([] : List UInt8))
  else
  bif inb (IntKind.i64.wrap ((IntKind.i64.wrap (y1.1.2.1 + 1)) - 1)) y1.1.1.length then
    (nth y1.1.1 (IntKind.i64.wrap ((IntKind.i64.wrap (y1.1.2.1 + 1)) - 1)).toNat).bind fun (x3 : Int × List UInt8 × Int) =>
    some ((y1.1.1, IntKind.i64.wrap (y1.1.2.1 + 1), y1.1.2.2), x3.2.1)
  else
    none
theorem er72 (rf : T.RF) (rb : T.RB) (d1 : List (Int × List UInt8 × Int) × Int × Int × Int) : T.stepF rf rb 72 d1 = r72 rf rb d1 := by kernel_rfl
theorem or72 {d1 : List (Int × List UInt8 × Int) × Int × Int × Int} {y : ((List (Int × List UInt8 × Int) × Int × Int × Int) × List UInt8)} (h : r72 T.rf T.rb d1 = some y) : c72 T.rf d1 = some y := T.rf_of (f := 72) (d := d1) ((er72 T.rf T.rb d1).trans h)

/- (*bailment/bailmentref06.reader).need -/
noncomputable def r76 (rf : T.RF) (rb : T.RB) (d1 : List (Int × List UInt8 × Int) × Int × Int × Int) (d2 : List UInt8) : Option (List (Int × List UInt8 × Int) × Int × Int × Int) :=
  (c69 rf d1 d2).bind fun (y1 : (List (Int × List UInt8 × Int) × Int × Int × Int) × Bool) =>
  bif !y1.2 then
    (c74 rf y1.1 5).bind fun (y2 : List (Int × List UInt8 × Int) × Int × Int × Int) =>
    some y2
  else
    some y1.1
theorem er76 (rf : T.RF) (rb : T.RB) (d1 : List (Int × List UInt8 × Int) × Int × Int × Int) (d2 : List UInt8) : T.stepF rf rb 76 (d1, d2) = r76 rf rb d1 d2 := by kernel_rfl
theorem or76 {d1 : List (Int × List UInt8 × Int) × Int × Int × Int} {d2 : List UInt8} {y : (List (Int × List UInt8 × Int) × Int × Int × Int)} (h : r76 T.rf T.rb d1 d2 = some y) : c76 T.rf d1 d2 = some y := T.rf_of (f := 76) (d := (d1, d2)) ((er76 T.rf T.rb d1 d2).trans h)

/- (*bailment/bailmentref06.reader).room -/
noncomputable def r77 (rf : T.RF) (rb : T.RB) (d1 : List (Int × List UInt8 × Int) × Int × Int × Int) (d2 : Int) : Option (List (Int × List UInt8 × Int) × Int × Int × Int) :=
  bif decide (d2 ≥ 200) then
    (c74 rf d1 7).bind fun (y1 : List (Int × List UInt8 × Int) × Int × Int × Int) =>
    some y1
  else
    some d1
theorem er77 (rf : T.RF) (rb : T.RB) (d1 : List (Int × List UInt8 × Int) × Int × Int × Int) (d2 : Int) : T.stepF rf rb 77 (d1, d2) = r77 rf rb d1 d2 := by kernel_rfl
theorem or77 {d1 : List (Int × List UInt8 × Int) × Int × Int × Int} {d2 : Int} {y : (List (Int × List UInt8 × Int) × Int × Int × Int)} (h : r77 T.rf T.rb d1 d2 = some y) : c77 T.rf d1 d2 = some y := T.rf_of (f := 77) (d := (d1, d2)) ((er77 T.rf T.rb d1 d2).trans h)

/- (*bailment/bailmentref06.reader).param -/
noncomputable def r78 (rf : T.RF) (rb : T.RB) (d1 : List (Int × List UInt8 × Int) × Int × Int × Int) : Option ((List (Int × List UInt8 × Int) × Int × Int × Int) × List UInt8 × Int) :=
  (c72 rf d1).bind fun (y1 : (List (Int × List UInt8 × Int) × Int × Int × Int) × List UInt8) =>
  (c76 rf y1.1 ([58] : List UInt8)).bind fun (y2 : List (Int × List UInt8 × Int) × Int × Int × Int) =>
  (c69 rf y2 ([98, 111, 111, 108] : List UInt8)).bind fun (y3 : (List (Int × List UInt8 × Int) × Int × Int × Int) × Bool) =>
  bif y3.2 then
    some (y3.1, y1.2, 1)
  else
    (c69 rf y3.1 ([105, 110, 116] : List UInt8)).bind fun (y4 : (List (Int × List UInt8 × Int) × Int × Int × Int) × Bool) =>
    bif y4.2 then
      some (y4.1, y1.2, 2)
    else
      (c74 rf y4.1 5).bind fun (y5 : List (Int × List UInt8 × Int) × Int × Int × Int) =>
      some (y5, y1.2, 0)
theorem er78 (rf : T.RF) (rb : T.RB) (d1 : List (Int × List UInt8 × Int) × Int × Int × Int) : T.stepF rf rb 78 d1 = r78 rf rb d1 := by kernel_rfl
theorem or78 {d1 : List (Int × List UInt8 × Int) × Int × Int × Int} {y : ((List (Int × List UInt8 × Int) × Int × Int × Int) × List UInt8 × Int)} (h : r78 T.rf T.rb d1 = some y) : c78 T.rf d1 = some y := T.rf_of (f := 78) (d := d1) ((er78 T.rf T.rb d1).trans h)

/- (*bailment/bailmentref06.reader).inputs loop 0 -/
noncomputable def b70 (rf : T.RF) (rb : T.RB) (d1 : List (Int × List UInt8 × Int) × Int × Int × Int) (d2 : XP) : Option (((List (Int × List UInt8 × Int) × Int × Int × Int) × XP) ⊕ (List (Int × List UInt8 × Int) × Int × Int × Int)) :=
  (c71 rf d1).bind fun (y1 : (List (Int × List UInt8 × Int) × Int × Int × Int) × Bool) =>
  bif y1.2 then
    (c77 rf y1.1 (((d2.length : Nat) : Int))).bind fun (y2 : List (Int × List UInt8 × Int) × Int × Int × Int) =>
    (c78 rf y2).bind fun (y3 : (List (Int × List UInt8 × Int) × Int × Int × Int) × List UInt8 × Int) =>
    bif (Nat.ble (d2.length + 1) most) && true then
      (c69 rf y3.1 ([41] : List UInt8)).bind fun (y4 : (List (Int × List UInt8 × Int) × Int × Int × Int) × Bool) =>
      bif y4.2 then
        some (.inl (y4.1, d2 ++ [y3.2]))
      else
        (c76 rf y4.1 ([59] : List UInt8)).bind fun (y5 : List (Int × List UInt8 × Int) × Int × Int × Int) =>
        k70 rb y5 (d2 ++ [y3.2])
    else
      none
  else
    some (.inr y1.1)
theorem eb70 (rf : T.RF) (rb : T.RB) (d1 : List (Int × List UInt8 × Int) × Int × Int × Int) (d2 : XP) : T.stepB rf rb 70 (d1, d2) = b70 rf rb d1 d2 := by kernel_rfl
theorem ob70 {d1 : List (Int × List UInt8 × Int) × Int × Int × Int} {d2 : XP} {y : (((List (Int × List UInt8 × Int) × Int × Int × Int) × XP) ⊕ (List (Int × List UInt8 × Int) × Int × Int × Int))} (h : b70 T.rf T.rb d1 d2 = some y) : k70 T.rb d1 d2 = some y := T.rb_of (κ := 70) (d := (d1, d2)) ((eb70 T.rf T.rb d1 d2).trans h)

/- (*bailment/bailmentref06.reader).inputs -/
noncomputable def r75 (rf : T.RF) (rb : T.RB) (d1 : List (Int × List UInt8 × Int) × Int × Int × Int) : Option ((List (Int × List UInt8 × Int) × Int × Int × Int) × XP) :=
  (c76 rf d1 ([40] : List UInt8)).bind fun (y1 : List (Int × List UInt8 × Int) × Int × Int × Int) =>
  (c69 rf y1 ([41] : List UInt8)).bind fun (y2 : (List (Int × List UInt8 × Int) × Int × Int × Int) × Bool) =>
  bif y2.2 then
    some (y2.1, [])
  else
    (k70 rb y2.1 []).bind fun (z3 : ((List (Int × List UInt8 × Int) × Int × Int × Int) × XP) ⊕ (List (Int × List UInt8 × Int) × Int × Int × Int)) =>
    match z3 with
    | .inl u4 =>
      some u4
    | .inr w5 =>
      some (w5, [])
theorem er75 (rf : T.RF) (rb : T.RB) (d1 : List (Int × List UInt8 × Int) × Int × Int × Int) : T.stepF rf rb 75 d1 = r75 rf rb d1 := by kernel_rfl
theorem or75 {d1 : List (Int × List UInt8 × Int) × Int × Int × Int} {y : ((List (Int × List UInt8 × Int) × Int × Int × Int) × XP)} (h : r75 T.rf T.rb d1 = some y) : c75 T.rf d1 = some y := T.rf_of (f := 75) (d := d1) ((er75 T.rf T.rb d1).trans h)

/- (*bailment/bailmentref06.reader).begins -/
noncomputable def r80 (rf : T.RF) (rb : T.RB) (d1 : List (Int × List UInt8 × Int) × Int × Int × Int) : Option ((List (Int × List UInt8 × Int) × Int × Int × Int) × Bool) :=
  (c70 rf d1 ([97, 115, 115, 117, 109, 101] : List UInt8)).bind fun (y1 : (List (Int × List UInt8 × Int) × Int × Int × Int) × Bool) =>
  bif y1.2 then
    some (y1.1, true)
  else
    (c70 rf y1.1 ([103, 117, 97, 114, 97, 110, 116, 101, 101] : List UInt8)).bind fun (y2 : (List (Int × List UInt8 × Int) × Int × Int × Int) × Bool) =>
    bif y2.2 then
      some (y2.1, true)
    else
      (c70 rf y2.1 ([103, 104, 111, 115, 116] : List UInt8)).bind fun (y3 : (List (Int × List UInt8 × Int) × Int × Int × Int) × Bool) =>
      bif y3.2 then
        some (y3.1, true)
      else
        (c70 rf y3.1 ([109, 111, 100, 101] : List UInt8)).bind fun (y4 : (List (Int × List UInt8 × Int) × Int × Int × Int) × Bool) =>
        bif y4.2 then
          some (y4.1, true)
        else
          (c70 rf y4.1 ([105, 109, 112, 111, 114, 116] : List UInt8)).bind fun (y5 : (List (Int × List UInt8 × Int) × Int × Int × Int) × Bool) =>
          some y5
theorem er80 (rf : T.RF) (rb : T.RB) (d1 : List (Int × List UInt8 × Int) × Int × Int × Int) : T.stepF rf rb 80 d1 = r80 rf rb d1 := by kernel_rfl
theorem or80 {d1 : List (Int × List UInt8 × Int) × Int × Int × Int} {y : ((List (Int × List UInt8 × Int) × Int × Int × Int) × Bool)} (h : r80 T.rf T.rb d1 = some y) : c80 T.rf d1 = some y := T.rf_of (f := 80) (d := d1) ((er80 T.rf T.rb d1).trans h)

/- (*bailment/bailmentref06.reader).expr tail 4 -/
noncomputable def b72 (rf : T.RF) (rb : T.RB) (d1 : List (Int × List UInt8 × Int) × Int × Int × Int) (d2 : Int × Int) (d3 : XL) (d4 : Int) : Option ((List (Int × List UInt8 × Int) × Int × Int × Int) × (Int × Int) × XL) :=
  bif d2.1 != 0 then
    some ((d1.1, d1.2.1, d2), d2, [])
  else
    some ((d1.1, d4, d1.2.2), d2, d3)
theorem eb72 (rf : T.RF) (rb : T.RB) (d1 : List (Int × List UInt8 × Int) × Int × Int × Int) (d2 : Int × Int) (d3 : XL) (d4 : Int) : T.stepB rf rb 72 (d1, d2, d3, d4) = b72 rf rb d1 d2 d3 d4 := by kernel_rfl
theorem ob72 {d1 : List (Int × List UInt8 × Int) × Int × Int × Int} {d2 : Int × Int} {d3 : XL} {d4 : Int} {y : ((List (Int × List UInt8 × Int) × Int × Int × Int) × (Int × Int) × XL)} (h : b72 T.rf T.rb d1 d2 d3 d4 = some y) : k72 T.rb d1 d2 d3 d4 = some y := T.rb_of (κ := 72) (d := (d1, d2, d3, d4)) ((eb72 T.rf T.rb d1 d2 d3 d4).trans h)

/- (*bailment/bailmentref06.reader).expr -/
noncomputable def r82q (rf : T.RF) (rb : T.RB) (d1 : List (Int × List UInt8 × Int) × Int × Int × Int) : Option ((List (Int × List UInt8 × Int) × Int × Int × Int) × XL) :=
  (c71 rf d1).bind fun (y1 : (List (Int × List UInt8 × Int) × Int × Int × Int) × Bool) =>
  bif !y1.2 then
    some (y1.1, [])
  else
    agN 1 (
      (c15 rf y1.1.1 y1.1.2.1).bind fun (y2 : XL × Int × Int × Int) =>
      (k72 rb y1.1 y2.2.2 y2.1 y2.2.1).bind fun (z3 : (List (Int × List UInt8 × Int) × Int × Int × Int) × (Int × Int) × XL) =>
      some (z3.1, z3.2.2)
    )
noncomputable def r82 (rf : T.RF) (rb : T.RB) (d1 : List (Int × List UInt8 × Int) × Int × Int × Int) : Option ((List (Int × List UInt8 × Int) × Int × Int × Int) × XL) :=
  (c71 rf d1).bind fun (y1 : (List (Int × List UInt8 × Int) × Int × Int × Int) × Bool) =>
  bif !y1.2 then
    some (y1.1, [])
  else
    (c15 rf y1.1.1 y1.1.2.1).bind fun (y2 : XL × Int × Int × Int) =>
    (k72 rb y1.1 y2.2.2 y2.1 y2.2.1).bind fun (z3 : (List (Int × List UInt8 × Int) × Int × Int × Int) × (Int × Int) × XL) =>
    some (z3.1, z3.2.2)
theorem er82 (rf : T.RF) (rb : T.RB) (d1 : List (Int × List UInt8 × Int) × Int × Int × Int) : T.stepF rf rb 82 d1 = r82q rf rb d1 := by kernel_rfl
theorem sr82 (rf : T.RF) (rb : T.RB) (d1 : List (Int × List UInt8 × Int) × Int × Int × Int) : r82q rf rb d1 = r82 rf rb d1 := by
  unfold r82q r82; simp only [agN_eq, agree_self, agree_swap]
theorem or82 {d1 : List (Int × List UInt8 × Int) × Int × Int × Int} {y : ((List (Int × List UInt8 × Int) × Int × Int × Int) × XL)} (h : r82 T.rf T.rb d1 = some y) : c82 T.rf d1 = some y := T.rf_of (f := 82) (d := d1) (((er82 T.rf T.rb d1).trans (sr82 T.rf T.rb d1)).trans h)

/- (*bailment/bailmentref06.reader).args loop 0 -/
noncomputable def b74 (rf : T.RF) (rb : T.RB) (d1 : List (Int × List UInt8 × Int) × Int × Int × Int) (d2 : List XL) : Option (((List (Int × List UInt8 × Int) × Int × Int × Int) × List XL) ⊕ (List (Int × List UInt8 × Int) × Int × Int × Int)) :=
  (c71 rf d1).bind fun (y1 : (List (Int × List UInt8 × Int) × Int × Int × Int) × Bool) =>
  bif y1.2 then
    (c77 rf y1.1 (((d2.length : Nat) : Int))).bind fun (y2 : List (Int × List UInt8 × Int) × Int × Int × Int) =>
    (c82 rf y2).bind fun (y3 : (List (Int × List UInt8 × Int) × Int × Int × Int) × XL) =>
    bif (Nat.ble (d2.length + 1) most) && true then
      (c69 rf y3.1 ([41] : List UInt8)).bind fun (y4 : (List (Int × List UInt8 × Int) × Int × Int × Int) × Bool) =>
      bif y4.2 then
        some (.inl (y4.1, d2 ++ [y3.2]))
      else
        (c76 rf y4.1 ([44] : List UInt8)).bind fun (y5 : List (Int × List UInt8 × Int) × Int × Int × Int) =>
        k74 rb y5 (d2 ++ [y3.2])
    else
      none
  else
    some (.inr y1.1)
theorem eb74 (rf : T.RF) (rb : T.RB) (d1 : List (Int × List UInt8 × Int) × Int × Int × Int) (d2 : List XL) : T.stepB rf rb 74 (d1, d2) = b74 rf rb d1 d2 := by kernel_rfl
theorem ob74 {d1 : List (Int × List UInt8 × Int) × Int × Int × Int} {d2 : List XL} {y : (((List (Int × List UInt8 × Int) × Int × Int × Int) × List XL) ⊕ (List (Int × List UInt8 × Int) × Int × Int × Int))} (h : b74 T.rf T.rb d1 d2 = some y) : k74 T.rb d1 d2 = some y := T.rb_of (κ := 74) (d := (d1, d2)) ((eb74 T.rf T.rb d1 d2).trans h)

/- (*bailment/bailmentref06.reader).args -/
noncomputable def r83 (rf : T.RF) (rb : T.RB) (d1 : List (Int × List UInt8 × Int) × Int × Int × Int) : Option ((List (Int × List UInt8 × Int) × Int × Int × Int) × List XL) :=
  (c76 rf d1 ([40] : List UInt8)).bind fun (y1 : List (Int × List UInt8 × Int) × Int × Int × Int) =>
  (c69 rf y1 ([41] : List UInt8)).bind fun (y2 : (List (Int × List UInt8 × Int) × Int × Int × Int) × Bool) =>
  bif y2.2 then
    some (y2.1, [])
  else
    (k74 rb y2.1 []).bind fun (z3 : ((List (Int × List UInt8 × Int) × Int × Int × Int) × List XL) ⊕ (List (Int × List UInt8 × Int) × Int × Int × Int)) =>
    match z3 with
    | .inl u4 =>
      some u4
    | .inr w5 =>
      some (w5, [])
theorem er83 (rf : T.RF) (rb : T.RB) (d1 : List (Int × List UInt8 × Int) × Int × Int × Int) : T.stepF rf rb 83 d1 = r83 rf rb d1 := by kernel_rfl
theorem or83 {d1 : List (Int × List UInt8 × Int) × Int × Int × Int} {y : ((List (Int × List UInt8 × Int) × Int × Int × Int) × List XL)} (h : r83 T.rf T.rb d1 = some y) : c83 T.rf d1 = some y := T.rf_of (f := 83) (d := d1) ((er83 T.rf T.rb d1).trans h)

/- (*bailment/bailmentref06.reader).item -/
noncomputable def r81 (rf : T.RF) (rb : T.RB) (d1 : List (Int × List UInt8 × Int) × Int × Int × Int) : Option ((List (Int × List UInt8 × Int) × Int × Int × Int) × XI × Bool) :=
  (c69 rf d1 ([97, 115, 115, 117, 109, 101] : List UInt8)).bind fun (y1 : (List (Int × List UInt8 × Int) × Int × Int × Int) × Bool) =>
  bif y1.2 then
    (c82 rf y1.1).bind fun (y2 : (List (Int × List UInt8 × Int) × Int × Int × Int) × XL) =>
    (c76 rf y2.1 ([59] : List UInt8)).bind fun (y3 : List (Int × List UInt8 × Int) × Int × Int × Int) =>
    some (y3, (1, ([] : List UInt8), 0, y2.2, [], []), true)
  else
    (c69 rf y1.1 ([103, 117, 97, 114, 97, 110, 116, 101, 101] : List UInt8)).bind fun (y4 : (List (Int × List UInt8 × Int) × Int × Int × Int) × Bool) =>
    bif y4.2 then
      (c82 rf y4.1).bind fun (y5 : (List (Int × List UInt8 × Int) × Int × Int × Int) × XL) =>
      (c76 rf y5.1 ([59] : List UInt8)).bind fun (y6 : List (Int × List UInt8 × Int) × Int × Int × Int) =>
      some (y6, (2, ([] : List UInt8), 0, y5.2, [], []), true)
    else
      (c69 rf y4.1 ([103, 104, 111, 115, 116] : List UInt8)).bind fun (y7 : (List (Int × List UInt8 × Int) × Int × Int × Int) × Bool) =>
      bif y7.2 then
        (c78 rf y7.1).bind fun (y8 : (List (Int × List UInt8 × Int) × Int × Int × Int) × List UInt8 × Int) =>
        (c76 rf y8.1 ([61] : List UInt8)).bind fun (y9 : List (Int × List UInt8 × Int) × Int × Int × Int) =>
        (c82 rf y9).bind fun (y10 : (List (Int × List UInt8 × Int) × Int × Int × Int) × XL) =>
        (c76 rf y10.1 ([59] : List UInt8)).bind fun (y11 : List (Int × List UInt8 × Int) × Int × Int × Int) =>
        some (y11, (3, y8.2.1, y8.2.2, y10.2, [], []), true)
      else
        (c69 rf y7.1 ([109, 111, 100, 101] : List UInt8)).bind fun (y12 : (List (Int × List UInt8 × Int) × Int × Int × Int) × Bool) =>
        bif y12.2 then
          (c72 rf y12.1).bind fun (y13 : (List (Int × List UInt8 × Int) × Int × Int × Int) × List UInt8) =>
          (c76 rf y13.1 ([114, 101, 113, 117, 105, 114, 101] : List UInt8)).bind fun (y14 : List (Int × List UInt8 × Int) × Int × Int × Int) =>
          (c82 rf y14).bind fun (y15 : (List (Int × List UInt8 × Int) × Int × Int × Int) × XL) =>
          (c76 rf y15.1 ([101, 110, 115, 117, 114, 101] : List UInt8)).bind fun (y16 : List (Int × List UInt8 × Int) × Int × Int × Int) =>
          (c82 rf y16).bind fun (y17 : (List (Int × List UInt8 × Int) × Int × Int × Int) × XL) =>
          (c76 rf y17.1 ([59] : List UInt8)).bind fun (y18 : List (Int × List UInt8 × Int) × Int × Int × Int) =>
          some (y18, (4, y13.2, 0, y15.2, y17.2, []), true)
        else
          (c69 rf y12.1 ([105, 109, 112, 111, 114, 116] : List UInt8)).bind fun (y19 : (List (Int × List UInt8 × Int) × Int × Int × Int) × Bool) =>
          bif y19.2 then
            (c72 rf y19.1).bind fun (y20 : (List (Int × List UInt8 × Int) × Int × Int × Int) × List UInt8) =>
            (c83 rf y20.1).bind fun (y21 : (List (Int × List UInt8 × Int) × Int × Int × Int) × List XL) =>
            (c76 rf y21.1 ([59] : List UInt8)).bind fun (y22 : List (Int × List UInt8 × Int) × Int × Int × Int) =>
            some (y22, (5, y20.2, 0, [], [], y21.2), true)
          else
            some (y19.1, (0, ([] : List UInt8), 0, [], [], []), false)
theorem er81 (rf : T.RF) (rb : T.RB) (d1 : List (Int × List UInt8 × Int) × Int × Int × Int) : T.stepF rf rb 81 d1 = r81 rf rb d1 := by kernel_rfl
theorem or81 {d1 : List (Int × List UInt8 × Int) × Int × Int × Int} {y : ((List (Int × List UInt8 × Int) × Int × Int × Int) × XI × Bool)} (h : r81 T.rf T.rb d1 = some y) : c81 T.rf d1 = some y := T.rf_of (f := 81) (d := d1) ((er81 T.rf T.rb d1).trans h)

/- (*bailment/bailmentref06.reader).items loop 0 -/
noncomputable def b75 (rf : T.RF) (rb : T.RB) (d1 : List (Int × List UInt8 × Int) × Int × Int × Int) (d2 : List XI) : Option ((List (Int × List UInt8 × Int) × Int × Int × Int) × List XI) :=
  (c80 rf d1).bind fun (y1 : (List (Int × List UInt8 × Int) × Int × Int × Int) × Bool) =>
  bif y1.2 then
    (c77 rf y1.1 (((d2.length : Nat) : Int))).bind fun (y2 : List (Int × List UInt8 × Int) × Int × Int × Int) =>
    (c81 rf y2).bind fun (y3 : (List (Int × List UInt8 × Int) × Int × Int × Int) × XI × Bool) =>
    bif y3.2.2 then
      bif (Nat.ble (d2.length + 1) most) && true then
        k75 rb y3.1 (d2 ++ [y3.2.1])
      else
        none
    else
      k75 rb y3.1 d2
  else
    some (y1.1, d2)
theorem eb75 (rf : T.RF) (rb : T.RB) (d1 : List (Int × List UInt8 × Int) × Int × Int × Int) (d2 : List XI) : T.stepB rf rb 75 (d1, d2) = b75 rf rb d1 d2 := by kernel_rfl
theorem ob75 {d1 : List (Int × List UInt8 × Int) × Int × Int × Int} {d2 : List XI} {y : ((List (Int × List UInt8 × Int) × Int × Int × Int) × List XI)} (h : b75 T.rf T.rb d1 d2 = some y) : k75 T.rb d1 d2 = some y := T.rb_of (κ := 75) (d := (d1, d2)) ((eb75 T.rf T.rb d1 d2).trans h)

/- (*bailment/bailmentref06.reader).items -/
noncomputable def r79 (rf : T.RF) (rb : T.RB) (d1 : List (Int × List UInt8 × Int) × Int × Int × Int) : Option ((List (Int × List UInt8 × Int) × Int × Int × Int) × List XI) :=
  (k75 rb d1 []).bind fun (z1 : (List (Int × List UInt8 × Int) × Int × Int × Int) × List XI) =>
  (c76 rf z1.1 ([101, 110, 100] : List UInt8)).bind fun (y2 : List (Int × List UInt8 × Int) × Int × Int × Int) =>
  some (y2, z1.2)
theorem er79 (rf : T.RF) (rb : T.RB) (d1 : List (Int × List UInt8 × Int) × Int × Int × Int) : T.stepF rf rb 79 d1 = r79 rf rb d1 := by kernel_rfl
theorem or79 {d1 : List (Int × List UInt8 × Int) × Int × Int × Int} {y : ((List (Int × List UInt8 × Int) × Int × Int × Int) × List XI)} (h : r79 T.rf T.rb d1 = some y) : c79 T.rf d1 = some y := T.rf_of (f := 79) (d := d1) ((er79 T.rf T.rb d1).trans h)

/- (*bailment/bailmentref06.reader).vars loop 0 -/
noncomputable def b77 (rf : T.RF) (rb : T.RB) (d1 : List (Int × List UInt8 × Int) × Int × Int × Int) (d2 : XP) : Option (((List (Int × List UInt8 × Int) × Int × Int × Int) × XP) ⊕ (List (Int × List UInt8 × Int) × Int × Int × Int)) :=
  (c71 rf d1).bind fun (y1 : (List (Int × List UInt8 × Int) × Int × Int × Int) × Bool) =>
  bif y1.2 then
    (c77 rf y1.1 (((d2.length : Nat) : Int))).bind fun (y2 : List (Int × List UInt8 × Int) × Int × Int × Int) =>
    (c78 rf y2).bind fun (y3 : (List (Int × List UInt8 × Int) × Int × Int × Int) × List UInt8 × Int) =>
    bif (Nat.ble (d2.length + 1) most) && true then
      (c76 rf y3.1 ([59] : List UInt8)).bind fun (y4 : List (Int × List UInt8 × Int) × Int × Int × Int) =>
      (c73 rf y4).bind fun (y5 : (List (Int × List UInt8 × Int) × Int × Int × Int) × Bool) =>
      bif !y5.2 then
        some (.inl (y5.1, d2 ++ [y3.2]))
      else
        k77 rb y5.1 (d2 ++ [y3.2])
    else
      none
  else
    some (.inr y1.1)
theorem eb77 (rf : T.RF) (rb : T.RB) (d1 : List (Int × List UInt8 × Int) × Int × Int × Int) (d2 : XP) : T.stepB rf rb 77 (d1, d2) = b77 rf rb d1 d2 := by kernel_rfl
theorem ob77 {d1 : List (Int × List UInt8 × Int) × Int × Int × Int} {d2 : XP} {y : (((List (Int × List UInt8 × Int) × Int × Int × Int) × XP) ⊕ (List (Int × List UInt8 × Int) × Int × Int × Int))} (h : b77 T.rf T.rb d1 d2 = some y) : k77 T.rb d1 d2 = some y := T.rb_of (κ := 77) (d := (d1, d2)) ((eb77 T.rf T.rb d1 d2).trans h)

/- (*bailment/bailmentref06.reader).vars -/
noncomputable def r84 (rf : T.RF) (rb : T.RB) (d1 : List (Int × List UInt8 × Int) × Int × Int × Int) : Option ((List (Int × List UInt8 × Int) × Int × Int × Int) × XP) :=
  (k77 rb d1 []).bind fun (z1 : ((List (Int × List UInt8 × Int) × Int × Int × Int) × XP) ⊕ (List (Int × List UInt8 × Int) × Int × Int × Int)) =>
  match z1 with
  | .inl u2 =>
    some u2
  | .inr w3 =>
    some (w3, [])
theorem er84 (rf : T.RF) (rb : T.RB) (d1 : List (Int × List UInt8 × Int) × Int × Int × Int) : T.stepF rf rb 84 d1 = r84 rf rb d1 := by kernel_rfl
theorem or84 {d1 : List (Int × List UInt8 × Int) × Int × Int × Int} {y : ((List (Int × List UInt8 × Int) × Int × Int × Int) × XP)} (h : r84 T.rf T.rb d1 = some y) : c84 T.rf d1 = some y := T.rf_of (f := 84) (d := d1) ((er84 T.rf T.rb d1).trans h)

/- (*bailment/bailmentref06.reader).equations loop 0 -/
noncomputable def b79 (rf : T.RF) (rb : T.RB) (d1 : List (Int × List UInt8 × Int) × Int × Int × Int) (d2 : List (List UInt8 × XL)) : Option ((List (Int × List UInt8 × Int) × Int × Int × Int) × List (List UInt8 × XL)) :=
  (c73 rf d1).bind fun (y1 : (List (Int × List UInt8 × Int) × Int × Int × Int) × Bool) =>
  bif y1.2 then
    (c77 rf y1.1 (((d2.length : Nat) : Int))).bind fun (y2 : List (Int × List UInt8 × Int) × Int × Int × Int) =>
    (c72 rf y2).bind fun (y3 : (List (Int × List UInt8 × Int) × Int × Int × Int) × List UInt8) =>
    (c76 rf y3.1 ([61] : List UInt8)).bind fun (y4 : List (Int × List UInt8 × Int) × Int × Int × Int) =>
    (c82 rf y4).bind fun (y5 : (List (Int × List UInt8 × Int) × Int × Int × Int) × XL) =>
    (c76 rf y5.1 ([59] : List UInt8)).bind fun (y6 : List (Int × List UInt8 × Int) × Int × Int × Int) =>
    bif (Nat.ble (d2.length + 1) most) && true then
      k79 rb y6 (d2 ++ [(y3.2, y5.2)])
    else
      none
  else
    some (y1.1, d2)
theorem eb79 (rf : T.RF) (rb : T.RB) (d1 : List (Int × List UInt8 × Int) × Int × Int × Int) (d2 : List (List UInt8 × XL)) : T.stepB rf rb 79 (d1, d2) = b79 rf rb d1 d2 := by kernel_rfl
theorem ob79 {d1 : List (Int × List UInt8 × Int) × Int × Int × Int} {d2 : List (List UInt8 × XL)} {y : ((List (Int × List UInt8 × Int) × Int × Int × Int) × List (List UInt8 × XL))} (h : b79 T.rf T.rb d1 d2 = some y) : k79 T.rb d1 d2 = some y := T.rb_of (κ := 79) (d := (d1, d2)) ((eb79 T.rf T.rb d1 d2).trans h)

/- (*bailment/bailmentref06.reader).equations -/
noncomputable def r85 (rf : T.RF) (rb : T.RB) (d1 : List (Int × List UInt8 × Int) × Int × Int × Int) : Option ((List (Int × List UInt8 × Int) × Int × Int × Int) × List (List UInt8 × XL)) :=
  (k79 rb d1 []).bind fun (z1 : (List (Int × List UInt8 × Int) × Int × Int × Int) × List (List UInt8 × XL)) =>
  (c76 rf z1.1 ([116, 101, 108] : List UInt8)).bind fun (y2 : List (Int × List UInt8 × Int) × Int × Int × Int) =>
  some (y2, z1.2)
theorem er85 (rf : T.RF) (rb : T.RB) (d1 : List (Int × List UInt8 × Int) × Int × Int × Int) : T.stepF rf rb 85 d1 = r85 rf rb d1 := by kernel_rfl
theorem or85 {d1 : List (Int × List UInt8 × Int) × Int × Int × Int} {y : ((List (Int × List UInt8 × Int) × Int × Int × Int) × List (List UInt8 × XL))} (h : r85 T.rf T.rb d1 = some y) : c85 T.rf d1 = some y := T.rf_of (f := 85) (d := d1) ((er85 T.rf T.rb d1).trans h)

/- (*bailment/bailmentref06.reader).unit -/
noncomputable def r68 (rf : T.RF) (rb : T.RB) (d1 : List (Int × List UInt8 × Int) × Int × Int × Int) : Option ((List (Int × List UInt8 × Int) × Int × Int × Int) × XU) :=
  (c69 rf d1 ([99, 111, 110, 116, 114, 97, 99, 116] : List UInt8)).bind fun (y1 : (List (Int × List UInt8 × Int) × Int × Int × Int) × Bool) =>
  bif y1.2 then
    (c72 rf y1.1).bind fun (y2 : (List (Int × List UInt8 × Int) × Int × Int × Int) × List UInt8) =>
    (c75 rf y2.1).bind fun (y3 : (List (Int × List UInt8 × Int) × Int × Int × Int) × XP) =>
    (c79 rf y3.1).bind fun (y4 : (List (Int × List UInt8 × Int) × Int × Int × Int) × List XI) =>
    some (y4.1, true, y2.2, y3.2, ([] : List UInt8), 0, [], [], y4.2)
  else
    (c76 rf y1.1 ([110, 111, 100, 101] : List UInt8)).bind fun (y5 : List (Int × List UInt8 × Int) × Int × Int × Int) =>
    (c72 rf y5).bind fun (y6 : (List (Int × List UInt8 × Int) × Int × Int × Int) × List UInt8) =>
    (c75 rf y6.1).bind fun (y7 : (List (Int × List UInt8 × Int) × Int × Int × Int) × XP) =>
    (c76 rf y7.1 ([114, 101, 116, 117, 114, 110, 115] : List UInt8)).bind fun (y8 : List (Int × List UInt8 × Int) × Int × Int × Int) =>
    (c76 rf y8 ([40] : List UInt8)).bind fun (y9 : List (Int × List UInt8 × Int) × Int × Int × Int) =>
    (c78 rf y9).bind fun (y10 : (List (Int × List UInt8 × Int) × Int × Int × Int) × List UInt8 × Int) =>
    (c76 rf y10.1 ([41] : List UInt8)).bind fun (y11 : List (Int × List UInt8 × Int) × Int × Int × Int) =>
    (c69 rf y11 ([99, 111, 110, 116, 114, 97, 99, 116] : List UInt8)).bind fun (y12 : (List (Int × List UInt8 × Int) × Int × Int × Int) × Bool) =>
    bif y12.2 then
      (c79 rf y12.1).bind fun (y13 : (List (Int × List UInt8 × Int) × Int × Int × Int) × List XI) =>
      (c69 rf y13.1 ([118, 97, 114] : List UInt8)).bind fun (y14 : (List (Int × List UInt8 × Int) × Int × Int × Int) × Bool) =>
      bif y14.2 then
        (c84 rf y14.1).bind fun (y15 : (List (Int × List UInt8 × Int) × Int × Int × Int) × XP) =>
        (c76 rf y15.1 ([108, 101, 116] : List UInt8)).bind fun (y16 : List (Int × List UInt8 × Int) × Int × Int × Int) =>
        (c85 rf y16).bind fun (y17 : (List (Int × List UInt8 × Int) × Int × Int × Int) × List (List UInt8 × XL)) =>
        some (y17.1, false, y6.2, y7.2, y10.2.1, y10.2.2, y15.2, y17.2, y13.2)
      else
        (c76 rf y14.1 ([108, 101, 116] : List UInt8)).bind fun (y18 : List (Int × List UInt8 × Int) × Int × Int × Int) =>
        (c85 rf y18).bind fun (y19 : (List (Int × List UInt8 × Int) × Int × Int × Int) × List (List UInt8 × XL)) =>
        some (y19.1, false, y6.2, y7.2, y10.2.1, y10.2.2, [], y19.2, y13.2)
    else
      (c69 rf y12.1 ([118, 97, 114] : List UInt8)).bind fun (y20 : (List (Int × List UInt8 × Int) × Int × Int × Int) × Bool) =>
      bif y20.2 then
        (c84 rf y20.1).bind fun (y21 : (List (Int × List UInt8 × Int) × Int × Int × Int) × XP) =>
        (c76 rf y21.1 ([108, 101, 116] : List UInt8)).bind fun (y22 : List (Int × List UInt8 × Int) × Int × Int × Int) =>
        (c85 rf y22).bind fun (y23 : (List (Int × List UInt8 × Int) × Int × Int × Int) × List (List UInt8 × XL)) =>
        some (y23.1, false, y6.2, y7.2, y10.2.1, y10.2.2, y21.2, y23.2, [])
      else
        (c76 rf y20.1 ([108, 101, 116] : List UInt8)).bind fun (y24 : List (Int × List UInt8 × Int) × Int × Int × Int) =>
        (c85 rf y24).bind fun (y25 : (List (Int × List UInt8 × Int) × Int × Int × Int) × List (List UInt8 × XL)) =>
        some (y25.1, false, y6.2, y7.2, y10.2.1, y10.2.2, [], y25.2, [])
theorem er68 (rf : T.RF) (rb : T.RB) (d1 : List (Int × List UInt8 × Int) × Int × Int × Int) : T.stepF rf rb 68 d1 = r68 rf rb d1 := by kernel_rfl
theorem or68 {d1 : List (Int × List UInt8 × Int) × Int × Int × Int} {y : ((List (Int × List UInt8 × Int) × Int × Int × Int) × XU)} (h : r68 T.rf T.rb d1 = some y) : c68 T.rf d1 = some y := T.rf_of (f := 68) (d := d1) ((er68 T.rf T.rb d1).trans h)

/- bailmentref06.Parse loop 0 -/
noncomputable def b94q (rf : T.RF) (rb : T.RB) (d1 : List (Int × List UInt8 × Int) × Int × Int × Int) (d2 : List UInt8) (d3 : List UInt8) (d4 : List XU) : Option ((List (Int × List UInt8 × Int) × Int × Int × Int) × List UInt8 × List UInt8 × List XU) :=
  (c70 rf d1 ([110, 111, 100, 101] : List UInt8)).bind fun (y1 : (List (Int × List UInt8 × Int) × Int × Int × Int) × Bool) =>
  bif y1.2 then
    (c77 rf y1.1 (((d4.length : Nat) : Int))).bind fun (y2 : List (Int × List UInt8 × Int) × Int × Int × Int) =>
    agree (
      (c68 rf y2).bind fun (y3 : (List (Int × List UInt8 × Int) × Int × Int × Int) × XU) =>
      bif (Nat.ble (d4.length + 1) most) && true then
        k94 rb y3.1 d2 d3 (d4 ++ [y3.2])
      else
        none
    ) (
      (c68 rf y2).bind fun (y3 : (List (Int × List UInt8 × Int) × Int × Int × Int) × XU) =>
      agN 1 (
        bif (Nat.ble (d4.length + 1) most) && true then
          k94 rb y3.1 d2 d3 (d4 ++ [y3.2])
        else
          none
      )
    )
  else
    (c70 rf y1.1 ([99, 111, 110, 116, 114, 97, 99, 116] : List UInt8)).bind fun (y4 : (List (Int × List UInt8 × Int) × Int × Int × Int) × Bool) =>
    bif y4.2 then
      (c77 rf y4.1 (((d4.length : Nat) : Int))).bind fun (y5 : List (Int × List UInt8 × Int) × Int × Int × Int) =>
      agree (
        (c68 rf y5).bind fun (y6 : (List (Int × List UInt8 × Int) × Int × Int × Int) × XU) =>
        bif (Nat.ble (d4.length + 1) most) && true then
          k94 rb y6.1 d2 d3 (d4 ++ [y6.2])
        else
          none
      ) (
        (c68 rf y5).bind fun (y6 : (List (Int × List UInt8 × Int) × Int × Int × Int) × XU) =>
        agN 1 (
          bif (Nat.ble (d4.length + 1) most) && true then
            k94 rb y6.1 d2 d3 (d4 ++ [y6.2])
          else
            none
        )
      )
    else
      some (y4.1, d2, d3, d4)
noncomputable def b94 (rf : T.RF) (rb : T.RB) (d1 : List (Int × List UInt8 × Int) × Int × Int × Int) (d2 : List UInt8) (d3 : List UInt8) (d4 : List XU) : Option ((List (Int × List UInt8 × Int) × Int × Int × Int) × List UInt8 × List UInt8 × List XU) :=
  (c70 rf d1 ([110, 111, 100, 101] : List UInt8)).bind fun (y1 : (List (Int × List UInt8 × Int) × Int × Int × Int) × Bool) =>
  bif y1.2 then
    (c77 rf y1.1 (((d4.length : Nat) : Int))).bind fun (y2 : List (Int × List UInt8 × Int) × Int × Int × Int) =>
    (c68 rf y2).bind fun (y3 : (List (Int × List UInt8 × Int) × Int × Int × Int) × XU) =>
    bif (Nat.ble (d4.length + 1) most) && true then
      k94 rb y3.1 d2 d3 (d4 ++ [y3.2])
    else
      none
  else
    (c70 rf y1.1 ([99, 111, 110, 116, 114, 97, 99, 116] : List UInt8)).bind fun (y4 : (List (Int × List UInt8 × Int) × Int × Int × Int) × Bool) =>
    bif y4.2 then
      (c77 rf y4.1 (((d4.length : Nat) : Int))).bind fun (y5 : List (Int × List UInt8 × Int) × Int × Int × Int) =>
      (c68 rf y5).bind fun (y6 : (List (Int × List UInt8 × Int) × Int × Int × Int) × XU) =>
      bif (Nat.ble (d4.length + 1) most) && true then
        k94 rb y6.1 d2 d3 (d4 ++ [y6.2])
      else
        none
    else
      some (y4.1, d2, d3, d4)
theorem eb94 (rf : T.RF) (rb : T.RB) (d1 : List (Int × List UInt8 × Int) × Int × Int × Int) (d2 : List UInt8) (d3 : List UInt8) (d4 : List XU) : T.stepB rf rb 94 (d1, d2, d3, d4) = b94q rf rb d1 d2 d3 d4 := by kernel_rfl
theorem sb94 (rf : T.RF) (rb : T.RB) (d1 : List (Int × List UInt8 × Int) × Int × Int × Int) (d2 : List UInt8) (d3 : List UInt8) (d4 : List XU) : b94q rf rb d1 d2 d3 d4 = b94 rf rb d1 d2 d3 d4 := by
  unfold b94q b94; simp only [agN_eq, agree_self, agree_swap]
theorem ob94 {d1 : List (Int × List UInt8 × Int) × Int × Int × Int} {d2 : List UInt8} {d3 : List UInt8} {d4 : List XU} {y : ((List (Int × List UInt8 × Int) × Int × Int × Int) × List UInt8 × List UInt8 × List XU)} (h : b94 T.rf T.rb d1 d2 d3 d4 = some y) : k94 T.rb d1 d2 d3 d4 = some y := T.rb_of (κ := 94) (d := (d1, d2, d3, d4)) (((eb94 T.rf T.rb d1 d2 d3 d4).trans (sb94 T.rf T.rb d1 d2 d3 d4)).trans h)

/- bailmentref06.Parse tail 15 -/
noncomputable def b95q (rf : T.RF) (rb : T.RB) (d1 : List UInt8) (d2 : List UInt8) (d3 : Int × Int) (d4 : List (Int × List UInt8 × Int) × Int × Int × Int) (d5 : List UInt8) (d6 : List UInt8) (d7 : List XU) (d8 : List XU) : Option ((List UInt8 × List UInt8 × (Int × Int) × (List (Int × List UInt8 × Int) × Int × Int × Int) × List UInt8 × List UInt8 × List XU × List XU × List XU) ⊕ (List UInt8 × List UInt8 × (Int × Int) × (List (Int × List UInt8 × Int) × Int × Int × Int) × List UInt8 × List UInt8 × List XU × List XU)) :=
  (c71 rf d4).bind fun (y1 : (List (Int × List UInt8 × Int) × Int × Int × Int) × Bool) =>
  bif y1.2 then
    agN 1 (
      bif decide (y1.1.2.1 < (((y1.1.1.length : Nat) : Int))) then
        (c74 rf y1.1 5).bind fun (y2 : List (Int × List UInt8 × Int) × Int × Int × Int) =>
        (c71 rf y2).bind fun (y3 : (List (Int × List UInt8 × Int) × Int × Int × Int) × Bool) =>
        bif !y3.2 then
          some (.inl (([] : List UInt8), ([] : List UInt8), y3.1.2.2, y3.1, d5, d6, d7, d8, []))
        else
          some (.inr (d5, d6, (0, 0), y3.1, d5, d6, d7, d8))
      else
        (c71 rf y1.1).bind fun (y4 : (List (Int × List UInt8 × Int) × Int × Int × Int) × Bool) =>
        bif !y4.2 then
          some (.inl (([] : List UInt8), ([] : List UInt8), y4.1.2.2, y4.1, d5, d6, d7, d8, []))
        else
          some (.inr (d5, d6, (0, 0), y4.1, d5, d6, d7, d8))
    )
  else
    agN 1 (
      (c71 rf y1.1).bind fun (y5 : (List (Int × List UInt8 × Int) × Int × Int × Int) × Bool) =>
      bif !y5.2 then
        some (.inl (([] : List UInt8), ([] : List UInt8), y5.1.2.2, y5.1, d5, d6, d7, d8, []))
      else
        some (.inr (d5, d6, (0, 0), y5.1, d5, d6, d7, d8))
    )
noncomputable def b95 (rf : T.RF) (rb : T.RB) (d1 : List UInt8) (d2 : List UInt8) (d3 : Int × Int) (d4 : List (Int × List UInt8 × Int) × Int × Int × Int) (d5 : List UInt8) (d6 : List UInt8) (d7 : List XU) (d8 : List XU) : Option ((List UInt8 × List UInt8 × (Int × Int) × (List (Int × List UInt8 × Int) × Int × Int × Int) × List UInt8 × List UInt8 × List XU × List XU × List XU) ⊕ (List UInt8 × List UInt8 × (Int × Int) × (List (Int × List UInt8 × Int) × Int × Int × Int) × List UInt8 × List UInt8 × List XU × List XU)) :=
  (c71 rf d4).bind fun (y1 : (List (Int × List UInt8 × Int) × Int × Int × Int) × Bool) =>
  bif y1.2 then
    bif decide (y1.1.2.1 < (((y1.1.1.length : Nat) : Int))) then
      (c74 rf y1.1 5).bind fun (y2 : List (Int × List UInt8 × Int) × Int × Int × Int) =>
      (c71 rf y2).bind fun (y3 : (List (Int × List UInt8 × Int) × Int × Int × Int) × Bool) =>
      bif !y3.2 then
        some (.inl (([] : List UInt8), ([] : List UInt8), y3.1.2.2, y3.1, d5, d6, d7, d8, []))
      else
        some (.inr (d5, d6, (0, 0), y3.1, d5, d6, d7, d8))
    else
      (c71 rf y1.1).bind fun (y4 : (List (Int × List UInt8 × Int) × Int × Int × Int) × Bool) =>
      bif !y4.2 then
        some (.inl (([] : List UInt8), ([] : List UInt8), y4.1.2.2, y4.1, d5, d6, d7, d8, []))
      else
        some (.inr (d5, d6, (0, 0), y4.1, d5, d6, d7, d8))
  else
    (c71 rf y1.1).bind fun (y5 : (List (Int × List UInt8 × Int) × Int × Int × Int) × Bool) =>
    bif !y5.2 then
      some (.inl (([] : List UInt8), ([] : List UInt8), y5.1.2.2, y5.1, d5, d6, d7, d8, []))
    else
      some (.inr (d5, d6, (0, 0), y5.1, d5, d6, d7, d8))
theorem eb95 (rf : T.RF) (rb : T.RB) (d1 : List UInt8) (d2 : List UInt8) (d3 : Int × Int) (d4 : List (Int × List UInt8 × Int) × Int × Int × Int) (d5 : List UInt8) (d6 : List UInt8) (d7 : List XU) (d8 : List XU) : T.stepB rf rb 95 (d1, d2, d3, d4, d5, d6, d7, d8) = b95q rf rb d1 d2 d3 d4 d5 d6 d7 d8 := by kernel_rfl
theorem sb95 (rf : T.RF) (rb : T.RB) (d1 : List UInt8) (d2 : List UInt8) (d3 : Int × Int) (d4 : List (Int × List UInt8 × Int) × Int × Int × Int) (d5 : List UInt8) (d6 : List UInt8) (d7 : List XU) (d8 : List XU) : b95q rf rb d1 d2 d3 d4 d5 d6 d7 d8 = b95 rf rb d1 d2 d3 d4 d5 d6 d7 d8 := by
  unfold b95q b95; simp only [agN_eq, agree_self, agree_swap]
theorem ob95 {d1 : List UInt8} {d2 : List UInt8} {d3 : Int × Int} {d4 : List (Int × List UInt8 × Int) × Int × Int × Int} {d5 : List UInt8} {d6 : List UInt8} {d7 : List XU} {d8 : List XU} {y : ((List UInt8 × List UInt8 × (Int × Int) × (List (Int × List UInt8 × Int) × Int × Int × Int) × List UInt8 × List UInt8 × List XU × List XU × List XU) ⊕ (List UInt8 × List UInt8 × (Int × Int) × (List (Int × List UInt8 × Int) × Int × Int × Int) × List UInt8 × List UInt8 × List XU × List XU))} (h : b95 T.rf T.rb d1 d2 d3 d4 d5 d6 d7 d8 = some y) : k95 T.rb d1 d2 d3 d4 d5 d6 d7 d8 = some y := T.rb_of (κ := 95) (d := (d1, d2, d3, d4, d5, d6, d7, d8)) (((eb95 T.rf T.rb d1 d2 d3 d4 d5 d6 d7 d8).trans (sb95 T.rf T.rb d1 d2 d3 d4 d5 d6 d7 d8)).trans h)

/- bailmentref06.Parse -/
noncomputable def r63 (rf : T.RF) (rb : T.RB) (d1 : List UInt8) : Option ((List XU × List UInt8 × List UInt8) × Int × Int) :=
  (c4 rf d1).bind fun (y1 : List (Int × List UInt8 × Int) × Int × Int) =>
  bif y1.2.1 != 0 then
    some (([], ([] : List UInt8), ([] : List UInt8)), y1.2)
  else
    (k94 rb (y1.1, 0, 0, 0) ([] : List UInt8) ([] : List UInt8) []).bind fun (z2 : (List (Int × List UInt8 × Int) × Int × Int × Int) × List UInt8 × List UInt8 × List XU) =>
    (c76 rf z2.1 ([109, 97, 105, 110] : List UInt8)).bind fun (y3 : List (Int × List UInt8 × Int) × Int × Int × Int) =>
    (c72 rf y3).bind fun (y4 : (List (Int × List UInt8 × Int) × Int × Int × Int) × List UInt8) =>
    (c76 rf y4.1 ([59] : List UInt8)).bind fun (y5 : List (Int × List UInt8 × Int) × Int × Int × Int) =>
    (c69 rf y5 ([102, 97, 108, 108, 98, 97, 99, 107] : List UInt8)).bind fun (y6 : (List (Int × List UInt8 × Int) × Int × Int × Int) × Bool) =>
    bif y6.2 then
      (c72 rf y6.1).bind fun (y7 : (List (Int × List UInt8 × Int) × Int × Int × Int) × List UInt8) =>
      (c76 rf y7.1 ([59] : List UInt8)).bind fun (y8 : List (Int × List UInt8 × Int) × Int × Int × Int) =>
      (k95 rb ([] : List UInt8) ([] : List UInt8) (0, 0) y8 y4.2 y7.2 [] z2.2.2.2).bind fun (z9 : (List UInt8 × List UInt8 × (Int × Int) × (List (Int × List UInt8 × Int) × Int × Int × Int) × List UInt8 × List UInt8 × List XU × List XU × List XU) ⊕ (List UInt8 × List UInt8 × (Int × Int) × (List (Int × List UInt8 × Int) × Int × Int × Int) × List UInt8 × List UInt8 × List XU × List XU)) =>
      match z9 with
      | .inl u10 =>
        some ((u10.2.2.2.2.2.2.2.2, u10.1, u10.2.1), u10.2.2.1)
      | .inr w11 =>
        some ((w11.2.2.2.2.2.2.2, w11.1, w11.2.1), w11.2.2.1)
    else
      (k95 rb ([] : List UInt8) ([] : List UInt8) (0, 0) y6.1 y4.2 z2.2.2.1 [] z2.2.2.2).bind fun (z12 : (List UInt8 × List UInt8 × (Int × Int) × (List (Int × List UInt8 × Int) × Int × Int × Int) × List UInt8 × List UInt8 × List XU × List XU × List XU) ⊕ (List UInt8 × List UInt8 × (Int × Int) × (List (Int × List UInt8 × Int) × Int × Int × Int) × List UInt8 × List UInt8 × List XU × List XU)) =>
      match z12 with
      | .inl u13 =>
        some ((u13.2.2.2.2.2.2.2.2, u13.1, u13.2.1), u13.2.2.1)
      | .inr w14 =>
        some ((w14.2.2.2.2.2.2.2, w14.1, w14.2.1), w14.2.2.1)
theorem er63 (rf : T.RF) (rb : T.RB) (d1 : List UInt8) : T.stepF rf rb 63 d1 = r63 rf rb d1 := by kernel_rfl
theorem or63 {d1 : List UInt8} {y : ((List XU × List UInt8 × List UInt8) × Int × Int)} (h : r63 T.rf T.rb d1 = some y) : c63 T.rf d1 = some y := T.rf_of (f := 63) (d := d1) ((er63 T.rf T.rb d1).trans h)

/- slices.Clone[[]bailment/api.Param,bailment/api.Param] -/
noncomputable def r88 (rf : T.RF) (rb : T.RB) (d1 : XP) : Option XP :=
  bif d1.isEmpty then
    agree (
      some []
    ) (
      bif (Nat.ble (0 + d1.length) most) && true then
        some ([] ++ d1)
      else
        none
    )
  else
  bif (Nat.ble (0 + d1.length) most) && true then
    some ([] ++ d1)
  else
    none
theorem er88 (rf : T.RF) (rb : T.RB) (d1 : XP) : T.stepF rf rb 88 d1 = r88 rf rb d1 := by kernel_rfl
theorem or88 {d1 : XP} {y : XP} (h : r88 T.rf T.rb d1 = some y) : c88 T.rf d1 = some y := T.rf_of (f := 88) (d := d1) ((er88 T.rf T.rb d1).trans h)

/- slices.Clip[[]bailment/api.Param,bailment/api.Param] -/
noncomputable def r89 (rf : T.RF) (rb : T.RB) (d1 : XP) : Option XP :=
  bif ((((d1.length : Nat) : Int)) == (((d1.length : Nat) : Int))) && ((((d1.length : Nat) : Int)) == (((d1.length : Nat) : Int))) then
    some d1
  else
    none
theorem er89 (rf : T.RF) (rb : T.RB) (d1 : XP) : T.stepF rf rb 89 d1 = r89 rf rb d1 := by kernel_rfl
theorem or89 {d1 : XP} {y : XP} (h : r89 T.rf T.rb d1 = some y) : c89 T.rf d1 = some y := T.rf_of (f := 89) (d := d1) ((er89 T.rf T.rb d1).trans h)

/- (*bailment/types.checker).want loop 0 -/
noncomputable def b99 (rf : T.RF) (rb : T.RB) (d1 : XP) (d2 : List XU) (d3 : Int) (d4 : List XL) (d5 : Int) (d6 : Int) : Option ((XP × List XU × Int) ⊕ (XP × List XU)) :=
  bif decide (d6 < d5) then
    bif inb d6 d4.length then
      (nth d4 d6.toNat).bind fun (x1 : XL) =>
      (c44 rf x1 d1 d2).bind fun (y2 : Int × Int) =>
      bif y2.2 != 0 then
        some (.inl (d1, d2, y2.2))
      else
      bif y2.1 != d3 then
        some (.inl (d1, d2, 10))
      else
        k99 rb d1 d2 d3 d4 d5 (IntKind.i64.wrap (d6 + 1))
    else
      none
  else
    some (.inr (d1, d2))
theorem eb99 (rf : T.RF) (rb : T.RB) (d1 : XP) (d2 : List XU) (d3 : Int) (d4 : List XL) (d5 : Int) (d6 : Int) : T.stepB rf rb 99 (d1, d2, d3, d4, d5, d6) = b99 rf rb d1 d2 d3 d4 d5 d6 := by kernel_rfl
theorem ob99 {d1 : XP} {d2 : List XU} {d3 : Int} {d4 : List XL} {d5 : Int} {d6 : Int} {y : ((XP × List XU × Int) ⊕ (XP × List XU))} (h : b99 T.rf T.rb d1 d2 d3 d4 d5 d6 = some y) : k99 T.rb d1 d2 d3 d4 d5 d6 = some y := T.rb_of (κ := 99) (d := (d1, d2, d3, d4, d5, d6)) ((eb99 T.rf T.rb d1 d2 d3 d4 d5 d6).trans h)

/- (*bailment/types.checker).want -/
noncomputable def r91 (rf : T.RF) (rb : T.RB) (d1 : XP) (d2 : List XU) (d3 : Int) (d4 : List XL) : Option (XP × List XU × Int) :=
  (k99 rb d1 d2 d3 d4 (((d4.length : Nat) : Int)) 0).bind fun (z1 : (XP × List XU × Int) ⊕ (XP × List XU)) =>
  match z1 with
  | .inl u2 =>
    some u2
  | .inr w3 =>
    some (w3.1, w3.2, 0)
theorem er91 (rf : T.RF) (rb : T.RB) (d1 : XP) (d2 : List XU) (d3 : Int) (d4 : List XL) : T.stepF rf rb 91 (d1, d2, d3, d4) = r91 rf rb d1 d2 d3 d4 := by kernel_rfl
theorem or91 {d1 : XP} {d2 : List XU} {d3 : Int} {d4 : List XL} {y : (XP × List XU × Int)} (h : r91 T.rf T.rb d1 d2 d3 d4 = some y) : c91 T.rf d1 d2 d3 d4 = some y := T.rf_of (f := 91) (d := (d1, d2, d3, d4)) ((er91 T.rf T.rb d1 d2 d3 d4).trans h)

/- (*bailment/types.checker).item tail 5 -/
noncomputable def b100 (rf : T.RF) (rb : T.RB) (d1 : Int) : Option Int :=
  some d1
theorem eb100 (rf : T.RF) (rb : T.RB) (d1 : Int) : T.stepB rf rb 100 d1 = b100 rf rb d1 := by kernel_rfl
theorem ob100 {d1 : Int} {y : Int} (h : b100 T.rf T.rb d1 = some y) : k100 T.rb d1 = some y := T.rb_of (κ := 100) (d := d1) ((eb100 T.rf T.rb d1).trans h)

/- (*bailment/types.checker).item -/
noncomputable def r90q (rf : T.RF) (rb : T.RB) (d1 : XP) (d2 : List XU) (d3 : XI) : Option ((List XU × XP × Int) ⊕ (XP × List XU × Int)) :=
  bif d3.1 == 3 then
    (c91 rf d1 d2 d3.2.2.1 [d3.2.2.2.1]).bind fun (y1 : XP × List XU × Int) =>
    agN 1 (
      bif (Nat.ble (y1.1.length + 1) most) && true then
        (k100 rb y1.2.2).bind fun (z2 : Int) =>
        some (.inl (y1.2.1, y1.1 ++ [(d3.2.1, d3.2.2.1)], z2))
      else
        none
    )
  else
  bif d3.1 == 1 then
    bif d3.1 == 1 then
      (c91 rf d1 d2 1 [d3.2.2.2.1]).bind fun (y3 : XP × List XU × Int) =>
      some (.inr y3)
    else
    bif d3.1 == 4 then
      (c91 rf d1 d2 1 [d3.2.2.2.1, d3.2.2.2.2.1]).bind fun (y4 : XP × List XU × Int) =>
      some (.inr y4)
    else
      some (.inr (d1, d2, 0))
  else
  bif d3.1 == 2 then
    (c91 rf d1 d2 1 [d3.2.2.2.1]).bind fun (y5 : XP × List XU × Int) =>
    some (.inr y5)
  else
  bif d3.1 == 4 then
    (c91 rf d1 d2 1 [d3.2.2.2.1, d3.2.2.2.2.1]).bind fun (y6 : XP × List XU × Int) =>
    some (.inr y6)
  else
    some (.inr (d1, d2, 0))
noncomputable def r90 (rf : T.RF) (rb : T.RB) (d1 : XP) (d2 : List XU) (d3 : XI) : Option ((List XU × XP × Int) ⊕ (XP × List XU × Int)) :=
  bif d3.1 == 3 then
    (c91 rf d1 d2 d3.2.2.1 [d3.2.2.2.1]).bind fun (y1 : XP × List XU × Int) =>
    bif (Nat.ble (y1.1.length + 1) most) && true then
      (k100 rb y1.2.2).bind fun (z2 : Int) =>
      some (.inl (y1.2.1, y1.1 ++ [(d3.2.1, d3.2.2.1)], z2))
    else
      none
  else
  bif d3.1 == 1 then
    bif d3.1 == 1 then
      (c91 rf d1 d2 1 [d3.2.2.2.1]).bind fun (y3 : XP × List XU × Int) =>
      some (.inr y3)
    else
    bif d3.1 == 4 then
      (c91 rf d1 d2 1 [d3.2.2.2.1, d3.2.2.2.2.1]).bind fun (y4 : XP × List XU × Int) =>
      some (.inr y4)
    else
      some (.inr (d1, d2, 0))
  else
  bif d3.1 == 2 then
    (c91 rf d1 d2 1 [d3.2.2.2.1]).bind fun (y5 : XP × List XU × Int) =>
    some (.inr y5)
  else
  bif d3.1 == 4 then
    (c91 rf d1 d2 1 [d3.2.2.2.1, d3.2.2.2.2.1]).bind fun (y6 : XP × List XU × Int) =>
    some (.inr y6)
  else
    some (.inr (d1, d2, 0))
theorem er90 (rf : T.RF) (rb : T.RB) (d1 : XP) (d2 : List XU) (d3 : XI) : T.stepF rf rb 90 (d1, d2, d3) = r90q rf rb d1 d2 d3 := by kernel_rfl
theorem sr90 (rf : T.RF) (rb : T.RB) (d1 : XP) (d2 : List XU) (d3 : XI) : r90q rf rb d1 d2 d3 = r90 rf rb d1 d2 d3 := by
  unfold r90q r90; simp only [agN_eq, agree_self, agree_swap]
theorem or90 {d1 : XP} {d2 : List XU} {d3 : XI} {y : ((List XU × XP × Int) ⊕ (XP × List XU × Int))} (h : r90 T.rf T.rb d1 d2 d3 = some y) : c90 T.rf d1 d2 d3 = some y := T.rf_of (f := 90) (d := (d1, d2, d3)) (((er90 T.rf T.rb d1 d2 d3).trans (sr90 T.rf T.rb d1 d2 d3)).trans h)

/- (*bailment/types.checker).want loop 0 -/
noncomputable def b105q (rf : T.RF) (rb : T.RB) (d1 : List XU) (d2 : XP) (d3 : Int) (d4 : List XL) (d5 : Int) (d6 : Int) : Option ((List XU × XP × Int) ⊕ (List XU × XP)) :=
  bif decide (d6 < d5) then
    bif inb d6 d4.length then
      (nth d4 d6.toNat).bind fun (x1 : XL) =>
      agN 1 (
        (c44 rf x1 d2 d1).bind fun (y2 : Int × Int) =>
        (k106 rb d3 y2.1 y2.2).bind fun (z3 : Int ⊕ Unit) =>
        match z3 with
        | .inl u4 =>
          some (.inl (d1, d2, u4))
        | .inr w5 =>
          k105 rb d1 d2 d3 d4 d5 (IntKind.i64.wrap (d6 + 1))
      )
    else
      none
  else
    some (.inr (d1, d2))
noncomputable def b105 (rf : T.RF) (rb : T.RB) (d1 : List XU) (d2 : XP) (d3 : Int) (d4 : List XL) (d5 : Int) (d6 : Int) : Option ((List XU × XP × Int) ⊕ (List XU × XP)) :=
  bif decide (d6 < d5) then
    bif inb d6 d4.length then
      (nth d4 d6.toNat).bind fun (x1 : XL) =>
      (c44 rf x1 d2 d1).bind fun (y2 : Int × Int) =>
      (k106 rb d3 y2.1 y2.2).bind fun (z3 : Int ⊕ Unit) =>
      match z3 with
      | .inl u4 =>
        some (.inl (d1, d2, u4))
      | .inr w5 =>
        k105 rb d1 d2 d3 d4 d5 (IntKind.i64.wrap (d6 + 1))
    else
      none
  else
    some (.inr (d1, d2))
theorem eb105 (rf : T.RF) (rb : T.RB) (d1 : List XU) (d2 : XP) (d3 : Int) (d4 : List XL) (d5 : Int) (d6 : Int) : T.stepB rf rb 105 (d1, d2, d3, d4, d5, d6) = b105q rf rb d1 d2 d3 d4 d5 d6 := by kernel_rfl
theorem sb105 (rf : T.RF) (rb : T.RB) (d1 : List XU) (d2 : XP) (d3 : Int) (d4 : List XL) (d5 : Int) (d6 : Int) : b105q rf rb d1 d2 d3 d4 d5 d6 = b105 rf rb d1 d2 d3 d4 d5 d6 := by
  unfold b105q b105; simp only [agN_eq, agree_self, agree_swap]
theorem ob105 {d1 : List XU} {d2 : XP} {d3 : Int} {d4 : List XL} {d5 : Int} {d6 : Int} {y : ((List XU × XP × Int) ⊕ (List XU × XP))} (h : b105 T.rf T.rb d1 d2 d3 d4 d5 d6 = some y) : k105 T.rb d1 d2 d3 d4 d5 d6 = some y := T.rb_of (κ := 105) (d := (d1, d2, d3, d4, d5, d6)) (((eb105 T.rf T.rb d1 d2 d3 d4 d5 d6).trans (sb105 T.rf T.rb d1 d2 d3 d4 d5 d6)).trans h)

/- (*bailment/types.checker).want tail 5 -/
noncomputable def b106 (rf : T.RF) (rb : T.RB) (d1 : Int) (d2 : Int) (d3 : Int) : Option (Int ⊕ Unit) :=
  bif d3 != 0 then
    some (.inl d3)
  else
  bif d2 != d1 then
    some (.inl 10)
  else
    some (.inr ())
theorem eb106 (rf : T.RF) (rb : T.RB) (d1 : Int) (d2 : Int) (d3 : Int) : T.stepB rf rb 106 (d1, d2, d3) = b106 rf rb d1 d2 d3 := by kernel_rfl
theorem ob106 {d1 : Int} {d2 : Int} {d3 : Int} {y : (Int ⊕ Unit)} (h : b106 T.rf T.rb d1 d2 d3 = some y) : k106 T.rb d1 d2 d3 = some y := T.rb_of (κ := 106) (d := (d1, d2, d3)) ((eb106 T.rf T.rb d1 d2 d3).trans h)

/- (*bailment/types.checker).want -/
noncomputable def r93 (rf : T.RF) (rb : T.RB) (d1 : List XU) (d2 : XP) (d3 : Int) (d4 : List XL) : Option (List XU × XP × Int) :=
  (k105 rb d1 d2 d3 d4 (((d4.length : Nat) : Int)) 0).bind fun (z1 : (List XU × XP × Int) ⊕ (List XU × XP)) =>
  match z1 with
  | .inl u2 =>
    some u2
  | .inr w3 =>
    some (w3.1, w3.2, 0)
theorem er93 (rf : T.RF) (rb : T.RB) (d1 : List XU) (d2 : XP) (d3 : Int) (d4 : List XL) : T.stepF rf rb 93 (d1, d2, d3, d4) = r93 rf rb d1 d2 d3 d4 := by kernel_rfl
theorem or93 {d1 : List XU} {d2 : XP} {d3 : Int} {d4 : List XL} {y : (List XU × XP × Int)} (h : r93 T.rf T.rb d1 d2 d3 d4 = some y) : c93 T.rf d1 d2 d3 d4 = some y := T.rf_of (f := 93) (d := (d1, d2, d3, d4)) ((er93 T.rf T.rb d1 d2 d3 d4).trans h)

/- (*bailment/types.checker).item tail 5 -/
noncomputable def b107 (rf : T.RF) (rb : T.RB) (d1 : Int) : Option Int :=
  some d1
theorem eb107 (rf : T.RF) (rb : T.RB) (d1 : Int) : T.stepB rf rb 107 d1 = b107 rf rb d1 := by kernel_rfl
theorem ob107 {d1 : Int} {y : Int} (h : b107 T.rf T.rb d1 = some y) : k107 T.rb d1 = some y := T.rb_of (κ := 107) (d := d1) ((eb107 T.rf T.rb d1).trans h)

/- (*bailment/types.checker).item -/
noncomputable def r92q (rf : T.RF) (rb : T.RB) (d1 : List XU) (d2 : XP) (d3 : XI) : Option ((List XU × XP × Int) ⊕ (List XU × XP × Int)) :=
  bif d3.1 == 3 then
    (c93 rf d1 d2 d3.2.2.1 [d3.2.2.2.1]).bind fun (y1 : List XU × XP × Int) =>
    agN 1 (
      bif (Nat.ble (y1.2.1.length + 1) most) && true then
        (k107 rb y1.2.2).bind fun (z2 : Int) =>
        some (.inl (y1.1, y1.2.1 ++ [(d3.2.1, d3.2.2.1)], z2))
      else
        none
    )
  else
  bif d3.1 == 1 then
    bif d3.1 == 1 then
      (c93 rf d1 d2 1 [d3.2.2.2.1]).bind fun (y3 : List XU × XP × Int) =>
      some (.inr y3)
    else
    bif d3.1 == 4 then
      (c93 rf d1 d2 1 [d3.2.2.2.1, d3.2.2.2.2.1]).bind fun (y4 : List XU × XP × Int) =>
      some (.inr y4)
    else
      some (.inr (d1, d2, 0))
  else
  bif d3.1 == 2 then
    (c93 rf d1 d2 1 [d3.2.2.2.1]).bind fun (y5 : List XU × XP × Int) =>
    some (.inr y5)
  else
  bif d3.1 == 4 then
    (c93 rf d1 d2 1 [d3.2.2.2.1, d3.2.2.2.2.1]).bind fun (y6 : List XU × XP × Int) =>
    some (.inr y6)
  else
    some (.inr (d1, d2, 0))
noncomputable def r92 (rf : T.RF) (rb : T.RB) (d1 : List XU) (d2 : XP) (d3 : XI) : Option ((List XU × XP × Int) ⊕ (List XU × XP × Int)) :=
  bif d3.1 == 3 then
    (c93 rf d1 d2 d3.2.2.1 [d3.2.2.2.1]).bind fun (y1 : List XU × XP × Int) =>
    bif (Nat.ble (y1.2.1.length + 1) most) && true then
      (k107 rb y1.2.2).bind fun (z2 : Int) =>
      some (.inl (y1.1, y1.2.1 ++ [(d3.2.1, d3.2.2.1)], z2))
    else
      none
  else
  bif d3.1 == 1 then
    bif d3.1 == 1 then
      (c93 rf d1 d2 1 [d3.2.2.2.1]).bind fun (y3 : List XU × XP × Int) =>
      some (.inr y3)
    else
    bif d3.1 == 4 then
      (c93 rf d1 d2 1 [d3.2.2.2.1, d3.2.2.2.2.1]).bind fun (y4 : List XU × XP × Int) =>
      some (.inr y4)
    else
      some (.inr (d1, d2, 0))
  else
  bif d3.1 == 2 then
    (c93 rf d1 d2 1 [d3.2.2.2.1]).bind fun (y5 : List XU × XP × Int) =>
    some (.inr y5)
  else
  bif d3.1 == 4 then
    (c93 rf d1 d2 1 [d3.2.2.2.1, d3.2.2.2.2.1]).bind fun (y6 : List XU × XP × Int) =>
    some (.inr y6)
  else
    some (.inr (d1, d2, 0))
theorem er92 (rf : T.RF) (rb : T.RB) (d1 : List XU) (d2 : XP) (d3 : XI) : T.stepF rf rb 92 (d1, d2, d3) = r92q rf rb d1 d2 d3 := by kernel_rfl
theorem sr92 (rf : T.RF) (rb : T.RB) (d1 : List XU) (d2 : XP) (d3 : XI) : r92q rf rb d1 d2 d3 = r92 rf rb d1 d2 d3 := by
  unfold r92q r92; simp only [agN_eq, agree_self, agree_swap]
theorem or92 {d1 : List XU} {d2 : XP} {d3 : XI} {y : ((List XU × XP × Int) ⊕ (List XU × XP × Int))} (h : r92 T.rf T.rb d1 d2 d3 = some y) : c92 T.rf d1 d2 d3 = some y := T.rf_of (f := 92) (d := (d1, d2, d3)) (((er92 T.rf T.rb d1 d2 d3).trans (sr92 T.rf T.rb d1 d2 d3)).trans h)

/- types.unit$1 -/
noncomputable def r95 (rf : T.RF) (rb : T.RB) (d1 : List UInt8 × XL) (d2 : List UInt8 × Int) : Option ((List UInt8 × XL) × Bool) :=
  some (d1, d2.1 == d1.1)
theorem er95 (rf : T.RF) (rb : T.RB) (d1 : List UInt8 × XL) (d2 : List UInt8 × Int) : T.stepF rf rb 95 (d1, d2) = r95 rf rb d1 d2 := by kernel_rfl
theorem or95 {d1 : List UInt8 × XL} {d2 : List UInt8 × Int} {y : ((List UInt8 × XL) × Bool)} (h : r95 T.rf T.rb d1 d2 = some y) : c95 T.rf d1 d2 = some y := T.rf_of (f := 95) (d := (d1, d2)) ((er95 T.rf T.rb d1 d2).trans h)

/- slices.IndexFunc[[]bailment/api.Param,bailment/api.Param] loop 0 -/
noncomputable def b112 (rf : T.RF) (rb : T.RB) (d1 : List UInt8 × XL) (d2 : XP) (d3 : Int) (d4 : Int) : Option (((List UInt8 × XL) × Int) ⊕ (List UInt8 × XL)) :=
  bif decide (d4 < d3) then
    bif inb d4 d2.length then
      (nth d2 d4.toNat).bind fun (x1 : List UInt8 × Int) =>
      (c95 rf d1 x1).bind fun (y2 : (List UInt8 × XL) × Bool) =>
      bif y2.2 then
        some (.inl (y2.1, d4))
      else
        k112 rb y2.1 d2 d3 (IntKind.i64.wrap (d4 + 1))
    else
      none
  else
    some (.inr d1)
theorem eb112 (rf : T.RF) (rb : T.RB) (d1 : List UInt8 × XL) (d2 : XP) (d3 : Int) (d4 : Int) : T.stepB rf rb 112 (d1, d2, d3, d4) = b112 rf rb d1 d2 d3 d4 := by kernel_rfl
theorem ob112 {d1 : List UInt8 × XL} {d2 : XP} {d3 : Int} {d4 : Int} {y : (((List UInt8 × XL) × Int) ⊕ (List UInt8 × XL))} (h : b112 T.rf T.rb d1 d2 d3 d4 = some y) : k112 T.rb d1 d2 d3 d4 = some y := T.rb_of (κ := 112) (d := (d1, d2, d3, d4)) ((eb112 T.rf T.rb d1 d2 d3 d4).trans h)

/- slices.IndexFunc[[]bailment/api.Param,bailment/api.Param] -/
noncomputable def r94 (rf : T.RF) (rb : T.RB) (d1 : List UInt8 × XL) (d2 : XP) : Option ((List UInt8 × XL) × Int) :=
  (k112 rb d1 d2 (((d2.length : Nat) : Int)) 0).bind fun (z1 : ((List UInt8 × XL) × Int) ⊕ (List UInt8 × XL)) =>
  match z1 with
  | .inl u2 =>
    some u2
  | .inr w3 =>
    some (w3, (-1))
theorem er94 (rf : T.RF) (rb : T.RB) (d1 : List UInt8 × XL) (d2 : XP) : T.stepF rf rb 94 (d1, d2) = r94 rf rb d1 d2 := by kernel_rfl
theorem or94 {d1 : List UInt8 × XL} {d2 : XP} {y : ((List UInt8 × XL) × Int)} (h : r94 T.rf T.rb d1 d2 = some y) : c94 T.rf d1 d2 = some y := T.rf_of (f := 94) (d := (d1, d2)) ((er94 T.rf T.rb d1 d2).trans h)

/- (*bailment/types.checker).want loop 0 -/
noncomputable def b117 (rf : T.RF) (rb : T.RB) (d1 : XP × List XU) (d2 : Int) (d3 : List XL) (d4 : Int) (d5 : Int) : Option (((XP × List XU) × Int) ⊕ (XP × List XU)) :=
  bif decide (d5 < d4) then
    bif inb d5 d3.length then
      (nth d3 d5.toNat).bind fun (x1 : XL) =>
      (c44 rf x1 d1.1 d1.2).bind fun (y2 : Int × Int) =>
      bif y2.2 != 0 then
        some (.inl (d1, y2.2))
      else
      bif y2.1 != d2 then
        some (.inl (d1, 10))
      else
        k117 rb d1 d2 d3 d4 (IntKind.i64.wrap (d5 + 1))
    else
      none
  else
    some (.inr d1)
theorem eb117 (rf : T.RF) (rb : T.RB) (d1 : XP × List XU) (d2 : Int) (d3 : List XL) (d4 : Int) (d5 : Int) : T.stepB rf rb 117 (d1, d2, d3, d4, d5) = b117 rf rb d1 d2 d3 d4 d5 := by kernel_rfl
theorem ob117 {d1 : XP × List XU} {d2 : Int} {d3 : List XL} {d4 : Int} {d5 : Int} {y : (((XP × List XU) × Int) ⊕ (XP × List XU))} (h : b117 T.rf T.rb d1 d2 d3 d4 d5 = some y) : k117 T.rb d1 d2 d3 d4 d5 = some y := T.rb_of (κ := 117) (d := (d1, d2, d3, d4, d5)) ((eb117 T.rf T.rb d1 d2 d3 d4 d5).trans h)

/- (*bailment/types.checker).want -/
noncomputable def r96 (rf : T.RF) (rb : T.RB) (d1 : XP × List XU) (d2 : Int) (d3 : List XL) : Option ((XP × List XU) × Int) :=
  (k117 rb d1 d2 d3 (((d3.length : Nat) : Int)) 0).bind fun (z1 : ((XP × List XU) × Int) ⊕ (XP × List XU)) =>
  match z1 with
  | .inl u2 =>
    some u2
  | .inr w3 =>
    some (w3, 0)
theorem er96 (rf : T.RF) (rb : T.RB) (d1 : XP × List XU) (d2 : Int) (d3 : List XL) : T.stepF rf rb 96 (d1, d2, d3) = r96 rf rb d1 d2 d3 := by kernel_rfl
theorem or96 {d1 : XP × List XU} {d2 : Int} {d3 : List XL} {y : ((XP × List XU) × Int)} (h : r96 T.rf T.rb d1 d2 d3 = some y) : c96 T.rf d1 d2 d3 = some y := T.rf_of (f := 96) (d := (d1, d2, d3)) ((er96 T.rf T.rb d1 d2 d3).trans h)

/- types.unit tail 4 -/
noncomputable def b113 (rf : T.RF) (rb : T.RB) (d1 : XU) (d2 : XP) (d3 : List XU) : Option (XU × Int) :=
  (c89 rf d2).bind fun (y1 : XP) =>
  (k114 rb y1 [] d1.2.2.2.2.2.2.2 (((d1.2.2.2.2.2.2.2.length : Nat) : Int)) 0).bind fun (z2 : (List XU × XP × Int) ⊕ (List XU × XP) ⊕ (XP × List XU × Int) ⊕ (XP × List XU)) =>
  match z2 with
  | .inl u3 =>
    some (d1, u3.2.2)
  | .inr w4 =>
    match w4 with
    | .inl u5 =>
      (k116 rb (d2, d3) d2 d1.2.2.2.2.2.2.1 (((d1.2.2.2.2.2.2.1.length : Nat) : Int)) 0).bind fun (z7 : ((XP × List XU) × Int) ⊕ (XP × List XU)) =>
      match z7 with
      | .inl u8 =>
        some (d1, u8.2)
      | .inr w9 =>
        some (d1, 0)
    | .inr w6 =>
      match w6 with
      | .inl u10 =>
        some (d1, u10.2.2)
      | .inr w11 =>
        (k116 rb (d2, d3) d2 d1.2.2.2.2.2.2.1 (((d1.2.2.2.2.2.2.1.length : Nat) : Int)) 0).bind fun (z12 : ((XP × List XU) × Int) ⊕ (XP × List XU)) =>
        match z12 with
        | .inl u13 =>
          some (d1, u13.2)
        | .inr w14 =>
          some (d1, 0)
theorem eb113 (rf : T.RF) (rb : T.RB) (d1 : XU) (d2 : XP) (d3 : List XU) : T.stepB rf rb 113 (d1, d2, d3) = b113 rf rb d1 d2 d3 := by kernel_rfl
theorem ob113 {d1 : XU} {d2 : XP} {d3 : List XU} {y : (XU × Int)} (h : b113 T.rf T.rb d1 d2 d3 = some y) : k113 T.rb d1 d2 d3 = some y := T.rb_of (κ := 113) (d := (d1, d2, d3)) ((eb113 T.rf T.rb d1 d2 d3).trans h)

/- types.unit loop 0 -/
noncomputable def b114 (rf : T.RF) (rb : T.RB) (d1 : XP) (d2 : List XU) (d3 : List XI) (d4 : Int) (d5 : Int) : Option ((List XU × XP × Int) ⊕ (List XU × XP) ⊕ (XP × List XU × Int) ⊕ (XP × List XU)) :=
  bif decide (d5 < d4) then
    bif inb d5 d3.length then
      (nth d3 d5.toNat).bind fun (x1 : XI) =>
      (c90 rf d1 d2 x1).bind fun (y2 : (List XU × XP × Int) ⊕ (XP × List XU × Int)) =>
      match y2 with
      | .inl u3 =>
        bif u3.2.2 != 0 then
          some (.inl u3)
        else
          (k115 rb u3.1 u3.2.1 d3 d4 (IntKind.i64.wrap (d5 + 1))).bind fun (z5 : (List XU × XP × Int) ⊕ (List XU × XP)) =>
          match z5 with
          | .inl u6 =>
            some (.inl u6)
          | .inr w7 =>
            some (.inr (.inl w7))
      | .inr w4 =>
        bif w4.2.2 != 0 then
          some (.inr (.inr (.inl w4)))
        else
          k114 rb w4.1 w4.2.1 d3 d4 (IntKind.i64.wrap (d5 + 1))
    else
      none
  else
    some (.inr (.inr (.inr (d1, d2))))
theorem eb114 (rf : T.RF) (rb : T.RB) (d1 : XP) (d2 : List XU) (d3 : List XI) (d4 : Int) (d5 : Int) : T.stepB rf rb 114 (d1, d2, d3, d4, d5) = b114 rf rb d1 d2 d3 d4 d5 := by kernel_rfl
theorem ob114 {d1 : XP} {d2 : List XU} {d3 : List XI} {d4 : Int} {d5 : Int} {y : ((List XU × XP × Int) ⊕ (List XU × XP) ⊕ (XP × List XU × Int) ⊕ (XP × List XU))} (h : b114 T.rf T.rb d1 d2 d3 d4 d5 = some y) : k114 T.rb d1 d2 d3 d4 d5 = some y := T.rb_of (κ := 114) (d := (d1, d2, d3, d4, d5)) ((eb114 T.rf T.rb d1 d2 d3 d4 d5).trans h)

/- types.unit loop 0 alt -/
noncomputable def b115 (rf : T.RF) (rb : T.RB) (d1 : List XU) (d2 : XP) (d3 : List XI) (d4 : Int) (d5 : Int) : Option ((List XU × XP × Int) ⊕ (List XU × XP)) :=
  bif decide (d5 < d4) then
    bif inb d5 d3.length then
      (nth d3 d5.toNat).bind fun (x1 : XI) =>
      (c92 rf d1 d2 x1).bind fun (y2 : (List XU × XP × Int) ⊕ (List XU × XP × Int)) =>
      match y2 with
      | .inl u3 =>
        bif u3.2.2 != 0 then
          some (.inl u3)
        else
          k115 rb u3.1 u3.2.1 d3 d4 (IntKind.i64.wrap (d5 + 1))
      | .inr w4 =>
        bif w4.2.2 != 0 then
          some (.inl w4)
        else
          k115 rb w4.1 w4.2.1 d3 d4 (IntKind.i64.wrap (d5 + 1))
    else
      none
  else
    some (.inr (d1, d2))
theorem eb115 (rf : T.RF) (rb : T.RB) (d1 : List XU) (d2 : XP) (d3 : List XI) (d4 : Int) (d5 : Int) : T.stepB rf rb 115 (d1, d2, d3, d4, d5) = b115 rf rb d1 d2 d3 d4 d5 := by kernel_rfl
theorem ob115 {d1 : List XU} {d2 : XP} {d3 : List XI} {d4 : Int} {d5 : Int} {y : ((List XU × XP × Int) ⊕ (List XU × XP))} (h : b115 T.rf T.rb d1 d2 d3 d4 d5 = some y) : k115 T.rb d1 d2 d3 d4 d5 = some y := T.rb_of (κ := 115) (d := (d1, d2, d3, d4, d5)) ((eb115 T.rf T.rb d1 d2 d3 d4 d5).trans h)

/- types.unit loop 2 -/
noncomputable def b116 (rf : T.RF) (rb : T.RB) (d1 : XP × List XU) (d2 : XP) (d3 : List (List UInt8 × XL)) (d4 : Int) (d5 : Int) : Option (((XP × List XU) × Int) ⊕ (XP × List XU)) :=
  bif decide (d5 < d4) then
    bif inb d5 d3.length then
      (nth d3 d5.toNat).bind fun (x1 : List UInt8 × XL) =>
      (c94 rf x1 d2).bind fun (y2 : (List UInt8 × XL) × Int) =>
      bif decide (y2.2 < 0) then
        some (.inl (d1, 8))
      else
      bif inb y2.2 d2.length then
        (nth d2 y2.2.toNat).bind fun (x3 : List UInt8 × Int) =>
        (c96 rf d1 x3.2 [y2.1.2]).bind fun (y4 : (XP × List XU) × Int) =>
        bif y4.2 != 0 then
          some (.inl y4)
        else
          k116 rb y4.1 d2 d3 d4 (IntKind.i64.wrap (d5 + 1))
      else
        none
    else
      none
  else
    some (.inr d1)
theorem eb116 (rf : T.RF) (rb : T.RB) (d1 : XP × List XU) (d2 : XP) (d3 : List (List UInt8 × XL)) (d4 : Int) (d5 : Int) : T.stepB rf rb 116 (d1, d2, d3, d4, d5) = b116 rf rb d1 d2 d3 d4 d5 := by kernel_rfl
theorem ob116 {d1 : XP × List XU} {d2 : XP} {d3 : List (List UInt8 × XL)} {d4 : Int} {d5 : Int} {y : (((XP × List XU) × Int) ⊕ (XP × List XU))} (h : b116 T.rf T.rb d1 d2 d3 d4 d5 = some y) : k116 T.rb d1 d2 d3 d4 d5 = some y := T.rb_of (κ := 116) (d := (d1, d2, d3, d4, d5)) ((eb116 T.rf T.rb d1 d2 d3 d4 d5).trans h)

/- types.unit -/
noncomputable def r87 (rf : T.RF) (rb : T.RB) (d1 : XU) (d2 : List XU) : Option Int :=
  (c88 rf d1.2.2.1).bind fun (y1 : XP) =>
  bif !d1.1 then
    bif (Nat.ble (y1.length + 1) most) && true then
      bif (Nat.ble ((y1 ++ [(d1.2.2.2.1, d1.2.2.2.2.1)]).length + d1.2.2.2.2.2.1.length) most) && true then
        (k113 rb d1 ((y1 ++ [(d1.2.2.2.1, d1.2.2.2.2.1)]) ++ d1.2.2.2.2.2.1) d2).bind fun (z2 : XU × Int) =>
        some z2.2
      else
        none
    else
      none
  else
    (k113 rb d1 y1 d2).bind fun (z3 : XU × Int) =>
    some z3.2
theorem er87 (rf : T.RF) (rb : T.RB) (d1 : XU) (d2 : List XU) : T.stepF rf rb 87 (d1, d2) = r87 rf rb d1 d2 := by kernel_rfl
theorem or87 {d1 : XU} {d2 : List XU} {y : Int} (h : r87 T.rf T.rb d1 d2 = some y) : c87 T.rf d1 d2 = some y := T.rf_of (f := 87) (d := (d1, d2)) ((er87 T.rf T.rb d1 d2).trans h)

/- types.Check loop 0 -/
noncomputable def b96 (rf : T.RF) (rb : T.RB) (d1 : List XU × List UInt8 × List UInt8) (d2 : Int × Int) (d3 : List XU) (d4 : Int) (d5 : Int) : Option (((List XU × List UInt8 × List UInt8) × Int × Int) ⊕ ((List XU × List UInt8 × List UInt8) × Int × Int)) :=
  bif decide (d5 < d4) then
    bif inb d5 d3.length then
      (nth d3 d5.toNat).bind fun (x1 : XU) =>
      bif inb' d5 d1.1.length then
        (c87 rf x1 (sub d1.1 (some (0, (d5.toNat - 0))))).bind fun (y2 : Int) =>
        bif y2 != 0 then
          some (.inl (d1, y2, d5))
        else
          k96 rb d1 d2 d3 d4 (IntKind.i64.wrap (d5 + 1))
      else
        none
    else
      none
  else
    some (.inr (d1, d2))
theorem eb96 (rf : T.RF) (rb : T.RB) (d1 : List XU × List UInt8 × List UInt8) (d2 : Int × Int) (d3 : List XU) (d4 : Int) (d5 : Int) : T.stepB rf rb 96 (d1, d2, d3, d4, d5) = b96 rf rb d1 d2 d3 d4 d5 := by kernel_rfl
theorem ob96 {d1 : List XU × List UInt8 × List UInt8} {d2 : Int × Int} {d3 : List XU} {d4 : Int} {d5 : Int} {y : (((List XU × List UInt8 × List UInt8) × Int × Int) ⊕ ((List XU × List UInt8 × List UInt8) × Int × Int))} (h : b96 T.rf T.rb d1 d2 d3 d4 d5 = some y) : k96 T.rb d1 d2 d3 d4 d5 = some y := T.rb_of (κ := 96) (d := (d1, d2, d3, d4, d5)) ((eb96 T.rf T.rb d1 d2 d3 d4 d5).trans h)

/- types.Check -/
noncomputable def r86 (rf : T.RF) (rb : T.RB) (d1 : List XU × List UInt8 × List UInt8) : Option (Int × Int) :=
  (k96 rb d1 (0, 0) d1.1 (((d1.1.length : Nat) : Int)) 0).bind fun (z1 : ((List XU × List UInt8 × List UInt8) × Int × Int) ⊕ ((List XU × List UInt8 × List UInt8) × Int × Int)) =>
  match z1 with
  | .inl u2 =>
    some u2.2
  | .inr w3 =>
    some (0, 0)
theorem er86 (rf : T.RF) (rb : T.RB) (d1 : List XU × List UInt8 × List UInt8) : T.stepF rf rb 86 d1 = r86 rf rb d1 := by kernel_rfl
theorem or86 {d1 : List XU × List UInt8 × List UInt8} {y : (Int × Int)} (h : r86 T.rf T.rb d1 = some y) : c86 T.rf d1 = some y := T.rf_of (f := 86) (d := d1) ((er86 T.rf T.rb d1).trans h)

/- bailmentlaw09.live -/
noncomputable def r1 (rf : T.RF) (rb : T.RB) : Option Bool :=
  (c2 rf ([102, 40, 97, 44, 32, 111, 110, 99, 101, 32, 98, 41, 32, 43, 32, 112, 114, 101, 32, 97] : List UInt8)).bind fun (y1 : XL) =>
  (c44 rf y1 [(([97] : List UInt8), 2), (([98] : List UInt8), 1)] [(false, ([102] : List UInt8), [(([97] : List UInt8), 2), (([98] : List UInt8), 1)], ([99] : List UInt8), 2, [], [], [])]).bind fun (y2 : Int × Int) =>
  (c2 rf ([97, 32, 60, 32, 116, 114, 117, 101] : List UInt8)).bind fun (y3 : XL) =>
  (c44 rf y3 [(([97] : List UInt8), 2), (([98] : List UInt8), 1)] [(false, ([102] : List UInt8), [(([97] : List UInt8), 2), (([98] : List UInt8), 1)], ([99] : List UInt8), 2, [], [], [])]).bind fun (y4 : Int × Int) =>
  (c2 rf ([102, 40, 98, 44, 32, 97, 41] : List UInt8)).bind fun (y5 : XL) =>
  (c44 rf y5 [(([97] : List UInt8), 2), (([98] : List UInt8), 1)] [(false, ([102] : List UInt8), [(([97] : List UInt8), 2), (([98] : List UInt8), 1)], ([99] : List UInt8), 2, [], [], [])]).bind fun (y6 : Int × Int) =>
  (c2 rf ([102, 40, 97, 41] : List UInt8)).bind fun (y7 : XL) =>
  (c44 rf y7 [(([97] : List UInt8), 2), (([98] : List UInt8), 1)] [(false, ([102] : List UInt8), [(([97] : List UInt8), 2), (([98] : List UInt8), 1)], ([99] : List UInt8), 2, [], [], [])]).bind fun (y8 : Int × Int) =>
  (c2 rf ([120] : List UInt8)).bind fun (y9 : XL) =>
  (c44 rf y9 [(([97] : List UInt8), 2), (([98] : List UInt8), 1)] [(false, ([102] : List UInt8), [(([97] : List UInt8), 2), (([98] : List UInt8), 1)], ([99] : List UInt8), 2, [], [], [])]).bind fun (y10 : Int × Int) =>
  (c44 rf [] [(([97] : List UInt8), 2), (([98] : List UInt8), 1)] [(false, ([102] : List UInt8), [(([97] : List UInt8), 2), (([98] : List UInt8), 1)], ([99] : List UInt8), 2, [], [], [])]).bind fun (y11 : Int × Int) =>
  (c63 rf ([110, 111, 100, 101, 32, 102, 40, 97, 58, 105, 110, 116, 41, 32, 114, 101, 116, 117, 114, 110, 115, 40, 99, 58, 98, 111, 111, 108, 41, 32, 108, 101, 116, 32, 99, 61, 97, 59, 32, 116, 101, 108, 32, 109, 97, 105, 110, 32, 102, 59] : List UInt8)).bind fun (y12 : (List XU × List UInt8 × List UInt8) × Int × Int) =>
  bif y2.1 == 2 then
    bif y2.2 == 0 then
      bif y4.2 == 10 then
        bif y6.2 == 10 then
          bif y8.2 == 14 then
            bif y10.2 == 8 then
              bif y11.2 == 1 then
                (c86 rf y12.1).bind fun (y13 : Int × Int) =>
                bif (y13.1 == 10) && (y13.2 == 0) then
                  (c86 rf ([], ([] : List UInt8), ([] : List UInt8))).bind fun (y14 : Int × Int) =>
                  some ((y14.1 == 0) && (y14.2 == 0))
                else
                  some false
              else
                some false
            else
              some false
          else
            some false
        else
          some false
      else
        some false
    else
      some false
  else
    some false
theorem er1 (rf : T.RF) (rb : T.RB) : T.stepF rf rb 1 () = r1 rf rb := by kernel_rfl
theorem or1 {y : Bool} (h : r1 T.rf T.rb = some y) : c1 T.rf = some y := T.rf_of (f := 1) (d := ()) ((er1 T.rf T.rb).trans h)

/- bailmentref06.Small loop 0 -/
noncomputable def b118 (rf : T.RF) (rb : T.RB) (d1 : List XU × List UInt8 × List UInt8) (d2 : Int) : Option (((List XU × List UInt8 × List UInt8) × Bool) ⊕ (List XU × List UInt8 × List UInt8)) :=
  bif decide (d2 < (((d1.1.length : Nat) : Int))) then
    bif inb d2 d1.1.length then
      (nth d1.1 d2.toNat).bind fun (x1 : XU) =>
      bif decide ((((x1.2.2.1.length : Nat) : Int)) > 30) then
        some (.inl (d1, false))
      else
      bif decide ((((x1.2.2.2.2.2.1.length : Nat) : Int)) > 30) then
        some (.inl (d1, false))
      else
      bif decide ((((x1.2.2.2.2.2.2.1.length : Nat) : Int)) > 30) then
        some (.inl (d1, false))
      else
      bif decide ((((x1.2.2.2.2.2.2.2.length : Nat) : Int)) > 30) then
        some (.inl (d1, false))
      else
        (k119 rb x1 0).bind fun (z2 : (XU × Bool) ⊕ XU) =>
        match z2 with
        | .inl u3 =>
          some (.inl (d1, u3.2))
        | .inr w4 =>
          (k120 rb w4 0).bind fun (z5 : (XU × Bool) ⊕ XU) =>
          match z5 with
          | .inl u6 =>
            some (.inl (d1, u6.2))
          | .inr w7 =>
            k118 rb d1 (IntKind.i64.wrap (d2 + 1))
    else
      none
  else
    some (.inr d1)
theorem eb118 (rf : T.RF) (rb : T.RB) (d1 : List XU × List UInt8 × List UInt8) (d2 : Int) : T.stepB rf rb 118 (d1, d2) = b118 rf rb d1 d2 := by kernel_rfl
theorem ob118 {d1 : List XU × List UInt8 × List UInt8} {d2 : Int} {y : (((List XU × List UInt8 × List UInt8) × Bool) ⊕ (List XU × List UInt8 × List UInt8))} (h : b118 T.rf T.rb d1 d2 = some y) : k118 T.rb d1 d2 = some y := T.rb_of (κ := 118) (d := (d1, d2)) ((eb118 T.rf T.rb d1 d2).trans h)

/- bailmentref06.Small loop 2 -/
noncomputable def b119 (rf : T.RF) (rb : T.RB) (d1 : XU) (d2 : Int) : Option ((XU × Bool) ⊕ XU) :=
  bif decide (d2 < (((d1.2.2.2.2.2.2.1.length : Nat) : Int))) then
    bif inb d2 d1.2.2.2.2.2.2.1.length then
      (nth d1.2.2.2.2.2.2.1 d2.toNat).bind fun (x1 : List UInt8 × XL) =>
      bif decide ((((x1.2.length : Nat) : Int)) > 200) then
        some (.inl (d1, false))
      else
        k119 rb d1 (IntKind.i64.wrap (d2 + 1))
    else
      none
  else
    some (.inr d1)
theorem eb119 (rf : T.RF) (rb : T.RB) (d1 : XU) (d2 : Int) : T.stepB rf rb 119 (d1, d2) = b119 rf rb d1 d2 := by kernel_rfl
theorem ob119 {d1 : XU} {d2 : Int} {y : ((XU × Bool) ⊕ XU)} (h : b119 T.rf T.rb d1 d2 = some y) : k119 T.rb d1 d2 = some y := T.rb_of (κ := 119) (d := (d1, d2)) ((eb119 T.rf T.rb d1 d2).trans h)

/- bailmentref06.Small loop 4 -/
noncomputable def b120 (rf : T.RF) (rb : T.RB) (d1 : XU) (d2 : Int) : Option ((XU × Bool) ⊕ XU) :=
  bif decide (d2 < (((d1.2.2.2.2.2.2.2.length : Nat) : Int))) then
    bif inb d2 d1.2.2.2.2.2.2.2.length then
      (nth d1.2.2.2.2.2.2.2 d2.toNat).bind fun (x1 : XI) =>
      bif decide ((((x1.2.2.2.1.length : Nat) : Int)) > 200) then
        some (.inl (d1, false))
      else
      bif decide ((((x1.2.2.2.2.1.length : Nat) : Int)) > 200) then
        some (.inl (d1, false))
      else
      bif decide ((((x1.2.2.2.2.2.length : Nat) : Int)) > 30) then
        some (.inl (d1, false))
      else
        (k121 rb x1 0).bind fun (z2 : (XI × Bool) ⊕ XI) =>
        match z2 with
        | .inl u3 =>
          some (.inl (d1, u3.2))
        | .inr w4 =>
          k120 rb d1 (IntKind.i64.wrap (d2 + 1))
    else
      none
  else
    some (.inr d1)
theorem eb120 (rf : T.RF) (rb : T.RB) (d1 : XU) (d2 : Int) : T.stepB rf rb 120 (d1, d2) = b120 rf rb d1 d2 := by kernel_rfl
theorem ob120 {d1 : XU} {d2 : Int} {y : ((XU × Bool) ⊕ XU)} (h : b120 T.rf T.rb d1 d2 = some y) : k120 T.rb d1 d2 = some y := T.rb_of (κ := 120) (d := (d1, d2)) ((eb120 T.rf T.rb d1 d2).trans h)

/- bailmentref06.Small loop 6 -/
noncomputable def b121 (rf : T.RF) (rb : T.RB) (d1 : XI) (d2 : Int) : Option ((XI × Bool) ⊕ XI) :=
  bif decide (d2 < (((d1.2.2.2.2.2.length : Nat) : Int))) then
    bif inb d2 d1.2.2.2.2.2.length then
      (nth d1.2.2.2.2.2 d2.toNat).bind fun (x1 : XL) =>
      bif decide ((((x1.length : Nat) : Int)) > 200) then
        some (.inl (d1, false))
      else
        k121 rb d1 (IntKind.i64.wrap (d2 + 1))
    else
      none
  else
    some (.inr d1)
theorem eb121 (rf : T.RF) (rb : T.RB) (d1 : XI) (d2 : Int) : T.stepB rf rb 121 (d1, d2) = b121 rf rb d1 d2 := by kernel_rfl
theorem ob121 {d1 : XI} {d2 : Int} {y : ((XI × Bool) ⊕ XI)} (h : b121 T.rf T.rb d1 d2 = some y) : k121 T.rb d1 d2 = some y := T.rb_of (κ := 121) (d := (d1, d2)) ((eb121 T.rf T.rb d1 d2).trans h)

/- bailmentref06.Small -/
noncomputable def r97 (rf : T.RF) (rb : T.RB) (d1 : List XU × List UInt8 × List UInt8) : Option Bool :=
  bif decide ((((d1.1.length : Nat) : Int)) > 30) then
    some false
  else
    (k118 rb d1 0).bind fun (z1 : ((List XU × List UInt8 × List UInt8) × Bool) ⊕ (List XU × List UInt8 × List UInt8)) =>
    match z1 with
    | .inl u2 =>
      some u2.2
    | .inr w3 =>
      some true
theorem er97 (rf : T.RF) (rb : T.RB) (d1 : List XU × List UInt8 × List UInt8) : T.stepF rf rb 97 d1 = r97 rf rb d1 := by kernel_rfl
theorem or97 {d1 : List XU × List UInt8 × List UInt8} {y : Bool} (h : r97 T.rf T.rb d1 = some y) : c97 T.rf d1 = some y := T.rf_of (f := 97) (d := d1) ((er97 T.rf T.rb d1).trans h)

/- bailmentref03.bare -/
noncomputable def r100 (rf : T.RF) (rb : T.RB) (d1 : XN) : Option Bool :=
  (c30 rf d1).bind fun (y1 : List Int) =>
  bif d1.1 == 27 then
    bif d1.2.2.1 == (-1) then
      some (d1.2.2.2.1 == (-1))
    else
      some false
  else
  bif d1.1 == 28 then
    some (d1.2.2.2.1 == (-1))
  else
  bif decide ((((y1.length : Nat) : Int)) > 0) then
    bif decide ((((y1.length : Nat) : Int)) > 1) then
      bif decide ((((y1.length : Nat) : Int)) > 2) then
        some true
      else
        some (d1.2.2.2.1 == (-1))
    else
    bif d1.2.2.1 == (-1) then
      bif decide ((((y1.length : Nat) : Int)) > 2) then
        some true
      else
        some (d1.2.2.2.1 == (-1))
    else
      some false
  else
  bif d1.2.1 == (-1) then
    bif decide ((((y1.length : Nat) : Int)) > 1) then
      bif decide ((((y1.length : Nat) : Int)) > 2) then
        some true
      else
        some (d1.2.2.2.1 == (-1))
    else
    bif d1.2.2.1 == (-1) then
      bif decide ((((y1.length : Nat) : Int)) > 2) then
        some true
      else
        some (d1.2.2.2.1 == (-1))
    else
      some false
  else
    some false
theorem er100 (rf : T.RF) (rb : T.RB) (d1 : XN) : T.stepF rf rb 100 d1 = r100 rf rb d1 := by kernel_rfl
theorem or100 {d1 : XN} {y : Bool} (h : r100 T.rf T.rb d1 = some y) : c100 T.rf d1 = some y := T.rf_of (f := 100) (d := d1) ((er100 T.rf T.rb d1).trans h)

/- bailmentref03.plain -/
noncomputable def r101 (rf : T.RF) (rb : T.RB) (d1 : XN) : Option Bool :=
  bif d1.1 == 3 then
    bif !((!(d1.2.2.2.2.2 == ([] : List UInt8))) == true) then
      some false
    else
    bif d1.1 == 1 then
      bif decide (d1.2.2.2.2.1 ≥ 0) then
        some (decide (d1.2.2.2.2.1 ≤ 2147483647))
      else
        some false
    else
    bif d1.1 == 2 then
      bif d1.2.2.2.2.1 == 0 then
        some true
      else
        some (d1.2.2.2.2.1 == 1)
    else
    bif d1.1 == 25 then
      bif decide (d1.2.2.2.2.1 ≥ 0) then
        some (decide (d1.2.2.2.2.1 ≤ 1000))
      else
        some false
    else
      some (d1.2.2.2.2.1 == 0)
  else
  bif !((!(d1.2.2.2.2.2 == ([] : List UInt8))) == (d1.1 == 27)) then
    some false
  else
  bif d1.1 == 1 then
    bif decide (d1.2.2.2.2.1 ≥ 0) then
      some (decide (d1.2.2.2.2.1 ≤ 2147483647))
    else
      some false
  else
  bif d1.1 == 2 then
    bif d1.2.2.2.2.1 == 0 then
      some true
    else
      some (d1.2.2.2.2.1 == 1)
  else
  bif d1.1 == 25 then
    bif decide (d1.2.2.2.2.1 ≥ 0) then
      some (decide (d1.2.2.2.2.1 ≤ 1000))
    else
      some false
  else
    some (d1.2.2.2.2.1 == 0)
theorem er101 (rf : T.RF) (rb : T.RB) (d1 : XN) : T.stepF rf rb 101 d1 = r101 rf rb d1 := by kernel_rfl
theorem or101 {d1 : XN} {y : Bool} (h : r101 T.rf T.rb d1 = some y) : c101 T.rf d1 = some y := T.rf_of (f := 101) (d := d1) ((er101 T.rf T.rb d1).trans h)

/- bailmentref03.args loop 0 -/
noncomputable def b125 (rf : T.RF) (rb : T.RB) (d1 : XN) (d2 : List Int) (d3 : XL) (d4 : Int) : Option ((XN × List Int × Bool) ⊕ (XN × List Int)) :=
  bif decide (d4 < (((d2.length : Nat) : Int))) then
    bif inb d4 d2.length then
      (nth d2 d4.toNat).bind fun (x1 : Int) =>
      bif inb x1 d3.length then
        (nth d3 x1.toNat).bind fun (x2 : XN) =>
        bif d1.1 == 27 then
          bif !((x2.1 == 28) == true) then
            some (.inl (d1, d2, false))
          else
            k125 rb d1 d2 d3 (IntKind.i64.wrap (d4 + 1))
        else
        bif d1.1 == 28 then
          bif (((d2.length : Nat) : Int)) == 2 then
            bif !((x2.1 == 28) == (d4 == 0)) then
              some (.inl (d1, d2, false))
            else
              k125 rb d1 d2 d3 (IntKind.i64.wrap (d4 + 1))
          else
          bif !((x2.1 == 28) == false) then
            some (.inl (d1, d2, false))
          else
            k125 rb d1 d2 d3 (IntKind.i64.wrap (d4 + 1))
        else
        bif !((x2.1 == 28) == false) then
          some (.inl (d1, d2, false))
        else
          k125 rb d1 d2 d3 (IntKind.i64.wrap (d4 + 1))
      else
        none
    else
      none
  else
    some (.inr (d1, d2))
theorem eb125 (rf : T.RF) (rb : T.RB) (d1 : XN) (d2 : List Int) (d3 : XL) (d4 : Int) : T.stepB rf rb 125 (d1, d2, d3, d4) = b125 rf rb d1 d2 d3 d4 := by kernel_rfl
theorem ob125 {d1 : XN} {d2 : List Int} {d3 : XL} {d4 : Int} {y : ((XN × List Int × Bool) ⊕ (XN × List Int))} (h : b125 T.rf T.rb d1 d2 d3 d4 = some y) : k125 T.rb d1 d2 d3 d4 = some y := T.rb_of (κ := 125) (d := (d1, d2, d3, d4)) ((eb125 T.rf T.rb d1 d2 d3 d4).trans h)

/- bailmentref03.args -/
noncomputable def r102 (rf : T.RF) (rb : T.RB) (d1 : XL) (d2 : Int) : Option Bool :=
  bif inb d2 d1.length then
    (nth d1 d2.toNat).bind fun (x1 : XN) =>
    (c30 rf x1).bind fun (y2 : List Int) =>
    (k125 rb x1 y2 d1 0).bind fun (z3 : (XN × List Int × Bool) ⊕ (XN × List Int)) =>
    match z3 with
    | .inl u4 =>
      some u4.2.2
    | .inr w5 =>
      some true
  else
    none
theorem er102 (rf : T.RF) (rb : T.RB) (d1 : XL) (d2 : Int) : T.stepF rf rb 102 (d1, d2) = r102 rf rb d1 d2 := by kernel_rfl
theorem or102 {d1 : XL} {d2 : Int} {y : Bool} (h : r102 T.rf T.rb d1 d2 = some y) : c102 T.rf d1 d2 = some y := T.rf_of (f := 102) (d := (d1, d2)) ((er102 T.rf T.rb d1 d2).trans h)

/- bailmentref03.May loop 0 -/
noncomputable def b123 (rf : T.RF) (rb : T.RB) (d1 : List Int) (d2 : XL) (d3 : Int) : Option ((List Int × Bool) ⊕ (List Int)) :=
  bif decide (d3 < (((d2.length : Nat) : Int))) then
    bif inb d3 d2.length then
      (nth d2 d3.toNat).bind fun (x1 : XN) =>
      bif decide (x1.1 < 1) then
        some (.inl (d1, false))
      else
      bif inb d3 d2.length then
        (nth d2 d3.toNat).bind fun (x2 : XN) =>
        bif decide (x2.1 > 28) then
          some (.inl (d1, false))
        else
        bif inb d3 d2.length then
          (nth d2 d3.toNat).bind fun (x3 : XN) =>
          (c100 rf x3).bind fun (y4 : Bool) =>
          bif !y4 then
            some (.inl (d1, false))
          else
          bif inb d3 d2.length then
            (nth d2 d3.toNat).bind fun (x5 : XN) =>
            (c101 rf x5).bind fun (y6 : Bool) =>
            bif !y6 then
              some (.inl (d1, false))
            else
            bif inb d3 d2.length then
              (nth d2 d3.toNat).bind fun (x7 : XN) =>
              (c30 rf x7).bind fun (y8 : List Int) =>
              (k124 rb d1 y8 d3 0).bind fun (z9 : (List Int × List Int × Bool) ⊕ (List Int × List Int)) =>
              match z9 with
              | .inl u10 =>
                some (.inl (u10.1, u10.2.2))
              | .inr w11 =>
                (c102 rf d2 d3).bind fun (y12 : Bool) =>
                bif !y12 then
                  some (.inl (w11.1, false))
                else
                  k123 rb w11.1 d2 (IntKind.i64.wrap (d3 + 1))
            else
              none
          else
            none
        else
          none
      else
        none
    else
      none
  else
    some (.inr d1)
theorem eb123 (rf : T.RF) (rb : T.RB) (d1 : List Int) (d2 : XL) (d3 : Int) : T.stepB rf rb 123 (d1, d2, d3) = b123 rf rb d1 d2 d3 := by kernel_rfl
theorem ob123 {d1 : List Int} {d2 : XL} {d3 : Int} {y : ((List Int × Bool) ⊕ (List Int))} (h : b123 T.rf T.rb d1 d2 d3 = some y) : k123 T.rb d1 d2 d3 = some y := T.rb_of (κ := 123) (d := (d1, d2, d3)) ((eb123 T.rf T.rb d1 d2 d3).trans h)

/- bailmentref03.May loop 2 -/
noncomputable def b124 (rf : T.RF) (rb : T.RB) (d1 : List Int) (d2 : List Int) (d3 : Int) (d4 : Int) : Option ((List Int × List Int × Bool) ⊕ (List Int × List Int)) :=
  bif decide (d4 < (((d2.length : Nat) : Int))) then
    bif inb d4 d2.length then
      (nth d2 d4.toNat).bind fun (x1 : Int) =>
      bif decide (x1 < 0) then
        some (.inl (d1, d2, false))
      else
      bif inb d4 d2.length then
        (nth d2 d4.toNat).bind fun (x2 : Int) =>
        bif decide (x2 ≥ d3) then
          some (.inl (d1, d2, false))
        else
        bif inb d4 d2.length then
          (nth d2 d4.toNat).bind fun (x3 : Int) =>
          bif inb x3 d1.length then
            (nth d1 x3.toNat).bind fun (x4 : Int) =>
            bif inb x3 d1.length then
              bif Nat.blt x3.toNat d1.length then
                k124 rb (setNth d1 x3.toNat (IntKind.i64.wrap (x4 + 1))) d2 d3 (IntKind.i64.wrap (d4 + 1))
              else
                none
            else
              none
          else
            none
        else
          none
      else
        none
    else
      none
  else
    some (.inr (d1, d2))
theorem eb124 (rf : T.RF) (rb : T.RB) (d1 : List Int) (d2 : List Int) (d3 : Int) (d4 : Int) : T.stepB rf rb 124 (d1, d2, d3, d4) = b124 rf rb d1 d2 d3 d4 := by kernel_rfl
theorem ob124 {d1 : List Int} {d2 : List Int} {d3 : Int} {d4 : Int} {y : ((List Int × List Int × Bool) ⊕ (List Int × List Int))} (h : b124 T.rf T.rb d1 d2 d3 d4 = some y) : k124 T.rb d1 d2 d3 d4 = some y := T.rb_of (κ := 124) (d := (d1, d2, d3, d4)) ((eb124 T.rf T.rb d1 d2 d3 d4).trans h)

/- bailmentref03.May loop 4 -/
noncomputable def b126 (rf : T.RF) (rb : T.RB) (d1 : List Int) (d2 : XL) (d3 : Int) : Option ((List Int × Bool) ⊕ (List Int)) :=
  bif decide (d3 < (IntKind.i64.wrap ((((d2.length : Nat) : Int)) - 1))) then
    bif inb d3 d1.length then
      (nth d1 d3.toNat).bind fun (x1 : Int) =>
      bif x1 != 1 then
        some (.inl (d1, false))
      else
        k126 rb d1 d2 (IntKind.i64.wrap (d3 + 1))
    else
      none
  else
    some (.inr d1)
theorem eb126 (rf : T.RF) (rb : T.RB) (d1 : List Int) (d2 : XL) (d3 : Int) : T.stepB rf rb 126 (d1, d2, d3) = b126 rf rb d1 d2 d3 := by kernel_rfl
theorem ob126 {d1 : List Int} {d2 : XL} {d3 : Int} {y : ((List Int × Bool) ⊕ (List Int))} (h : b126 T.rf T.rb d1 d2 d3 = some y) : k126 T.rb d1 d2 d3 = some y := T.rb_of (κ := 126) (d := (d1, d2, d3)) ((eb126 T.rf T.rb d1 d2 d3).trans h)

/- bailmentref03.May -/
noncomputable def r99 (rf : T.RF) (rb : T.RB) (d1 : XL) : Option Bool :=
  bif decide ((((d1.length : Nat) : Int)) < 1) then
    some false
  else
  bif decide ((((d1.length : Nat) : Int)) > 5000) then
    some false
  else
  bif inb' (((d1.length : Nat) : Int)) most then
    bif inb' (((d1.length : Nat) : Int)) d1.length then
      (k123 rb (List.replicate d1.length 0) d1 0).bind fun (z1 : (List Int × Bool) ⊕ (List Int)) =>
      match z1 with
      | .inl u2 =>
        some u2.2
      | .inr w3 =>
        (k126 rb w3 d1 0).bind fun (z4 : (List Int × Bool) ⊕ (List Int)) =>
        match z4 with
        | .inl u5 =>
          some u5.2
        | .inr w6 =>
          bif inb (IntKind.i64.wrap ((((d1.length : Nat) : Int)) - 1)) d1.length then
            (nth d1 (IntKind.i64.wrap ((((d1.length : Nat) : Int)) - 1)).toNat).bind fun (x7 : XN) =>
            bif x7.1 != 28 then
              (c43 rf d1).bind fun (y8 : Int) =>
              some (decide (y8 ≤ 40))
            else
              some false
          else
            none
    else
      none
  else
    none
theorem er99 (rf : T.RF) (rb : T.RB) (d1 : XL) : T.stepF rf rb 99 d1 = r99 rf rb d1 := by kernel_rfl
theorem or99 {d1 : XL} {y : Bool} (h : r99 T.rf T.rb d1 = some y) : c99 T.rf d1 = some y := T.rf_of (f := 99) (d := d1) ((er99 T.rf T.rb d1).trans h)

/- bailmentref03.order loop 0 -/
noncomputable def b128 (rf : T.RF) (rb : T.RB) (d1 : XL) (d2 : List Int) (d3 : List Int) (d4 : XL) (d5 : Int) : Option (List Int × XL × List Int) :=
  bif decide (d5 < (((d2.length : Nat) : Int))) then
    bif inb d5 d2.length then
      (nth d2 d5.toNat).bind fun (x1 : Int) =>
      (c103 rf d1 d4 x1).bind fun (y2 : XL) =>
      bif (Nat.ble (d3.length + 1) most) && true then
        k128 rb y2 d2 (d3 ++ [IntKind.i64.wrap ((((y2.length : Nat) : Int)) - 1)]) d4 (IntKind.i64.wrap (d5 + 1))
      else
        none
    else
      none
  else
    some (d2, d1, d3)
theorem eb128 (rf : T.RF) (rb : T.RB) (d1 : XL) (d2 : List Int) (d3 : List Int) (d4 : XL) (d5 : Int) : T.stepB rf rb 128 (d1, d2, d3, d4, d5) = b128 rf rb d1 d2 d3 d4 d5 := by kernel_rfl
theorem ob128 {d1 : XL} {d2 : List Int} {d3 : List Int} {d4 : XL} {d5 : Int} {y : (List Int × XL × List Int)} (h : b128 T.rf T.rb d1 d2 d3 d4 d5 = some y) : k128 T.rb d1 d2 d3 d4 d5 = some y := T.rb_of (κ := 128) (d := (d1, d2, d3, d4, d5)) ((eb128 T.rf T.rb d1 d2 d3 d4 d5).trans h)

/- bailmentref03.order -/
noncomputable def r103 (rf : T.RF) (rb : T.RB) (d1 : XL) (d2 : XL) (d3 : Int) : Option XL :=
  bif inb d3 d2.length then
    (nth d2 d3.toNat).bind fun (x1 : XN) =>
    (c30 rf x1).bind fun (y2 : List Int) =>
    (k128 rb d1 y2 [] d2 0).bind fun (z3 : List Int × XL × List Int) =>
    bif inb d3 d2.length then
      (nth d2 d3.toNat).bind fun (x4 : XN) =>
      (c33 rf x4 z3.2.2).bind fun (y5 : XN) =>
      bif (Nat.ble (z3.2.1.length + 1) most) && true then
        some (z3.2.1 ++ [y5])
      else
        none
    else
      none
  else
    none
theorem er103 (rf : T.RF) (rb : T.RB) (d1 : XL) (d2 : XL) (d3 : Int) : T.stepF rf rb 103 (d1, d2, d3) = r103 rf rb d1 d2 d3 := by kernel_rfl
theorem or103 {d1 : XL} {d2 : XL} {d3 : Int} {y : XL} (h : r103 T.rf T.rb d1 d2 d3 = some y) : c103 T.rf d1 d2 d3 = some y := T.rf_of (f := 103) (d := (d1, d2, d3)) ((er103 T.rf T.rb d1 d2 d3).trans h)

/- bailmentref03.Sub -/
noncomputable def r98 (rf : T.RF) (rb : T.RB) (d1 : XL) (d2 : Int) : Option XL :=
  (c99 rf d1).bind fun (y1 : Bool) =>
  bif !y1 then
    some []
  else
  bif decide (d2 < 0) then
    some []
  else
  bif decide (d2 ≥ (((d1.length : Nat) : Int))) then
    some []
  else
    (c103 rf [] d1 d2).bind fun (y2 : XL) =>
    some y2
theorem er98 (rf : T.RF) (rb : T.RB) (d1 : XL) (d2 : Int) : T.stepF rf rb 98 (d1, d2) = r98 rf rb d1 d2 := by kernel_rfl
theorem or98 {d1 : XL} {d2 : Int} {y : XL} (h : r98 T.rf T.rb d1 d2 = some y) : c98 T.rf d1 d2 = some y := T.rf_of (f := 98) (d := (d1, d2)) ((er98 T.rf T.rb d1 d2).trans h)

/- bailmentref03.Norm -/
noncomputable def r104 (rf : T.RF) (rb : T.RB) (d1 : XL) : Option XL :=
  (c98 rf d1 (IntKind.i64.wrap ((((d1.length : Nat) : Int)) - 1))).bind fun (y1 : XL) =>
  some y1
theorem er104 (rf : T.RF) (rb : T.RB) (d1 : XL) : T.stepF rf rb 104 d1 = r104 rf rb d1 := by kernel_rfl
theorem or104 {d1 : XL} {y : XL} (h : r104 T.rf T.rb d1 = some y) : c104 T.rf d1 = some y := T.rf_of (f := 104) (d := d1) ((er104 T.rf T.rb d1).trans h)

/- bailmentlaw09.TypesParts loop 0 -/
noncomputable def b122 (rf : T.RF) (rb : T.RB) (d1 : XL) (d2 : XP) (d3 : List XU) (d4 : Int) : Option (Bool ⊕ Unit) :=
  bif decide (d4 < (((d1.length : Nat) : Int))) then
    (c98 rf d1 d4).bind fun (y1 : XL) =>
    (c44 rf y1 d2 d3).bind fun (y2 : Int × Int) =>
    bif inb d4 d1.length then
      (nth d1 d4.toNat).bind fun (x3 : XN) =>
      bif x3.1 != 28 then
        bif y2.2 != 0 then
          some (.inl false)
        else
          k122 rb d1 d2 d3 (IntKind.i64.wrap (d4 + 1))
      else
        k122 rb d1 d2 d3 (IntKind.i64.wrap (d4 + 1))
    else
      none
  else
    some (.inr ())
theorem eb122 (rf : T.RF) (rb : T.RB) (d1 : XL) (d2 : XP) (d3 : List XU) (d4 : Int) : T.stepB rf rb 122 (d1, d2, d3, d4) = b122 rf rb d1 d2 d3 d4 := by kernel_rfl
theorem ob122 {d1 : XL} {d2 : XP} {d3 : List XU} {d4 : Int} {y : (Bool ⊕ Unit)} (h : b122 T.rf T.rb d1 d2 d3 d4 = some y) : k122 T.rb d1 d2 d3 d4 = some y := T.rb_of (κ := 122) (d := (d1, d2, d3, d4)) ((eb122 T.rf T.rb d1 d2 d3 d4).trans h)

/- bailmentlaw09.TypesParts -/
noncomputable def r0 (rf : T.RF) (rb : T.RB) (d1 : XL) (d2 : XP) (d3 : List XU) : Option Bool :=
  bif decide ((((d1.length : Nat) : Int)) > 300) then
    (c1 rf).bind fun (y1 : Bool) =>
    some y1
  else
  bif decide ((((d2.length : Nat) : Int)) > 60) then
    (c1 rf).bind fun (y2 : Bool) =>
    some y2
  else
    (c97 rf (d3, ([] : List UInt8), ([] : List UInt8))).bind fun (y3 : Bool) =>
    bif !y3 then
      (c1 rf).bind fun (y4 : Bool) =>
      some y4
    else
      (c44 rf d1 d2 d3).bind fun (y5 : Int × Int) =>
      bif y5.2 != 0 then
        bif y5.1 == 0 then
          (c1 rf).bind fun (y6 : Bool) =>
          some y6
        else
          some false
      else
        (k122 rb d1 d2 d3 0).bind fun (z7 : Bool ⊕ Unit) =>
        match z7 with
        | .inl u8 =>
          some u8
        | .inr w9 =>
          (c104 rf d1).bind fun (y10 : XL) =>
          (c44 rf y10 d2 d3).bind fun (y11 : Int × Int) =>
          bif y11.1 == y5.1 then
            bif y11.2 == 0 then
              (c1 rf).bind fun (y12 : Bool) =>
              some y12
            else
              some false
          else
            some false
theorem er0 (rf : T.RF) (rb : T.RB) (d1 : XL) (d2 : XP) (d3 : List XU) : T.stepF rf rb 0 (d1, d2, d3) = r0 rf rb d1 d2 d3 := by kernel_rfl
theorem or0 {d1 : XL} {d2 : XP} {d3 : List XU} {y : Bool} (h : r0 T.rf T.rb d1 d2 d3 = some y) : c0 T.rf d1 d2 d3 = some y := T.rf_of (f := 0) (d := (d1, d2, d3)) ((er0 T.rf T.rb d1 d2 d3).trans h)

/- bailmentref03.place loop 0 -/
noncomputable def b131 (rf : T.RF) (rb : T.RB) (d1 : List (List UInt8)) (d2 : List UInt8) (d3 : Int) : Option (Int ⊕ Unit) :=
  bif decide (d3 < (((d1.length : Nat) : Int))) then
    bif inb d3 d1.length then
      (nth d1 d3.toNat).bind fun (x1 : List UInt8) =>
      bif x1 == d2 then
        some (.inl d3)
      else
        k131 rb d1 d2 (IntKind.i64.wrap (d3 + 1))
    else
      none
  else
    some (.inr ())
theorem eb131 (rf : T.RF) (rb : T.RB) (d1 : List (List UInt8)) (d2 : List UInt8) (d3 : Int) : T.stepB rf rb 131 (d1, d2, d3) = b131 rf rb d1 d2 d3 := by kernel_rfl
theorem ob131 {d1 : List (List UInt8)} {d2 : List UInt8} {d3 : Int} {y : (Int ⊕ Unit)} (h : b131 T.rf T.rb d1 d2 d3 = some y) : k131 T.rb d1 d2 d3 = some y := T.rb_of (κ := 131) (d := (d1, d2, d3)) ((eb131 T.rf T.rb d1 d2 d3).trans h)

/- bailmentref03.place -/
noncomputable def r107 (rf : T.RF) (rb : T.RB) (d1 : List (List UInt8)) (d2 : List UInt8) : Option Int :=
  (k131 rb d1 d2 0).bind fun (z1 : Int ⊕ Unit) =>
  match z1 with
  | .inl u2 =>
    some u2
  | .inr w3 =>
    some (-1)
theorem er107 (rf : T.RF) (rb : T.RB) (d1 : List (List UInt8)) (d2 : List UInt8) : T.stepF rf rb 107 (d1, d2) = r107 rf rb d1 d2 := by kernel_rfl
theorem or107 {d1 : List (List UInt8)} {d2 : List UInt8} {y : Int} (h : r107 T.rf T.rb d1 d2 = some y) : c107 T.rf d1 d2 = some y := T.rf_of (f := 107) (d := (d1, d2)) ((er107 T.rf T.rb d1 d2).trans h)

/- bailmentref03.Put loop 0 -/
noncomputable def b138 (rf : T.RF) (rb : T.RB) (d1 : List XL) (d2 : Int) : Option (XL ⊕ Unit) :=
  bif decide (d2 < (((d1.length : Nat) : Int))) then
    bif inb d2 d1.length then
      (nth d1 d2.toNat).bind fun (x1 : XL) =>
      (c99 rf x1).bind fun (y2 : Bool) =>
      bif !y2 then
        some (.inl [])
      else
        k138 rb d1 (IntKind.i64.wrap (d2 + 1))
    else
      none
  else
    some (.inr ())
theorem eb138 (rf : T.RF) (rb : T.RB) (d1 : List XL) (d2 : Int) : T.stepB rf rb 138 (d1, d2) = b138 rf rb d1 d2 := by kernel_rfl
theorem ob138 {d1 : List XL} {d2 : Int} {y : (XL ⊕ Unit)} (h : b138 T.rf T.rb d1 d2 = some y) : k138 T.rb d1 d2 = some y := T.rb_of (κ := 138) (d := (d1, d2)) ((eb138 T.rf T.rb d1 d2).trans h)

/- bailmentref03.Put loop 2 -/
noncomputable def b139 (rf : T.RF) (rb : T.RB) (d1 : XL) (d2 : XL) (d3 : List Int) (d4 : List (List UInt8)) (d5 : List XL) (d6 : Int) : Option (XL × List Int × XL) :=
  bif decide (d6 < (((d1.length : Nat) : Int))) then
    bif inb d6 d1.length then
      (nth d1 d6.toNat).bind fun (x1 : XN) =>
      bif x1.1 == 3 then
        bif inb d6 d1.length then
          (nth d1 d6.toNat).bind fun (x2 : XN) =>
          (c107 rf d4 x2.2.2.2.2.2).bind fun (y3 : Int) =>
          (k140 rb d1 d2 d3 d5 d6 y3).bind fun (z4 : XL × List Int × XL) =>
          k139 rb z4.1 z4.2.2 z4.2.1 d4 d5 (IntKind.i64.wrap (d6 + 1))
        else
          none
      else
        (k140 rb d1 d2 d3 d5 d6 (-1)).bind fun (z5 : XL × List Int × XL) =>
        k139 rb z5.1 z5.2.2 z5.2.1 d4 d5 (IntKind.i64.wrap (d6 + 1))
    else
      none
  else
    some (d1, d3, d2)
theorem eb139 (rf : T.RF) (rb : T.RB) (d1 : XL) (d2 : XL) (d3 : List Int) (d4 : List (List UInt8)) (d5 : List XL) (d6 : Int) : T.stepB rf rb 139 (d1, d2, d3, d4, d5, d6) = b139 rf rb d1 d2 d3 d4 d5 d6 := by kernel_rfl
theorem ob139 {d1 : XL} {d2 : XL} {d3 : List Int} {d4 : List (List UInt8)} {d5 : List XL} {d6 : Int} {y : (XL × List Int × XL)} (h : b139 T.rf T.rb d1 d2 d3 d4 d5 d6 = some y) : k139 T.rb d1 d2 d3 d4 d5 d6 = some y := T.rb_of (κ := 139) (d := (d1, d2, d3, d4, d5, d6)) ((eb139 T.rf T.rb d1 d2 d3 d4 d5 d6).trans h)

/- bailmentref03.Put tail 17 -/
noncomputable def b140 (rf : T.RF) (rb : T.RB) (d1 : XL) (d2 : XL) (d3 : List Int) (d4 : List XL) (d5 : Int) (d6 : Int) : Option (XL × List Int × XL) :=
  bif decide (d6 ≥ 0) then
    bif inb d6 d4.length then
      (nth d4 d6.toNat).bind fun (x1 : XL) =>
      (c104 rf x1).bind fun (y2 : XL) =>
      (c31 rf d2 y2).bind fun (y3 : XL) =>
      bif inb d5 d3.length then
        bif Nat.blt d5.toNat d3.length then
          some (d1, setNth d3 d5.toNat (IntKind.i64.wrap ((((y3.length : Nat) : Int)) - 1)), y3)
        else
          none
      else
        none
    else
      none
  else
  bif inb d5 d1.length then
    (nth d1 d5.toNat).bind fun (x4 : XN) =>
    (c30 rf x4).bind fun (y5 : List Int) =>
    (k141 rb d3 y5 [] 0).bind fun (z6 : List Int × List Int × List Int) =>
    bif inb d5 d1.length then
      (nth d1 d5.toNat).bind fun (x7 : XN) =>
      (c33 rf x7 z6.2.2).bind fun (y8 : XN) =>
      bif (Nat.ble (d2.length + 1) most) && true then
        bif inb d5 z6.1.length then
          bif Nat.blt d5.toNat z6.1.length then
            some (d1, setNth z6.1 d5.toNat (IntKind.i64.wrap (((((d2 ++ [y8]).length : Nat) : Int)) - 1)), d2 ++ [y8])
          else
            none
        else
          none
      else
        none
    else
      none
  else
    none
theorem eb140 (rf : T.RF) (rb : T.RB) (d1 : XL) (d2 : XL) (d3 : List Int) (d4 : List XL) (d5 : Int) (d6 : Int) : T.stepB rf rb 140 (d1, d2, d3, d4, d5, d6) = b140 rf rb d1 d2 d3 d4 d5 d6 := by kernel_rfl
theorem ob140 {d1 : XL} {d2 : XL} {d3 : List Int} {d4 : List XL} {d5 : Int} {d6 : Int} {y : (XL × List Int × XL)} (h : b140 T.rf T.rb d1 d2 d3 d4 d5 d6 = some y) : k140 T.rb d1 d2 d3 d4 d5 d6 = some y := T.rb_of (κ := 140) (d := (d1, d2, d3, d4, d5, d6)) ((eb140 T.rf T.rb d1 d2 d3 d4 d5 d6).trans h)

/- bailmentref03.Put loop 4 -/
noncomputable def b141 (rf : T.RF) (rb : T.RB) (d1 : List Int) (d2 : List Int) (d3 : List Int) (d4 : Int) : Option (List Int × List Int × List Int) :=
  bif decide (d4 < (((d2.length : Nat) : Int))) then
    bif inb d4 d2.length then
      (nth d2 d4.toNat).bind fun (x1 : Int) =>
      bif inb x1 d1.length then
        (nth d1 x1.toNat).bind fun (x2 : Int) =>
        bif (Nat.ble (d3.length + 1) most) && true then
          k141 rb d1 d2 (d3 ++ [x2]) (IntKind.i64.wrap (d4 + 1))
        else
          none
      else
        none
    else
      none
  else
    some (d1, d2, d3)
theorem eb141 (rf : T.RF) (rb : T.RB) (d1 : List Int) (d2 : List Int) (d3 : List Int) (d4 : Int) : T.stepB rf rb 141 (d1, d2, d3, d4) = b141 rf rb d1 d2 d3 d4 := by kernel_rfl
theorem ob141 {d1 : List Int} {d2 : List Int} {d3 : List Int} {d4 : Int} {y : (List Int × List Int × List Int)} (h : b141 T.rf T.rb d1 d2 d3 d4 = some y) : k141 T.rb d1 d2 d3 d4 = some y := T.rb_of (κ := 141) (d := (d1, d2, d3, d4)) ((eb141 T.rf T.rb d1 d2 d3 d4).trans h)

/- bailmentref03.Put -/
noncomputable def r106 (rf : T.RF) (rb : T.RB) (d1 : XL) (d2 : List (List UInt8)) (d3 : List XL) : Option XL :=
  (c99 rf d1).bind fun (y1 : Bool) =>
  bif !y1 then
    some []
  else
  bif (((d2.length : Nat) : Int)) != (((d3.length : Nat) : Int)) then
    some []
  else
    (k138 rb d3 0).bind fun (z2 : XL ⊕ Unit) =>
    match z2 with
    | .inl u3 =>
      some u3
    | .inr w4 =>
      (c104 rf d1).bind fun (y5 : XL) =>
      bif inb' (((y5.length : Nat) : Int)) most then
        bif inb' (((y5.length : Nat) : Int)) y5.length then
          (k139 rb y5 [] (List.replicate y5.length 0) d2 d3 0).bind fun (z6 : XL × List Int × XL) =>
          some z6.2.2
        else
          none
      else
        none
theorem er106 (rf : T.RF) (rb : T.RB) (d1 : XL) (d2 : List (List UInt8)) (d3 : List XL) : T.stepF rf rb 106 (d1, d2, d3) = r106 rf rb d1 d2 d3 := by kernel_rfl
theorem or106 {d1 : XL} {d2 : List (List UInt8)} {d3 : List XL} {y : XL} (h : r106 T.rf T.rb d1 d2 d3 = some y) : c106 T.rf d1 d2 d3 = some y := T.rf_of (f := 106) (d := (d1, d2, d3)) ((er106 T.rf T.rb d1 d2 d3).trans h)

/- bailmentlaw09.TypesPut -/
noncomputable def r105 (rf : T.RF) (rb : T.RB) (d1 : XL × XL × XP × List UInt8) : Option Bool :=
  bif decide ((((d1.1.length : Nat) : Int)) > 100) then
    (c1 rf).bind fun (y1 : Bool) =>
    some y1
  else
  bif decide ((((d1.2.1.length : Nat) : Int)) > 100) then
    (c1 rf).bind fun (y2 : Bool) =>
    some y2
  else
  bif decide ((((d1.2.2.1.length : Nat) : Int)) > 60) then
    (c1 rf).bind fun (y3 : Bool) =>
    some y3
  else
    (c44 rf d1.1 d1.2.2.1 []).bind fun (y4 : Int × Int) =>
    (c44 rf d1.2.1 d1.2.2.1 []).bind fun (y5 : Int × Int) =>
    (c28 rf 3 0 d1.2.2.2 []).bind fun (y6 : XL) =>
    (c44 rf y6 d1.2.2.1 []).bind fun (y7 : Int × Int) =>
    bif y4.2 != 0 then
      (c1 rf).bind fun (y8 : Bool) =>
      some y8
    else
    bif y5.2 != 0 then
      (c1 rf).bind fun (y9 : Bool) =>
      some y9
    else
    bif y7.2 != 0 then
      (c1 rf).bind fun (y10 : Bool) =>
      some y10
    else
    bif y5.1 != y7.1 then
      (c1 rf).bind fun (y11 : Bool) =>
      some y11
    else
      (c106 rf d1.1 [d1.2.2.2] [d1.2.1]).bind fun (y12 : XL) =>
      (c99 rf y12).bind fun (y13 : Bool) =>
      bif !y13 then
        (c1 rf).bind fun (y14 : Bool) =>
        some y14
      else
        (c44 rf y12 d1.2.2.1 []).bind fun (y15 : Int × Int) =>
        bif y15.1 == y4.1 then
          bif y15.2 == 0 then
            (c1 rf).bind fun (y16 : Bool) =>
            some y16
          else
            some false
        else
          some false
theorem er105 (rf : T.RF) (rb : T.RB) (d1 : XL × XL × XP × List UInt8) : T.stepF rf rb 105 d1 = r105 rf rb d1 := by kernel_rfl
theorem or105 {d1 : XL × XL × XP × List UInt8} {y : Bool} (h : r105 T.rf T.rb d1 = some y) : c105 T.rf d1 = some y := T.rf_of (f := 105) (d := d1) ((er105 T.rf T.rb d1).trans h)

/- bailmentlaw09.TypesMore -/
noncomputable def r108 (rf : T.RF) (rb : T.RB) (d1 : XL) (d2 : XP) (d3 : XP) : Option Bool :=
  bif decide ((((d1.length : Nat) : Int)) > 200) then
    (c1 rf).bind fun (y1 : Bool) =>
    some y1
  else
  bif decide ((((d2.length : Nat) : Int)) > 30) then
    (c1 rf).bind fun (y2 : Bool) =>
    some y2
  else
  bif decide ((((d3.length : Nat) : Int)) > 30) then
    (c1 rf).bind fun (y3 : Bool) =>
    some y3
  else
    (c44 rf d1 d2 []).bind fun (y4 : Int × Int) =>
    bif Nat.ble d2.length most then
      bif (Nat.ble (d2.length + d3.length) most) && true then
        (c44 rf d1 (d2 ++ d3) []).bind fun (y5 : Int × Int) =>
        bif y4.2 != 0 then
          bif y5.2 == 0 then
            (c1 rf).bind fun (y6 : Bool) =>
            some y6
          else
          bif y4.2 != 0 then
            (c1 rf).bind fun (y7 : Bool) =>
            some y7
          else
            some false
        else
        bif y5.1 == y4.1 then
          bif y5.2 == 0 then
            bif y5.2 == 0 then
              (c1 rf).bind fun (y8 : Bool) =>
              some y8
            else
            bif y4.2 != 0 then
              (c1 rf).bind fun (y9 : Bool) =>
              some y9
            else
              some false
          else
            some false
        else
          some false
      else
        none
    else
      none
theorem er108 (rf : T.RF) (rb : T.RB) (d1 : XL) (d2 : XP) (d3 : XP) : T.stepF rf rb 108 (d1, d2, d3) = r108 rf rb d1 d2 d3 := by kernel_rfl
theorem or108 {d1 : XL} {d2 : XP} {d3 : XP} {y : Bool} (h : r108 T.rf T.rb d1 d2 d3 = some y) : c108 T.rf d1 d2 d3 = some y := T.rf_of (f := 108) (d := (d1, d2, d3)) ((er108 T.rf T.rb d1 d2 d3).trans h)

/- bailmentlaw09.TypesPick -/
noncomputable def r109 (rf : T.RF) (rb : T.RB) (d1 : XL) (d2 : XL) (d3 : XP) : Option Bool :=
  bif decide ((((d1.length : Nat) : Int)) > 100) then
    (c1 rf).bind fun (y1 : Bool) =>
    some y1
  else
  bif decide ((((d2.length : Nat) : Int)) > 100) then
    (c1 rf).bind fun (y2 : Bool) =>
    some y2
  else
  bif decide ((((d3.length : Nat) : Int)) > 30) then
    (c1 rf).bind fun (y3 : Bool) =>
    some y3
  else
    (c28 rf 19 0 ([] : List UInt8) [d1, d2]).bind fun (y4 : XL) =>
    (c28 rf 2 1 ([] : List UInt8) []).bind fun (y5 : XL) =>
    (c28 rf 26 0 ([] : List UInt8) [y5, d1, d2]).bind fun (y6 : XL) =>
    (c99 rf d1).bind fun (y7 : Bool) =>
    bif !y7 then
      (c1 rf).bind fun (y8 : Bool) =>
      some y8
    else
      (c99 rf d2).bind fun (y9 : Bool) =>
      bif !y9 then
        (c1 rf).bind fun (y10 : Bool) =>
        some y10
      else
        (c99 rf y4).bind fun (y11 : Bool) =>
        bif !y11 then
          (c1 rf).bind fun (y12 : Bool) =>
          some y12
        else
          (c99 rf y6).bind fun (y13 : Bool) =>
          bif !y13 then
            (c1 rf).bind fun (y14 : Bool) =>
            some y14
          else
            (c44 rf d1 d3 []).bind fun (y15 : Int × Int) =>
            (c44 rf d2 d3 []).bind fun (y16 : Int × Int) =>
            (c44 rf y4 d3 []).bind fun (y17 : Int × Int) =>
            (c44 rf y6 d3 []).bind fun (y18 : Int × Int) =>
            bif y15.2 == 0 then
              bif y16.2 == 0 then
                bif y15.1 == y16.1 then
                  bif y17.2 == 0 then
                    bif y17.1 == y15.1 then
                      bif y18.2 == 0 then
                        bif y18.1 == y15.1 then
                          (c1 rf).bind fun (y19 : Bool) =>
                          some y19
                        else
                          some false
                      else
                        some false
                    else
                      some false
                  else
                    some false
                else
                bif y17.2 != 0 then
                  bif y18.2 != 0 then
                    (c1 rf).bind fun (y20 : Bool) =>
                    some y20
                  else
                    some false
                else
                  some false
              else
              bif y17.2 != 0 then
                bif y18.2 != 0 then
                  (c1 rf).bind fun (y21 : Bool) =>
                  some y21
                else
                  some false
              else
                some false
            else
            bif y17.2 != 0 then
              bif y18.2 != 0 then
                (c1 rf).bind fun (y22 : Bool) =>
                some y22
              else
                some false
            else
              some false
theorem er109 (rf : T.RF) (rb : T.RB) (d1 : XL) (d2 : XL) (d3 : XP) : T.stepF rf rb 109 (d1, d2, d3) = r109 rf rb d1 d2 d3 := by kernel_rfl
theorem or109 {d1 : XL} {d2 : XL} {d3 : XP} {y : Bool} (h : r109 T.rf T.rb d1 d2 d3 = some y) : c109 T.rf d1 d2 d3 = some y := T.rf_of (f := 109) (d := (d1, d2, d3)) ((er109 T.rf T.rb d1 d2 d3).trans h)

theorem place_len : tabs.placeL.length = 142 := rfl
end Go.Proofs.Ytomofgclaiaikaa.R
