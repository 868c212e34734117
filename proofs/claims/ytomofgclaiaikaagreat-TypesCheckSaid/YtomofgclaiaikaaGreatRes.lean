/-
  OUR OWN, PRINTED BY A PROGRAM OF OURS (table2.py): the table of the functions, and what each comes to.
-/
import Derived.Test.YtomofgclaiaikaaGreatResPA
namespace Go.Proofs.YtomofgclaiaikaaGreat.R
open Go Go.Bm Go.Proofs
set_option linter.unusedVariables false
set_option linter.unusedSimpArgs false
set_option maxRecDepth 100000

/- (*bailment/types.checker).node -/
noncomputable def r55q (rf : T.RF) (rb : T.RB) (d1 : XP × List XU) (d2 : List Int) (d3 : XL) (d4 : XN) : Option ((XP × List XU) × List Int × Int × Int) :=
  bif d4.1 == 28 then
    some (d1, d2, 0, 0)
  else
  bif d4.1 == 3 then
    (c56 rf d4 d1.1).bind fun (y1 : XN × Int) =>
    bif decide (y1.2 < 0) then
      some (d1, d2, 0, 8)
    else
    bif inb y1.2 d1.1.length then
      (nth d1.1 y1.2.toNat).bind fun (x2 : List UInt8 × Int) =>
      some (d1, d2, x2.2, 0)
    else
      none
  else
  bif d4.1 == 27 then
    (c58 rf d4 d1.2).bind fun (y3 : XN × Int) =>
    (c60 rf d2 d3 y3.1).bind fun (y4 : List Int × List Int) =>
    bif decide (y3.2 < 0) then
      some (d1, y4.1, 0, 14)
    else
    bif inb y3.2 d1.2.length then
      (nth d1.2 y3.2.toNat).bind fun (x5 : XU) =>
      bif (((x5.2.2.1.length : Nat) : Int)) != (((y4.2.length : Nat) : Int)) then
        some (d1, y4.1, 0, 14)
      else
      bif inb y3.2 d1.2.length then
        (nth d1.2 y3.2.toNat).bind fun (x6 : XU) =>
        (k62 rb y4.2 x6.2.2.1 (((x6.2.2.1.length : Nat) : Int)) 0).bind fun (z7 : (List Int × Int × Int) ⊕ (List Int)) =>
        match z7 with
        | .inl u8 =>
          some (d1, y4.1, u8.2)
        | .inr w9 =>
          bif inb y3.2 d1.2.length then
            (nth d1.2 y3.2.toNat).bind fun (x10 : XU) =>
            some (d1, y4.1, x10.2.2.2.2.1, 0)
          else
            none
      else
        none
    else
      none
  else
  bif d4.1 == 26 then
    bif inb d4.2.1 d2.length then
      (nth d2 d4.2.1.toNat).bind fun (x11 : Int) =>
      bif x11 != 1 then
        some (d1, d2, 0, 10)
      else
      bif inb d4.2.2.1 d2.length then
        (nth d2 d4.2.2.1.toNat).bind fun (x12 : Int) =>
        bif inb d4.2.2.2.1 d2.length then
          (nth d2 d4.2.2.2.1.toNat).bind fun (x13 : Int) =>
          bif x12 != x13 then
            some (d1, d2, 0, 10)
          else
          bif inb d4.2.2.1 d2.length then
            (nth d2 d4.2.2.1.toNat).bind fun (x14 : Int) =>
            some (d1, d2, x14, 0)
          else
            none
        else
          none
      else
        none
    else
      none
  else
    agN 1 (
      (c62 rf).bind fun (y15 : Int × Int × Int × Int × Int × Int × Int × Int × Int × Int × Int × Int × Int × Int × Int × Int × Int × Int × Int × Int × Int × Int × Int × Int × Int × Int × Int × Int × Int × Int × Int × Int × Int × Int × Int × Int × Int × Int × Int × Int × Int × Int × Int × Int × Int × Int × Int × Int × Int × Int × Int × Int) =>
      bif inb d4.1 26 then
        (nth [(y15.1, y15.2.1), (y15.2.2.1, y15.2.2.2.1), (y15.2.2.2.2.1, y15.2.2.2.2.2.1), (y15.2.2.2.2.2.2.1, y15.2.2.2.2.2.2.2.1), (y15.2.2.2.2.2.2.2.2.1, y15.2.2.2.2.2.2.2.2.2.1), (y15.2.2.2.2.2.2.2.2.2.2.1, y15.2.2.2.2.2.2.2.2.2.2.2.1), (y15.2.2.2.2.2.2.2.2.2.2.2.2.1, y15.2.2.2.2.2.2.2.2.2.2.2.2.2.1), (y15.2.2.2.2.2.2.2.2.2.2.2.2.2.2.1, y15.2.2.2.2.2.2.2.2.2.2.2.2.2.2.2.1), (y15.2.2.2.2.2.2.2.2.2.2.2.2.2.2.2.2.1, y15.2.2.2.2.2.2.2.2.2.2.2.2.2.2.2.2.2.1), (y15.2.2.2.2.2.2.2.2.2.2.2.2.2.2.2.2.2.2.1, y15.2.2.2.2.2.2.2.2.2.2.2.2.2.2.2.2.2.2.2.1), (y15.2.2.2.2.2.2.2.2.2.2.2.2.2.2.2.2.2.2.2.2.1, y15.2.2.2.2.2.2.2.2.2.2.2.2.2.2.2.2.2.2.2.2.2.1), (y15.2.2.2.2.2.2.2.2.2.2.2.2.2.2.2.2.2.2.2.2.2.2.1, y15.2.2.2.2.2.2.2.2.2.2.2.2.2.2.2.2.2.2.2.2.2.2.2.1), (y15.2.2.2.2.2.2.2.2.2.2.2.2.2.2.2.2.2.2.2.2.2.2.2.2.1, y15.2.2.2.2.2.2.2.2.2.2.2.2.2.2.2.2.2.2.2.2.2.2.2.2.2.1), (y15.2.2.2.2.2.2.2.2.2.2.2.2.2.2.2.2.2.2.2.2.2.2.2.2.2.2.1, y15.2.2.2.2.2.2.2.2.2.2.2.2.2.2.2.2.2.2.2.2.2.2.2.2.2.2.2.1), (y15.2.2.2.2.2.2.2.2.2.2.2.2.2.2.2.2.2.2.2.2.2.2.2.2.2.2.2.2.1, y15.2.2.2.2.2.2.2.2.2.2.2.2.2.2.2.2.2.2.2.2.2.2.2.2.2.2.2.2.2.1), (y15.2.2.2.2.2.2.2.2.2.2.2.2.2.2.2.2.2.2.2.2.2.2.2.2.2.2.2.2.2.2.1, y15.2.2.2.2.2.2.2.2.2.2.2.2.2.2.2.2.2.2.2.2.2.2.2.2.2.2.2.2.2.2.2.1), (y15.2.2.2.2.2.2.2.2.2.2.2.2.2.2.2.2.2.2.2.2.2.2.2.2.2.2.2.2.2.2.2.2.1, y15.2.2.2.2.2.2.2.2.2.2.2.2.2.2.2.2.2.2.2.2.2.2.2.2.2.2.2.2.2.2.2.2.2.1), (y15.2.2.2.2.2.2.2.2.2.2.2.2.2.2.2.2.2.2.2.2.2.2.2.2.2.2.2.2.2.2.2.2.2.2.1, y15.2.2.2.2.2.2.2.2.2.2.2.2.2.2.2.2.2.2.2.2.2.2.2.2.2.2.2.2.2.2.2.2.2.2.2.1), (y15.2.2.2.2.2.2.2.2.2.2.2.2.2.2.2.2.2.2.2.2.2.2.2.2.2.2.2.2.2.2.2.2.2.2.2.2.1, y15.2.2.2.2.2.2.2.2.2.2.2.2.2.2.2.2.2.2.2.2.2.2.2.2.2.2.2.2.2.2.2.2.2.2.2.2.2.1), (y15.2.2.2.2.2.2.2.2.2.2.2.2.2.2.2.2.2.2.2.2.2.2.2.2.2.2.2.2.2.2.2.2.2.2.2.2.2.2.1, y15.2.2.2.2.2.2.2.2.2.2.2.2.2.2.2.2.2.2.2.2.2.2.2.2.2.2.2.2.2.2.2.2.2.2.2.2.2.2.2.1), (y15.2.2.2.2.2.2.2.2.2.2.2.2.2.2.2.2.2.2.2.2.2.2.2.2.2.2.2.2.2.2.2.2.2.2.2.2.2.2.2.2.1, y15.2.2.2.2.2.2.2.2.2.2.2.2.2.2.2.2.2.2.2.2.2.2.2.2.2.2.2.2.2.2.2.2.2.2.2.2.2.2.2.2.2.1), (y15.2.2.2.2.2.2.2.2.2.2.2.2.2.2.2.2.2.2.2.2.2.2.2.2.2.2.2.2.2.2.2.2.2.2.2.2.2.2.2.2.2.2.1, y15.2.2.2.2.2.2.2.2.2.2.2.2.2.2.2.2.2.2.2.2.2.2.2.2.2.2.2.2.2.2.2.2.2.2.2.2.2.2.2.2.2.2.2.1), (y15.2.2.2.2.2.2.2.2.2.2.2.2.2.2.2.2.2.2.2.2.2.2.2.2.2.2.2.2.2.2.2.2.2.2.2.2.2.2.2.2.2.2.2.2.1, y15.2.2.2.2.2.2.2.2.2.2.2.2.2.2.2.2.2.2.2.2.2.2.2.2.2.2.2.2.2.2.2.2.2.2.2.2.2.2.2.2.2.2.2.2.2.1), (y15.2.2.2.2.2.2.2.2.2.2.2.2.2.2.2.2.2.2.2.2.2.2.2.2.2.2.2.2.2.2.2.2.2.2.2.2.2.2.2.2.2.2.2.2.2.2.1, y15.2.2.2.2.2.2.2.2.2.2.2.2.2.2.2.2.2.2.2.2.2.2.2.2.2.2.2.2.2.2.2.2.2.2.2.2.2.2.2.2.2.2.2.2.2.2.2.1), (y15.2.2.2.2.2.2.2.2.2.2.2.2.2.2.2.2.2.2.2.2.2.2.2.2.2.2.2.2.2.2.2.2.2.2.2.2.2.2.2.2.2.2.2.2.2.2.2.2.1, y15.2.2.2.2.2.2.2.2.2.2.2.2.2.2.2.2.2.2.2.2.2.2.2.2.2.2.2.2.2.2.2.2.2.2.2.2.2.2.2.2.2.2.2.2.2.2.2.2.2.1), y15.2.2.2.2.2.2.2.2.2.2.2.2.2.2.2.2.2.2.2.2.2.2.2.2.2.2.2.2.2.2.2.2.2.2.2.2.2.2.2.2.2.2.2.2.2.2.2.2.2.2] d4.1.toNat).bind fun (x16 : Int × Int) =>
        (k63 rb d2 d4 x16 0).bind fun (z17 : List Int × XN × (Int × Int) × Int × Int) =>
        some (d1, z17.1, z17.2.2.2)
      else
        none
    )
noncomputable def r55 (rf : T.RF) (rb : T.RB) (d1 : XP × List XU) (d2 : List Int) (d3 : XL) (d4 : XN) : Option ((XP × List XU) × List Int × Int × Int) :=
  bif d4.1 == 28 then
    some (d1, d2, 0, 0)
  else
  bif d4.1 == 3 then
    (c56 rf d4 d1.1).bind fun (y1 : XN × Int) =>
    bif decide (y1.2 < 0) then
      some (d1, d2, 0, 8)
    else
    bif inb y1.2 d1.1.length then
      (nth d1.1 y1.2.toNat).bind fun (x2 : List UInt8 × Int) =>
      some (d1, d2, x2.2, 0)
    else
      none
  else
  bif d4.1 == 27 then
    (c58 rf d4 d1.2).bind fun (y3 : XN × Int) =>
    (c60 rf d2 d3 y3.1).bind fun (y4 : List Int × List Int) =>
    bif decide (y3.2 < 0) then
      some (d1, y4.1, 0, 14)
    else
    bif inb y3.2 d1.2.length then
      (nth d1.2 y3.2.toNat).bind fun (x5 : XU) =>
      bif (((x5.2.2.1.length : Nat) : Int)) != (((y4.2.length : Nat) : Int)) then
        some (d1, y4.1, 0, 14)
      else
      bif inb y3.2 d1.2.length then
        (nth d1.2 y3.2.toNat).bind fun (x6 : XU) =>
        (k62 rb y4.2 x6.2.2.1 (((x6.2.2.1.length : Nat) : Int)) 0).bind fun (z7 : (List Int × Int × Int) ⊕ (List Int)) =>
        match z7 with
        | .inl u8 =>
          some (d1, y4.1, u8.2)
        | .inr w9 =>
          bif inb y3.2 d1.2.length then
            (nth d1.2 y3.2.toNat).bind fun (x10 : XU) =>
            some (d1, y4.1, x10.2.2.2.2.1, 0)
          else
            none
      else
        none
    else
      none
  else
  bif d4.1 == 26 then
    bif inb d4.2.1 d2.length then
      (nth d2 d4.2.1.toNat).bind fun (x11 : Int) =>
      bif x11 != 1 then
        some (d1, d2, 0, 10)
      else
      bif inb d4.2.2.1 d2.length then
        (nth d2 d4.2.2.1.toNat).bind fun (x12 : Int) =>
        bif inb d4.2.2.2.1 d2.length then
          (nth d2 d4.2.2.2.1.toNat).bind fun (x13 : Int) =>
          bif x12 != x13 then
            some (d1, d2, 0, 10)
          else
          bif inb d4.2.2.1 d2.length then
            (nth d2 d4.2.2.1.toNat).bind fun (x14 : Int) =>
            some (d1, d2, x14, 0)
          else
            none
        else
          none
      else
        none
    else
      none
  else
    (c62 rf).bind fun (y15 : Int × Int × Int × Int × Int × Int × Int × Int × Int × Int × Int × Int × Int × Int × Int × Int × Int × Int × Int × Int × Int × Int × Int × Int × Int × Int × Int × Int × Int × Int × Int × Int × Int × Int × Int × Int × Int × Int × Int × Int × Int × Int × Int × Int × Int × Int × Int × Int × Int × Int × Int × Int) =>
    bif inb d4.1 26 then
      (nth [(y15.1, y15.2.1), (y15.2.2.1, y15.2.2.2.1), (y15.2.2.2.2.1, y15.2.2.2.2.2.1), (y15.2.2.2.2.2.2.1, y15.2.2.2.2.2.2.2.1), (y15.2.2.2.2.2.2.2.2.1, y15.2.2.2.2.2.2.2.2.2.1), (y15.2.2.2.2.2.2.2.2.2.2.1, y15.2.2.2.2.2.2.2.2.2.2.2.1), (y15.2.2.2.2.2.2.2.2.2.2.2.2.1, y15.2.2.2.2.2.2.2.2.2.2.2.2.2.1), (y15.2.2.2.2.2.2.2.2.2.2.2.2.2.2.1, y15.2.2.2.2.2.2.2.2.2.2.2.2.2.2.2.1), (y15.2.2.2.2.2.2.2.2.2.2.2.2.2.2.2.2.1, y15.2.2.2.2.2.2.2.2.2.2.2.2.2.2.2.2.2.1), (y15.2.2.2.2.2.2.2.2.2.2.2.2.2.2.2.2.2.2.1, y15.2.2.2.2.2.2.2.2.2.2.2.2.2.2.2.2.2.2.2.1), (y15.2.2.2.2.2.2.2.2.2.2.2.2.2.2.2.2.2.2.2.2.1, y15.2.2.2.2.2.2.2.2.2.2.2.2.2.2.2.2.2.2.2.2.2.1), (y15.2.2.2.2.2.2.2.2.2.2.2.2.2.2.2.2.2.2.2.2.2.2.1, y15.2.2.2.2.2.2.2.2.2.2.2.2.2.2.2.2.2.2.2.2.2.2.2.1), (y15.2.2.2.2.2.2.2.2.2.2.2.2.2.2.2.2.2.2.2.2.2.2.2.2.1, y15.2.2.2.2.2.2.2.2.2.2.2.2.2.2.2.2.2.2.2.2.2.2.2.2.2.1), (y15.2.2.2.2.2.2.2.2.2.2.2.2.2.2.2.2.2.2.2.2.2.2.2.2.2.2.1, y15.2.2.2.2.2.2.2.2.2.2.2.2.2.2.2.2.2.2.2.2.2.2.2.2.2.2.2.1), (y15.2.2.2.2.2.2.2.2.2.2.2.2.2.2.2.2.2.2.2.2.2.2.2.2.2.2.2.2.1, y15.2.2.2.2.2.2.2.2.2.2.2.2.2.2.2.2.2.2.2.2.2.2.2.2.2.2.2.2.2.1), (y15.2.2.2.2.2.2.2.2.2.2.2.2.2.2.2.2.2.2.2.2.2.2.2.2.2.2.2.2.2.2.1, y15.2.2.2.2.2.2.2.2.2.2.2.2.2.2.2.2.2.2.2.2.2.2.2.2.2.2.2.2.2.2.2.1), (y15.2.2.2.2.2.2.2.2.2.2.2.2.2.2.2.2.2.2.2.2.2.2.2.2.2.2.2.2.2.2.2.2.1, y15.2.2.2.2.2.2.2.2.2.2.2.2.2.2.2.2.2.2.2.2.2.2.2.2.2.2.2.2.2.2.2.2.2.1), (y15.2.2.2.2.2.2.2.2.2.2.2.2.2.2.2.2.2.2.2.2.2.2.2.2.2.2.2.2.2.2.2.2.2.2.1, y15.2.2.2.2.2.2.2.2.2.2.2.2.2.2.2.2.2.2.2.2.2.2.2.2.2.2.2.2.2.2.2.2.2.2.2.1), (y15.2.2.2.2.2.2.2.2.2.2.2.2.2.2.2.2.2.2.2.2.2.2.2.2.2.2.2.2.2.2.2.2.2.2.2.2.1, y15.2.2.2.2.2.2.2.2.2.2.2.2.2.2.2.2.2.2.2.2.2.2.2.2.2.2.2.2.2.2.2.2.2.2.2.2.2.1), (y15.2.2.2.2.2.2.2.2.2.2.2.2.2.2.2.2.2.2.2.2.2.2.2.2.2.2.2.2.2.2.2.2.2.2.2.2.2.2.1, y15.2.2.2.2.2.2.2.2.2.2.2.2.2.2.2.2.2.2.2.2.2.2.2.2.2.2.2.2.2.2.2.2.2.2.2.2.2.2.2.1), (y15.2.2.2.2.2.2.2.2.2.2.2.2.2.2.2.2.2.2.2.2.2.2.2.2.2.2.2.2.2.2.2.2.2.2.2.2.2.2.2.2.1, y15.2.2.2.2.2.2.2.2.2.2.2.2.2.2.2.2.2.2.2.2.2.2.2.2.2.2.2.2.2.2.2.2.2.2.2.2.2.2.2.2.2.1), (y15.2.2.2.2.2.2.2.2.2.2.2.2.2.2.2.2.2.2.2.2.2.2.2.2.2.2.2.2.2.2.2.2.2.2.2.2.2.2.2.2.2.2.1, y15.2.2.2.2.2.2.2.2.2.2.2.2.2.2.2.2.2.2.2.2.2.2.2.2.2.2.2.2.2.2.2.2.2.2.2.2.2.2.2.2.2.2.2.1), (y15.2.2.2.2.2.2.2.2.2.2.2.2.2.2.2.2.2.2.2.2.2.2.2.2.2.2.2.2.2.2.2.2.2.2.2.2.2.2.2.2.2.2.2.2.1, y15.2.2.2.2.2.2.2.2.2.2.2.2.2.2.2.2.2.2.2.2.2.2.2.2.2.2.2.2.2.2.2.2.2.2.2.2.2.2.2.2.2.2.2.2.2.1), (y15.2.2.2.2.2.2.2.2.2.2.2.2.2.2.2.2.2.2.2.2.2.2.2.2.2.2.2.2.2.2.2.2.2.2.2.2.2.2.2.2.2.2.2.2.2.2.1, y15.2.2.2.2.2.2.2.2.2.2.2.2.2.2.2.2.2.2.2.2.2.2.2.2.2.2.2.2.2.2.2.2.2.2.2.2.2.2.2.2.2.2.2.2.2.2.2.1), (y15.2.2.2.2.2.2.2.2.2.2.2.2.2.2.2.2.2.2.2.2.2.2.2.2.2.2.2.2.2.2.2.2.2.2.2.2.2.2.2.2.2.2.2.2.2.2.2.2.1, y15.2.2.2.2.2.2.2.2.2.2.2.2.2.2.2.2.2.2.2.2.2.2.2.2.2.2.2.2.2.2.2.2.2.2.2.2.2.2.2.2.2.2.2.2.2.2.2.2.2.1), y15.2.2.2.2.2.2.2.2.2.2.2.2.2.2.2.2.2.2.2.2.2.2.2.2.2.2.2.2.2.2.2.2.2.2.2.2.2.2.2.2.2.2.2.2.2.2.2.2.2.2] d4.1.toNat).bind fun (x16 : Int × Int) =>
      (k63 rb d2 d4 x16 0).bind fun (z17 : List Int × XN × (Int × Int) × Int × Int) =>
      some (d1, z17.1, z17.2.2.2)
    else
      none
theorem er55 (rf : T.RF) (rb : T.RB) (d1 : XP × List XU) (d2 : List Int) (d3 : XL) (d4 : XN) : T.stepF rf rb 55 (d1, d2, d3, d4) = r55q rf rb d1 d2 d3 d4 := by kernel_rfl
theorem sr55 (rf : T.RF) (rb : T.RB) (d1 : XP × List XU) (d2 : List Int) (d3 : XL) (d4 : XN) : r55q rf rb d1 d2 d3 d4 = r55 rf rb d1 d2 d3 d4 := by
  unfold r55q r55; simp only [agN_eq, agree_self, agree_swap]
theorem or55 {d1 : XP × List XU} {d2 : List Int} {d3 : XL} {d4 : XN} {y : ((XP × List XU) × List Int × Int × Int)} (h : r55 T.rf T.rb d1 d2 d3 d4 = some y) : c55 T.rf d1 d2 d3 d4 = some y := T.rf_of (f := 55) (d := (d1, d2, d3, d4)) (((er55 T.rf T.rb d1 d2 d3 d4).trans (sr55 T.rf T.rb d1 d2 d3 d4)).trans h)

/- types.Of loop 0 -/
noncomputable def b66 (rf : T.RF) (rb : T.RB) (d1 : XP × List XU) (d2 : List Int) (d3 : XL) (d4 : XL) (d5 : Int) (d6 : Int) : Option (((XP × List XU) × Int × Int) ⊕ ((XP × List XU) × List Int)) :=
  bif decide (d6 < d5) then
    bif inb d6 d4.length then
      (nth d4 d6.toNat).bind fun (x1 : XN) =>
      (c55 rf d1 d2 d3 x1).bind fun (y2 : (XP × List XU) × List Int × Int × Int) =>
      bif y2.2.2.2 != 0 then
        some (.inl (y2.1, 0, y2.2.2.2))
      else
      bif (Nat.ble (y2.2.1.length + 1) most) && true then
        k66 rb y2.1 (y2.2.1 ++ [y2.2.2.1]) d3 d4 d5 (IntKind.i64.wrap (d6 + 1))
      else
        none
    else
      none
  else
    some (.inr (d1, d2))
theorem eb66 (rf : T.RF) (rb : T.RB) (d1 : XP × List XU) (d2 : List Int) (d3 : XL) (d4 : XL) (d5 : Int) (d6 : Int) : T.stepB rf rb 66 (d1, d2, d3, d4, d5, d6) = b66 rf rb d1 d2 d3 d4 d5 d6 := by kernel_rfl
theorem ob66 {d1 : XP × List XU} {d2 : List Int} {d3 : XL} {d4 : XL} {d5 : Int} {d6 : Int} {y : (((XP × List XU) × Int × Int) ⊕ ((XP × List XU) × List Int))} (h : b66 T.rf T.rb d1 d2 d3 d4 d5 d6 = some y) : k66 T.rb d1 d2 d3 d4 d5 d6 = some y := T.rb_of (κ := 66) (d := (d1, d2, d3, d4, d5, d6)) ((eb66 T.rf T.rb d1 d2 d3 d4 d5 d6).trans h)

/- types.Of -/
noncomputable def r44 (rf : T.RF) (rb : T.RB) (d1 : XL) (d2 : XP) (d3 : List XU) : Option (Int × Int) :=
  (c45 rf d1).bind fun (y1 : Bool) =>
  bif !y1 then
    some (0, 1)
  else
    (c53 rf d1 (IntKind.i64.wrap ((((d1.length : Nat) : Int)) - 1))).bind fun (y2 : XL) =>
    (k66 rb (d2, d3) [] y2 y2 (((y2.length : Nat) : Int)) 0).bind fun (z3 : ((XP × List XU) × Int × Int) ⊕ ((XP × List XU) × List Int)) =>
    match z3 with
    | .inl u4 =>
      some u4.2
    | .inr w5 =>
      bif inb (IntKind.i64.wrap ((((w5.2.length : Nat) : Int)) - 1)) w5.2.length then
        (nth w5.2 (IntKind.i64.wrap ((((w5.2.length : Nat) : Int)) - 1)).toNat).bind fun (x6 : Int) =>
        some (x6, 0)
      else
        none
theorem er44 (rf : T.RF) (rb : T.RB) (d1 : XL) (d2 : XP) (d3 : List XU) : T.stepF rf rb 44 (d1, d2, d3) = r44 rf rb d1 d2 d3 := by kernel_rfl
theorem or44 {d1 : XL} {d2 : XP} {d3 : List XU} {y : (Int × Int)} (h : r44 T.rf T.rb d1 d2 d3 = some y) : c44 T.rf d1 d2 d3 = some y := T.rf_of (f := 44) (d := (d1, d2, d3)) ((er44 T.rf T.rb d1 d2 d3).trans h)

/- (*bailment/bailmentref06.reader).ok -/
noncomputable def r65 (rf : T.RF) (rb : T.RB) (d1 : Int) (d2 : Int) (d3 : Int) (d4 : List (Int × List UInt8 × Int)) : Option (Int × Int × Int × List (Int × List UInt8 × Int) × Bool) :=
  some (d1, d2, d3, d4, d2 == 0)
theorem er65 (rf : T.RF) (rb : T.RB) (d1 : Int) (d2 : Int) (d3 : Int) (d4 : List (Int × List UInt8 × Int)) : T.stepF rf rb 65 (d1, d2, d3, d4) = r65 rf rb d1 d2 d3 d4 := by kernel_rfl
theorem or65 {d1 : Int} {d2 : Int} {d3 : Int} {d4 : List (Int × List UInt8 × Int)} {y : (Int × Int × Int × List (Int × List UInt8 × Int) × Bool)} (h : r65 T.rf T.rb d1 d2 d3 d4 = some y) : c65 T.rf d1 d2 d3 d4 = some y := T.rf_of (f := 65) (d := (d1, d2, d3, d4)) ((er65 T.rf T.rb d1 d2 d3 d4).trans h)

/- (*bailment/bailmentref06.reader).is -/
noncomputable def r64q (rf : T.RF) (rb : T.RB) (d1 : Int) (d2 : Int) (d3 : Int) (d4 : List (Int × List UInt8 × Int)) (d5 : List UInt8) : Option (Int × Int × Int × List (Int × List UInt8 × Int) × Bool) :=
  (c65 rf d1 d2 d3 d4).bind fun (y1 : Int × Int × Int × List (Int × List UInt8 × Int) × Bool) =>
  bif !y1.2.2.2.2 then
    agN 1 (
      some (y1.1, y1.2.1, y1.2.2.1, y1.2.2.2.1, false)
    )
  else
    agN 1 (
      bif decide (y1.1 ≥ (((y1.2.2.2.1.length : Nat) : Int))) then
        some (y1.1, y1.2.1, y1.2.2.1, y1.2.2.2.1, false)
      else
      bif inb y1.1 y1.2.2.2.1.length then
        (nth y1.2.2.2.1 y1.1.toNat).bind fun (x2 : Int × List UInt8 × Int) =>
        bif x2.1 == 4 then
          some (y1.1, y1.2.1, y1.2.2.1, y1.2.2.2.1, x2.2.1 == d5)
        else
        bif x2.1 == 3 then
          some (y1.1, y1.2.1, y1.2.2.1, y1.2.2.2.1, x2.2.1 == d5)
        else
          some (y1.1, y1.2.1, y1.2.2.1, y1.2.2.2.1, false)
      else
        none
    )
noncomputable def r64 (rf : T.RF) (rb : T.RB) (d1 : Int) (d2 : Int) (d3 : Int) (d4 : List (Int × List UInt8 × Int)) (d5 : List UInt8) : Option (Int × Int × Int × List (Int × List UInt8 × Int) × Bool) :=
  (c65 rf d1 d2 d3 d4).bind fun (y1 : Int × Int × Int × List (Int × List UInt8 × Int) × Bool) =>
  bif !y1.2.2.2.2 then
    some (y1.1, y1.2.1, y1.2.2.1, y1.2.2.2.1, false)
  else
  bif decide (y1.1 ≥ (((y1.2.2.2.1.length : Nat) : Int))) then
    some (y1.1, y1.2.1, y1.2.2.1, y1.2.2.2.1, false)
  else
  bif inb y1.1 y1.2.2.2.1.length then
    (nth y1.2.2.2.1 y1.1.toNat).bind fun (x2 : Int × List UInt8 × Int) =>
    bif x2.1 == 4 then
      some (y1.1, y1.2.1, y1.2.2.1, y1.2.2.2.1, x2.2.1 == d5)
    else
    bif x2.1 == 3 then
      some (y1.1, y1.2.1, y1.2.2.1, y1.2.2.2.1, x2.2.1 == d5)
    else
      some (y1.1, y1.2.1, y1.2.2.1, y1.2.2.2.1, false)
  else
    none
theorem er64 (rf : T.RF) (rb : T.RB) (d1 : Int) (d2 : Int) (d3 : Int) (d4 : List (Int × List UInt8 × Int)) (d5 : List UInt8) : T.stepF rf rb 64 (d1, d2, d3, d4, d5) = r64q rf rb d1 d2 d3 d4 d5 := by kernel_rfl
theorem sr64 (rf : T.RF) (rb : T.RB) (d1 : Int) (d2 : Int) (d3 : Int) (d4 : List (Int × List UInt8 × Int)) (d5 : List UInt8) : r64q rf rb d1 d2 d3 d4 d5 = r64 rf rb d1 d2 d3 d4 d5 := by
  unfold r64q r64; simp only [agN_eq, agree_self, agree_swap]
theorem or64 {d1 : Int} {d2 : Int} {d3 : Int} {d4 : List (Int × List UInt8 × Int)} {d5 : List UInt8} {y : (Int × Int × Int × List (Int × List UInt8 × Int) × Bool)} (h : r64 T.rf T.rb d1 d2 d3 d4 d5 = some y) : c64 T.rf d1 d2 d3 d4 d5 = some y := T.rf_of (f := 64) (d := (d1, d2, d3, d4, d5)) (((er64 T.rf T.rb d1 d2 d3 d4 d5).trans (sr64 T.rf T.rb d1 d2 d3 d4 d5)).trans h)

/- (*bailment/bailmentref06.reader).fail -/
noncomputable def r67q (rf : T.RF) (rb : T.RB) (d1 : Int) (d2 : Int) (d3 : Int) (d4 : List (Int × List UInt8 × Int)) (d5 : Int) : Option (List (Int × List UInt8 × Int) × Int × Int × Int) :=
  (c65 rf d1 d2 d3 d4).bind fun (y1 : Int × Int × Int × List (Int × List UInt8 × Int) × Bool) =>
  bif y1.2.2.2.2 then
    agN 1 (
      (c26 rf y1.2.2.2.1 y1.1).bind fun (y2 : Int) =>
      some (y1.2.2.2.1, y1.1, d5, y2)
    )
  else
    some (y1.2.2.2.1, y1.1, y1.2.1, y1.2.2.1)
noncomputable def r67 (rf : T.RF) (rb : T.RB) (d1 : Int) (d2 : Int) (d3 : Int) (d4 : List (Int × List UInt8 × Int)) (d5 : Int) : Option (List (Int × List UInt8 × Int) × Int × Int × Int) :=
  (c65 rf d1 d2 d3 d4).bind fun (y1 : Int × Int × Int × List (Int × List UInt8 × Int) × Bool) =>
  bif y1.2.2.2.2 then
    (c26 rf y1.2.2.2.1 y1.1).bind fun (y2 : Int) =>
    some (y1.2.2.2.1, y1.1, d5, y2)
  else
    some (y1.2.2.2.1, y1.1, y1.2.1, y1.2.2.1)
theorem er67 (rf : T.RF) (rb : T.RB) (d1 : Int) (d2 : Int) (d3 : Int) (d4 : List (Int × List UInt8 × Int)) (d5 : Int) : T.stepF rf rb 67 (d1, d2, d3, d4, d5) = r67q rf rb d1 d2 d3 d4 d5 := by kernel_rfl
theorem sr67 (rf : T.RF) (rb : T.RB) (d1 : Int) (d2 : Int) (d3 : Int) (d4 : List (Int × List UInt8 × Int)) (d5 : Int) : r67q rf rb d1 d2 d3 d4 d5 = r67 rf rb d1 d2 d3 d4 d5 := by
  unfold r67q r67; simp only [agN_eq, agree_self, agree_swap]
theorem or67 {d1 : Int} {d2 : Int} {d3 : Int} {d4 : List (Int × List UInt8 × Int)} {d5 : Int} {y : (List (Int × List UInt8 × Int) × Int × Int × Int)} (h : r67 T.rf T.rb d1 d2 d3 d4 d5 = some y) : c67 T.rf d1 d2 d3 d4 d5 = some y := T.rf_of (f := 67) (d := (d1, d2, d3, d4, d5)) (((er67 T.rf T.rb d1 d2 d3 d4 d5).trans (sr67 T.rf T.rb d1 d2 d3 d4 d5)).trans h)

/- (*bailment/bailmentref06.reader).room -/
noncomputable def r66 (rf : T.RF) (rb : T.RB) (d1 : Int) (d2 : Int) (d3 : Int) (d4 : List (Int × List UInt8 × Int)) (d5 : Int) : Option (List (Int × List UInt8 × Int) × Int × Int × Int) :=
  bif decide (d5 ≥ 200) then
    (c67 rf d1 d2 d3 d4 7).bind fun (y1 : List (Int × List UInt8 × Int) × Int × Int × Int) =>
    some y1
  else
    some (d4, d1, d2, d3)
theorem er66 (rf : T.RF) (rb : T.RB) (d1 : Int) (d2 : Int) (d3 : Int) (d4 : List (Int × List UInt8 × Int)) (d5 : Int) : T.stepF rf rb 66 (d1, d2, d3, d4, d5) = r66 rf rb d1 d2 d3 d4 d5 := by kernel_rfl
theorem or66 {d1 : Int} {d2 : Int} {d3 : Int} {d4 : List (Int × List UInt8 × Int)} {d5 : Int} {y : (List (Int × List UInt8 × Int) × Int × Int × Int)} (h : r66 T.rf T.rb d1 d2 d3 d4 d5 = some y) : c66 T.rf d1 d2 d3 d4 d5 = some y := T.rf_of (f := 66) (d := (d1, d2, d3, d4, d5)) ((er66 T.rf T.rb d1 d2 d3 d4 d5).trans h)

/- (*bailment/bailmentref06.reader).ok -/
noncomputable def r71 (rf : T.RF) (rb : T.RB) (d1 : List (Int × List UInt8 × Int) × Int × Int × Int) : Option ((List (Int × List UInt8 × Int) × Int × Int × Int) × Bool) :=
  some (d1, d1.2.2.1 == 0)
theorem er71 (rf : T.RF) (rb : T.RB) (d1 : List (Int × List UInt8 × Int) × Int × Int × Int) : T.stepF rf rb 71 d1 = r71 rf rb d1 := by kernel_rfl
theorem or71 {d1 : List (Int × List UInt8 × Int) × Int × Int × Int} {y : ((List (Int × List UInt8 × Int) × Int × Int × Int) × Bool)} (h : r71 T.rf T.rb d1 = some y) : c71 T.rf d1 = some y := T.rf_of (f := 71) (d := d1) ((er71 T.rf T.rb d1).trans h)

/- (*bailment/bailmentref06.reader).is -/
noncomputable def r70q (rf : T.RF) (rb : T.RB) (d1 : List (Int × List UInt8 × Int) × Int × Int × Int) (d2 : List UInt8) : Option ((List (Int × List UInt8 × Int) × Int × Int × Int) × Bool) :=
  (c71 rf d1).bind fun (y1 : (List (Int × List UInt8 × Int) × Int × Int × Int) × Bool) =>
  bif !y1.2 then
    agN 1 (
      some (y1.1, false)
    )
  else
    agN 1 (
      bif decide (y1.1.2.1 ≥ (((y1.1.1.length : Nat) : Int))) then
        some (y1.1, false)
      else
      bif inb y1.1.2.1 y1.1.1.length then
        (nth y1.1.1 y1.1.2.1.toNat).bind fun (x2 : Int × List UInt8 × Int) =>
        bif x2.1 == 4 then
          some (y1.1, x2.2.1 == d2)
        else
        bif x2.1 == 3 then
          some (y1.1, x2.2.1 == d2)
        else
          some (y1.1, false)
      else
        none
    )
noncomputable def r70 (rf : T.RF) (rb : T.RB) (d1 : List (Int × List UInt8 × Int) × Int × Int × Int) (d2 : List UInt8) : Option ((List (Int × List UInt8 × Int) × Int × Int × Int) × Bool) :=
  (c71 rf d1).bind fun (y1 : (List (Int × List UInt8 × Int) × Int × Int × Int) × Bool) =>
  bif !y1.2 then
    some (y1.1, false)
  else
  bif decide (y1.1.2.1 ≥ (((y1.1.1.length : Nat) : Int))) then
    some (y1.1, false)
  else
  bif inb y1.1.2.1 y1.1.1.length then
    (nth y1.1.1 y1.1.2.1.toNat).bind fun (x2 : Int × List UInt8 × Int) =>
    bif x2.1 == 4 then
      some (y1.1, x2.2.1 == d2)
    else
    bif x2.1 == 3 then
      some (y1.1, x2.2.1 == d2)
    else
      some (y1.1, false)
  else
    none
theorem er70 (rf : T.RF) (rb : T.RB) (d1 : List (Int × List UInt8 × Int) × Int × Int × Int) (d2 : List UInt8) : T.stepF rf rb 70 (d1, d2) = r70q rf rb d1 d2 := by kernel_rfl
theorem sr70 (rf : T.RF) (rb : T.RB) (d1 : List (Int × List UInt8 × Int) × Int × Int × Int) (d2 : List UInt8) : r70q rf rb d1 d2 = r70 rf rb d1 d2 := by
  unfold r70q r70; simp only [agN_eq, agree_self, agree_swap]
theorem or70 {d1 : List (Int × List UInt8 × Int) × Int × Int × Int} {d2 : List UInt8} {y : ((List (Int × List UInt8 × Int) × Int × Int × Int) × Bool)} (h : r70 T.rf T.rb d1 d2 = some y) : c70 T.rf d1 d2 = some y := T.rf_of (f := 70) (d := (d1, d2)) (((er70 T.rf T.rb d1 d2).trans (sr70 T.rf T.rb d1 d2)).trans h)

/- (*bailment/bailmentref06.reader).take -/
noncomputable def r69 (rf : T.RF) (rb : T.RB) (d1 : List (Int × List UInt8 × Int) × Int × Int × Int) (d2 : List UInt8) : Option ((List (Int × List UInt8 × Int) × Int × Int × Int) × Bool) :=
  (c70 rf d1 d2).bind fun (y1 : (List (Int × List UInt8 × Int) × Int × Int × Int) × Bool) =>
  bif !y1.2 then
    some (y1.1, false)
  else
    some ((y1.1.1, IntKind.i64.wrap (y1.1.2.1 + 1), y1.1.2.2), true)
theorem er69 (rf : T.RF) (rb : T.RB) (d1 : List (Int × List UInt8 × Int) × Int × Int × Int) (d2 : List UInt8) : T.stepF rf rb 69 (d1, d2) = r69 rf rb d1 d2 := by kernel_rfl
theorem or69 {d1 : List (Int × List UInt8 × Int) × Int × Int × Int} {d2 : List UInt8} {y : ((List (Int × List UInt8 × Int) × Int × Int × Int) × Bool)} (h : r69 T.rf T.rb d1 d2 = some y) : c69 T.rf d1 d2 = some y := T.rf_of (f := 69) (d := (d1, d2)) ((er69 T.rf T.rb d1 d2).trans h)

/- (*bailment/bailmentref06.reader).named -/
noncomputable def r73q (rf : T.RF) (rb : T.RB) (d1 : List (Int × List UInt8 × Int) × Int × Int × Int) : Option ((List (Int × List UInt8 × Int) × Int × Int × Int) × Bool) :=
  (c71 rf d1).bind fun (y1 : (List (Int × List UInt8 × Int) × Int × Int × Int) × Bool) =>
  bif y1.2 then
    agN 1 (
      bif decide (y1.1.2.1 < (((y1.1.1.length : Nat) : Int))) then
        agN 1 (
          bif inb y1.1.2.1 y1.1.1.length then
            (nth y1.1.1 y1.1.2.1.toNat).bind fun (x2 : Int × List UInt8 × Int) =>
            some (y1.1, x2.1 == 1)
          else
            none
        )
      else
        agN 1 (
          some (y1.1, false)
        )
    )
  else
    agN 1 (
      agN 1 (
        some (y1.1, false)
      )
    )
noncomputable def r73 (rf : T.RF) (rb : T.RB) (d1 : List (Int × List UInt8 × Int) × Int × Int × Int) : Option ((List (Int × List UInt8 × Int) × Int × Int × Int) × Bool) :=
  (c71 rf d1).bind fun (y1 : (List (Int × List UInt8 × Int) × Int × Int × Int) × Bool) =>
  bif y1.2 then
    bif decide (y1.1.2.1 < (((y1.1.1.length : Nat) : Int))) then
      bif inb y1.1.2.1 y1.1.1.length then
        (nth y1.1.1 y1.1.2.1.toNat).bind fun (x2 : Int × List UInt8 × Int) =>
        some (y1.1, x2.1 == 1)
      else
        none
    else
      some (y1.1, false)
  else
    some (y1.1, false)
theorem er73 (rf : T.RF) (rb : T.RB) (d1 : List (Int × List UInt8 × Int) × Int × Int × Int) : T.stepF rf rb 73 d1 = r73q rf rb d1 := by kernel_rfl
theorem sr73 (rf : T.RF) (rb : T.RB) (d1 : List (Int × List UInt8 × Int) × Int × Int × Int) : r73q rf rb d1 = r73 rf rb d1 := by
  unfold r73q r73; simp only [agN_eq, agree_self, agree_swap]
theorem or73 {d1 : List (Int × List UInt8 × Int) × Int × Int × Int} {y : ((List (Int × List UInt8 × Int) × Int × Int × Int) × Bool)} (h : r73 T.rf T.rb d1 = some y) : c73 T.rf d1 = some y := T.rf_of (f := 73) (d := d1) (((er73 T.rf T.rb d1).trans (sr73 T.rf T.rb d1)).trans h)

/- (*bailment/bailmentref06.reader).fail -/
noncomputable def r74q (rf : T.RF) (rb : T.RB) (d1 : List (Int × List UInt8 × Int) × Int × Int × Int) (d2 : Int) : Option (List (Int × List UInt8 × Int) × Int × Int × Int) :=
  (c71 rf d1).bind fun (y1 : (List (Int × List UInt8 × Int) × Int × Int × Int) × Bool) =>
  bif y1.2 then
    agN 1 (
      (c26 rf y1.1.1 y1.1.2.1).bind fun (y2 : Int) =>
      some (y1.1.1, y1.1.2.1, d2, y2)
    )
  else
    some y1.1
noncomputable def r74 (rf : T.RF) (rb : T.RB) (d1 : List (Int × List UInt8 × Int) × Int × Int × Int) (d2 : Int) : Option (List (Int × List UInt8 × Int) × Int × Int × Int) :=
  (c71 rf d1).bind fun (y1 : (List (Int × List UInt8 × Int) × Int × Int × Int) × Bool) =>
  bif y1.2 then
    (c26 rf y1.1.1 y1.1.2.1).bind fun (y2 : Int) =>
    some (y1.1.1, y1.1.2.1, d2, y2)
  else
    some y1.1
theorem er74 (rf : T.RF) (rb : T.RB) (d1 : List (Int × List UInt8 × Int) × Int × Int × Int) (d2 : Int) : T.stepF rf rb 74 (d1, d2) = r74q rf rb d1 d2 := by kernel_rfl
theorem sr74 (rf : T.RF) (rb : T.RB) (d1 : List (Int × List UInt8 × Int) × Int × Int × Int) (d2 : Int) : r74q rf rb d1 d2 = r74 rf rb d1 d2 := by
  unfold r74q r74; simp only [agN_eq, agree_self, agree_swap]
theorem or74 {d1 : List (Int × List UInt8 × Int) × Int × Int × Int} {d2 : Int} {y : (List (Int × List UInt8 × Int) × Int × Int × Int)} (h : r74 T.rf T.rb d1 d2 = some y) : c74 T.rf d1 d2 = some y := T.rf_of (f := 74) (d := (d1, d2)) (((er74 T.rf T.rb d1 d2).trans (sr74 T.rf T.rb d1 d2)).trans h)

/- (*bailment/bailmentref06.reader).name -/
noncomputable def r72 (rf : T.RF) (rb : T.RB) (d1 : List (Int × List UInt8 × Int) × Int × Int × Int) : Option ((List (Int × List UInt8 × Int) × Int × Int × Int) × List UInt8) :=
  (c73 rf d1).bind fun (y1 : (List (Int × List UInt8 × Int) × Int × Int × Int) × Bool) =>
  bif !y1.2 then
    (c74 rf y1.1 5).bind fun (y2 : List (Int × List UInt8 × Int) × Int × Int × Int) =>
    some (y2, ([] : List UInt8))
  else
  bif inb (IntKind.i64.wrap ((IntKind.i64.wrap (y1.1.2.1 + 1)) - 1)) y1.1.1.length then
    (nth y1.1.1 (IntKind.i64.wrap ((IntKind.i64.wrap (y1.1.2.1 + 1)) - 1)).toNat).bind fun (x3 : Int × List UInt8 × Int) =>
    some ((y1.1.1, IntKind.i64.wrap (y1.1.2.1 + 1), y1.1.2.2), x3.2.1)
  else
    none
theorem er72 (rf : T.RF) (rb : T.RB) (d1 : List (Int × List UInt8 × Int) × Int × Int × Int) : T.stepF rf rb 72 d1 = r72 rf rb d1 := by kernel_rfl
theorem or72 {d1 : List (Int × List UInt8 × Int) × Int × Int × Int} {y : ((List (Int × List UInt8 × Int) × Int × Int × Int) × List UInt8)} (h : r72 T.rf T.rb d1 = some y) : c72 T.rf d1 = some y := T.rf_of (f := 72) (d := d1) ((er72 T.rf T.rb d1).trans h)

/- (*bailment/bailmentref06.reader).need -/
noncomputable def r76 (rf : T.RF) (rb : T.RB) (d1 : List (Int × List UInt8 × Int) × Int × Int × Int) (d2 : List UInt8) : Option (List (Int × List UInt8 × Int) × Int × Int × Int) :=
  (c69 rf d1 d2).bind fun (y1 : (List (Int × List UInt8 × Int) × Int × Int × Int) × Bool) =>
  bif !y1.2 then
    (c74 rf y1.1 5).bind fun (y2 : List (Int × List UInt8 × Int) × Int × Int × Int) =>
    some y2
  else
    some y1.1
theorem er76 (rf : T.RF) (rb : T.RB) (d1 : List (Int × List UInt8 × Int) × Int × Int × Int) (d2 : List UInt8) : T.stepF rf rb 76 (d1, d2) = r76 rf rb d1 d2 := by kernel_rfl
theorem or76 {d1 : List (Int × List UInt8 × Int) × Int × Int × Int} {d2 : List UInt8} {y : (List (Int × List UInt8 × Int) × Int × Int × Int)} (h : r76 T.rf T.rb d1 d2 = some y) : c76 T.rf d1 d2 = some y := T.rf_of (f := 76) (d := (d1, d2)) ((er76 T.rf T.rb d1 d2).trans h)

/- (*bailment/bailmentref06.reader).room -/
noncomputable def r77 (rf : T.RF) (rb : T.RB) (d1 : List (Int × List UInt8 × Int) × Int × Int × Int) (d2 : Int) : Option (List (Int × List UInt8 × Int) × Int × Int × Int) :=
  bif decide (d2 ≥ 200) then
    (c74 rf d1 7).bind fun (y1 : List (Int × List UInt8 × Int) × Int × Int × Int) =>
    some y1
  else
    some d1
theorem er77 (rf : T.RF) (rb : T.RB) (d1 : List (Int × List UInt8 × Int) × Int × Int × Int) (d2 : Int) : T.stepF rf rb 77 (d1, d2) = r77 rf rb d1 d2 := by kernel_rfl
theorem or77 {d1 : List (Int × List UInt8 × Int) × Int × Int × Int} {d2 : Int} {y : (List (Int × List UInt8 × Int) × Int × Int × Int)} (h : r77 T.rf T.rb d1 d2 = some y) : c77 T.rf d1 d2 = some y := T.rf_of (f := 77) (d := (d1, d2)) ((er77 T.rf T.rb d1 d2).trans h)

/- (*bailment/bailmentref06.reader).param -/
noncomputable def r78 (rf : T.RF) (rb : T.RB) (d1 : List (Int × List UInt8 × Int) × Int × Int × Int) : Option ((List (Int × List UInt8 × Int) × Int × Int × Int) × List UInt8 × Int) :=
  (c72 rf d1).bind fun (y1 : (List (Int × List UInt8 × Int) × Int × Int × Int) × List UInt8) =>
  (c76 rf y1.1 ([58] : List UInt8)).bind fun (y2 : List (Int × List UInt8 × Int) × Int × Int × Int) =>
  (c69 rf y2 ([98, 111, 111, 108] : List UInt8)).bind fun (y3 : (List (Int × List UInt8 × Int) × Int × Int × Int) × Bool) =>
  bif y3.2 then
    some (y3.1, y1.2, 1)
  else
    (c69 rf y3.1 ([105, 110, 116] : List UInt8)).bind fun (y4 : (List (Int × List UInt8 × Int) × Int × Int × Int) × Bool) =>
    bif y4.2 then
      some (y4.1, y1.2, 2)
    else
      (c74 rf y4.1 5).bind fun (y5 : List (Int × List UInt8 × Int) × Int × Int × Int) =>
      some (y5, y1.2, 0)
theorem er78 (rf : T.RF) (rb : T.RB) (d1 : List (Int × List UInt8 × Int) × Int × Int × Int) : T.stepF rf rb 78 d1 = r78 rf rb d1 := by kernel_rfl
theorem or78 {d1 : List (Int × List UInt8 × Int) × Int × Int × Int} {y : ((List (Int × List UInt8 × Int) × Int × Int × Int) × List UInt8 × Int)} (h : r78 T.rf T.rb d1 = some y) : c78 T.rf d1 = some y := T.rf_of (f := 78) (d := d1) ((er78 T.rf T.rb d1).trans h)

/- (*bailment/bailmentref06.reader).inputs loop 0 -/
noncomputable def b70 (rf : T.RF) (rb : T.RB) (d1 : List (Int × List UInt8 × Int) × Int × Int × Int) (d2 : XP) : Option (((List (Int × List UInt8 × Int) × Int × Int × Int) × XP) ⊕ (List (Int × List UInt8 × Int) × Int × Int × Int)) :=
  (c71 rf d1).bind fun (y1 : (List (Int × List UInt8 × Int) × Int × Int × Int) × Bool) =>
  bif y1.2 then
    (c77 rf y1.1 (((d2.length : Nat) : Int))).bind fun (y2 : List (Int × List UInt8 × Int) × Int × Int × Int) =>
    (c78 rf y2).bind fun (y3 : (List (Int × List UInt8 × Int) × Int × Int × Int) × List UInt8 × Int) =>
    bif (Nat.ble (d2.length + 1) most) && true then
      (c69 rf y3.1 ([41] : List UInt8)).bind fun (y4 : (List (Int × List UInt8 × Int) × Int × Int × Int) × Bool) =>
      bif y4.2 then
        some (.inl (y4.1, d2 ++ [y3.2]))
      else
        (c76 rf y4.1 ([59] : List UInt8)).bind fun (y5 : List (Int × List UInt8 × Int) × Int × Int × Int) =>
        k70 rb y5 (d2 ++ [y3.2])
    else
      none
  else
    some (.inr y1.1)
theorem eb70 (rf : T.RF) (rb : T.RB) (d1 : List (Int × List UInt8 × Int) × Int × Int × Int) (d2 : XP) : T.stepB rf rb 70 (d1, d2) = b70 rf rb d1 d2 := by kernel_rfl
theorem ob70 {d1 : List (Int × List UInt8 × Int) × Int × Int × Int} {d2 : XP} {y : (((List (Int × List UInt8 × Int) × Int × Int × Int) × XP) ⊕ (List (Int × List UInt8 × Int) × Int × Int × Int))} (h : b70 T.rf T.rb d1 d2 = some y) : k70 T.rb d1 d2 = some y := T.rb_of (κ := 70) (d := (d1, d2)) ((eb70 T.rf T.rb d1 d2).trans h)

/- (*bailment/bailmentref06.reader).inputs -/
noncomputable def r75 (rf : T.RF) (rb : T.RB) (d1 : List (Int × List UInt8 × Int) × Int × Int × Int) : Option ((List (Int × List UInt8 × Int) × Int × Int × Int) × XP) :=
  (c76 rf d1 ([40] : List UInt8)).bind fun (y1 : List (Int × List UInt8 × Int) × Int × Int × Int) =>
  (c69 rf y1 ([41] : List UInt8)).bind fun (y2 : (List (Int × List UInt8 × Int) × Int × Int × Int) × Bool) =>
  bif y2.2 then
    some (y2.1, [])
  else
    (k70 rb y2.1 []).bind fun (z3 : ((List (Int × List UInt8 × Int) × Int × Int × Int) × XP) ⊕ (List (Int × List UInt8 × Int) × Int × Int × Int)) =>
    match z3 with
    | .inl u4 =>
      some u4
    | .inr w5 =>
      some (w5, [])
theorem er75 (rf : T.RF) (rb : T.RB) (d1 : List (Int × List UInt8 × Int) × Int × Int × Int) : T.stepF rf rb 75 d1 = r75 rf rb d1 := by kernel_rfl
theorem or75 {d1 : List (Int × List UInt8 × Int) × Int × Int × Int} {y : ((List (Int × List UInt8 × Int) × Int × Int × Int) × XP)} (h : r75 T.rf T.rb d1 = some y) : c75 T.rf d1 = some y := T.rf_of (f := 75) (d := d1) ((er75 T.rf T.rb d1).trans h)

/- (*bailment/bailmentref06.reader).begins -/
noncomputable def r80 (rf : T.RF) (rb : T.RB) (d1 : List (Int × List UInt8 × Int) × Int × Int × Int) : Option ((List (Int × List UInt8 × Int) × Int × Int × Int) × Bool) :=
  (c70 rf d1 ([97, 115, 115, 117, 109, 101] : List UInt8)).bind fun (y1 : (List (Int × List UInt8 × Int) × Int × Int × Int) × Bool) =>
  bif y1.2 then
    some (y1.1, true)
  else
    (c70 rf y1.1 ([103, 117, 97, 114, 97, 110, 116, 101, 101] : List UInt8)).bind fun (y2 : (List (Int × List UInt8 × Int) × Int × Int × Int) × Bool) =>
    bif y2.2 then
      some (y2.1, true)
    else
      (c70 rf y2.1 ([103, 104, 111, 115, 116] : List UInt8)).bind fun (y3 : (List (Int × List UInt8 × Int) × Int × Int × Int) × Bool) =>
      bif y3.2 then
        some (y3.1, true)
      else
        (c70 rf y3.1 ([109, 111, 100, 101] : List UInt8)).bind fun (y4 : (List (Int × List UInt8 × Int) × Int × Int × Int) × Bool) =>
        bif y4.2 then
          some (y4.1, true)
        else
          (c70 rf y4.1 ([105, 109, 112, 111, 114, 116] : List UInt8)).bind fun (y5 : (List (Int × List UInt8 × Int) × Int × Int × Int) × Bool) =>
          some y5
theorem er80 (rf : T.RF) (rb : T.RB) (d1 : List (Int × List UInt8 × Int) × Int × Int × Int) : T.stepF rf rb 80 d1 = r80 rf rb d1 := by kernel_rfl
theorem or80 {d1 : List (Int × List UInt8 × Int) × Int × Int × Int} {y : ((List (Int × List UInt8 × Int) × Int × Int × Int) × Bool)} (h : r80 T.rf T.rb d1 = some y) : c80 T.rf d1 = some y := T.rf_of (f := 80) (d := d1) ((er80 T.rf T.rb d1).trans h)

/- (*bailment/bailmentref06.reader).expr tail 4 -/
noncomputable def b72 (rf : T.RF) (rb : T.RB) (d1 : List (Int × List UInt8 × Int) × Int × Int × Int) (d2 : Int × Int) (d3 : XL) (d4 : Int) : Option ((List (Int × List UInt8 × Int) × Int × Int × Int) × (Int × Int) × XL) :=
  bif d2.1 != 0 then
    some ((d1.1, d1.2.1, d2), d2, [])
  else
    some ((d1.1, d4, d1.2.2), d2, d3)
theorem eb72 (rf : T.RF) (rb : T.RB) (d1 : List (Int × List UInt8 × Int) × Int × Int × Int) (d2 : Int × Int) (d3 : XL) (d4 : Int) : T.stepB rf rb 72 (d1, d2, d3, d4) = b72 rf rb d1 d2 d3 d4 := by kernel_rfl
theorem ob72 {d1 : List (Int × List UInt8 × Int) × Int × Int × Int} {d2 : Int × Int} {d3 : XL} {d4 : Int} {y : ((List (Int × List UInt8 × Int) × Int × Int × Int) × (Int × Int) × XL)} (h : b72 T.rf T.rb d1 d2 d3 d4 = some y) : k72 T.rb d1 d2 d3 d4 = some y := T.rb_of (κ := 72) (d := (d1, d2, d3, d4)) ((eb72 T.rf T.rb d1 d2 d3 d4).trans h)

/- (*bailment/bailmentref06.reader).expr -/
noncomputable def r82q (rf : T.RF) (rb : T.RB) (d1 : List (Int × List UInt8 × Int) × Int × Int × Int) : Option ((List (Int × List UInt8 × Int) × Int × Int × Int) × XL) :=
  (c71 rf d1).bind fun (y1 : (List (Int × List UInt8 × Int) × Int × Int × Int) × Bool) =>
  bif !y1.2 then
    some (y1.1, [])
  else
    agN 1 (
      (c15 rf y1.1.1 y1.1.2.1).bind fun (y2 : XL × Int × Int × Int) =>
      (k72 rb y1.1 y2.2.2 y2.1 y2.2.1).bind fun (z3 : (List (Int × List UInt8 × Int) × Int × Int × Int) × (Int × Int) × XL) =>
      some (z3.1, z3.2.2)
    )
noncomputable def r82 (rf : T.RF) (rb : T.RB) (d1 : List (Int × List UInt8 × Int) × Int × Int × Int) : Option ((List (Int × List UInt8 × Int) × Int × Int × Int) × XL) :=
  (c71 rf d1).bind fun (y1 : (List (Int × List UInt8 × Int) × Int × Int × Int) × Bool) =>
  bif !y1.2 then
    some (y1.1, [])
  else
    (c15 rf y1.1.1 y1.1.2.1).bind fun (y2 : XL × Int × Int × Int) =>
    (k72 rb y1.1 y2.2.2 y2.1 y2.2.1).bind fun (z3 : (List (Int × List UInt8 × Int) × Int × Int × Int) × (Int × Int) × XL) =>
    some (z3.1, z3.2.2)
theorem er82 (rf : T.RF) (rb : T.RB) (d1 : List (Int × List UInt8 × Int) × Int × Int × Int) : T.stepF rf rb 82 d1 = r82q rf rb d1 := by kernel_rfl
theorem sr82 (rf : T.RF) (rb : T.RB) (d1 : List (Int × List UInt8 × Int) × Int × Int × Int) : r82q rf rb d1 = r82 rf rb d1 := by
  unfold r82q r82; simp only [agN_eq, agree_self, agree_swap]
theorem or82 {d1 : List (Int × List UInt8 × Int) × Int × Int × Int} {y : ((List (Int × List UInt8 × Int) × Int × Int × Int) × XL)} (h : r82 T.rf T.rb d1 = some y) : c82 T.rf d1 = some y := T.rf_of (f := 82) (d := d1) (((er82 T.rf T.rb d1).trans (sr82 T.rf T.rb d1)).trans h)

/- (*bailment/bailmentref06.reader).args loop 0 -/
noncomputable def b74 (rf : T.RF) (rb : T.RB) (d1 : List (Int × List UInt8 × Int) × Int × Int × Int) (d2 : List XL) : Option (((List (Int × List UInt8 × Int) × Int × Int × Int) × List XL) ⊕ (List (Int × List UInt8 × Int) × Int × Int × Int)) :=
  (c71 rf d1).bind fun (y1 : (List (Int × List UInt8 × Int) × Int × Int × Int) × Bool) =>
  bif y1.2 then
    (c77 rf y1.1 (((d2.length : Nat) : Int))).bind fun (y2 : List (Int × List UInt8 × Int) × Int × Int × Int) =>
    (c82 rf y2).bind fun (y3 : (List (Int × List UInt8 × Int) × Int × Int × Int) × XL) =>
    bif (Nat.ble (d2.length + 1) most) && true then
      (c69 rf y3.1 ([41] : List UInt8)).bind fun (y4 : (List (Int × List UInt8 × Int) × Int × Int × Int) × Bool) =>
      bif y4.2 then
        some (.inl (y4.1, d2 ++ [y3.2]))
      else
        (c76 rf y4.1 ([44] : List UInt8)).bind fun (y5 : List (Int × List UInt8 × Int) × Int × Int × Int) =>
        k74 rb y5 (d2 ++ [y3.2])
    else
      none
  else
    some (.inr y1.1)
theorem eb74 (rf : T.RF) (rb : T.RB) (d1 : List (Int × List UInt8 × Int) × Int × Int × Int) (d2 : List XL) : T.stepB rf rb 74 (d1, d2) = b74 rf rb d1 d2 := by kernel_rfl
theorem ob74 {d1 : List (Int × List UInt8 × Int) × Int × Int × Int} {d2 : List XL} {y : (((List (Int × List UInt8 × Int) × Int × Int × Int) × List XL) ⊕ (List (Int × List UInt8 × Int) × Int × Int × Int))} (h : b74 T.rf T.rb d1 d2 = some y) : k74 T.rb d1 d2 = some y := T.rb_of (κ := 74) (d := (d1, d2)) ((eb74 T.rf T.rb d1 d2).trans h)

/- (*bailment/bailmentref06.reader).args -/
noncomputable def r83 (rf : T.RF) (rb : T.RB) (d1 : List (Int × List UInt8 × Int) × Int × Int × Int) : Option ((List (Int × List UInt8 × Int) × Int × Int × Int) × List XL) :=
  (c76 rf d1 ([40] : List UInt8)).bind fun (y1 : List (Int × List UInt8 × Int) × Int × Int × Int) =>
  (c69 rf y1 ([41] : List UInt8)).bind fun (y2 : (List (Int × List UInt8 × Int) × Int × Int × Int) × Bool) =>
  bif y2.2 then
    some (y2.1, [])
  else
    (k74 rb y2.1 []).bind fun (z3 : ((List (Int × List UInt8 × Int) × Int × Int × Int) × List XL) ⊕ (List (Int × List UInt8 × Int) × Int × Int × Int)) =>
    match z3 with
    | .inl u4 =>
      some u4
    | .inr w5 =>
      some (w5, [])
theorem er83 (rf : T.RF) (rb : T.RB) (d1 : List (Int × List UInt8 × Int) × Int × Int × Int) : T.stepF rf rb 83 d1 = r83 rf rb d1 := by kernel_rfl
theorem or83 {d1 : List (Int × List UInt8 × Int) × Int × Int × Int} {y : ((List (Int × List UInt8 × Int) × Int × Int × Int) × List XL)} (h : r83 T.rf T.rb d1 = some y) : c83 T.rf d1 = some y := T.rf_of (f := 83) (d := d1) ((er83 T.rf T.rb d1).trans h)

/- (*bailment/bailmentref06.reader).item -/
noncomputable def r81 (rf : T.RF) (rb : T.RB) (d1 : List (Int × List UInt8 × Int) × Int × Int × Int) : Option ((List (Int × List UInt8 × Int) × Int × Int × Int) × XI × Bool) :=
  (c69 rf d1 ([97, 115, 115, 117, 109, 101] : List UInt8)).bind fun (y1 : (List (Int × List UInt8 × Int) × Int × Int × Int) × Bool) =>
  bif y1.2 then
    (c82 rf y1.1).bind fun (y2 : (List (Int × List UInt8 × Int) × Int × Int × Int) × XL) =>
    (c76 rf y2.1 ([59] : List UInt8)).bind fun (y3 : List (Int × List UInt8 × Int) × Int × Int × Int) =>
    some (y3, (1, ([] : List UInt8), 0, y2.2, [], []), true)
  else
    (c69 rf y1.1 ([103, 117, 97, 114, 97, 110, 116, 101, 101] : List UInt8)).bind fun (y4 : (List (Int × List UInt8 × Int) × Int × Int × Int) × Bool) =>
    bif y4.2 then
      (c82 rf y4.1).bind fun (y5 : (List (Int × List UInt8 × Int) × Int × Int × Int) × XL) =>
      (c76 rf y5.1 ([59] : List UInt8)).bind fun (y6 : List (Int × List UInt8 × Int) × Int × Int × Int) =>
      some (y6, (2, ([] : List UInt8), 0, y5.2, [], []), true)
    else
      (c69 rf y4.1 ([103, 104, 111, 115, 116] : List UInt8)).bind fun (y7 : (List (Int × List UInt8 × Int) × Int × Int × Int) × Bool) =>
      bif y7.2 then
        (c78 rf y7.1).bind fun (y8 : (List (Int × List UInt8 × Int) × Int × Int × Int) × List UInt8 × Int) =>
        (c76 rf y8.1 ([61] : List UInt8)).bind fun (y9 : List (Int × List UInt8 × Int) × Int × Int × Int) =>
        (c82 rf y9).bind fun (y10 : (List (Int × List UInt8 × Int) × Int × Int × Int) × XL) =>
        (c76 rf y10.1 ([59] : List UInt8)).bind fun (y11 : List (Int × List UInt8 × Int) × Int × Int × Int) =>
        some (y11, (3, y8.2.1, y8.2.2, y10.2, [], []), true)
      else
        (c69 rf y7.1 ([109, 111, 100, 101] : List UInt8)).bind fun (y12 : (List (Int × List UInt8 × Int) × Int × Int × Int) × Bool) =>
        bif y12.2 then
          (c72 rf y12.1).bind fun (y13 : (List (Int × List UInt8 × Int) × Int × Int × Int) × List UInt8) =>
          (c76 rf y13.1 ([114, 101, 113, 117, 105, 114, 101] : List UInt8)).bind fun (y14 : List (Int × List UInt8 × Int) × Int × Int × Int) =>
          (c82 rf y14).bind fun (y15 : (List (Int × List UInt8 × Int) × Int × Int × Int) × XL) =>
          (c76 rf y15.1 ([101, 110, 115, 117, 114, 101] : List UInt8)).bind fun (y16 : List (Int × List UInt8 × Int) × Int × Int × Int) =>
          (c82 rf y16).bind fun (y17 : (List (Int × List UInt8 × Int) × Int × Int × Int) × XL) =>
          (c76 rf y17.1 ([59] : List UInt8)).bind fun (y18 : List (Int × List UInt8 × Int) × Int × Int × Int) =>
          some (y18, (4, y13.2, 0, y15.2, y17.2, []), true)
        else
          (c69 rf y12.1 ([105, 109, 112, 111, 114, 116] : List UInt8)).bind fun (y19 : (List (Int × List UInt8 × Int) × Int × Int × Int) × Bool) =>
          bif y19.2 then
            (c72 rf y19.1).bind fun (y20 : (List (Int × List UInt8 × Int) × Int × Int × Int) × List UInt8) =>
            (c83 rf y20.1).bind fun (y21 : (List (Int × List UInt8 × Int) × Int × Int × Int) × List XL) =>
            (c76 rf y21.1 ([59] : List UInt8)).bind fun (y22 : List (Int × List UInt8 × Int) × Int × Int × Int) =>
            some (y22, (5, y20.2, 0, [], [], y21.2), true)
          else
            some (y19.1, (0, ([] : List UInt8), 0, [], [], []), false)
theorem er81 (rf : T.RF) (rb : T.RB) (d1 : List (Int × List UInt8 × Int) × Int × Int × Int) : T.stepF rf rb 81 d1 = r81 rf rb d1 := by kernel_rfl
theorem or81 {d1 : List (Int × List UInt8 × Int) × Int × Int × Int} {y : ((List (Int × List UInt8 × Int) × Int × Int × Int) × XI × Bool)} (h : r81 T.rf T.rb d1 = some y) : c81 T.rf d1 = some y := T.rf_of (f := 81) (d := d1) ((er81 T.rf T.rb d1).trans h)

/- (*bailment/bailmentref06.reader).items loop 0 -/
noncomputable def b75 (rf : T.RF) (rb : T.RB) (d1 : List (Int × List UInt8 × Int) × Int × Int × Int) (d2 : List XI) : Option ((List (Int × List UInt8 × Int) × Int × Int × Int) × List XI) :=
  (c80 rf d1).bind fun (y1 : (List (Int × List UInt8 × Int) × Int × Int × Int) × Bool) =>
  bif y1.2 then
    (c77 rf y1.1 (((d2.length : Nat) : Int))).bind fun (y2 : List (Int × List UInt8 × Int) × Int × Int × Int) =>
    (c81 rf y2).bind fun (y3 : (List (Int × List UInt8 × Int) × Int × Int × Int) × XI × Bool) =>
    bif y3.2.2 then
      bif (Nat.ble (d2.length + 1) most) && true then
        k75 rb y3.1 (d2 ++ [y3.2.1])
      else
        none
    else
      k75 rb y3.1 d2
  else
    some (y1.1, d2)
theorem eb75 (rf : T.RF) (rb : T.RB) (d1 : List (Int × List UInt8 × Int) × Int × Int × Int) (d2 : List XI) : T.stepB rf rb 75 (d1, d2) = b75 rf rb d1 d2 := by kernel_rfl
theorem ob75 {d1 : List (Int × List UInt8 × Int) × Int × Int × Int} {d2 : List XI} {y : ((List (Int × List UInt8 × Int) × Int × Int × Int) × List XI)} (h : b75 T.rf T.rb d1 d2 = some y) : k75 T.rb d1 d2 = some y := T.rb_of (κ := 75) (d := (d1, d2)) ((eb75 T.rf T.rb d1 d2).trans h)

/- (*bailment/bailmentref06.reader).items -/
noncomputable def r79 (rf : T.RF) (rb : T.RB) (d1 : List (Int × List UInt8 × Int) × Int × Int × Int) : Option ((List (Int × List UInt8 × Int) × Int × Int × Int) × List XI) :=
  (k75 rb d1 []).bind fun (z1 : (List (Int × List UInt8 × Int) × Int × Int × Int) × List XI) =>
  (c76 rf z1.1 ([101, 110, 100] : List UInt8)).bind fun (y2 : List (Int × List UInt8 × Int) × Int × Int × Int) =>
  some (y2, z1.2)
theorem er79 (rf : T.RF) (rb : T.RB) (d1 : List (Int × List UInt8 × Int) × Int × Int × Int) : T.stepF rf rb 79 d1 = r79 rf rb d1 := by kernel_rfl
theorem or79 {d1 : List (Int × List UInt8 × Int) × Int × Int × Int} {y : ((List (Int × List UInt8 × Int) × Int × Int × Int) × List XI)} (h : r79 T.rf T.rb d1 = some y) : c79 T.rf d1 = some y := T.rf_of (f := 79) (d := d1) ((er79 T.rf T.rb d1).trans h)

/- (*bailment/bailmentref06.reader).vars loop 0 -/
noncomputable def b77 (rf : T.RF) (rb : T.RB) (d1 : List (Int × List UInt8 × Int) × Int × Int × Int) (d2 : XP) : Option (((List (Int × List UInt8 × Int) × Int × Int × Int) × XP) ⊕ (List (Int × List UInt8 × Int) × Int × Int × Int)) :=
  (c71 rf d1).bind fun (y1 : (List (Int × List UInt8 × Int) × Int × Int × Int) × Bool) =>
  bif y1.2 then
    (c77 rf y1.1 (((d2.length : Nat) : Int))).bind fun (y2 : List (Int × List UInt8 × Int) × Int × Int × Int) =>
    (c78 rf y2).bind fun (y3 : (List (Int × List UInt8 × Int) × Int × Int × Int) × List UInt8 × Int) =>
    bif (Nat.ble (d2.length + 1) most) && true then
      (c76 rf y3.1 ([59] : List UInt8)).bind fun (y4 : List (Int × List UInt8 × Int) × Int × Int × Int) =>
      (c73 rf y4).bind fun (y5 : (List (Int × List UInt8 × Int) × Int × Int × Int) × Bool) =>
      bif !y5.2 then
        some (.inl (y5.1, d2 ++ [y3.2]))
      else
        k77 rb y5.1 (d2 ++ [y3.2])
    else
      none
  else
    some (.inr y1.1)
theorem eb77 (rf : T.RF) (rb : T.RB) (d1 : List (Int × List UInt8 × Int) × Int × Int × Int) (d2 : XP) : T.stepB rf rb 77 (d1, d2) = b77 rf rb d1 d2 := by kernel_rfl
theorem ob77 {d1 : List (Int × List UInt8 × Int) × Int × Int × Int} {d2 : XP} {y : (((List (Int × List UInt8 × Int) × Int × Int × Int) × XP) ⊕ (List (Int × List UInt8 × Int) × Int × Int × Int))} (h : b77 T.rf T.rb d1 d2 = some y) : k77 T.rb d1 d2 = some y := T.rb_of (κ := 77) (d := (d1, d2)) ((eb77 T.rf T.rb d1 d2).trans h)

/- (*bailment/bailmentref06.reader).vars -/
noncomputable def r84 (rf : T.RF) (rb : T.RB) (d1 : List (Int × List UInt8 × Int) × Int × Int × Int) : Option ((List (Int × List UInt8 × Int) × Int × Int × Int) × XP) :=
  (k77 rb d1 []).bind fun (z1 : ((List (Int × List UInt8 × Int) × Int × Int × Int) × XP) ⊕ (List (Int × List UInt8 × Int) × Int × Int × Int)) =>
  match z1 with
  | .inl u2 =>
    some u2
  | .inr w3 =>
    some (w3, [])
theorem er84 (rf : T.RF) (rb : T.RB) (d1 : List (Int × List UInt8 × Int) × Int × Int × Int) : T.stepF rf rb 84 d1 = r84 rf rb d1 := by kernel_rfl
theorem or84 {d1 : List (Int × List UInt8 × Int) × Int × Int × Int} {y : ((List (Int × List UInt8 × Int) × Int × Int × Int) × XP)} (h : r84 T.rf T.rb d1 = some y) : c84 T.rf d1 = some y := T.rf_of (f := 84) (d := d1) ((er84 T.rf T.rb d1).trans h)

/- (*bailment/bailmentref06.reader).equations loop 0 -/
noncomputable def b79 (rf : T.RF) (rb : T.RB) (d1 : List (Int × List UInt8 × Int) × Int × Int × Int) (d2 : List (List UInt8 × XL)) : Option ((List (Int × List UInt8 × Int) × Int × Int × Int) × List (List UInt8 × XL)) :=
  (c73 rf d1).bind fun (y1 : (List (Int × List UInt8 × Int) × Int × Int × Int) × Bool) =>
  bif y1.2 then
    (c77 rf y1.1 (((d2.length : Nat) : Int))).bind fun (y2 : List (Int × List UInt8 × Int) × Int × Int × Int) =>
    (c72 rf y2).bind fun (y3 : (List (Int × List UInt8 × Int) × Int × Int × Int) × List UInt8) =>
    (c76 rf y3.1 ([61] : List UInt8)).bind fun (y4 : List (Int × List UInt8 × Int) × Int × Int × Int) =>
    (c82 rf y4).bind fun (y5 : (List (Int × List UInt8 × Int) × Int × Int × Int) × XL) =>
    (c76 rf y5.1 ([59] : List UInt8)).bind fun (y6 : List (Int × List UInt8 × Int) × Int × Int × Int) =>
    bif (Nat.ble (d2.length + 1) most) && true then
      k79 rb y6 (d2 ++ [(y3.2, y5.2)])
    else
      none
  else
    some (y1.1, d2)
theorem eb79 (rf : T.RF) (rb : T.RB) (d1 : List (Int × List UInt8 × Int) × Int × Int × Int) (d2 : List (List UInt8 × XL)) : T.stepB rf rb 79 (d1, d2) = b79 rf rb d1 d2 := by kernel_rfl
theorem ob79 {d1 : List (Int × List UInt8 × Int) × Int × Int × Int} {d2 : List (List UInt8 × XL)} {y : ((List (Int × List UInt8 × Int) × Int × Int × Int) × List (List UInt8 × XL))} (h : b79 T.rf T.rb d1 d2 = some y) : k79 T.rb d1 d2 = some y := T.rb_of (κ := 79) (d := (d1, d2)) ((eb79 T.rf T.rb d1 d2).trans h)

/- (*bailment/bailmentref06.reader).equations -/
noncomputable def r85 (rf : T.RF) (rb : T.RB) (d1 : List (Int × List UInt8 × Int) × Int × Int × Int) : Option ((List (Int × List UInt8 × Int) × Int × Int × Int) × List (List UInt8 × XL)) :=
  (k79 rb d1 []).bind fun (z1 : (List (Int × List UInt8 × Int) × Int × Int × Int) × List (List UInt8 × XL)) =>
  (c76 rf z1.1 ([116, 101, 108] : List UInt8)).bind fun (y2 : List (Int × List UInt8 × Int) × Int × Int × Int) =>
  some (y2, z1.2)
theorem er85 (rf : T.RF) (rb : T.RB) (d1 : List (Int × List UInt8 × Int) × Int × Int × Int) : T.stepF rf rb 85 d1 = r85 rf rb d1 := by kernel_rfl
theorem or85 {d1 : List (Int × List UInt8 × Int) × Int × Int × Int} {y : ((List (Int × List UInt8 × Int) × Int × Int × Int) × List (List UInt8 × XL))} (h : r85 T.rf T.rb d1 = some y) : c85 T.rf d1 = some y := T.rf_of (f := 85) (d := d1) ((er85 T.rf T.rb d1).trans h)

/- (*bailment/bailmentref06.reader).unit -/
noncomputable def r68 (rf : T.RF) (rb : T.RB) (d1 : List (Int × List UInt8 × Int) × Int × Int × Int) : Option ((List (Int × List UInt8 × Int) × Int × Int × Int) × XU) :=
  (c69 rf d1 ([99, 111, 110, 116, 114, 97, 99, 116] : List UInt8)).bind fun (y1 : (List (Int × List UInt8 × Int) × Int × Int × Int) × Bool) =>
  bif y1.2 then
    (c72 rf y1.1).bind fun (y2 : (List (Int × List UInt8 × Int) × Int × Int × Int) × List UInt8) =>
    (c75 rf y2.1).bind fun (y3 : (List (Int × List UInt8 × Int) × Int × Int × Int) × XP) =>
    (c79 rf y3.1).bind fun (y4 : (List (Int × List UInt8 × Int) × Int × Int × Int) × List XI) =>
    some (y4.1, true, y2.2, y3.2, ([] : List UInt8), 0, [], [], y4.2)
  else
    (c76 rf y1.1 ([110, 111, 100, 101] : List UInt8)).bind fun (y5 : List (Int × List UInt8 × Int) × Int × Int × Int) =>
    (c72 rf y5).bind fun (y6 : (List (Int × List UInt8 × Int) × Int × Int × Int) × List UInt8) =>
    (c75 rf y6.1).bind fun (y7 : (List (Int × List UInt8 × Int) × Int × Int × Int) × XP) =>
    (c76 rf y7.1 ([114, 101, 116, 117, 114, 110, 115] : List UInt8)).bind fun (y8 : List (Int × List UInt8 × Int) × Int × Int × Int) =>
    (c76 rf y8 ([40] : List UInt8)).bind fun (y9 : List (Int × List UInt8 × Int) × Int × Int × Int) =>
    (c78 rf y9).bind fun (y10 : (List (Int × List UInt8 × Int) × Int × Int × Int) × List UInt8 × Int) =>
    (c76 rf y10.1 ([41] : List UInt8)).bind fun (y11 : List (Int × List UInt8 × Int) × Int × Int × Int) =>
    (c69 rf y11 ([99, 111, 110, 116, 114, 97, 99, 116] : List UInt8)).bind fun (y12 : (List (Int × List UInt8 × Int) × Int × Int × Int) × Bool) =>
    bif y12.2 then
      (c79 rf y12.1).bind fun (y13 : (List (Int × List UInt8 × Int) × Int × Int × Int) × List XI) =>
      (c69 rf y13.1 ([118, 97, 114] : List UInt8)).bind fun (y14 : (List (Int × List UInt8 × Int) × Int × Int × Int) × Bool) =>
      bif y14.2 then
        (c84 rf y14.1).bind fun (y15 : (List (Int × List UInt8 × Int) × Int × Int × Int) × XP) =>
        (c76 rf y15.1 ([108, 101, 116] : List UInt8)).bind fun (y16 : List (Int × List UInt8 × Int) × Int × Int × Int) =>
        (c85 rf y16).bind fun (y17 : (List (Int × List UInt8 × Int) × Int × Int × Int) × List (List UInt8 × XL)) =>
        some (y17.1, false, y6.2, y7.2, y10.2.1, y10.2.2, y15.2, y17.2, y13.2)
      else
        (c76 rf y14.1 ([108, 101, 116] : List UInt8)).bind fun (y18 : List (Int × List UInt8 × Int) × Int × Int × Int) =>
        (c85 rf y18).bind fun (y19 : (List (Int × List UInt8 × Int) × Int × Int × Int) × List (List UInt8 × XL)) =>
        some (y19.1, false, y6.2, y7.2, y10.2.1, y10.2.2, [], y19.2, y13.2)
    else
      (c69 rf y12.1 ([118, 97, 114] : List UInt8)).bind fun (y20 : (List (Int × List UInt8 × Int) × Int × Int × Int) × Bool) =>
      bif y20.2 then
        (c84 rf y20.1).bind fun (y21 : (List (Int × List UInt8 × Int) × Int × Int × Int) × XP) =>
        (c76 rf y21.1 ([108, 101, 116] : List UInt8)).bind fun (y22 : List (Int × List UInt8 × Int) × Int × Int × Int) =>
        (c85 rf y22).bind fun (y23 : (List (Int × List UInt8 × Int) × Int × Int × Int) × List (List UInt8 × XL)) =>
        some (y23.1, false, y6.2, y7.2, y10.2.1, y10.2.2, y21.2, y23.2, [])
      else
        (c76 rf y20.1 ([108, 101, 116] : List UInt8)).bind fun (y24 : List (Int × List UInt8 × Int) × Int × Int × Int) =>
        (c85 rf y24).bind fun (y25 : (List (Int × List UInt8 × Int) × Int × Int × Int) × List (List UInt8 × XL)) =>
        some (y25.1, false, y6.2, y7.2, y10.2.1, y10.2.2, [], y25.2, [])
theorem er68 (rf : T.RF) (rb : T.RB) (d1 : List (Int × List UInt8 × Int) × Int × Int × Int) : T.stepF rf rb 68 d1 = r68 rf rb d1 := by kernel_rfl
theorem or68 {d1 : List (Int × List UInt8 × Int) × Int × Int × Int} {y : ((List (Int × List UInt8 × Int) × Int × Int × Int) × XU)} (h : r68 T.rf T.rb d1 = some y) : c68 T.rf d1 = some y := T.rf_of (f := 68) (d := d1) ((er68 T.rf T.rb d1).trans h)

/- bailmentref06.Parse loop 0 -/
noncomputable def b94q (rf : T.RF) (rb : T.RB) (d1 : List (Int × List UInt8 × Int) × Int × Int × Int) (d2 : List UInt8) (d3 : List UInt8) (d4 : List XU) : Option ((List (Int × List UInt8 × Int) × Int × Int × Int) × List UInt8 × List UInt8 × List XU) :=
  (c70 rf d1 ([110, 111, 100, 101] : List UInt8)).bind fun (y1 : (List (Int × List UInt8 × Int) × Int × Int × Int) × Bool) =>
  bif y1.2 then
    (c77 rf y1.1 (((d4.length : Nat) : Int))).bind fun (y2 : List (Int × List UInt8 × Int) × Int × Int × Int) =>
    agree (
      (c68 rf y2).bind fun (y3 : (List (Int × List UInt8 × Int) × Int × Int × Int) × XU) =>
      bif (Nat.ble (d4.length + 1) most) && true then
        k94 rb y3.1 d2 d3 (d4 ++ [y3.2])
      else
        none
    ) (
      (c68 rf y2).bind fun (y3 : (List (Int × List UInt8 × Int) × Int × Int × Int) × XU) =>
      agN 1 (
        bif (Nat.ble (d4.length + 1) most) && true then
          k94 rb y3.1 d2 d3 (d4 ++ [y3.2])
        else
          none
      )
    )
  else
    (c70 rf y1.1 ([99, 111, 110, 116, 114, 97, 99, 116] : List UInt8)).bind fun (y4 : (List (Int × List UInt8 × Int) × Int × Int × Int) × Bool) =>
    bif y4.2 then
      (c77 rf y4.1 (((d4.length : Nat) : Int))).bind fun (y5 : List (Int × List UInt8 × Int) × Int × Int × Int) =>
      agree (
        (c68 rf y5).bind fun (y6 : (List (Int × List UInt8 × Int) × Int × Int × Int) × XU) =>
        bif (Nat.ble (d4.length + 1) most) && true then
          k94 rb y6.1 d2 d3 (d4 ++ [y6.2])
        else
          none
      ) (
        (c68 rf y5).bind fun (y6 : (List (Int × List UInt8 × Int) × Int × Int × Int) × XU) =>
        agN 1 (
          bif (Nat.ble (d4.length + 1) most) && true then
            k94 rb y6.1 d2 d3 (d4 ++ [y6.2])
          else
            none
        )
      )
    else
      some (y4.1, d2, d3, d4)
noncomputable def b94 (rf : T.RF) (rb : T.RB) (d1 : List (Int × List UInt8 × Int) × Int × Int × Int) (d2 : List UInt8) (d3 : List UInt8) (d4 : List XU) : Option ((List (Int × List UInt8 × Int) × Int × Int × Int) × List UInt8 × List UInt8 × List XU) :=
  (c70 rf d1 ([110, 111, 100, 101] : List UInt8)).bind fun (y1 : (List (Int × List UInt8 × Int) × Int × Int × Int) × Bool) =>
  bif y1.2 then
    (c77 rf y1.1 (((d4.length : Nat) : Int))).bind fun (y2 : List (Int × List UInt8 × Int) × Int × Int × Int) =>
    (c68 rf y2).bind fun (y3 : (List (Int × List UInt8 × Int) × Int × Int × Int) × XU) =>
    bif (Nat.ble (d4.length + 1) most) && true then
      k94 rb y3.1 d2 d3 (d4 ++ [y3.2])
    else
      none
  else
    (c70 rf y1.1 ([99, 111, 110, 116, 114, 97, 99, 116] : List UInt8)).bind fun (y4 : (List (Int × List UInt8 × Int) × Int × Int × Int) × Bool) =>
    bif y4.2 then
      (c77 rf y4.1 (((d4.length : Nat) : Int))).bind fun (y5 : List (Int × List UInt8 × Int) × Int × Int × Int) =>
      (c68 rf y5).bind fun (y6 : (List (Int × List UInt8 × Int) × Int × Int × Int) × XU) =>
      bif (Nat.ble (d4.length + 1) most) && true then
        k94 rb y6.1 d2 d3 (d4 ++ [y6.2])
      else
        none
    else
      some (y4.1, d2, d3, d4)
theorem eb94 (rf : T.RF) (rb : T.RB) (d1 : List (Int × List UInt8 × Int) × Int × Int × Int) (d2 : List UInt8) (d3 : List UInt8) (d4 : List XU) : T.stepB rf rb 94 (d1, d2, d3, d4) = b94q rf rb d1 d2 d3 d4 := by kernel_rfl
theorem sb94 (rf : T.RF) (rb : T.RB) (d1 : List (Int × List UInt8 × Int) × Int × Int × Int) (d2 : List UInt8) (d3 : List UInt8) (d4 : List XU) : b94q rf rb d1 d2 d3 d4 = b94 rf rb d1 d2 d3 d4 := by
  unfold b94q b94; simp only [agN_eq, agree_self, agree_swap]
theorem ob94 {d1 : List (Int × List UInt8 × Int) × Int × Int × Int} {d2 : List UInt8} {d3 : List UInt8} {d4 : List XU} {y : ((List (Int × List UInt8 × Int) × Int × Int × Int) × List UInt8 × List UInt8 × List XU)} (h : b94 T.rf T.rb d1 d2 d3 d4 = some y) : k94 T.rb d1 d2 d3 d4 = some y := T.rb_of (κ := 94) (d := (d1, d2, d3, d4)) (((eb94 T.rf T.rb d1 d2 d3 d4).trans (sb94 T.rf T.rb d1 d2 d3 d4)).trans h)

/- bailmentref06.Parse tail 15 -/
noncomputable def b95q (rf : T.RF) (rb : T.RB) (d1 : List UInt8) (d2 : List UInt8) (d3 : Int × Int) (d4 : List (Int × List UInt8 × Int) × Int × Int × Int) (d5 : List UInt8) (d6 : List UInt8) (d7 : List XU) (d8 : List XU) : Option ((List UInt8 × List UInt8 × (Int × Int) × (List (Int × List UInt8 × Int) × Int × Int × Int) × List UInt8 × List UInt8 × List XU × List XU × List XU) ⊕ (List UInt8 × List UInt8 × (Int × Int) × (List (Int × List UInt8 × Int) × Int × Int × Int) × List UInt8 × List UInt8 × List XU × List XU)) :=
  (c71 rf d4).bind fun (y1 : (List (Int × List UInt8 × Int) × Int × Int × Int) × Bool) =>
  bif y1.2 then
    agN 1 (
      bif decide (y1.1.2.1 < (((y1.1.1.length : Nat) : Int))) then
        (c74 rf y1.1 5).bind fun (y2 : List (Int × List UInt8 × Int) × Int × Int × Int) =>
        (c71 rf y2).bind fun (y3 : (List (Int × List UInt8 × Int) × Int × Int × Int) × Bool) =>
        bif !y3.2 then
          some (.inl (([] : List UInt8), ([] : List UInt8), y3.1.2.2, y3.1, d5, d6, d7, d8, []))
        else
          some (.inr (d5, d6, (0, 0), y3.1, d5, d6, d7, d8))
      else
        (c71 rf y1.1).bind fun (y4 : (List (Int × List UInt8 × Int) × Int × Int × Int) × Bool) =>
        bif !y4.2 then
          some (.inl (([] : List UInt8), ([] : List UInt8), y4.1.2.2, y4.1, d5, d6, d7, d8, []))
        else
          some (.inr (d5, d6, (0, 0), y4.1, d5, d6, d7, d8))
    )
  else
    agN 1 (
      (c71 rf y1.1).bind fun (y5 : (List (Int × List UInt8 × Int) × Int × Int × Int) × Bool) =>
      bif !y5.2 then
        some (.inl (([] : List UInt8), ([] : List UInt8), y5.1.2.2, y5.1, d5, d6, d7, d8, []))
      else
        some (.inr (d5, d6, (0, 0), y5.1, d5, d6, d7, d8))
    )
noncomputable def b95 (rf : T.RF) (rb : T.RB) (d1 : List UInt8) (d2 : List UInt8) (d3 : Int × Int) (d4 : List (Int × List UInt8 × Int) × Int × Int × Int) (d5 : List UInt8) (d6 : List UInt8) (d7 : List XU) (d8 : List XU) : Option ((List UInt8 × List UInt8 × (Int × Int) × (List (Int × List UInt8 × Int) × Int × Int × Int) × List UInt8 × List UInt8 × List XU × List XU × List XU) ⊕ (List UInt8 × List UInt8 × (Int × Int) × (List (Int × List UInt8 × Int) × Int × Int × Int) × List UInt8 × List UInt8 × List XU × List XU)) :=
  (c71 rf d4).bind fun (y1 : (List (Int × List UInt8 × Int) × Int × Int × Int) × Bool) =>
  bif y1.2 then
    bif decide (y1.1.2.1 < (((y1.1.1.length : Nat) : Int))) then
      (c74 rf y1.1 5).bind fun (y2 : List (Int × List UInt8 × Int) × Int × Int × Int) =>
      (c71 rf y2).bind fun (y3 : (List (Int × List UInt8 × Int) × Int × Int × Int) × Bool) =>
      bif !y3.2 then
        some (.inl (([] : List UInt8), ([] : List UInt8), y3.1.2.2, y3.1, d5, d6, d7, d8, []))
      else
        some (.inr (d5, d6, (0, 0), y3.1, d5, d6, d7, d8))
    else
      (c71 rf y1.1).bind fun (y4 : (List (Int × List UInt8 × Int) × Int × Int × Int) × Bool) =>
      bif !y4.2 then
        some (.inl (([] : List UInt8), ([] : List UInt8), y4.1.2.2, y4.1, d5, d6, d7, d8, []))
      else
        some (.inr (d5, d6, (0, 0), y4.1, d5, d6, d7, d8))
  else
    (c71 rf y1.1).bind fun (y5 : (List (Int × List UInt8 × Int) × Int × Int × Int) × Bool) =>
    bif !y5.2 then
      some (.inl (([] : List UInt8), ([] : List UInt8), y5.1.2.2, y5.1, d5, d6, d7, d8, []))
    else
      some (.inr (d5, d6, (0, 0), y5.1, d5, d6, d7, d8))
theorem eb95 (rf : T.RF) (rb : T.RB) (d1 : List UInt8) (d2 : List UInt8) (d3 : Int × Int) (d4 : List (Int × List UInt8 × Int) × Int × Int × Int) (d5 : List UInt8) (d6 : List UInt8) (d7 : List XU) (d8 : List XU) : T.stepB rf rb 95 (d1, d2, d3, d4, d5, d6, d7, d8) = b95q rf rb d1 d2 d3 d4 d5 d6 d7 d8 := by kernel_rfl
theorem sb95 (rf : T.RF) (rb : T.RB) (d1 : List UInt8) (d2 : List UInt8) (d3 : Int × Int) (d4 : List (Int × List UInt8 × Int) × Int × Int × Int) (d5 : List UInt8) (d6 : List UInt8) (d7 : List XU) (d8 : List XU) : b95q rf rb d1 d2 d3 d4 d5 d6 d7 d8 = b95 rf rb d1 d2 d3 d4 d5 d6 d7 d8 := by
  unfold b95q b95; simp only [agN_eq, agree_self, agree_swap]
theorem ob95 {d1 : List UInt8} {d2 : List UInt8} {d3 : Int × Int} {d4 : List (Int × List UInt8 × Int) × Int × Int × Int} {d5 : List UInt8} {d6 : List UInt8} {d7 : List XU} {d8 : List XU} {y : ((List UInt8 × List UInt8 × (Int × Int) × (List (Int × List UInt8 × Int) × Int × Int × Int) × List UInt8 × List UInt8 × List XU × List XU × List XU) ⊕ (List UInt8 × List UInt8 × (Int × Int) × (List (Int × List UInt8 × Int) × Int × Int × Int) × List UInt8 × List UInt8 × List XU × List XU))} (h : b95 T.rf T.rb d1 d2 d3 d4 d5 d6 d7 d8 = some y) : k95 T.rb d1 d2 d3 d4 d5 d6 d7 d8 = some y := T.rb_of (κ := 95) (d := (d1, d2, d3, d4, d5, d6, d7, d8)) (((eb95 T.rf T.rb d1 d2 d3 d4 d5 d6 d7 d8).trans (sb95 T.rf T.rb d1 d2 d3 d4 d5 d6 d7 d8)).trans h)

/- bailmentref06.Parse -/
noncomputable def r63 (rf : T.RF) (rb : T.RB) (d1 : List UInt8) : Option ((List XU × List UInt8 × List UInt8) × Int × Int) :=
  (c4 rf d1).bind fun (y1 : List (Int × List UInt8 × Int) × Int × Int) =>
  bif y1.2.1 != 0 then
    some (([], ([] : List UInt8), ([] : List UInt8)), y1.2)
  else
    (k94 rb (y1.1, 0, 0, 0) ([] : List UInt8) ([] : List UInt8) []).bind fun (z2 : (List (Int × List UInt8 × Int) × Int × Int × Int) × List UInt8 × List UInt8 × List XU) =>
    (c76 rf z2.1 ([109, 97, 105, 110] : List UInt8)).bind fun (y3 : List (Int × List UInt8 × Int) × Int × Int × Int) =>
    (c72 rf y3).bind fun (y4 : (List (Int × List UInt8 × Int) × Int × Int × Int) × List UInt8) =>
    (c76 rf y4.1 ([59] : List UInt8)).bind fun (y5 : List (Int × List UInt8 × Int) × Int × Int × Int) =>
    (c69 rf y5 ([102, 97, 108, 108, 98, 97, 99, 107] : List UInt8)).bind fun (y6 : (List (Int × List UInt8 × Int) × Int × Int × Int) × Bool) =>
    bif y6.2 then
      (c72 rf y6.1).bind fun (y7 : (List (Int × List UInt8 × Int) × Int × Int × Int) × List UInt8) =>
      (c76 rf y7.1 ([59] : List UInt8)).bind fun (y8 : List (Int × List UInt8 × Int) × Int × Int × Int) =>
      (k95 rb ([] : List UInt8) ([] : List UInt8) (0, 0) y8 y4.2 y7.2 [] z2.2.2.2).bind fun (z9 : (List UInt8 × List UInt8 × (Int × Int) × (List (Int × List UInt8 × Int) × Int × Int × Int) × List UInt8 × List UInt8 × List XU × List XU × List XU) ⊕ (List UInt8 × List UInt8 × (Int × Int) × (List (Int × List UInt8 × Int) × Int × Int × Int) × List UInt8 × List UInt8 × List XU × List XU)) =>
      match z9 with
      | .inl u10 =>
        some ((u10.2.2.2.2.2.2.2.2, u10.1, u10.2.1), u10.2.2.1)
      | .inr w11 =>
        some ((w11.2.2.2.2.2.2.2, w11.1, w11.2.1), w11.2.2.1)
    else
      (k95 rb ([] : List UInt8) ([] : List UInt8) (0, 0) y6.1 y4.2 z2.2.2.1 [] z2.2.2.2).bind fun (z12 : (List UInt8 × List UInt8 × (Int × Int) × (List (Int × List UInt8 × Int) × Int × Int × Int) × List UInt8 × List UInt8 × List XU × List XU × List XU) ⊕ (List UInt8 × List UInt8 × (Int × Int) × (List (Int × List UInt8 × Int) × Int × Int × Int) × List UInt8 × List UInt8 × List XU × List XU)) =>
      match z12 with
      | .inl u13 =>
        some ((u13.2.2.2.2.2.2.2.2, u13.1, u13.2.1), u13.2.2.1)
      | .inr w14 =>
        some ((w14.2.2.2.2.2.2.2, w14.1, w14.2.1), w14.2.2.1)
theorem er63 (rf : T.RF) (rb : T.RB) (d1 : List UInt8) : T.stepF rf rb 63 d1 = r63 rf rb d1 := by kernel_rfl
theorem or63 {d1 : List UInt8} {y : ((List XU × List UInt8 × List UInt8) × Int × Int)} (h : r63 T.rf T.rb d1 = some y) : c63 T.rf d1 = some y := T.rf_of (f := 63) (d := d1) ((er63 T.rf T.rb d1).trans h)

/- slices.Clone[[]bailment/api.Param,bailment/api.Param] -/
noncomputable def r88 (rf : T.RF) (rb : T.RB) (d1 : XP) : Option XP :=
  bif d1.isEmpty then
    agree (
      some []
    ) (
      bif (Nat.ble (0 + d1.length) most) && true then
        some ([] ++ d1)
      else
        none
    )
  else
  bif (Nat.ble (0 + d1.length) most) && true then
    some ([] ++ d1)
  else
    none
theorem er88 (rf : T.RF) (rb : T.RB) (d1 : XP) : T.stepF rf rb 88 d1 = r88 rf rb d1 := by kernel_rfl
theorem or88 {d1 : XP} {y : XP} (h : r88 T.rf T.rb d1 = some y) : c88 T.rf d1 = some y := T.rf_of (f := 88) (d := d1) ((er88 T.rf T.rb d1).trans h)

/- slices.Clip[[]bailment/api.Param,bailment/api.Param] -/
noncomputable def r89 (rf : T.RF) (rb : T.RB) (d1 : XP) : Option XP :=
  bif ((((d1.length : Nat) : Int)) == (((d1.length : Nat) : Int))) && ((((d1.length : Nat) : Int)) == (((d1.length : Nat) : Int))) then
    some d1
  else
    none
theorem er89 (rf : T.RF) (rb : T.RB) (d1 : XP) : T.stepF rf rb 89 d1 = r89 rf rb d1 := by kernel_rfl
theorem or89 {d1 : XP} {y : XP} (h : r89 T.rf T.rb d1 = some y) : c89 T.rf d1 = some y := T.rf_of (f := 89) (d := d1) ((er89 T.rf T.rb d1).trans h)

/- (*bailment/types.checker).want loop 0 -/
noncomputable def b99 (rf : T.RF) (rb : T.RB) (d1 : XP) (d2 : List XU) (d3 : Int) (d4 : List XL) (d5 : Int) (d6 : Int) : Option ((XP × List XU × Int) ⊕ (XP × List XU)) :=
  bif decide (d6 < d5) then
    bif inb d6 d4.length then
      (nth d4 d6.toNat).bind fun (x1 : XL) =>
      (c44 rf x1 d1 d2).bind fun (y2 : Int × Int) =>
      bif y2.2 != 0 then
        some (.inl (d1, d2, y2.2))
      else
      bif y2.1 != d3 then
        some (.inl (d1, d2, 10))
      else
        k99 rb d1 d2 d3 d4 d5 (IntKind.i64.wrap (d6 + 1))
    else
      none
  else
    some (.inr (d1, d2))
theorem eb99 (rf : T.RF) (rb : T.RB) (d1 : XP) (d2 : List XU) (d3 : Int) (d4 : List XL) (d5 : Int) (d6 : Int) : T.stepB rf rb 99 (d1, d2, d3, d4, d5, d6) = b99 rf rb d1 d2 d3 d4 d5 d6 := by kernel_rfl
theorem ob99 {d1 : XP} {d2 : List XU} {d3 : Int} {d4 : List XL} {d5 : Int} {d6 : Int} {y : ((XP × List XU × Int) ⊕ (XP × List XU))} (h : b99 T.rf T.rb d1 d2 d3 d4 d5 d6 = some y) : k99 T.rb d1 d2 d3 d4 d5 d6 = some y := T.rb_of (κ := 99) (d := (d1, d2, d3, d4, d5, d6)) ((eb99 T.rf T.rb d1 d2 d3 d4 d5 d6).trans h)

/- (*bailment/types.checker).want -/
noncomputable def r91 (rf : T.RF) (rb : T.RB) (d1 : XP) (d2 : List XU) (d3 : Int) (d4 : List XL) : Option (XP × List XU × Int) :=
  (k99 rb d1 d2 d3 d4 (((d4.length : Nat) : Int)) 0).bind fun (z1 : (XP × List XU × Int) ⊕ (XP × List XU)) =>
  match z1 with
  | .inl u2 =>
    some u2
  | .inr w3 =>
    some (w3.1, w3.2, 0)
theorem er91 (rf : T.RF) (rb : T.RB) (d1 : XP) (d2 : List XU) (d3 : Int) (d4 : List XL) : T.stepF rf rb 91 (d1, d2, d3, d4) = r91 rf rb d1 d2 d3 d4 := by kernel_rfl
theorem or91 {d1 : XP} {d2 : List XU} {d3 : Int} {d4 : List XL} {y : (XP × List XU × Int)} (h : r91 T.rf T.rb d1 d2 d3 d4 = some y) : c91 T.rf d1 d2 d3 d4 = some y := T.rf_of (f := 91) (d := (d1, d2, d3, d4)) ((er91 T.rf T.rb d1 d2 d3 d4).trans h)

/- (*bailment/types.checker).item tail 5 -/
noncomputable def b100 (rf : T.RF) (rb : T.RB) (d1 : Int) : Option Int :=
  some d1
theorem eb100 (rf : T.RF) (rb : T.RB) (d1 : Int) : T.stepB rf rb 100 d1 = b100 rf rb d1 := by kernel_rfl
theorem ob100 {d1 : Int} {y : Int} (h : b100 T.rf T.rb d1 = some y) : k100 T.rb d1 = some y := T.rb_of (κ := 100) (d := d1) ((eb100 T.rf T.rb d1).trans h)

/- (*bailment/types.checker).item -/
noncomputable def r90q (rf : T.RF) (rb : T.RB) (d1 : XP) (d2 : List XU) (d3 : XI) : Option ((List XU × XP × Int) ⊕ (XP × List XU × Int)) :=
  bif d3.1 == 3 then
    (c91 rf d1 d2 d3.2.2.1 [d3.2.2.2.1]).bind fun (y1 : XP × List XU × Int) =>
    agN 1 (
      bif (Nat.ble (y1.1.length + 1) most) && true then
        (k100 rb y1.2.2).bind fun (z2 : Int) =>
        some (.inl (y1.2.1, y1.1 ++ [(d3.2.1, d3.2.2.1)], z2))
      else
        none
    )
  else
  bif d3.1 == 1 then
    bif d3.1 == 1 then
      (c91 rf d1 d2 1 [d3.2.2.2.1]).bind fun (y3 : XP × List XU × Int) =>
      some (.inr y3)
    else
    bif d3.1 == 4 then
      (c91 rf d1 d2 1 [d3.2.2.2.1, d3.2.2.2.2.1]).bind fun (y4 : XP × List XU × Int) =>
      some (.inr y4)
    else
      some (.inr (d1, d2, 0))
  else
  bif d3.1 == 2 then
    (c91 rf d1 d2 1 [d3.2.2.2.1]).bind fun (y5 : XP × List XU × Int) =>
    some (.inr y5)
  else
  bif d3.1 == 4 then
    (c91 rf d1 d2 1 [d3.2.2.2.1, d3.2.2.2.2.1]).bind fun (y6 : XP × List XU × Int) =>
    some (.inr y6)
  else
    some (.inr (d1, d2, 0))
noncomputable def r90 (rf : T.RF) (rb : T.RB) (d1 : XP) (d2 : List XU) (d3 : XI) : Option ((List XU × XP × Int) ⊕ (XP × List XU × Int)) :=
  bif d3.1 == 3 then
    (c91 rf d1 d2 d3.2.2.1 [d3.2.2.2.1]).bind fun (y1 : XP × List XU × Int) =>
    bif (Nat.ble (y1.1.length + 1) most) && true then
      (k100 rb y1.2.2).bind fun (z2 : Int) =>
      some (.inl (y1.2.1, y1.1 ++ [(d3.2.1, d3.2.2.1)], z2))
    else
      none
  else
  bif d3.1 == 1 then
    bif d3.1 == 1 then
      (c91 rf d1 d2 1 [d3.2.2.2.1]).bind fun (y3 : XP × List XU × Int) =>
      some (.inr y3)
    else
    bif d3.1 == 4 then
      (c91 rf d1 d2 1 [d3.2.2.2.1, d3.2.2.2.2.1]).bind fun (y4 : XP × List XU × Int) =>
      some (.inr y4)
    else
      some (.inr (d1, d2, 0))
  else
  bif d3.1 == 2 then
    (c91 rf d1 d2 1 [d3.2.2.2.1]).bind fun (y5 : XP × List XU × Int) =>
    some (.inr y5)
  else
  bif d3.1 == 4 then
    (c91 rf d1 d2 1 [d3.2.2.2.1, d3.2.2.2.2.1]).bind fun (y6 : XP × List XU × Int) =>
    some (.inr y6)
  else
    some (.inr (d1, d2, 0))
theorem er90 (rf : T.RF) (rb : T.RB) (d1 : XP) (d2 : List XU) (d3 : XI) : T.stepF rf rb 90 (d1, d2, d3) = r90q rf rb d1 d2 d3 := by kernel_rfl
theorem sr90 (rf : T.RF) (rb : T.RB) (d1 : XP) (d2 : List XU) (d3 : XI) : r90q rf rb d1 d2 d3 = r90 rf rb d1 d2 d3 := by
  unfold r90q r90; simp only [agN_eq, agree_self, agree_swap]
theorem or90 {d1 : XP} {d2 : List XU} {d3 : XI} {y : ((List XU × XP × Int) ⊕ (XP × List XU × Int))} (h : r90 T.rf T.rb d1 d2 d3 = some y) : c90 T.rf d1 d2 d3 = some y := T.rf_of (f := 90) (d := (d1, d2, d3)) (((er90 T.rf T.rb d1 d2 d3).trans (sr90 T.rf T.rb d1 d2 d3)).trans h)

/- (*bailment/types.checker).want loop 0 -/
noncomputable def b105q (rf : T.RF) (rb : T.RB) (d1 : List XU) (d2 : XP) (d3 : Int) (d4 : List XL) (d5 : Int) (d6 : Int) : Option ((List XU × XP × Int) ⊕ (List XU × XP)) :=
  bif decide (d6 < d5) then
    bif inb d6 d4.length then
      (nth d4 d6.toNat).bind fun (x1 : XL) =>
      agN 1 (
        (c44 rf x1 d2 d1).bind fun (y2 : Int × Int) =>
        (k106 rb d3 y2.1 y2.2).bind fun (z3 : Int ⊕ Unit) =>
        match z3 with
        | .inl u4 =>
          some (.inl (d1, d2, u4))
        | .inr w5 =>
          k105 rb d1 d2 d3 d4 d5 (IntKind.i64.wrap (d6 + 1))
      )
    else
      none
  else
    some (.inr (d1, d2))
noncomputable def b105 (rf : T.RF) (rb : T.RB) (d1 : List XU) (d2 : XP) (d3 : Int) (d4 : List XL) (d5 : Int) (d6 : Int) : Option ((List XU × XP × Int) ⊕ (List XU × XP)) :=
  bif decide (d6 < d5) then
    bif inb d6 d4.length then
      (nth d4 d6.toNat).bind fun (x1 : XL) =>
      (c44 rf x1 d2 d1).bind fun (y2 : Int × Int) =>
      (k106 rb d3 y2.1 y2.2).bind fun (z3 : Int ⊕ Unit) =>
      match z3 with
      | .inl u4 =>
        some (.inl (d1, d2, u4))
      | .inr w5 =>
        k105 rb d1 d2 d3 d4 d5 (IntKind.i64.wrap (d6 + 1))
    else
      none
  else
    some (.inr (d1, d2))
theorem eb105 (rf : T.RF) (rb : T.RB) (d1 : List XU) (d2 : XP) (d3 : Int) (d4 : List XL) (d5 : Int) (d6 : Int) : T.stepB rf rb 105 (d1, d2, d3, d4, d5, d6) = b105q rf rb d1 d2 d3 d4 d5 d6 := by kernel_rfl
theorem sb105 (rf : T.RF) (rb : T.RB) (d1 : List XU) (d2 : XP) (d3 : Int) (d4 : List XL) (d5 : Int) (d6 : Int) : b105q rf rb d1 d2 d3 d4 d5 d6 = b105 rf rb d1 d2 d3 d4 d5 d6 := by
  unfold b105q b105; simp only [agN_eq, agree_self, agree_swap]
theorem ob105 {d1 : List XU} {d2 : XP} {d3 : Int} {d4 : List XL} {d5 : Int} {d6 : Int} {y : ((List XU × XP × Int) ⊕ (List XU × XP))} (h : b105 T.rf T.rb d1 d2 d3 d4 d5 d6 = some y) : k105 T.rb d1 d2 d3 d4 d5 d6 = some y := T.rb_of (κ := 105) (d := (d1, d2, d3, d4, d5, d6)) (((eb105 T.rf T.rb d1 d2 d3 d4 d5 d6).trans (sb105 T.rf T.rb d1 d2 d3 d4 d5 d6)).trans h)

/- (*bailment/types.checker).want tail 5 -/
noncomputable def b106 (rf : T.RF) (rb : T.RB) (d1 : Int) (d2 : Int) (d3 : Int) : Option (Int ⊕ Unit) :=
  bif d3 != 0 then
    some (.inl d3)
  else
  bif d2 != d1 then
    some (.inl 10)
  else
    some (.inr ())
theorem eb106 (rf : T.RF) (rb : T.RB) (d1 : Int) (d2 : Int) (d3 : Int) : T.stepB rf rb 106 (d1, d2, d3) = b106 rf rb d1 d2 d3 := by kernel_rfl
theorem ob106 {d1 : Int} {d2 : Int} {d3 : Int} {y : (Int ⊕ Unit)} (h : b106 T.rf T.rb d1 d2 d3 = some y) : k106 T.rb d1 d2 d3 = some y := T.rb_of (κ := 106) (d := (d1, d2, d3)) ((eb106 T.rf T.rb d1 d2 d3).trans h)

/- (*bailment/types.checker).want -/
noncomputable def r93 (rf : T.RF) (rb : T.RB) (d1 : List XU) (d2 : XP) (d3 : Int) (d4 : List XL) : Option (List XU × XP × Int) :=
  (k105 rb d1 d2 d3 d4 (((d4.length : Nat) : Int)) 0).bind fun (z1 : (List XU × XP × Int) ⊕ (List XU × XP)) =>
  match z1 with
  | .inl u2 =>
    some u2
  | .inr w3 =>
    some (w3.1, w3.2, 0)
theorem er93 (rf : T.RF) (rb : T.RB) (d1 : List XU) (d2 : XP) (d3 : Int) (d4 : List XL) : T.stepF rf rb 93 (d1, d2, d3, d4) = r93 rf rb d1 d2 d3 d4 := by kernel_rfl
theorem or93 {d1 : List XU} {d2 : XP} {d3 : Int} {d4 : List XL} {y : (List XU × XP × Int)} (h : r93 T.rf T.rb d1 d2 d3 d4 = some y) : c93 T.rf d1 d2 d3 d4 = some y := T.rf_of (f := 93) (d := (d1, d2, d3, d4)) ((er93 T.rf T.rb d1 d2 d3 d4).trans h)

/- (*bailment/types.checker).item tail 5 -/
noncomputable def b107 (rf : T.RF) (rb : T.RB) (d1 : Int) : Option Int :=
  some d1
theorem eb107 (rf : T.RF) (rb : T.RB) (d1 : Int) : T.stepB rf rb 107 d1 = b107 rf rb d1 := by kernel_rfl
theorem ob107 {d1 : Int} {y : Int} (h : b107 T.rf T.rb d1 = some y) : k107 T.rb d1 = some y := T.rb_of (κ := 107) (d := d1) ((eb107 T.rf T.rb d1).trans h)

/- (*bailment/types.checker).item -/
noncomputable def r92q (rf : T.RF) (rb : T.RB) (d1 : List XU) (d2 : XP) (d3 : XI) : Option ((List XU × XP × Int) ⊕ (List XU × XP × Int)) :=
  bif d3.1 == 3 then
    (c93 rf d1 d2 d3.2.2.1 [d3.2.2.2.1]).bind fun (y1 : List XU × XP × Int) =>
    agN 1 (
      bif (Nat.ble (y1.2.1.length + 1) most) && true then
        (k107 rb y1.2.2).bind fun (z2 : Int) =>
        some (.inl (y1.1, y1.2.1 ++ [(d3.2.1, d3.2.2.1)], z2))
      else
        none
    )
  else
  bif d3.1 == 1 then
    bif d3.1 == 1 then
      (c93 rf d1 d2 1 [d3.2.2.2.1]).bind fun (y3 : List XU × XP × Int) =>
      some (.inr y3)
    else
    bif d3.1 == 4 then
      (c93 rf d1 d2 1 [d3.2.2.2.1, d3.2.2.2.2.1]).bind fun (y4 : List XU × XP × Int) =>
      some (.inr y4)
    else
      some (.inr (d1, d2, 0))
  else
  bif d3.1 == 2 then
    (c93 rf d1 d2 1 [d3.2.2.2.1]).bind fun (y5 : List XU × XP × Int) =>
    some (.inr y5)
  else
  bif d3.1 == 4 then
    (c93 rf d1 d2 1 [d3.2.2.2.1, d3.2.2.2.2.1]).bind fun (y6 : List XU × XP × Int) =>
    some (.inr y6)
  else
    some (.inr (d1, d2, 0))
noncomputable def r92 (rf : T.RF) (rb : T.RB) (d1 : List XU) (d2 : XP) (d3 : XI) : Option ((List XU × XP × Int) ⊕ (List XU × XP × Int)) :=
  bif d3.1 == 3 then
    (c93 rf d1 d2 d3.2.2.1 [d3.2.2.2.1]).bind fun (y1 : List XU × XP × Int) =>
    bif (Nat.ble (y1.2.1.length + 1) most) && true then
      (k107 rb y1.2.2).bind fun (z2 : Int) =>
      some (.inl (y1.1, y1.2.1 ++ [(d3.2.1, d3.2.2.1)], z2))
    else
      none
  else
  bif d3.1 == 1 then
    bif d3.1 == 1 then
      (c93 rf d1 d2 1 [d3.2.2.2.1]).bind fun (y3 : List XU × XP × Int) =>
      some (.inr y3)
    else
    bif d3.1 == 4 then
      (c93 rf d1 d2 1 [d3.2.2.2.1, d3.2.2.2.2.1]).bind fun (y4 : List XU × XP × Int) =>
      some (.inr y4)
    else
      some (.inr (d1, d2, 0))
  else
  bif d3.1 == 2 then
    (c93 rf d1 d2 1 [d3.2.2.2.1]).bind fun (y5 : List XU × XP × Int) =>
    some (.inr y5)
  else
  bif d3.1 == 4 then
    (c93 rf d1 d2 1 [d3.2.2.2.1, d3.2.2.2.2.1]).bind fun (y6 : List XU × XP × Int) =>
    some (.inr y6)
  else
    some (.inr (d1, d2, 0))
theorem er92 (rf : T.RF) (rb : T.RB) (d1 : List XU) (d2 : XP) (d3 : XI) : T.stepF rf rb 92 (d1, d2, d3) = r92q rf rb d1 d2 d3 := by kernel_rfl
theorem sr92 (rf : T.RF) (rb : T.RB) (d1 : List XU) (d2 : XP) (d3 : XI) : r92q rf rb d1 d2 d3 = r92 rf rb d1 d2 d3 := by
  unfold r92q r92; simp only [agN_eq, agree_self, agree_swap]
theorem or92 {d1 : List XU} {d2 : XP} {d3 : XI} {y : ((List XU × XP × Int) ⊕ (List XU × XP × Int))} (h : r92 T.rf T.rb d1 d2 d3 = some y) : c92 T.rf d1 d2 d3 = some y := T.rf_of (f := 92) (d := (d1, d2, d3)) (((er92 T.rf T.rb d1 d2 d3).trans (sr92 T.rf T.rb d1 d2 d3)).trans h)

/- types.unit$1 -/
noncomputable def r95 (rf : T.RF) (rb : T.RB) (d1 : List UInt8 × XL) (d2 : List UInt8 × Int) : Option ((List UInt8 × XL) × Bool) :=
  some (d1, d2.1 == d1.1)
theorem er95 (rf : T.RF) (rb : T.RB) (d1 : List UInt8 × XL) (d2 : List UInt8 × Int) : T.stepF rf rb 95 (d1, d2) = r95 rf rb d1 d2 := by kernel_rfl
theorem or95 {d1 : List UInt8 × XL} {d2 : List UInt8 × Int} {y : ((List UInt8 × XL) × Bool)} (h : r95 T.rf T.rb d1 d2 = some y) : c95 T.rf d1 d2 = some y := T.rf_of (f := 95) (d := (d1, d2)) ((er95 T.rf T.rb d1 d2).trans h)

/- slices.IndexFunc[[]bailment/api.Param,bailment/api.Param] loop 0 -/
noncomputable def b112 (rf : T.RF) (rb : T.RB) (d1 : List UInt8 × XL) (d2 : XP) (d3 : Int) (d4 : Int) : Option (((List UInt8 × XL) × Int) ⊕ (List UInt8 × XL)) :=
  bif decide (d4 < d3) then
    bif inb d4 d2.length then
      (nth d2 d4.toNat).bind fun (x1 : List UInt8 × Int) =>
      (c95 rf d1 x1).bind fun (y2 : (List UInt8 × XL) × Bool) =>
      bif y2.2 then
        some (.inl (y2.1, d4))
      else
        k112 rb y2.1 d2 d3 (IntKind.i64.wrap (d4 + 1))
    else
      none
  else
    some (.inr d1)
theorem eb112 (rf : T.RF) (rb : T.RB) (d1 : List UInt8 × XL) (d2 : XP) (d3 : Int) (d4 : Int) : T.stepB rf rb 112 (d1, d2, d3, d4) = b112 rf rb d1 d2 d3 d4 := by kernel_rfl
theorem ob112 {d1 : List UInt8 × XL} {d2 : XP} {d3 : Int} {d4 : Int} {y : (((List UInt8 × XL) × Int) ⊕ (List UInt8 × XL))} (h : b112 T.rf T.rb d1 d2 d3 d4 = some y) : k112 T.rb d1 d2 d3 d4 = some y := T.rb_of (κ := 112) (d := (d1, d2, d3, d4)) ((eb112 T.rf T.rb d1 d2 d3 d4).trans h)

/- slices.IndexFunc[[]bailment/api.Param,bailment/api.Param] -/
noncomputable def r94 (rf : T.RF) (rb : T.RB) (d1 : List UInt8 × XL) (d2 : XP) : Option ((List UInt8 × XL) × Int) :=
  (k112 rb d1 d2 (((d2.length : Nat) : Int)) 0).bind fun (z1 : ((List UInt8 × XL) × Int) ⊕ (List UInt8 × XL)) =>
  match z1 with
  | .inl u2 =>
    some u2
  | .inr w3 =>
    some (w3, (-1))
theorem er94 (rf : T.RF) (rb : T.RB) (d1 : List UInt8 × XL) (d2 : XP) : T.stepF rf rb 94 (d1, d2) = r94 rf rb d1 d2 := by kernel_rfl
theorem or94 {d1 : List UInt8 × XL} {d2 : XP} {y : ((List UInt8 × XL) × Int)} (h : r94 T.rf T.rb d1 d2 = some y) : c94 T.rf d1 d2 = some y := T.rf_of (f := 94) (d := (d1, d2)) ((er94 T.rf T.rb d1 d2).trans h)

/- (*bailment/types.checker).want loop 0 -/
noncomputable def b117 (rf : T.RF) (rb : T.RB) (d1 : XP × List XU) (d2 : Int) (d3 : List XL) (d4 : Int) (d5 : Int) : Option (((XP × List XU) × Int) ⊕ (XP × List XU)) :=
  bif decide (d5 < d4) then
    bif inb d5 d3.length then
      (nth d3 d5.toNat).bind fun (x1 : XL) =>
      (c44 rf x1 d1.1 d1.2).bind fun (y2 : Int × Int) =>
      bif y2.2 != 0 then
        some (.inl (d1, y2.2))
      else
      bif y2.1 != d2 then
        some (.inl (d1, 10))
      else
        k117 rb d1 d2 d3 d4 (IntKind.i64.wrap (d5 + 1))
    else
      none
  else
    some (.inr d1)
theorem eb117 (rf : T.RF) (rb : T.RB) (d1 : XP × List XU) (d2 : Int) (d3 : List XL) (d4 : Int) (d5 : Int) : T.stepB rf rb 117 (d1, d2, d3, d4, d5) = b117 rf rb d1 d2 d3 d4 d5 := by kernel_rfl
theorem ob117 {d1 : XP × List XU} {d2 : Int} {d3 : List XL} {d4 : Int} {d5 : Int} {y : (((XP × List XU) × Int) ⊕ (XP × List XU))} (h : b117 T.rf T.rb d1 d2 d3 d4 d5 = some y) : k117 T.rb d1 d2 d3 d4 d5 = some y := T.rb_of (κ := 117) (d := (d1, d2, d3, d4, d5)) ((eb117 T.rf T.rb d1 d2 d3 d4 d5).trans h)

/- (*bailment/types.checker).want -/
noncomputable def r96 (rf : T.RF) (rb : T.RB) (d1 : XP × List XU) (d2 : Int) (d3 : List XL) : Option ((XP × List XU) × Int) :=
  (k117 rb d1 d2 d3 (((d3.length : Nat) : Int)) 0).bind fun (z1 : ((XP × List XU) × Int) ⊕ (XP × List XU)) =>
  match z1 with
  | .inl u2 =>
    some u2
  | .inr w3 =>
    some (w3, 0)
theorem er96 (rf : T.RF) (rb : T.RB) (d1 : XP × List XU) (d2 : Int) (d3 : List XL) : T.stepF rf rb 96 (d1, d2, d3) = r96 rf rb d1 d2 d3 := by kernel_rfl
theorem or96 {d1 : XP × List XU} {d2 : Int} {d3 : List XL} {y : ((XP × List XU) × Int)} (h : r96 T.rf T.rb d1 d2 d3 = some y) : c96 T.rf d1 d2 d3 = some y := T.rf_of (f := 96) (d := (d1, d2, d3)) ((er96 T.rf T.rb d1 d2 d3).trans h)

/- types.unit tail 4 -/
noncomputable def b113 (rf : T.RF) (rb : T.RB) (d1 : XU) (d2 : XP) (d3 : List XU) : Option (XU × Int) :=
  (c89 rf d2).bind fun (y1 : XP) =>
  (k114 rb y1 [] d1.2.2.2.2.2.2.2 (((d1.2.2.2.2.2.2.2.length : Nat) : Int)) 0).bind fun (z2 : (List XU × XP × Int) ⊕ (List XU × XP) ⊕ (XP × List XU × Int) ⊕ (XP × List XU)) =>
  match z2 with
  | .inl u3 =>
    some (d1, u3.2.2)
  | .inr w4 =>
    match w4 with
    | .inl u5 =>
      (k116 rb (d2, d3) d2 d1.2.2.2.2.2.2.1 (((d1.2.2.2.2.2.2.1.length : Nat) : Int)) 0).bind fun (z7 : ((XP × List XU) × Int) ⊕ (XP × List XU)) =>
      match z7 with
      | .inl u8 =>
        some (d1, u8.2)
      | .inr w9 =>
        some (d1, 0)
    | .inr w6 =>
      match w6 with
      | .inl u10 =>
        some (d1, u10.2.2)
      | .inr w11 =>
        (k116 rb (d2, d3) d2 d1.2.2.2.2.2.2.1 (((d1.2.2.2.2.2.2.1.length : Nat) : Int)) 0).bind fun (z12 : ((XP × List XU) × Int) ⊕ (XP × List XU)) =>
        match z12 with
        | .inl u13 =>
          some (d1, u13.2)
        | .inr w14 =>
          some (d1, 0)
theorem eb113 (rf : T.RF) (rb : T.RB) (d1 : XU) (d2 : XP) (d3 : List XU) : T.stepB rf rb 113 (d1, d2, d3) = b113 rf rb d1 d2 d3 := by kernel_rfl
theorem ob113 {d1 : XU} {d2 : XP} {d3 : List XU} {y : (XU × Int)} (h : b113 T.rf T.rb d1 d2 d3 = some y) : k113 T.rb d1 d2 d3 = some y := T.rb_of (κ := 113) (d := (d1, d2, d3)) ((eb113 T.rf T.rb d1 d2 d3).trans h)

/- types.unit loop 0 -/
noncomputable def b114 (rf : T.RF) (rb : T.RB) (d1 : XP) (d2 : List XU) (d3 : List XI) (d4 : Int) (d5 : Int) : Option ((List XU × XP × Int) ⊕ (List XU × XP) ⊕ (XP × List XU × Int) ⊕ (XP × List XU)) :=
  bif decide (d5 < d4) then
    bif inb d5 d3.length then
      (nth d3 d5.toNat).bind fun (x1 : XI) =>
      (c90 rf d1 d2 x1).bind fun (y2 : (List XU × XP × Int) ⊕ (XP × List XU × Int)) =>
      match y2 with
      | .inl u3 =>
        bif u3.2.2 != 0 then
          some (.inl u3)
        else
          (k115 rb u3.1 u3.2.1 d3 d4 (IntKind.i64.wrap (d5 + 1))).bind fun (z5 : (List XU × XP × Int) ⊕ (List XU × XP)) =>
          match z5 with
          | .inl u6 =>
            some (.inl u6)
          | .inr w7 =>
            some (.inr (.inl w7))
      | .inr w4 =>
        bif w4.2.2 != 0 then
          some (.inr (.inr (.inl w4)))
        else
          k114 rb w4.1 w4.2.1 d3 d4 (IntKind.i64.wrap (d5 + 1))
    else
      none
  else
    some (.inr (.inr (.inr (d1, d2))))
theorem eb114 (rf : T.RF) (rb : T.RB) (d1 : XP) (d2 : List XU) (d3 : List XI) (d4 : Int) (d5 : Int) : T.stepB rf rb 114 (d1, d2, d3, d4, d5) = b114 rf rb d1 d2 d3 d4 d5 := by kernel_rfl
theorem ob114 {d1 : XP} {d2 : List XU} {d3 : List XI} {d4 : Int} {d5 : Int} {y : ((List XU × XP × Int) ⊕ (List XU × XP) ⊕ (XP × List XU × Int) ⊕ (XP × List XU))} (h : b114 T.rf T.rb d1 d2 d3 d4 d5 = some y) : k114 T.rb d1 d2 d3 d4 d5 = some y := T.rb_of (κ := 114) (d := (d1, d2, d3, d4, d5)) ((eb114 T.rf T.rb d1 d2 d3 d4 d5).trans h)

/- types.unit loop 0 alt -/
noncomputable def b115 (rf : T.RF) (rb : T.RB) (d1 : List XU) (d2 : XP) (d3 : List XI) (d4 : Int) (d5 : Int) : Option ((List XU × XP × Int) ⊕ (List XU × XP)) :=
  bif decide (d5 < d4) then
    bif inb d5 d3.length then
      (nth d3 d5.toNat).bind fun (x1 : XI) =>
      (c92 rf d1 d2 x1).bind fun (y2 : (List XU × XP × Int) ⊕ (List XU × XP × Int)) =>
      match y2 with
      | .inl u3 =>
        bif u3.2.2 != 0 then
          some (.inl u3)
        else
          k115 rb u3.1 u3.2.1 d3 d4 (IntKind.i64.wrap (d5 + 1))
      | .inr w4 =>
        bif w4.2.2 != 0 then
          some (.inl w4)
        else
          k115 rb w4.1 w4.2.1 d3 d4 (IntKind.i64.wrap (d5 + 1))
    else
      none
  else
    some (.inr (d1, d2))
theorem eb115 (rf : T.RF) (rb : T.RB) (d1 : List XU) (d2 : XP) (d3 : List XI) (d4 : Int) (d5 : Int) : T.stepB rf rb 115 (d1, d2, d3, d4, d5) = b115 rf rb d1 d2 d3 d4 d5 := by kernel_rfl
theorem ob115 {d1 : List XU} {d2 : XP} {d3 : List XI} {d4 : Int} {d5 : Int} {y : ((List XU × XP × Int) ⊕ (List XU × XP))} (h : b115 T.rf T.rb d1 d2 d3 d4 d5 = some y) : k115 T.rb d1 d2 d3 d4 d5 = some y := T.rb_of (κ := 115) (d := (d1, d2, d3, d4, d5)) ((eb115 T.rf T.rb d1 d2 d3 d4 d5).trans h)

/- types.unit loop 2 -/
noncomputable def b116 (rf : T.RF) (rb : T.RB) (d1 : XP × List XU) (d2 : XP) (d3 : List (List UInt8 × XL)) (d4 : Int) (d5 : Int) : Option (((XP × List XU) × Int) ⊕ (XP × List XU)) :=
  bif decide (d5 < d4) then
    bif inb d5 d3.length then
      (nth d3 d5.toNat).bind fun (x1 : List UInt8 × XL) =>
      (c94 rf x1 d2).bind fun (y2 : (List UInt8 × XL) × Int) =>
      bif decide (y2.2 < 0) then
        some (.inl (d1, 8))
      else
      bif inb y2.2 d2.length then
        (nth d2 y2.2.toNat).bind fun (x3 : List UInt8 × Int) =>
        (c96 rf d1 x3.2 [y2.1.2]).bind fun (y4 : (XP × List XU) × Int) =>
        bif y4.2 != 0 then
          some (.inl y4)
        else
          k116 rb y4.1 d2 d3 d4 (IntKind.i64.wrap (d5 + 1))
      else
        none
    else
      none
  else
    some (.inr d1)
theorem eb116 (rf : T.RF) (rb : T.RB) (d1 : XP × List XU) (d2 : XP) (d3 : List (List UInt8 × XL)) (d4 : Int) (d5 : Int) : T.stepB rf rb 116 (d1, d2, d3, d4, d5) = b116 rf rb d1 d2 d3 d4 d5 := by kernel_rfl
theorem ob116 {d1 : XP × List XU} {d2 : XP} {d3 : List (List UInt8 × XL)} {d4 : Int} {d5 : Int} {y : (((XP × List XU) × Int) ⊕ (XP × List XU))} (h : b116 T.rf T.rb d1 d2 d3 d4 d5 = some y) : k116 T.rb d1 d2 d3 d4 d5 = some y := T.rb_of (κ := 116) (d := (d1, d2, d3, d4, d5)) ((eb116 T.rf T.rb d1 d2 d3 d4 d5).trans h)

/- types.unit -/
noncomputable def r87 (rf : T.RF) (rb : T.RB) (d1 : XU) (d2 : List XU) : Option Int :=
  (c88 rf d1.2.2.1).bind fun (y1 : XP) =>
  bif !d1.1 then
    bif (Nat.ble (y1.length + 1) most) && true then
      bif (Nat.ble ((y1 ++ [(d1.2.2.2.1, d1.2.2.2.2.1)]).length + d1.2.2.2.2.2.1.length) most) && true then
        (k113 rb d1 ((y1 ++ [(d1.2.2.2.1, d1.2.2.2.2.1)]) ++ d1.2.2.2.2.2.1) d2).bind fun (z2 : XU × Int) =>
        some z2.2
      else
        none
    else
      none
  else
    (k113 rb d1 y1 d2).bind fun (z3 : XU × Int) =>
    some z3.2
theorem er87 (rf : T.RF) (rb : T.RB) (d1 : XU) (d2 : List XU) : T.stepF rf rb 87 (d1, d2) = r87 rf rb d1 d2 := by kernel_rfl
theorem or87 {d1 : XU} {d2 : List XU} {y : Int} (h : r87 T.rf T.rb d1 d2 = some y) : c87 T.rf d1 d2 = some y := T.rf_of (f := 87) (d := (d1, d2)) ((er87 T.rf T.rb d1 d2).trans h)

/- types.Check loop 0 -/
noncomputable def b96 (rf : T.RF) (rb : T.RB) (d1 : List XU × List UInt8 × List UInt8) (d2 : Int × Int) (d3 : List XU) (d4 : Int) (d5 : Int) : Option (((List XU × List UInt8 × List UInt8) × Int × Int) ⊕ ((List XU × List UInt8 × List UInt8) × Int × Int)) :=
  bif decide (d5 < d4) then
    bif inb d5 d3.length then
      (nth d3 d5.toNat).bind fun (x1 : XU) =>
      bif inb' d5 d1.1.length then
        (c87 rf x1 (sub d1.1 (some (0, (d5.toNat - 0))))).bind fun (y2 : Int) =>
        bif y2 != 0 then
          some (.inl (d1, y2, d5))
        else
          k96 rb d1 d2 d3 d4 (IntKind.i64.wrap (d5 + 1))
      else
        none
    else
      none
  else
    some (.inr (d1, d2))
theorem eb96 (rf : T.RF) (rb : T.RB) (d1 : List XU × List UInt8 × List UInt8) (d2 : Int × Int) (d3 : List XU) (d4 : Int) (d5 : Int) : T.stepB rf rb 96 (d1, d2, d3, d4, d5) = b96 rf rb d1 d2 d3 d4 d5 := by kernel_rfl
theorem ob96 {d1 : List XU × List UInt8 × List UInt8} {d2 : Int × Int} {d3 : List XU} {d4 : Int} {d5 : Int} {y : (((List XU × List UInt8 × List UInt8) × Int × Int) ⊕ ((List XU × List UInt8 × List UInt8) × Int × Int))} (h : b96 T.rf T.rb d1 d2 d3 d4 d5 = some y) : k96 T.rb d1 d2 d3 d4 d5 = some y := T.rb_of (κ := 96) (d := (d1, d2, d3, d4, d5)) ((eb96 T.rf T.rb d1 d2 d3 d4 d5).trans h)

/- types.Check -/
noncomputable def r86 (rf : T.RF) (rb : T.RB) (d1 : List XU × List UInt8 × List UInt8) : Option (Int × Int) :=
  (k96 rb d1 (0, 0) d1.1 (((d1.1.length : Nat) : Int)) 0).bind fun (z1 : ((List XU × List UInt8 × List UInt8) × Int × Int) ⊕ ((List XU × List UInt8 × List UInt8) × Int × Int)) =>
  match z1 with
  | .inl u2 =>
    some u2.2
  | .inr w3 =>
    some (0, 0)
theorem er86 (rf : T.RF) (rb : T.RB) (d1 : List XU × List UInt8 × List UInt8) : T.stepF rf rb 86 d1 = r86 rf rb d1 := by kernel_rfl
theorem or86 {d1 : List XU × List UInt8 × List UInt8} {y : (Int × Int)} (h : r86 T.rf T.rb d1 = some y) : c86 T.rf d1 = some y := T.rf_of (f := 86) (d := d1) ((er86 T.rf T.rb d1).trans h)

/- bailmentlaw09.live -/
noncomputable def r1 (rf : T.RF) (rb : T.RB) : Option Bool :=
  (c2 rf ([102, 40, 97, 44, 32, 111, 110, 99, 101, 32, 98, 41, 32, 43, 32, 112, 114, 101, 32, 97] : List UInt8)).bind fun (y1 : XL) =>
  (c44 rf y1 [(([97] : List UInt8), 2), (([98] : List UInt8), 1)] [(false, ([102] : List UInt8), [(([97] : List UInt8), 2), (([98] : List UInt8), 1)], ([99] : List UInt8), 2, [], [], [])]).bind fun (y2 : Int × Int) =>
  (c2 rf ([97, 32, 60, 32, 116, 114, 117, 101] : List UInt8)).bind fun (y3 : XL) =>
  (c44 rf y3 [(([97] : List UInt8), 2), (([98] : List UInt8), 1)] [(false, ([102] : List UInt8), [(([97] : List UInt8), 2), (([98] : List UInt8), 1)], ([99] : List UInt8), 2, [], [], [])]).bind fun (y4 : Int × Int) =>
  (c2 rf ([102, 40, 98, 44, 32, 97, 41] : List UInt8)).bind fun (y5 : XL) =>
  (c44 rf y5 [(([97] : List UInt8), 2), (([98] : List UInt8), 1)] [(false, ([102] : List UInt8), [(([97] : List UInt8), 2), (([98] : List UInt8), 1)], ([99] : List UInt8), 2, [], [], [])]).bind fun (y6 : Int × Int) =>
  (c2 rf ([102, 40, 97, 41] : List UInt8)).bind fun (y7 : XL) =>
  (c44 rf y7 [(([97] : List UInt8), 2), (([98] : List UInt8), 1)] [(false, ([102] : List UInt8), [(([97] : List UInt8), 2), (([98] : List UInt8), 1)], ([99] : List UInt8), 2, [], [], [])]).bind fun (y8 : Int × Int) =>
  (c2 rf ([120] : List UInt8)).bind fun (y9 : XL) =>
  (c44 rf y9 [(([97] : List UInt8), 2), (([98] : List UInt8), 1)] [(false, ([102] : List UInt8), [(([97] : List UInt8), 2), (([98] : List UInt8), 1)], ([99] : List UInt8), 2, [], [], [])]).bind fun (y10 : Int × Int) =>
  (c44 rf [] [(([97] : List UInt8), 2), (([98] : List UInt8), 1)] [(false, ([102] : List UInt8), [(([97] : List UInt8), 2), (([98] : List UInt8), 1)], ([99] : List UInt8), 2, [], [], [])]).bind fun (y11 : Int × Int) =>
  (c63 rf ([110, 111, 100, 101, 32, 102, 40, 97, 58, 105, 110, 116, 41, 32, 114, 101, 116, 117, 114, 110, 115, 40, 99, 58, 98, 111, 111, 108, 41, 32, 108, 101, 116, 32, 99, 61, 97, 59, 32, 116, 101, 108, 32, 109, 97, 105, 110, 32, 102, 59] : List UInt8)).bind fun (y12 : (List XU × List UInt8 × List UInt8) × Int × Int) =>
  bif y2.1 == 2 then
    bif y2.2 == 0 then
      bif y4.2 == 10 then
        bif y6.2 == 10 then
          bif y8.2 == 14 then
            bif y10.2 == 8 then
              bif y11.2 == 1 then
                (c86 rf y12.1).bind fun (y13 : Int × Int) =>
                bif (y13.1 == 10) && (y13.2 == 0) then
                  (c86 rf ([], ([] : List UInt8), ([] : List UInt8))).bind fun (y14 : Int × Int) =>
                  some ((y14.1 == 0) && (y14.2 == 0))
                else
                  some false
              else
                some false
            else
              some false
          else
            some false
        else
          some false
      else
        some false
    else
      some false
  else
    some false
theorem er1 (rf : T.RF) (rb : T.RB) : T.stepF rf rb 1 () = r1 rf rb := by kernel_rfl
theorem or1 {y : Bool} (h : r1 T.rf T.rb = some y) : c1 T.rf = some y := T.rf_of (f := 1) (d := ()) ((er1 T.rf T.rb).trans h)

/- bailmentref06.Small loop 0 -/
noncomputable def b118 (rf : T.RF) (rb : T.RB) (d1 : List XU × List UInt8 × List UInt8) (d2 : Int) : Option (((List XU × List UInt8 × List UInt8) × Bool) ⊕ (List XU × List UInt8 × List UInt8)) :=
  bif decide (d2 < (((d1.1.length : Nat) : Int))) then
    bif inb d2 d1.1.length then
      (nth d1.1 d2.toNat).bind fun (x1 : XU) =>
      bif decide ((((x1.2.2.1.length : Nat) : Int)) > 30) then
        some (.inl (d1, false))
      else
      bif decide ((((x1.2.2.2.2.2.1.length : Nat) : Int)) > 30) then
        some (.inl (d1, false))
      else
      bif decide ((((x1.2.2.2.2.2.2.1.length : Nat) : Int)) > 30) then
        some (.inl (d1, false))
      else
      bif decide ((((x1.2.2.2.2.2.2.2.length : Nat) : Int)) > 30) then
        some (.inl (d1, false))
      else
        (k119 rb x1 0).bind fun (z2 : (XU × Bool) ⊕ XU) =>
        match z2 with
        | .inl u3 =>
          some (.inl (d1, u3.2))
        | .inr w4 =>
          (k120 rb w4 0).bind fun (z5 : (XU × Bool) ⊕ XU) =>
          match z5 with
          | .inl u6 =>
            some (.inl (d1, u6.2))
          | .inr w7 =>
            k118 rb d1 (IntKind.i64.wrap (d2 + 1))
    else
      none
  else
    some (.inr d1)
theorem eb118 (rf : T.RF) (rb : T.RB) (d1 : List XU × List UInt8 × List UInt8) (d2 : Int) : T.stepB rf rb 118 (d1, d2) = b118 rf rb d1 d2 := by kernel_rfl
theorem ob118 {d1 : List XU × List UInt8 × List UInt8} {d2 : Int} {y : (((List XU × List UInt8 × List UInt8) × Bool) ⊕ (List XU × List UInt8 × List UInt8))} (h : b118 T.rf T.rb d1 d2 = some y) : k118 T.rb d1 d2 = some y := T.rb_of (κ := 118) (d := (d1, d2)) ((eb118 T.rf T.rb d1 d2).trans h)

/- bailmentref06.Small loop 2 -/
noncomputable def b119 (rf : T.RF) (rb : T.RB) (d1 : XU) (d2 : Int) : Option ((XU × Bool) ⊕ XU) :=
  bif decide (d2 < (((d1.2.2.2.2.2.2.1.length : Nat) : Int))) then
    bif inb d2 d1.2.2.2.2.2.2.1.length then
      (nth d1.2.2.2.2.2.2.1 d2.toNat).bind fun (x1 : List UInt8 × XL) =>
      bif decide ((((x1.2.length : Nat) : Int)) > 200) then
        some (.inl (d1, false))
      else
        k119 rb d1 (IntKind.i64.wrap (d2 + 1))
    else
      none
  else
    some (.inr d1)
theorem eb119 (rf : T.RF) (rb : T.RB) (d1 : XU) (d2 : Int) : T.stepB rf rb 119 (d1, d2) = b119 rf rb d1 d2 := by kernel_rfl
theorem ob119 {d1 : XU} {d2 : Int} {y : ((XU × Bool) ⊕ XU)} (h : b119 T.rf T.rb d1 d2 = some y) : k119 T.rb d1 d2 = some y := T.rb_of (κ := 119) (d := (d1, d2)) ((eb119 T.rf T.rb d1 d2).trans h)

/- bailmentref06.Small loop 4 -/
noncomputable def b120 (rf : T.RF) (rb : T.RB) (d1 : XU) (d2 : Int) : Option ((XU × Bool) ⊕ XU) :=
  bif decide (d2 < (((d1.2.2.2.2.2.2.2.length : Nat) : Int))) then
    bif inb d2 d1.2.2.2.2.2.2.2.length then
      (nth d1.2.2.2.2.2.2.2 d2.toNat).bind fun (x1 : XI) =>
      bif decide ((((x1.2.2.2.1.length : Nat) : Int)) > 200) then
        some (.inl (d1, false))
      else
      bif decide ((((x1.2.2.2.2.1.length : Nat) : Int)) > 200) then
        some (.inl (d1, false))
      else
      bif decide ((((x1.2.2.2.2.2.length : Nat) : Int)) > 30) then
        some (.inl (d1, false))
      else
        (k121 rb x1 0).bind fun (z2 : (XI × Bool) ⊕ XI) =>
        match z2 with
        | .inl u3 =>
          some (.inl (d1, u3.2))
        | .inr w4 =>
          k120 rb d1 (IntKind.i64.wrap (d2 + 1))
    else
      none
  else
    some (.inr d1)
theorem eb120 (rf : T.RF) (rb : T.RB) (d1 : XU) (d2 : Int) : T.stepB rf rb 120 (d1, d2) = b120 rf rb d1 d2 := by kernel_rfl
theorem ob120 {d1 : XU} {d2 : Int} {y : ((XU × Bool) ⊕ XU)} (h : b120 T.rf T.rb d1 d2 = some y) : k120 T.rb d1 d2 = some y := T.rb_of (κ := 120) (d := (d1, d2)) ((eb120 T.rf T.rb d1 d2).trans h)

/- bailmentref06.Small loop 6 -/
noncomputable def b121 (rf : T.RF) (rb : T.RB) (d1 : XI) (d2 : Int) : Option ((XI × Bool) ⊕ XI) :=
  bif decide (d2 < (((d1.2.2.2.2.2.length : Nat) : Int))) then
    bif inb d2 d1.2.2.2.2.2.length then
      (nth d1.2.2.2.2.2 d2.toNat).bind fun (x1 : XL) =>
      bif decide ((((x1.length : Nat) : Int)) > 200) then
        some (.inl (d1, false))
      else
        k121 rb d1 (IntKind.i64.wrap (d2 + 1))
    else
      none
  else
    some (.inr d1)
theorem eb121 (rf : T.RF) (rb : T.RB) (d1 : XI) (d2 : Int) : T.stepB rf rb 121 (d1, d2) = b121 rf rb d1 d2 := by kernel_rfl
theorem ob121 {d1 : XI} {d2 : Int} {y : ((XI × Bool) ⊕ XI)} (h : b121 T.rf T.rb d1 d2 = some y) : k121 T.rb d1 d2 = some y := T.rb_of (κ := 121) (d := (d1, d2)) ((eb121 T.rf T.rb d1 d2).trans h)

/- bailmentref06.Small -/
noncomputable def r97 (rf : T.RF) (rb : T.RB) (d1 : List XU × List UInt8 × List UInt8) : Option Bool :=
  bif decide ((((d1.1.length : Nat) : Int)) > 30) then
    some false
  else
    (k118 rb d1 0).bind fun (z1 : ((List XU × List UInt8 × List UInt8) × Bool) ⊕ (List XU × List UInt8 × List UInt8)) =>
    match z1 with
    | .inl u2 =>
      some u2.2
    | .inr w3 =>
      some true
theorem er97 (rf : T.RF) (rb : T.RB) (d1 : List XU × List UInt8 × List UInt8) : T.stepF rf rb 97 d1 = r97 rf rb d1 := by kernel_rfl
theorem or97 {d1 : List XU × List UInt8 × List UInt8} {y : Bool} (h : r97 T.rf T.rb d1 = some y) : c97 T.rf d1 = some y := T.rf_of (f := 97) (d := d1) ((er97 T.rf T.rb d1).trans h)

/- bailmentref03.bare -/
noncomputable def r100 (rf : T.RF) (rb : T.RB) (d1 : XN) : Option Bool :=
  (c30 rf d1).bind fun (y1 : List Int) =>
  bif d1.1 == 27 then
    bif d1.2.2.1 == (-1) then
      some (d1.2.2.2.1 == (-1))
    else
      some false
  else
  bif d1.1 == 28 then
    some (d1.2.2.2.1 == (-1))
  else
  bif decide ((((y1.length : Nat) : Int)) > 0) then
    bif decide ((((y1.length : Nat) : Int)) > 1) then
      bif decide ((((y1.length : Nat) : Int)) > 2) then
        some true
      else
        some (d1.2.2.2.1 == (-1))
    else
    bif d1.2.2.1 == (-1) then
      bif decide ((((y1.length : Nat) : Int)) > 2) then
        some true
      else
        some (d1.2.2.2.1 == (-1))
    else
      some false
  else
  bif d1.2.1 == (-1) then
    bif decide ((((y1.length : Nat) : Int)) > 1) then
      bif decide ((((y1.length : Nat) : Int)) > 2) then
        some true
      else
        some (d1.2.2.2.1 == (-1))
    else
    bif d1.2.2.1 == (-1) then
      bif decide ((((y1.length : Nat) : Int)) > 2) then
        some true
      else
        some (d1.2.2.2.1 == (-1))
    else
      some false
  else
    some false
theorem er100 (rf : T.RF) (rb : T.RB) (d1 : XN) : T.stepF rf rb 100 d1 = r100 rf rb d1 := by kernel_rfl
theorem or100 {d1 : XN} {y : Bool} (h : r100 T.rf T.rb d1 = some y) : c100 T.rf d1 = some y := T.rf_of (f := 100) (d := d1) ((er100 T.rf T.rb d1).trans h)

/- bailmentref03.plain -/
noncomputable def r101 (rf : T.RF) (rb : T.RB) (d1 : XN) : Option Bool :=
  bif d1.1 == 3 then
    bif !((!(d1.2.2.2.2.2 == ([] : List UInt8))) == true) then
      some false
    else
    bif d1.1 == 1 then
      bif decide (d1.2.2.2.2.1 ≥ 0) then
        some (decide (d1.2.2.2.2.1 ≤ 2147483647))
      else
        some false
    else
    bif d1.1 == 2 then
      bif d1.2.2.2.2.1 == 0 then
        some true
      else
        some (d1.2.2.2.2.1 == 1)
    else
    bif d1.1 == 25 then
      bif decide (d1.2.2.2.2.1 ≥ 0) then
        some (decide (d1.2.2.2.2.1 ≤ 1000))
      else
        some false
    else
      some (d1.2.2.2.2.1 == 0)
  else
  bif !((!(d1.2.2.2.2.2 == ([] : List UInt8))) == (d1.1 == 27)) then
    some false
  else
  bif d1.1 == 1 then
    bif decide (d1.2.2.2.2.1 ≥ 0) then
      some (decide (d1.2.2.2.2.1 ≤ 2147483647))
    else
      some false
  else
  bif d1.1 == 2 then
    bif d1.2.2.2.2.1 == 0 then
      some true
    else
      some (d1.2.2.2.2.1 == 1)
  else
  bif d1.1 == 25 then
    bif decide (d1.2.2.2.2.1 ≥ 0) then
      some (decide (d1.2.2.2.2.1 ≤ 1000))
    else
      some false
  else
    some (d1.2.2.2.2.1 == 0)
theorem er101 (rf : T.RF) (rb : T.RB) (d1 : XN) : T.stepF rf rb 101 d1 = r101 rf rb d1 := by kernel_rfl
theorem or101 {d1 : XN} {y : Bool} (h : r101 T.rf T.rb d1 = some y) : c101 T.rf d1 = some y := T.rf_of (f := 101) (d := d1) ((er101 T.rf T.rb d1).trans h)

/- bailmentref03.args loop 0 -/
noncomputable def b124 (rf : T.RF) (rb : T.RB) (d1 : XN) (d2 : List Int) (d3 : XL) (d4 : Int) : Option ((XN × List Int × Bool) ⊕ (XN × List Int)) :=
  bif decide (d4 < (((d2.length : Nat) : Int))) then
    bif inb d4 d2.length then
      (nth d2 d4.toNat).bind fun (x1 : Int) =>
      bif inb x1 d3.length then
        (nth d3 x1.toNat).bind fun (x2 : XN) =>
        bif d1.1 == 27 then
          bif !((x2.1 == 28) == true) then
            some (.inl (d1, d2, false))
          else
            k124 rb d1 d2 d3 (IntKind.i64.wrap (d4 + 1))
        else
        bif d1.1 == 28 then
          bif (((d2.length : Nat) : Int)) == 2 then
            bif !((x2.1 == 28) == (d4 == 0)) then
              some (.inl (d1, d2, false))
            else
              k124 rb d1 d2 d3 (IntKind.i64.wrap (d4 + 1))
          else
          bif !((x2.1 == 28) == false) then
            some (.inl (d1, d2, false))
          else
            k124 rb d1 d2 d3 (IntKind.i64.wrap (d4 + 1))
        else
        bif !((x2.1 == 28) == false) then
          some (.inl (d1, d2, false))
        else
          k124 rb d1 d2 d3 (IntKind.i64.wrap (d4 + 1))
      else
        none
    else
      none
  else
    some (.inr (d1, d2))
theorem eb124 (rf : T.RF) (rb : T.RB) (d1 : XN) (d2 : List Int) (d3 : XL) (d4 : Int) : T.stepB rf rb 124 (d1, d2, d3, d4) = b124 rf rb d1 d2 d3 d4 := by kernel_rfl
theorem ob124 {d1 : XN} {d2 : List Int} {d3 : XL} {d4 : Int} {y : ((XN × List Int × Bool) ⊕ (XN × List Int))} (h : b124 T.rf T.rb d1 d2 d3 d4 = some y) : k124 T.rb d1 d2 d3 d4 = some y := T.rb_of (κ := 124) (d := (d1, d2, d3, d4)) ((eb124 T.rf T.rb d1 d2 d3 d4).trans h)

/- bailmentref03.args -/
noncomputable def r102 (rf : T.RF) (rb : T.RB) (d1 : XL) (d2 : Int) : Option Bool :=
  bif inb d2 d1.length then
    (nth d1 d2.toNat).bind fun (x1 : XN) =>
    (c30 rf x1).bind fun (y2 : List Int) =>
    (k124 rb x1 y2 d1 0).bind fun (z3 : (XN × List Int × Bool) ⊕ (XN × List Int)) =>
    match z3 with
    | .inl u4 =>
      some u4.2.2
    | .inr w5 =>
      some true
  else
    none
theorem er102 (rf : T.RF) (rb : T.RB) (d1 : XL) (d2 : Int) : T.stepF rf rb 102 (d1, d2) = r102 rf rb d1 d2 := by kernel_rfl
theorem or102 {d1 : XL} {d2 : Int} {y : Bool} (h : r102 T.rf T.rb d1 d2 = some y) : c102 T.rf d1 d2 = some y := T.rf_of (f := 102) (d := (d1, d2)) ((er102 T.rf T.rb d1 d2).trans h)

/- bailmentref03.May loop 0 -/
noncomputable def b122 (rf : T.RF) (rb : T.RB) (d1 : List Int) (d2 : XL) (d3 : Int) : Option ((List Int × Bool) ⊕ (List Int)) :=
  bif decide (d3 < (((d2.length : Nat) : Int))) then
    bif inb d3 d2.length then
      (nth d2 d3.toNat).bind fun (x1 : XN) =>
      bif decide (x1.1 < 1) then
        some (.inl (d1, false))
      else
      bif inb d3 d2.length then
        (nth d2 d3.toNat).bind fun (x2 : XN) =>
        bif decide (x2.1 > 28) then
          some (.inl (d1, false))
        else
        bif inb d3 d2.length then
          (nth d2 d3.toNat).bind fun (x3 : XN) =>
          (c100 rf x3).bind fun (y4 : Bool) =>
          bif !y4 then
            some (.inl (d1, false))
          else
          bif inb d3 d2.length then
            (nth d2 d3.toNat).bind fun (x5 : XN) =>
            (c101 rf x5).bind fun (y6 : Bool) =>
            bif !y6 then
              some (.inl (d1, false))
            else
            bif inb d3 d2.length then
              (nth d2 d3.toNat).bind fun (x7 : XN) =>
              (c30 rf x7).bind fun (y8 : List Int) =>
              (k123 rb d1 y8 d3 0).bind fun (z9 : (List Int × List Int × Bool) ⊕ (List Int × List Int)) =>
              match z9 with
              | .inl u10 =>
                some (.inl (u10.1, u10.2.2))
              | .inr w11 =>
                (c102 rf d2 d3).bind fun (y12 : Bool) =>
                bif !y12 then
                  some (.inl (w11.1, false))
                else
                  k122 rb w11.1 d2 (IntKind.i64.wrap (d3 + 1))
            else
              none
          else
            none
        else
          none
      else
        none
    else
      none
  else
    some (.inr d1)
theorem eb122 (rf : T.RF) (rb : T.RB) (d1 : List Int) (d2 : XL) (d3 : Int) : T.stepB rf rb 122 (d1, d2, d3) = b122 rf rb d1 d2 d3 := by kernel_rfl
theorem ob122 {d1 : List Int} {d2 : XL} {d3 : Int} {y : ((List Int × Bool) ⊕ (List Int))} (h : b122 T.rf T.rb d1 d2 d3 = some y) : k122 T.rb d1 d2 d3 = some y := T.rb_of (κ := 122) (d := (d1, d2, d3)) ((eb122 T.rf T.rb d1 d2 d3).trans h)

/- bailmentref03.May loop 2 -/
noncomputable def b123 (rf : T.RF) (rb : T.RB) (d1 : List Int) (d2 : List Int) (d3 : Int) (d4 : Int) : Option ((List Int × List Int × Bool) ⊕ (List Int × List Int)) :=
  bif decide (d4 < (((d2.length : Nat) : Int))) then
    bif inb d4 d2.length then
      (nth d2 d4.toNat).bind fun (x1 : Int) =>
      bif decide (x1 < 0) then
        some (.inl (d1, d2, false))
      else
      bif inb d4 d2.length then
        (nth d2 d4.toNat).bind fun (x2 : Int) =>
        bif decide (x2 ≥ d3) then
          some (.inl (d1, d2, false))
        else
        bif inb d4 d2.length then
          (nth d2 d4.toNat).bind fun (x3 : Int) =>
          bif inb x3 d1.length then
            (nth d1 x3.toNat).bind fun (x4 : Int) =>
            bif inb x3 d1.length then
              bif Nat.blt x3.toNat d1.length then
                k123 rb (setNth d1 x3.toNat (IntKind.i64.wrap (x4 + 1))) d2 d3 (IntKind.i64.wrap (d4 + 1))
              else
                none
            else
              none
          else
            none
        else
          none
      else
        none
    else
      none
  else
    some (.inr (d1, d2))
theorem eb123 (rf : T.RF) (rb : T.RB) (d1 : List Int) (d2 : List Int) (d3 : Int) (d4 : Int) : T.stepB rf rb 123 (d1, d2, d3, d4) = b123 rf rb d1 d2 d3 d4 := by kernel_rfl
theorem ob123 {d1 : List Int} {d2 : List Int} {d3 : Int} {d4 : Int} {y : ((List Int × List Int × Bool) ⊕ (List Int × List Int))} (h : b123 T.rf T.rb d1 d2 d3 d4 = some y) : k123 T.rb d1 d2 d3 d4 = some y := T.rb_of (κ := 123) (d := (d1, d2, d3, d4)) ((eb123 T.rf T.rb d1 d2 d3 d4).trans h)

/- bailmentref03.May loop 4 -/
noncomputable def b125 (rf : T.RF) (rb : T.RB) (d1 : List Int) (d2 : XL) (d3 : Int) : Option ((List Int × Bool) ⊕ (List Int)) :=
  bif decide (d3 < (IntKind.i64.wrap ((((d2.length : Nat) : Int)) - 1))) then
    bif inb d3 d1.length then
      (nth d1 d3.toNat).bind fun (x1 : Int) =>
      bif x1 != 1 then
        some (.inl (d1, false))
      else
        k125 rb d1 d2 (IntKind.i64.wrap (d3 + 1))
    else
      none
  else
    some (.inr d1)
theorem eb125 (rf : T.RF) (rb : T.RB) (d1 : List Int) (d2 : XL) (d3 : Int) : T.stepB rf rb 125 (d1, d2, d3) = b125 rf rb d1 d2 d3 := by kernel_rfl
theorem ob125 {d1 : List Int} {d2 : XL} {d3 : Int} {y : ((List Int × Bool) ⊕ (List Int))} (h : b125 T.rf T.rb d1 d2 d3 = some y) : k125 T.rb d1 d2 d3 = some y := T.rb_of (κ := 125) (d := (d1, d2, d3)) ((eb125 T.rf T.rb d1 d2 d3).trans h)

/- bailmentref03.May -/
noncomputable def r99 (rf : T.RF) (rb : T.RB) (d1 : XL) : Option Bool :=
  bif decide ((((d1.length : Nat) : Int)) < 1) then
    some false
  else
  bif decide ((((d1.length : Nat) : Int)) > 5000) then
    some false
  else
  bif inb' (((d1.length : Nat) : Int)) most then
    bif inb' (((d1.length : Nat) : Int)) d1.length then
      (k122 rb (List.replicate d1.length 0) d1 0).bind fun (z1 : (List Int × Bool) ⊕ (List Int)) =>
      match z1 with
      | .inl u2 =>
        some u2.2
      | .inr w3 =>
        (k125 rb w3 d1 0).bind fun (z4 : (List Int × Bool) ⊕ (List Int)) =>
        match z4 with
        | .inl u5 =>
          some u5.2
        | .inr w6 =>
          bif inb (IntKind.i64.wrap ((((d1.length : Nat) : Int)) - 1)) d1.length then
            (nth d1 (IntKind.i64.wrap ((((d1.length : Nat) : Int)) - 1)).toNat).bind fun (x7 : XN) =>
            bif x7.1 != 28 then
              (c43 rf d1).bind fun (y8 : Int) =>
              some (decide (y8 ≤ 40))
            else
              some false
          else
            none
    else
      none
  else
    none
theorem er99 (rf : T.RF) (rb : T.RB) (d1 : XL) : T.stepF rf rb 99 d1 = r99 rf rb d1 := by kernel_rfl
theorem or99 {d1 : XL} {y : Bool} (h : r99 T.rf T.rb d1 = some y) : c99 T.rf d1 = some y := T.rf_of (f := 99) (d := d1) ((er99 T.rf T.rb d1).trans h)

/- bailmentref03.order loop 0 -/
noncomputable def b127 (rf : T.RF) (rb : T.RB) (d1 : XL) (d2 : List Int) (d3 : List Int) (d4 : XL) (d5 : Int) : Option (List Int × XL × List Int) :=
  bif decide (d5 < (((d2.length : Nat) : Int))) then
    bif inb d5 d2.length then
      (nth d2 d5.toNat).bind fun (x1 : Int) =>
      (c105 rf d1 d4 x1).bind fun (y2 : XL) =>
      bif (Nat.ble (d3.length + 1) most) && true then
        k127 rb y2 d2 (d3 ++ [IntKind.i64.wrap ((((y2.length : Nat) : Int)) - 1)]) d4 (IntKind.i64.wrap (d5 + 1))
      else
        none
    else
      none
  else
    some (d2, d1, d3)
theorem eb127 (rf : T.RF) (rb : T.RB) (d1 : XL) (d2 : List Int) (d3 : List Int) (d4 : XL) (d5 : Int) : T.stepB rf rb 127 (d1, d2, d3, d4, d5) = b127 rf rb d1 d2 d3 d4 d5 := by kernel_rfl
theorem ob127 {d1 : XL} {d2 : List Int} {d3 : List Int} {d4 : XL} {d5 : Int} {y : (List Int × XL × List Int)} (h : b127 T.rf T.rb d1 d2 d3 d4 d5 = some y) : k127 T.rb d1 d2 d3 d4 d5 = some y := T.rb_of (κ := 127) (d := (d1, d2, d3, d4, d5)) ((eb127 T.rf T.rb d1 d2 d3 d4 d5).trans h)

/- bailmentref03.order -/
noncomputable def r105 (rf : T.RF) (rb : T.RB) (d1 : XL) (d2 : XL) (d3 : Int) : Option XL :=
  bif inb d3 d2.length then
    (nth d2 d3.toNat).bind fun (x1 : XN) =>
    (c30 rf x1).bind fun (y2 : List Int) =>
    (k127 rb d1 y2 [] d2 0).bind fun (z3 : List Int × XL × List Int) =>
    bif inb d3 d2.length then
      (nth d2 d3.toNat).bind fun (x4 : XN) =>
      (c33 rf x4 z3.2.2).bind fun (y5 : XN) =>
      bif (Nat.ble (z3.2.1.length + 1) most) && true then
        some (z3.2.1 ++ [y5])
      else
        none
    else
      none
  else
    none
theorem er105 (rf : T.RF) (rb : T.RB) (d1 : XL) (d2 : XL) (d3 : Int) : T.stepF rf rb 105 (d1, d2, d3) = r105 rf rb d1 d2 d3 := by kernel_rfl
theorem or105 {d1 : XL} {d2 : XL} {d3 : Int} {y : XL} (h : r105 T.rf T.rb d1 d2 d3 = some y) : c105 T.rf d1 d2 d3 = some y := T.rf_of (f := 105) (d := (d1, d2, d3)) ((er105 T.rf T.rb d1 d2 d3).trans h)

/- bailmentref03.Sub -/
noncomputable def r104 (rf : T.RF) (rb : T.RB) (d1 : XL) (d2 : Int) : Option XL :=
  (c99 rf d1).bind fun (y1 : Bool) =>
  bif !y1 then
    some []
  else
  bif decide (d2 < 0) then
    some []
  else
  bif decide (d2 ≥ (((d1.length : Nat) : Int))) then
    some []
  else
    (c105 rf [] d1 d2).bind fun (y2 : XL) =>
    some y2
theorem er104 (rf : T.RF) (rb : T.RB) (d1 : XL) (d2 : Int) : T.stepF rf rb 104 (d1, d2) = r104 rf rb d1 d2 := by kernel_rfl
theorem or104 {d1 : XL} {d2 : Int} {y : XL} (h : r104 T.rf T.rb d1 d2 = some y) : c104 T.rf d1 d2 = some y := T.rf_of (f := 104) (d := (d1, d2)) ((er104 T.rf T.rb d1 d2).trans h)

/- bailmentref03.Norm -/
noncomputable def r103 (rf : T.RF) (rb : T.RB) (d1 : XL) : Option XL :=
  (c104 rf d1 (IntKind.i64.wrap ((((d1.length : Nat) : Int)) - 1))).bind fun (y1 : XL) =>
  some y1
theorem er103 (rf : T.RF) (rb : T.RB) (d1 : XL) : T.stepF rf rb 103 d1 = r103 rf rb d1 := by kernel_rfl
theorem or103 {d1 : XL} {y : XL} (h : r103 T.rf T.rb d1 = some y) : c103 T.rf d1 = some y := T.rf_of (f := 103) (d := d1) ((er103 T.rf T.rb d1).trans h)

/- bailmentref09.stream loop 0 -/
noncomputable def b129 (rf : T.RF) (rb : T.RB) (d1 : XP) (d2 : List UInt8) (d3 : Int) : Option ((Int × Bool) ⊕ Unit) :=
  bif decide (d3 < (((d1.length : Nat) : Int))) then
    bif inb d3 d1.length then
      (nth d1 d3.toNat).bind fun (x1 : List UInt8 × Int) =>
      bif x1.1 == d2 then
        bif inb d3 d1.length then
          (nth d1 d3.toNat).bind fun (x2 : List UInt8 × Int) =>
          some (.inl (x2.2, true))
        else
          none
      else
        k129 rb d1 d2 (IntKind.i64.wrap (d3 + 1))
    else
      none
  else
    some (.inr ())
theorem eb129 (rf : T.RF) (rb : T.RB) (d1 : XP) (d2 : List UInt8) (d3 : Int) : T.stepB rf rb 129 (d1, d2, d3) = b129 rf rb d1 d2 d3 := by kernel_rfl
theorem ob129 {d1 : XP} {d2 : List UInt8} {d3 : Int} {y : ((Int × Bool) ⊕ Unit)} (h : b129 T.rf T.rb d1 d2 d3 = some y) : k129 T.rb d1 d2 d3 = some y := T.rb_of (κ := 129) (d := (d1, d2, d3)) ((eb129 T.rf T.rb d1 d2 d3).trans h)

/- bailmentref09.stream -/
noncomputable def r108 (rf : T.RF) (rb : T.RB) (d1 : XP) (d2 : List UInt8) : Option (Int × Bool) :=
  (k129 rb d1 d2 0).bind fun (z1 : (Int × Bool) ⊕ Unit) =>
  match z1 with
  | .inl u2 =>
    some u2
  | .inr w3 =>
    some (0, false)
theorem er108 (rf : T.RF) (rb : T.RB) (d1 : XP) (d2 : List UInt8) : T.stepF rf rb 108 (d1, d2) = r108 rf rb d1 d2 := by kernel_rfl
theorem or108 {d1 : XP} {d2 : List UInt8} {y : (Int × Bool)} (h : r108 T.rf T.rb d1 d2 = some y) : c108 T.rf d1 d2 = some y := T.rf_of (f := 108) (d := (d1, d2)) ((er108 T.rf T.rb d1 d2).trans h)

/- bailmentref09.Node loop 0 -/
noncomputable def b130 (rf : T.RF) (rb : T.RB) (d1 : List XU) (d2 : List UInt8) (d3 : Int) : Option (Int ⊕ Unit) :=
  bif decide (d3 < (((d1.length : Nat) : Int))) then
    bif inb d3 d1.length then
      (nth d1 d3.toNat).bind fun (x1 : XU) =>
      bif x1.2.1 == d2 then
        bif inb d3 d1.length then
          (nth d1 d3.toNat).bind fun (x2 : XU) =>
          bif !x2.1 then
            some (.inl d3)
          else
            k130 rb d1 d2 (IntKind.i64.wrap (d3 + 1))
        else
          none
      else
        k130 rb d1 d2 (IntKind.i64.wrap (d3 + 1))
    else
      none
  else
    some (.inr ())
theorem eb130 (rf : T.RF) (rb : T.RB) (d1 : List XU) (d2 : List UInt8) (d3 : Int) : T.stepB rf rb 130 (d1, d2, d3) = b130 rf rb d1 d2 d3 := by kernel_rfl
theorem ob130 {d1 : List XU} {d2 : List UInt8} {d3 : Int} {y : (Int ⊕ Unit)} (h : b130 T.rf T.rb d1 d2 d3 = some y) : k130 T.rb d1 d2 d3 = some y := T.rb_of (κ := 130) (d := (d1, d2, d3)) ((eb130 T.rf T.rb d1 d2 d3).trans h)

/- bailmentref09.Node -/
noncomputable def r110 (rf : T.RF) (rb : T.RB) (d1 : List XU) (d2 : List UInt8) : Option Int :=
  (k130 rb d1 d2 0).bind fun (z1 : Int ⊕ Unit) =>
  match z1 with
  | .inl u2 =>
    some u2
  | .inr w3 =>
    some (-1)
theorem er110 (rf : T.RF) (rb : T.RB) (d1 : List XU) (d2 : List UInt8) : T.stepF rf rb 110 (d1, d2) = r110 rf rb d1 d2 := by kernel_rfl
theorem or110 {d1 : List XU} {d2 : List UInt8} {y : Int} (h : r110 T.rf T.rb d1 d2 = some y) : c110 T.rf d1 d2 = some y := T.rf_of (f := 110) (d := (d1, d2)) ((er110 T.rf T.rb d1 d2).trans h)

/- bailmentref08.Args loop 0 -/
noncomputable def b131 (rf : T.RF) (rb : T.RB) (d1 : XL) (d2 : Int) (d3 : Int) : Option Int :=
  bif decide (d3 ≥ 0) then
    bif inb d3 d1.length then
      (nth d1 d3.toNat).bind fun (x1 : XN) =>
      k131 rb d1 (IntKind.i64.wrap (d2 + 1)) x1.2.2.1
    else
      none
  else
    some d2
theorem eb131 (rf : T.RF) (rb : T.RB) (d1 : XL) (d2 : Int) (d3 : Int) : T.stepB rf rb 131 (d1, d2, d3) = b131 rf rb d1 d2 d3 := by kernel_rfl
theorem ob131 {d1 : XL} {d2 : Int} {d3 : Int} {y : Int} (h : b131 T.rf T.rb d1 d2 d3 = some y) : k131 T.rb d1 d2 d3 = some y := T.rb_of (κ := 131) (d := (d1, d2, d3)) ((eb131 T.rf T.rb d1 d2 d3).trans h)

/- bailmentref08.Args -/
noncomputable def r111 (rf : T.RF) (rb : T.RB) (d1 : XL) (d2 : Int) : Option Int :=
  bif inb d2 d1.length then
    (nth d1 d2.toNat).bind fun (x1 : XN) =>
    (k131 rb d1 0 x1.2.1).bind fun (z2 : Int) =>
    some z2
  else
    none
theorem er111 (rf : T.RF) (rb : T.RB) (d1 : XL) (d2 : Int) : T.stepF rf rb 111 (d1, d2) = r111 rf rb d1 d2 := by kernel_rfl
theorem or111 {d1 : XL} {d2 : Int} {y : Int} (h : r111 T.rf T.rb d1 d2 = some y) : c111 T.rf d1 d2 = some y := T.rf_of (f := 111) (d := (d1, d2)) ((er111 T.rf T.rb d1 d2).trans h)

/- bailmentref09.call loop 0 -/
noncomputable def b132 (rf : T.RF) (rb : T.RB) (d1 : List Int) (d2 : XL) (d3 : List XU) (d4 : Int) (d5 : Int) (d6 : Int) : Option ((List Int × Int × Int) ⊕ (List Int)) :=
  bif decide (d6 ≥ 0) then
    bif inb d6 d2.length then
      (nth d2 d6.toNat).bind fun (x1 : XN) =>
      bif inb x1.2.1 d1.length then
        (nth d1 x1.2.1.toNat).bind fun (x2 : Int) =>
        bif inb d4 d3.length then
          (nth d3 d4.toNat).bind fun (x3 : XU) =>
          bif inb d5 x3.2.2.1.length then
            (nth x3.2.2.1 d5.toNat).bind fun (x4 : List UInt8 × Int) =>
            bif x2 != x4.2 then
              some (.inl (d1, 0, 10))
            else
            bif inb d6 d2.length then
              (nth d2 d6.toNat).bind fun (x5 : XN) =>
              k132 rb d1 d2 d3 d4 (IntKind.i64.wrap (d5 - 1)) x5.2.2.1
            else
              none
          else
            none
        else
          none
      else
        none
    else
      none
  else
    some (.inr d1)
theorem eb132 (rf : T.RF) (rb : T.RB) (d1 : List Int) (d2 : XL) (d3 : List XU) (d4 : Int) (d5 : Int) (d6 : Int) : T.stepB rf rb 132 (d1, d2, d3, d4, d5, d6) = b132 rf rb d1 d2 d3 d4 d5 d6 := by kernel_rfl
theorem ob132 {d1 : List Int} {d2 : XL} {d3 : List XU} {d4 : Int} {d5 : Int} {d6 : Int} {y : ((List Int × Int × Int) ⊕ (List Int))} (h : b132 T.rf T.rb d1 d2 d3 d4 d5 d6 = some y) : k132 T.rb d1 d2 d3 d4 d5 d6 = some y := T.rb_of (κ := 132) (d := (d1, d2, d3, d4, d5, d6)) ((eb132 T.rf T.rb d1 d2 d3 d4 d5 d6).trans h)

/- bailmentref09.call -/
noncomputable def r109 (rf : T.RF) (rb : T.RB) (d1 : List Int) (d2 : XL) (d3 : Int) (d4 : List XU) : Option (List Int × Int × Int) :=
  bif inb d3 d2.length then
    (nth d2 d3.toNat).bind fun (x1 : XN) =>
    (c110 rf d4 x1.2.2.2.2.2).bind fun (y2 : Int) =>
    bif decide (y2 < 0) then
      some (d1, 0, 14)
    else
    bif inb y2 d4.length then
      (nth d4 y2.toNat).bind fun (x3 : XU) =>
      (c111 rf d2 d3).bind fun (y4 : Int) =>
      bif (((x3.2.2.1.length : Nat) : Int)) != y4 then
        some (d1, 0, 14)
      else
      bif inb y2 d4.length then
        (nth d4 y2.toNat).bind fun (x5 : XU) =>
        bif inb d3 d2.length then
          (nth d2 d3.toNat).bind fun (x6 : XN) =>
          (k132 rb d1 d2 d4 y2 (IntKind.i64.wrap ((((x5.2.2.1.length : Nat) : Int)) - 1)) x6.2.1).bind fun (z7 : (List Int × Int × Int) ⊕ (List Int)) =>
          match z7 with
          | .inl u8 =>
            some u8
          | .inr w9 =>
            bif inb y2 d4.length then
              (nth d4 y2.toNat).bind fun (x10 : XU) =>
              some (w9, x10.2.2.2.2.1, 0)
            else
              none
        else
          none
      else
        none
    else
      none
  else
    none
theorem er109 (rf : T.RF) (rb : T.RB) (d1 : List Int) (d2 : XL) (d3 : Int) (d4 : List XU) : T.stepF rf rb 109 (d1, d2, d3, d4) = r109 rf rb d1 d2 d3 d4 := by kernel_rfl
theorem or109 {d1 : List Int} {d2 : XL} {d3 : Int} {d4 : List XU} {y : (List Int × Int × Int)} (h : r109 T.rf T.rb d1 d2 d3 d4 = some y) : c109 T.rf d1 d2 d3 d4 = some y := T.rf_of (f := 109) (d := (d1, d2, d3, d4)) ((er109 T.rf T.rb d1 d2 d3 d4).trans h)

/- bailmentref09.both loop 0 -/
noncomputable def b133 (rf : T.RF) (rb : T.RB) (d1 : List Int) (d2 : List Int) (d3 : Int) (d4 : Int) : Option ((List Int × List Int × Bool) ⊕ (List Int × List Int)) :=
  bif decide (d4 < (((d2.length : Nat) : Int))) then
    bif inb d4 d2.length then
      (nth d2 d4.toNat).bind fun (x1 : Int) =>
      bif inb x1 d1.length then
        (nth d1 x1.toNat).bind fun (x2 : Int) =>
        bif x2 != d3 then
          some (.inl (d1, d2, false))
        else
          k133 rb d1 d2 d3 (IntKind.i64.wrap (d4 + 1))
      else
        none
    else
      none
  else
    some (.inr (d1, d2))
theorem eb133 (rf : T.RF) (rb : T.RB) (d1 : List Int) (d2 : List Int) (d3 : Int) (d4 : Int) : T.stepB rf rb 133 (d1, d2, d3, d4) = b133 rf rb d1 d2 d3 d4 := by kernel_rfl
theorem ob133 {d1 : List Int} {d2 : List Int} {d3 : Int} {d4 : Int} {y : ((List Int × List Int × Bool) ⊕ (List Int × List Int))} (h : b133 T.rf T.rb d1 d2 d3 d4 = some y) : k133 T.rb d1 d2 d3 d4 = some y := T.rb_of (κ := 133) (d := (d1, d2, d3, d4)) ((eb133 T.rf T.rb d1 d2 d3 d4).trans h)

/- bailmentref09.both -/
noncomputable def r112 (rf : T.RF) (rb : T.RB) (d1 : List Int) (d2 : XL) (d3 : Int) (d4 : Int) : Option (List Int × Bool) :=
  bif inb d3 d2.length then
    (nth d2 d3.toNat).bind fun (x1 : XN) =>
    (c30 rf x1).bind fun (y2 : List Int) =>
    (k133 rb d1 y2 d4 0).bind fun (z3 : (List Int × List Int × Bool) ⊕ (List Int × List Int)) =>
    match z3 with
    | .inl u4 =>
      some (u4.1, u4.2.2)
    | .inr w5 =>
      some (w5.1, true)
  else
    none
theorem er112 (rf : T.RF) (rb : T.RB) (d1 : List Int) (d2 : XL) (d3 : Int) (d4 : Int) : T.stepF rf rb 112 (d1, d2, d3, d4) = r112 rf rb d1 d2 d3 d4 := by kernel_rfl
theorem or112 {d1 : List Int} {d2 : XL} {d3 : Int} {d4 : Int} {y : (List Int × Bool)} (h : r112 T.rf T.rb d1 d2 d3 d4 = some y) : c112 T.rf d1 d2 d3 d4 = some y := T.rf_of (f := 112) (d := (d1, d2, d3, d4)) ((er112 T.rf T.rb d1 d2 d3 d4).trans h)

/- bailmentref09.one -/
noncomputable def r113 (rf : T.RF) (rb : T.RB) (d1 : Bool) (d2 : Int) : Option (Int × Int) :=
  bif !d1 then
    some (0, 10)
  else
    some (d2, 0)
theorem er113 (rf : T.RF) (rb : T.RB) (d1 : Bool) (d2 : Int) : T.stepF rf rb 113 (d1, d2) = r113 rf rb d1 d2 := by kernel_rfl
theorem or113 {d1 : Bool} {d2 : Int} {y : (Int × Int)} (h : r113 T.rf T.rb d1 d2 = some y) : c113 T.rf d1 d2 = some y := T.rf_of (f := 113) (d := (d1, d2)) ((er113 T.rf T.rb d1 d2).trans h)

/- bailmentref09.node -/
noncomputable def r107 (rf : T.RF) (rb : T.RB) (d1 : List Int) (d2 : XL) (d3 : Int) (d4 : XP) (d5 : List XU) : Option (List Int × Int × Int) :=
  bif inb d3 d2.length then
    (nth d2 d3.toNat).bind fun (x1 : XN) =>
    bif x1.1 == 1 then
      some (d1, 2, 0)
    else
    bif x1.1 == 2 then
      some (d1, 1, 0)
    else
    bif x1.1 == 28 then
      some (d1, 0, 0)
    else
    bif x1.1 == 3 then
      (c108 rf d4 x1.2.2.2.2.2).bind fun (y2 : Int × Bool) =>
      bif !y2.2 then
        some (d1, 0, 8)
      else
        some (d1, y2.1, 0)
    else
    bif x1.1 == 27 then
      (c109 rf d1 d2 d3 d5).bind fun (y3 : List Int × Int × Int) =>
      some y3
    else
    bif x1.1 == 5 then
      bif x1.1 == 5 then
        (c112 rf d1 d2 d3 2).bind fun (y4 : List Int × Bool) =>
        (c113 rf y4.2 2).bind fun (y5 : Int × Int) =>
        some (y4.1, y5)
      else
      bif x1.1 == 12 then
        bif x1.1 == 12 then
          (c112 rf d1 d2 d3 2).bind fun (y6 : List Int × Bool) =>
          (c113 rf y6.2 1).bind fun (y7 : Int × Int) =>
          some (y6.1, y7)
        else
        bif x1.1 == 10 then
          bif x1.1 == 10 then
            bif inb x1.2.1 d1.length then
              (nth d1 x1.2.1.toNat).bind fun (x8 : Int) =>
              bif inb x1.2.2.1 d1.length then
                (nth d1 x1.2.2.1.toNat).bind fun (x9 : Int) =>
                (c113 rf (x8 == x9) 1).bind fun (y10 : Int × Int) =>
                some (d1, y10)
              else
                none
            else
              none
          else
          bif x1.1 == 19 then
            bif inb x1.2.1 d1.length then
              (nth d1 x1.2.1.toNat).bind fun (x11 : Int) =>
              bif inb x1.2.2.1 d1.length then
                (nth d1 x1.2.2.1.toNat).bind fun (x12 : Int) =>
                bif inb x1.2.1 d1.length then
                  (nth d1 x1.2.1.toNat).bind fun (x13 : Int) =>
                  (c113 rf (x11 == x12) x13).bind fun (y14 : Int × Int) =>
                  some (d1, y14)
                else
                  none
              else
                none
            else
              none
          else
          bif x1.1 == 21 then
            bif inb x1.2.1 d1.length then
              (nth d1 x1.2.1.toNat).bind fun (x15 : Int) =>
              some (d1, x15, 0)
            else
              none
          else
          bif x1.1 == 26 then
            bif inb x1.2.1 d1.length then
              (nth d1 x1.2.1.toNat).bind fun (x16 : Int) =>
              bif x16 == 1 then
                bif inb x1.2.2.1 d1.length then
                  (nth d1 x1.2.2.1.toNat).bind fun (x17 : Int) =>
                  bif inb x1.2.2.2.1 d1.length then
                    (nth d1 x1.2.2.2.1.toNat).bind fun (x18 : Int) =>
                    bif inb x1.2.2.1 d1.length then
                      (nth d1 x1.2.2.1.toNat).bind fun (x19 : Int) =>
                      (c113 rf (x17 == x18) x19).bind fun (y20 : Int × Int) =>
                      some (d1, y20)
                    else
                      none
                  else
                    none
                else
                  none
              else
              bif inb x1.2.2.1 d1.length then
                (nth d1 x1.2.2.1.toNat).bind fun (x21 : Int) =>
                (c113 rf false x21).bind fun (y22 : Int × Int) =>
                some (d1, y22)
              else
                none
            else
              none
          else
            (c112 rf d1 d2 d3 1).bind fun (y23 : List Int × Bool) =>
            (c113 rf y23.2 1).bind fun (y24 : Int × Int) =>
            some (y23.1, y24)
        else
        bif x1.1 == 11 then
          bif inb x1.2.1 d1.length then
            (nth d1 x1.2.1.toNat).bind fun (x25 : Int) =>
            bif inb x1.2.2.1 d1.length then
              (nth d1 x1.2.2.1.toNat).bind fun (x26 : Int) =>
              (c113 rf (x25 == x26) 1).bind fun (y27 : Int × Int) =>
              some (d1, y27)
            else
              none
          else
            none
        else
        bif x1.1 == 19 then
          bif inb x1.2.1 d1.length then
            (nth d1 x1.2.1.toNat).bind fun (x28 : Int) =>
            bif inb x1.2.2.1 d1.length then
              (nth d1 x1.2.2.1.toNat).bind fun (x29 : Int) =>
              bif inb x1.2.1 d1.length then
                (nth d1 x1.2.1.toNat).bind fun (x30 : Int) =>
                (c113 rf (x28 == x29) x30).bind fun (y31 : Int × Int) =>
                some (d1, y31)
              else
                none
            else
              none
          else
            none
        else
        bif x1.1 == 21 then
          bif inb x1.2.1 d1.length then
            (nth d1 x1.2.1.toNat).bind fun (x32 : Int) =>
            some (d1, x32, 0)
          else
            none
        else
        bif x1.1 == 26 then
          bif inb x1.2.1 d1.length then
            (nth d1 x1.2.1.toNat).bind fun (x33 : Int) =>
            bif x33 == 1 then
              bif inb x1.2.2.1 d1.length then
                (nth d1 x1.2.2.1.toNat).bind fun (x34 : Int) =>
                bif inb x1.2.2.2.1 d1.length then
                  (nth d1 x1.2.2.2.1.toNat).bind fun (x35 : Int) =>
                  bif inb x1.2.2.1 d1.length then
                    (nth d1 x1.2.2.1.toNat).bind fun (x36 : Int) =>
                    (c113 rf (x34 == x35) x36).bind fun (y37 : Int × Int) =>
                    some (d1, y37)
                  else
                    none
                else
                  none
              else
                none
            else
            bif inb x1.2.2.1 d1.length then
              (nth d1 x1.2.2.1.toNat).bind fun (x38 : Int) =>
              (c113 rf false x38).bind fun (y39 : Int × Int) =>
              some (d1, y39)
            else
              none
          else
            none
        else
          (c112 rf d1 d2 d3 1).bind fun (y40 : List Int × Bool) =>
          (c113 rf y40.2 1).bind fun (y41 : Int × Int) =>
          some (y40.1, y41)
      else
      bif x1.1 == 13 then
        (c112 rf d1 d2 d3 2).bind fun (y42 : List Int × Bool) =>
        (c113 rf y42.2 1).bind fun (y43 : Int × Int) =>
        some (y42.1, y43)
      else
      bif x1.1 == 10 then
        bif x1.1 == 10 then
          bif inb x1.2.1 d1.length then
            (nth d1 x1.2.1.toNat).bind fun (x44 : Int) =>
            bif inb x1.2.2.1 d1.length then
              (nth d1 x1.2.2.1.toNat).bind fun (x45 : Int) =>
              (c113 rf (x44 == x45) 1).bind fun (y46 : Int × Int) =>
              some (d1, y46)
            else
              none
          else
            none
        else
        bif x1.1 == 19 then
          bif inb x1.2.1 d1.length then
            (nth d1 x1.2.1.toNat).bind fun (x47 : Int) =>
            bif inb x1.2.2.1 d1.length then
              (nth d1 x1.2.2.1.toNat).bind fun (x48 : Int) =>
              bif inb x1.2.1 d1.length then
                (nth d1 x1.2.1.toNat).bind fun (x49 : Int) =>
                (c113 rf (x47 == x48) x49).bind fun (y50 : Int × Int) =>
                some (d1, y50)
              else
                none
            else
              none
          else
            none
        else
        bif x1.1 == 21 then
          bif inb x1.2.1 d1.length then
            (nth d1 x1.2.1.toNat).bind fun (x51 : Int) =>
            some (d1, x51, 0)
          else
            none
        else
        bif x1.1 == 26 then
          bif inb x1.2.1 d1.length then
            (nth d1 x1.2.1.toNat).bind fun (x52 : Int) =>
            bif x52 == 1 then
              bif inb x1.2.2.1 d1.length then
                (nth d1 x1.2.2.1.toNat).bind fun (x53 : Int) =>
                bif inb x1.2.2.2.1 d1.length then
                  (nth d1 x1.2.2.2.1.toNat).bind fun (x54 : Int) =>
                  bif inb x1.2.2.1 d1.length then
                    (nth d1 x1.2.2.1.toNat).bind fun (x55 : Int) =>
                    (c113 rf (x53 == x54) x55).bind fun (y56 : Int × Int) =>
                    some (d1, y56)
                  else
                    none
                else
                  none
              else
                none
            else
            bif inb x1.2.2.1 d1.length then
              (nth d1 x1.2.2.1.toNat).bind fun (x57 : Int) =>
              (c113 rf false x57).bind fun (y58 : Int × Int) =>
              some (d1, y58)
            else
              none
          else
            none
        else
          (c112 rf d1 d2 d3 1).bind fun (y59 : List Int × Bool) =>
          (c113 rf y59.2 1).bind fun (y60 : Int × Int) =>
          some (y59.1, y60)
      else
      bif x1.1 == 11 then
        bif inb x1.2.1 d1.length then
          (nth d1 x1.2.1.toNat).bind fun (x61 : Int) =>
          bif inb x1.2.2.1 d1.length then
            (nth d1 x1.2.2.1.toNat).bind fun (x62 : Int) =>
            (c113 rf (x61 == x62) 1).bind fun (y63 : Int × Int) =>
            some (d1, y63)
          else
            none
        else
          none
      else
      bif x1.1 == 19 then
        bif inb x1.2.1 d1.length then
          (nth d1 x1.2.1.toNat).bind fun (x64 : Int) =>
          bif inb x1.2.2.1 d1.length then
            (nth d1 x1.2.2.1.toNat).bind fun (x65 : Int) =>
            bif inb x1.2.1 d1.length then
              (nth d1 x1.2.1.toNat).bind fun (x66 : Int) =>
              (c113 rf (x64 == x65) x66).bind fun (y67 : Int × Int) =>
              some (d1, y67)
            else
              none
          else
            none
        else
          none
      else
      bif x1.1 == 21 then
        bif inb x1.2.1 d1.length then
          (nth d1 x1.2.1.toNat).bind fun (x68 : Int) =>
          some (d1, x68, 0)
        else
          none
      else
      bif x1.1 == 26 then
        bif inb x1.2.1 d1.length then
          (nth d1 x1.2.1.toNat).bind fun (x69 : Int) =>
          bif x69 == 1 then
            bif inb x1.2.2.1 d1.length then
              (nth d1 x1.2.2.1.toNat).bind fun (x70 : Int) =>
              bif inb x1.2.2.2.1 d1.length then
                (nth d1 x1.2.2.2.1.toNat).bind fun (x71 : Int) =>
                bif inb x1.2.2.1 d1.length then
                  (nth d1 x1.2.2.1.toNat).bind fun (x72 : Int) =>
                  (c113 rf (x70 == x71) x72).bind fun (y73 : Int × Int) =>
                  some (d1, y73)
                else
                  none
              else
                none
            else
              none
          else
          bif inb x1.2.2.1 d1.length then
            (nth d1 x1.2.2.1.toNat).bind fun (x74 : Int) =>
            (c113 rf false x74).bind fun (y75 : Int × Int) =>
            some (d1, y75)
          else
            none
        else
          none
      else
        (c112 rf d1 d2 d3 1).bind fun (y76 : List Int × Bool) =>
        (c113 rf y76.2 1).bind fun (y77 : Int × Int) =>
        some (y76.1, y77)
    else
    bif x1.1 == 14 then
      bif x1.1 == 14 then
        (c112 rf d1 d2 d3 2).bind fun (y78 : List Int × Bool) =>
        (c113 rf y78.2 2).bind fun (y79 : Int × Int) =>
        some (y78.1, y79)
      else
      bif x1.1 == 12 then
        bif x1.1 == 12 then
          (c112 rf d1 d2 d3 2).bind fun (y80 : List Int × Bool) =>
          (c113 rf y80.2 1).bind fun (y81 : Int × Int) =>
          some (y80.1, y81)
        else
        bif x1.1 == 10 then
          bif x1.1 == 10 then
            bif inb x1.2.1 d1.length then
              (nth d1 x1.2.1.toNat).bind fun (x82 : Int) =>
              bif inb x1.2.2.1 d1.length then
                (nth d1 x1.2.2.1.toNat).bind fun (x83 : Int) =>
                (c113 rf (x82 == x83) 1).bind fun (y84 : Int × Int) =>
                some (d1, y84)
              else
                none
            else
              none
          else
          bif x1.1 == 19 then
            bif inb x1.2.1 d1.length then
              (nth d1 x1.2.1.toNat).bind fun (x85 : Int) =>
              bif inb x1.2.2.1 d1.length then
                (nth d1 x1.2.2.1.toNat).bind fun (x86 : Int) =>
                bif inb x1.2.1 d1.length then
                  (nth d1 x1.2.1.toNat).bind fun (x87 : Int) =>
                  (c113 rf (x85 == x86) x87).bind fun (y88 : Int × Int) =>
                  some (d1, y88)
                else
                  none
              else
                none
            else
              none
          else
          bif x1.1 == 21 then
            bif inb x1.2.1 d1.length then
              (nth d1 x1.2.1.toNat).bind fun (x89 : Int) =>
              some (d1, x89, 0)
            else
              none
          else
          bif x1.1 == 26 then
            bif inb x1.2.1 d1.length then
              (nth d1 x1.2.1.toNat).bind fun (x90 : Int) =>
              bif x90 == 1 then
                bif inb x1.2.2.1 d1.length then
                  (nth d1 x1.2.2.1.toNat).bind fun (x91 : Int) =>
                  bif inb x1.2.2.2.1 d1.length then
                    (nth d1 x1.2.2.2.1.toNat).bind fun (x92 : Int) =>
                    bif inb x1.2.2.1 d1.length then
                      (nth d1 x1.2.2.1.toNat).bind fun (x93 : Int) =>
                      (c113 rf (x91 == x92) x93).bind fun (y94 : Int × Int) =>
                      some (d1, y94)
                    else
                      none
                  else
                    none
                else
                  none
              else
              bif inb x1.2.2.1 d1.length then
                (nth d1 x1.2.2.1.toNat).bind fun (x95 : Int) =>
                (c113 rf false x95).bind fun (y96 : Int × Int) =>
                some (d1, y96)
              else
                none
            else
              none
          else
            (c112 rf d1 d2 d3 1).bind fun (y97 : List Int × Bool) =>
            (c113 rf y97.2 1).bind fun (y98 : Int × Int) =>
            some (y97.1, y98)
        else
        bif x1.1 == 11 then
          bif inb x1.2.1 d1.length then
            (nth d1 x1.2.1.toNat).bind fun (x99 : Int) =>
            bif inb x1.2.2.1 d1.length then
              (nth d1 x1.2.2.1.toNat).bind fun (x100 : Int) =>
              (c113 rf (x99 == x100) 1).bind fun (y101 : Int × Int) =>
              some (d1, y101)
            else
              none
          else
            none
        else
        bif x1.1 == 19 then
          bif inb x1.2.1 d1.length then
            (nth d1 x1.2.1.toNat).bind fun (x102 : Int) =>
            bif inb x1.2.2.1 d1.length then
              (nth d1 x1.2.2.1.toNat).bind fun (x103 : Int) =>
              bif inb x1.2.1 d1.length then
                (nth d1 x1.2.1.toNat).bind fun (x104 : Int) =>
                (c113 rf (x102 == x103) x104).bind fun (y105 : Int × Int) =>
                some (d1, y105)
              else
                none
            else
              none
          else
            none
        else
        bif x1.1 == 21 then
          bif inb x1.2.1 d1.length then
            (nth d1 x1.2.1.toNat).bind fun (x106 : Int) =>
            some (d1, x106, 0)
          else
            none
        else
        bif x1.1 == 26 then
          bif inb x1.2.1 d1.length then
            (nth d1 x1.2.1.toNat).bind fun (x107 : Int) =>
            bif x107 == 1 then
              bif inb x1.2.2.1 d1.length then
                (nth d1 x1.2.2.1.toNat).bind fun (x108 : Int) =>
                bif inb x1.2.2.2.1 d1.length then
                  (nth d1 x1.2.2.2.1.toNat).bind fun (x109 : Int) =>
                  bif inb x1.2.2.1 d1.length then
                    (nth d1 x1.2.2.1.toNat).bind fun (x110 : Int) =>
                    (c113 rf (x108 == x109) x110).bind fun (y111 : Int × Int) =>
                    some (d1, y111)
                  else
                    none
                else
                  none
              else
                none
            else
            bif inb x1.2.2.1 d1.length then
              (nth d1 x1.2.2.1.toNat).bind fun (x112 : Int) =>
              (c113 rf false x112).bind fun (y113 : Int × Int) =>
              some (d1, y113)
            else
              none
          else
            none
        else
          (c112 rf d1 d2 d3 1).bind fun (y114 : List Int × Bool) =>
          (c113 rf y114.2 1).bind fun (y115 : Int × Int) =>
          some (y114.1, y115)
      else
      bif x1.1 == 13 then
        (c112 rf d1 d2 d3 2).bind fun (y116 : List Int × Bool) =>
        (c113 rf y116.2 1).bind fun (y117 : Int × Int) =>
        some (y116.1, y117)
      else
      bif x1.1 == 10 then
        bif x1.1 == 10 then
          bif inb x1.2.1 d1.length then
            (nth d1 x1.2.1.toNat).bind fun (x118 : Int) =>
            bif inb x1.2.2.1 d1.length then
              (nth d1 x1.2.2.1.toNat).bind fun (x119 : Int) =>
              (c113 rf (x118 == x119) 1).bind fun (y120 : Int × Int) =>
              some (d1, y120)
            else
              none
          else
            none
        else
        bif x1.1 == 19 then
          bif inb x1.2.1 d1.length then
            (nth d1 x1.2.1.toNat).bind fun (x121 : Int) =>
            bif inb x1.2.2.1 d1.length then
              (nth d1 x1.2.2.1.toNat).bind fun (x122 : Int) =>
              bif inb x1.2.1 d1.length then
                (nth d1 x1.2.1.toNat).bind fun (x123 : Int) =>
                (c113 rf (x121 == x122) x123).bind fun (y124 : Int × Int) =>
                some (d1, y124)
              else
                none
            else
              none
          else
            none
        else
        bif x1.1 == 21 then
          bif inb x1.2.1 d1.length then
            (nth d1 x1.2.1.toNat).bind fun (x125 : Int) =>
            some (d1, x125, 0)
          else
            none
        else
        bif x1.1 == 26 then
          bif inb x1.2.1 d1.length then
            (nth d1 x1.2.1.toNat).bind fun (x126 : Int) =>
            bif x126 == 1 then
              bif inb x1.2.2.1 d1.length then
                (nth d1 x1.2.2.1.toNat).bind fun (x127 : Int) =>
                bif inb x1.2.2.2.1 d1.length then
                  (nth d1 x1.2.2.2.1.toNat).bind fun (x128 : Int) =>
                  bif inb x1.2.2.1 d1.length then
                    (nth d1 x1.2.2.1.toNat).bind fun (x129 : Int) =>
                    (c113 rf (x127 == x128) x129).bind fun (y130 : Int × Int) =>
                    some (d1, y130)
                  else
                    none
                else
                  none
              else
                none
            else
            bif inb x1.2.2.1 d1.length then
              (nth d1 x1.2.2.1.toNat).bind fun (x131 : Int) =>
              (c113 rf false x131).bind fun (y132 : Int × Int) =>
              some (d1, y132)
            else
              none
          else
            none
        else
          (c112 rf d1 d2 d3 1).bind fun (y133 : List Int × Bool) =>
          (c113 rf y133.2 1).bind fun (y134 : Int × Int) =>
          some (y133.1, y134)
      else
      bif x1.1 == 11 then
        bif inb x1.2.1 d1.length then
          (nth d1 x1.2.1.toNat).bind fun (x135 : Int) =>
          bif inb x1.2.2.1 d1.length then
            (nth d1 x1.2.2.1.toNat).bind fun (x136 : Int) =>
            (c113 rf (x135 == x136) 1).bind fun (y137 : Int × Int) =>
            some (d1, y137)
          else
            none
        else
          none
      else
      bif x1.1 == 19 then
        bif inb x1.2.1 d1.length then
          (nth d1 x1.2.1.toNat).bind fun (x138 : Int) =>
          bif inb x1.2.2.1 d1.length then
            (nth d1 x1.2.2.1.toNat).bind fun (x139 : Int) =>
            bif inb x1.2.1 d1.length then
              (nth d1 x1.2.1.toNat).bind fun (x140 : Int) =>
              (c113 rf (x138 == x139) x140).bind fun (y141 : Int × Int) =>
              some (d1, y141)
            else
              none
          else
            none
        else
          none
      else
      bif x1.1 == 21 then
        bif inb x1.2.1 d1.length then
          (nth d1 x1.2.1.toNat).bind fun (x142 : Int) =>
          some (d1, x142, 0)
        else
          none
      else
      bif x1.1 == 26 then
        bif inb x1.2.1 d1.length then
          (nth d1 x1.2.1.toNat).bind fun (x143 : Int) =>
          bif x143 == 1 then
            bif inb x1.2.2.1 d1.length then
              (nth d1 x1.2.2.1.toNat).bind fun (x144 : Int) =>
              bif inb x1.2.2.2.1 d1.length then
                (nth d1 x1.2.2.2.1.toNat).bind fun (x145 : Int) =>
                bif inb x1.2.2.1 d1.length then
                  (nth d1 x1.2.2.1.toNat).bind fun (x146 : Int) =>
                  (c113 rf (x144 == x145) x146).bind fun (y147 : Int × Int) =>
                  some (d1, y147)
                else
                  none
              else
                none
            else
              none
          else
          bif inb x1.2.2.1 d1.length then
            (nth d1 x1.2.2.1.toNat).bind fun (x148 : Int) =>
            (c113 rf false x148).bind fun (y149 : Int × Int) =>
            some (d1, y149)
          else
            none
        else
          none
      else
        (c112 rf d1 d2 d3 1).bind fun (y150 : List Int × Bool) =>
        (c113 rf y150.2 1).bind fun (y151 : Int × Int) =>
        some (y150.1, y151)
    else
    bif x1.1 == 15 then
      bif x1.1 == 15 then
        (c112 rf d1 d2 d3 2).bind fun (y152 : List Int × Bool) =>
        (c113 rf y152.2 2).bind fun (y153 : Int × Int) =>
        some (y152.1, y153)
      else
      bif x1.1 == 12 then
        bif x1.1 == 12 then
          (c112 rf d1 d2 d3 2).bind fun (y154 : List Int × Bool) =>
          (c113 rf y154.2 1).bind fun (y155 : Int × Int) =>
          some (y154.1, y155)
        else
        bif x1.1 == 10 then
          bif x1.1 == 10 then
            bif inb x1.2.1 d1.length then
              (nth d1 x1.2.1.toNat).bind fun (x156 : Int) =>
              bif inb x1.2.2.1 d1.length then
                (nth d1 x1.2.2.1.toNat).bind fun (x157 : Int) =>
                (c113 rf (x156 == x157) 1).bind fun (y158 : Int × Int) =>
                some (d1, y158)
              else
                none
            else
              none
          else
          bif x1.1 == 19 then
            bif inb x1.2.1 d1.length then
              (nth d1 x1.2.1.toNat).bind fun (x159 : Int) =>
              bif inb x1.2.2.1 d1.length then
                (nth d1 x1.2.2.1.toNat).bind fun (x160 : Int) =>
                bif inb x1.2.1 d1.length then
                  (nth d1 x1.2.1.toNat).bind fun (x161 : Int) =>
                  (c113 rf (x159 == x160) x161).bind fun (y162 : Int × Int) =>
                  some (d1, y162)
                else
                  none
              else
                none
            else
              none
          else
          bif x1.1 == 21 then
            bif inb x1.2.1 d1.length then
              (nth d1 x1.2.1.toNat).bind fun (x163 : Int) =>
              some (d1, x163, 0)
            else
              none
          else
          bif x1.1 == 26 then
            bif inb x1.2.1 d1.length then
              (nth d1 x1.2.1.toNat).bind fun (x164 : Int) =>
              bif x164 == 1 then
                bif inb x1.2.2.1 d1.length then
                  (nth d1 x1.2.2.1.toNat).bind fun (x165 : Int) =>
                  bif inb x1.2.2.2.1 d1.length then
                    (nth d1 x1.2.2.2.1.toNat).bind fun (x166 : Int) =>
                    bif inb x1.2.2.1 d1.length then
                      (nth d1 x1.2.2.1.toNat).bind fun (x167 : Int) =>
                      (c113 rf (x165 == x166) x167).bind fun (y168 : Int × Int) =>
                      some (d1, y168)
                    else
                      none
                  else
                    none
                else
                  none
              else
              bif inb x1.2.2.1 d1.length then
                (nth d1 x1.2.2.1.toNat).bind fun (x169 : Int) =>
                (c113 rf false x169).bind fun (y170 : Int × Int) =>
                some (d1, y170)
              else
                none
            else
              none
          else
            (c112 rf d1 d2 d3 1).bind fun (y171 : List Int × Bool) =>
            (c113 rf y171.2 1).bind fun (y172 : Int × Int) =>
            some (y171.1, y172)
        else
        bif x1.1 == 11 then
          bif inb x1.2.1 d1.length then
            (nth d1 x1.2.1.toNat).bind fun (x173 : Int) =>
            bif inb x1.2.2.1 d1.length then
              (nth d1 x1.2.2.1.toNat).bind fun (x174 : Int) =>
              (c113 rf (x173 == x174) 1).bind fun (y175 : Int × Int) =>
              some (d1, y175)
            else
              none
          else
            none
        else
        bif x1.1 == 19 then
          bif inb x1.2.1 d1.length then
            (nth d1 x1.2.1.toNat).bind fun (x176 : Int) =>
            bif inb x1.2.2.1 d1.length then
              (nth d1 x1.2.2.1.toNat).bind fun (x177 : Int) =>
              bif inb x1.2.1 d1.length then
                (nth d1 x1.2.1.toNat).bind fun (x178 : Int) =>
                (c113 rf (x176 == x177) x178).bind fun (y179 : Int × Int) =>
                some (d1, y179)
              else
                none
            else
              none
          else
            none
        else
        bif x1.1 == 21 then
          bif inb x1.2.1 d1.length then
            (nth d1 x1.2.1.toNat).bind fun (x180 : Int) =>
            some (d1, x180, 0)
          else
            none
        else
        bif x1.1 == 26 then
          bif inb x1.2.1 d1.length then
            (nth d1 x1.2.1.toNat).bind fun (x181 : Int) =>
            bif x181 == 1 then
              bif inb x1.2.2.1 d1.length then
                (nth d1 x1.2.2.1.toNat).bind fun (x182 : Int) =>
                bif inb x1.2.2.2.1 d1.length then
                  (nth d1 x1.2.2.2.1.toNat).bind fun (x183 : Int) =>
                  bif inb x1.2.2.1 d1.length then
                    (nth d1 x1.2.2.1.toNat).bind fun (x184 : Int) =>
                    (c113 rf (x182 == x183) x184).bind fun (y185 : Int × Int) =>
                    some (d1, y185)
                  else
                    none
                else
                  none
              else
                none
            else
            bif inb x1.2.2.1 d1.length then
              (nth d1 x1.2.2.1.toNat).bind fun (x186 : Int) =>
              (c113 rf false x186).bind fun (y187 : Int × Int) =>
              some (d1, y187)
            else
              none
          else
            none
        else
          (c112 rf d1 d2 d3 1).bind fun (y188 : List Int × Bool) =>
          (c113 rf y188.2 1).bind fun (y189 : Int × Int) =>
          some (y188.1, y189)
      else
      bif x1.1 == 13 then
        (c112 rf d1 d2 d3 2).bind fun (y190 : List Int × Bool) =>
        (c113 rf y190.2 1).bind fun (y191 : Int × Int) =>
        some (y190.1, y191)
      else
      bif x1.1 == 10 then
        bif x1.1 == 10 then
          bif inb x1.2.1 d1.length then
            (nth d1 x1.2.1.toNat).bind fun (x192 : Int) =>
            bif inb x1.2.2.1 d1.length then
              (nth d1 x1.2.2.1.toNat).bind fun (x193 : Int) =>
              (c113 rf (x192 == x193) 1).bind fun (y194 : Int × Int) =>
              some (d1, y194)
            else
              none
          else
            none
        else
        bif x1.1 == 19 then
          bif inb x1.2.1 d1.length then
            (nth d1 x1.2.1.toNat).bind fun (x195 : Int) =>
            bif inb x1.2.2.1 d1.length then
              (nth d1 x1.2.2.1.toNat).bind fun (x196 : Int) =>
              bif inb x1.2.1 d1.length then
                (nth d1 x1.2.1.toNat).bind fun (x197 : Int) =>
                (c113 rf (x195 == x196) x197).bind fun (y198 : Int × Int) =>
                some (d1, y198)
              else
                none
            else
              none
          else
            none
        else
        bif x1.1 == 21 then
          bif inb x1.2.1 d1.length then
            (nth d1 x1.2.1.toNat).bind fun (x199 : Int) =>
            some (d1, x199, 0)
          else
            none
        else
        bif x1.1 == 26 then
          bif inb x1.2.1 d1.length then
            (nth d1 x1.2.1.toNat).bind fun (x200 : Int) =>
            bif x200 == 1 then
              bif inb x1.2.2.1 d1.length then
                (nth d1 x1.2.2.1.toNat).bind fun (x201 : Int) =>
                bif inb x1.2.2.2.1 d1.length then
                  (nth d1 x1.2.2.2.1.toNat).bind fun (x202 : Int) =>
                  bif inb x1.2.2.1 d1.length then
                    (nth d1 x1.2.2.1.toNat).bind fun (x203 : Int) =>
                    (c113 rf (x201 == x202) x203).bind fun (y204 : Int × Int) =>
                    some (d1, y204)
                  else
                    none
                else
                  none
              else
                none
            else
            bif inb x1.2.2.1 d1.length then
              (nth d1 x1.2.2.1.toNat).bind fun (x205 : Int) =>
              (c113 rf false x205).bind fun (y206 : Int × Int) =>
              some (d1, y206)
            else
              none
          else
            none
        else
          (c112 rf d1 d2 d3 1).bind fun (y207 : List Int × Bool) =>
          (c113 rf y207.2 1).bind fun (y208 : Int × Int) =>
          some (y207.1, y208)
      else
      bif x1.1 == 11 then
        bif inb x1.2.1 d1.length then
          (nth d1 x1.2.1.toNat).bind fun (x209 : Int) =>
          bif inb x1.2.2.1 d1.length then
            (nth d1 x1.2.2.1.toNat).bind fun (x210 : Int) =>
            (c113 rf (x209 == x210) 1).bind fun (y211 : Int × Int) =>
            some (d1, y211)
          else
            none
        else
          none
      else
      bif x1.1 == 19 then
        bif inb x1.2.1 d1.length then
          (nth d1 x1.2.1.toNat).bind fun (x212 : Int) =>
          bif inb x1.2.2.1 d1.length then
            (nth d1 x1.2.2.1.toNat).bind fun (x213 : Int) =>
            bif inb x1.2.1 d1.length then
              (nth d1 x1.2.1.toNat).bind fun (x214 : Int) =>
              (c113 rf (x212 == x213) x214).bind fun (y215 : Int × Int) =>
              some (d1, y215)
            else
              none
          else
            none
        else
          none
      else
      bif x1.1 == 21 then
        bif inb x1.2.1 d1.length then
          (nth d1 x1.2.1.toNat).bind fun (x216 : Int) =>
          some (d1, x216, 0)
        else
          none
      else
      bif x1.1 == 26 then
        bif inb x1.2.1 d1.length then
          (nth d1 x1.2.1.toNat).bind fun (x217 : Int) =>
          bif x217 == 1 then
            bif inb x1.2.2.1 d1.length then
              (nth d1 x1.2.2.1.toNat).bind fun (x218 : Int) =>
              bif inb x1.2.2.2.1 d1.length then
                (nth d1 x1.2.2.2.1.toNat).bind fun (x219 : Int) =>
                bif inb x1.2.2.1 d1.length then
                  (nth d1 x1.2.2.1.toNat).bind fun (x220 : Int) =>
                  (c113 rf (x218 == x219) x220).bind fun (y221 : Int × Int) =>
                  some (d1, y221)
                else
                  none
              else
                none
            else
              none
          else
          bif inb x1.2.2.1 d1.length then
            (nth d1 x1.2.2.1.toNat).bind fun (x222 : Int) =>
            (c113 rf false x222).bind fun (y223 : Int × Int) =>
            some (d1, y223)
          else
            none
        else
          none
      else
        (c112 rf d1 d2 d3 1).bind fun (y224 : List Int × Bool) =>
        (c113 rf y224.2 1).bind fun (y225 : Int × Int) =>
        some (y224.1, y225)
    else
    bif x1.1 == 16 then
      bif x1.1 == 16 then
        (c112 rf d1 d2 d3 2).bind fun (y226 : List Int × Bool) =>
        (c113 rf y226.2 2).bind fun (y227 : Int × Int) =>
        some (y226.1, y227)
      else
      bif x1.1 == 12 then
        bif x1.1 == 12 then
          (c112 rf d1 d2 d3 2).bind fun (y228 : List Int × Bool) =>
          (c113 rf y228.2 1).bind fun (y229 : Int × Int) =>
          some (y228.1, y229)
        else
        bif x1.1 == 10 then
          bif x1.1 == 10 then
            bif inb x1.2.1 d1.length then
              (nth d1 x1.2.1.toNat).bind fun (x230 : Int) =>
              bif inb x1.2.2.1 d1.length then
                (nth d1 x1.2.2.1.toNat).bind fun (x231 : Int) =>
                (c113 rf (x230 == x231) 1).bind fun (y232 : Int × Int) =>
                some (d1, y232)
              else
                none
            else
              none
          else
          bif x1.1 == 19 then
            bif inb x1.2.1 d1.length then
              (nth d1 x1.2.1.toNat).bind fun (x233 : Int) =>
              bif inb x1.2.2.1 d1.length then
                (nth d1 x1.2.2.1.toNat).bind fun (x234 : Int) =>
                bif inb x1.2.1 d1.length then
                  (nth d1 x1.2.1.toNat).bind fun (x235 : Int) =>
                  (c113 rf (x233 == x234) x235).bind fun (y236 : Int × Int) =>
                  some (d1, y236)
                else
                  none
              else
                none
            else
              none
          else
          bif x1.1 == 21 then
            bif inb x1.2.1 d1.length then
              (nth d1 x1.2.1.toNat).bind fun (x237 : Int) =>
              some (d1, x237, 0)
            else
              none
          else
          bif x1.1 == 26 then
            bif inb x1.2.1 d1.length then
              (nth d1 x1.2.1.toNat).bind fun (x238 : Int) =>
              bif x238 == 1 then
                bif inb x1.2.2.1 d1.length then
                  (nth d1 x1.2.2.1.toNat).bind fun (x239 : Int) =>
                  bif inb x1.2.2.2.1 d1.length then
                    (nth d1 x1.2.2.2.1.toNat).bind fun (x240 : Int) =>
                    bif inb x1.2.2.1 d1.length then
                      (nth d1 x1.2.2.1.toNat).bind fun (x241 : Int) =>
                      (c113 rf (x239 == x240) x241).bind fun (y242 : Int × Int) =>
                      some (d1, y242)
                    else
                      none
                  else
                    none
                else
                  none
              else
              bif inb x1.2.2.1 d1.length then
                (nth d1 x1.2.2.1.toNat).bind fun (x243 : Int) =>
                (c113 rf false x243).bind fun (y244 : Int × Int) =>
                some (d1, y244)
              else
                none
            else
              none
          else
            (c112 rf d1 d2 d3 1).bind fun (y245 : List Int × Bool) =>
            (c113 rf y245.2 1).bind fun (y246 : Int × Int) =>
            some (y245.1, y246)
        else
        bif x1.1 == 11 then
          bif inb x1.2.1 d1.length then
            (nth d1 x1.2.1.toNat).bind fun (x247 : Int) =>
            bif inb x1.2.2.1 d1.length then
              (nth d1 x1.2.2.1.toNat).bind fun (x248 : Int) =>
              (c113 rf (x247 == x248) 1).bind fun (y249 : Int × Int) =>
              some (d1, y249)
            else
              none
          else
            none
        else
        bif x1.1 == 19 then
          bif inb x1.2.1 d1.length then
            (nth d1 x1.2.1.toNat).bind fun (x250 : Int) =>
            bif inb x1.2.2.1 d1.length then
              (nth d1 x1.2.2.1.toNat).bind fun (x251 : Int) =>
              bif inb x1.2.1 d1.length then
                (nth d1 x1.2.1.toNat).bind fun (x252 : Int) =>
                (c113 rf (x250 == x251) x252).bind fun (y253 : Int × Int) =>
                some (d1, y253)
              else
                none
            else
              none
          else
            none
        else
        bif x1.1 == 21 then
          bif inb x1.2.1 d1.length then
            (nth d1 x1.2.1.toNat).bind fun (x254 : Int) =>
            some (d1, x254, 0)
          else
            none
        else
        bif x1.1 == 26 then
          bif inb x1.2.1 d1.length then
            (nth d1 x1.2.1.toNat).bind fun (x255 : Int) =>
            bif x255 == 1 then
              bif inb x1.2.2.1 d1.length then
                (nth d1 x1.2.2.1.toNat).bind fun (x256 : Int) =>
                bif inb x1.2.2.2.1 d1.length then
                  (nth d1 x1.2.2.2.1.toNat).bind fun (x257 : Int) =>
                  bif inb x1.2.2.1 d1.length then
                    (nth d1 x1.2.2.1.toNat).bind fun (x258 : Int) =>
                    (c113 rf (x256 == x257) x258).bind fun (y259 : Int × Int) =>
                    some (d1, y259)
                  else
                    none
                else
                  none
              else
                none
            else
            bif inb x1.2.2.1 d1.length then
              (nth d1 x1.2.2.1.toNat).bind fun (x260 : Int) =>
              (c113 rf false x260).bind fun (y261 : Int × Int) =>
              some (d1, y261)
            else
              none
          else
            none
        else
          (c112 rf d1 d2 d3 1).bind fun (y262 : List Int × Bool) =>
          (c113 rf y262.2 1).bind fun (y263 : Int × Int) =>
          some (y262.1, y263)
      else
      bif x1.1 == 13 then
        (c112 rf d1 d2 d3 2).bind fun (y264 : List Int × Bool) =>
        (c113 rf y264.2 1).bind fun (y265 : Int × Int) =>
        some (y264.1, y265)
      else
      bif x1.1 == 10 then
        bif x1.1 == 10 then
          bif inb x1.2.1 d1.length then
            (nth d1 x1.2.1.toNat).bind fun (x266 : Int) =>
            bif inb x1.2.2.1 d1.length then
              (nth d1 x1.2.2.1.toNat).bind fun (x267 : Int) =>
              (c113 rf (x266 == x267) 1).bind fun (y268 : Int × Int) =>
              some (d1, y268)
            else
              none
          else
            none
        else
        bif x1.1 == 19 then
          bif inb x1.2.1 d1.length then
            (nth d1 x1.2.1.toNat).bind fun (x269 : Int) =>
            bif inb x1.2.2.1 d1.length then
              (nth d1 x1.2.2.1.toNat).bind fun (x270 : Int) =>
              bif inb x1.2.1 d1.length then
                (nth d1 x1.2.1.toNat).bind fun (x271 : Int) =>
                (c113 rf (x269 == x270) x271).bind fun (y272 : Int × Int) =>
                some (d1, y272)
              else
                none
            else
              none
          else
            none
        else
        bif x1.1 == 21 then
          bif inb x1.2.1 d1.length then
            (nth d1 x1.2.1.toNat).bind fun (x273 : Int) =>
            some (d1, x273, 0)
          else
            none
        else
        bif x1.1 == 26 then
          bif inb x1.2.1 d1.length then
            (nth d1 x1.2.1.toNat).bind fun (x274 : Int) =>
            bif x274 == 1 then
              bif inb x1.2.2.1 d1.length then
                (nth d1 x1.2.2.1.toNat).bind fun (x275 : Int) =>
                bif inb x1.2.2.2.1 d1.length then
                  (nth d1 x1.2.2.2.1.toNat).bind fun (x276 : Int) =>
                  bif inb x1.2.2.1 d1.length then
                    (nth d1 x1.2.2.1.toNat).bind fun (x277 : Int) =>
                    (c113 rf (x275 == x276) x277).bind fun (y278 : Int × Int) =>
                    some (d1, y278)
                  else
                    none
                else
                  none
              else
                none
            else
            bif inb x1.2.2.1 d1.length then
              (nth d1 x1.2.2.1.toNat).bind fun (x279 : Int) =>
              (c113 rf false x279).bind fun (y280 : Int × Int) =>
              some (d1, y280)
            else
              none
          else
            none
        else
          (c112 rf d1 d2 d3 1).bind fun (y281 : List Int × Bool) =>
          (c113 rf y281.2 1).bind fun (y282 : Int × Int) =>
          some (y281.1, y282)
      else
      bif x1.1 == 11 then
        bif inb x1.2.1 d1.length then
          (nth d1 x1.2.1.toNat).bind fun (x283 : Int) =>
          bif inb x1.2.2.1 d1.length then
            (nth d1 x1.2.2.1.toNat).bind fun (x284 : Int) =>
            (c113 rf (x283 == x284) 1).bind fun (y285 : Int × Int) =>
            some (d1, y285)
          else
            none
        else
          none
      else
      bif x1.1 == 19 then
        bif inb x1.2.1 d1.length then
          (nth d1 x1.2.1.toNat).bind fun (x286 : Int) =>
          bif inb x1.2.2.1 d1.length then
            (nth d1 x1.2.2.1.toNat).bind fun (x287 : Int) =>
            bif inb x1.2.1 d1.length then
              (nth d1 x1.2.1.toNat).bind fun (x288 : Int) =>
              (c113 rf (x286 == x287) x288).bind fun (y289 : Int × Int) =>
              some (d1, y289)
            else
              none
          else
            none
        else
          none
      else
      bif x1.1 == 21 then
        bif inb x1.2.1 d1.length then
          (nth d1 x1.2.1.toNat).bind fun (x290 : Int) =>
          some (d1, x290, 0)
        else
          none
      else
      bif x1.1 == 26 then
        bif inb x1.2.1 d1.length then
          (nth d1 x1.2.1.toNat).bind fun (x291 : Int) =>
          bif x291 == 1 then
            bif inb x1.2.2.1 d1.length then
              (nth d1 x1.2.2.1.toNat).bind fun (x292 : Int) =>
              bif inb x1.2.2.2.1 d1.length then
                (nth d1 x1.2.2.2.1.toNat).bind fun (x293 : Int) =>
                bif inb x1.2.2.1 d1.length then
                  (nth d1 x1.2.2.1.toNat).bind fun (x294 : Int) =>
                  (c113 rf (x292 == x293) x294).bind fun (y295 : Int × Int) =>
                  some (d1, y295)
                else
                  none
              else
                none
            else
              none
          else
          bif inb x1.2.2.1 d1.length then
            (nth d1 x1.2.2.1.toNat).bind fun (x296 : Int) =>
            (c113 rf false x296).bind fun (y297 : Int × Int) =>
            some (d1, y297)
          else
            none
        else
          none
      else
        (c112 rf d1 d2 d3 1).bind fun (y298 : List Int × Bool) =>
        (c113 rf y298.2 1).bind fun (y299 : Int × Int) =>
        some (y298.1, y299)
    else
    bif x1.1 == 17 then
      bif x1.1 == 17 then
        (c112 rf d1 d2 d3 2).bind fun (y300 : List Int × Bool) =>
        (c113 rf y300.2 2).bind fun (y301 : Int × Int) =>
        some (y300.1, y301)
      else
      bif x1.1 == 12 then
        bif x1.1 == 12 then
          (c112 rf d1 d2 d3 2).bind fun (y302 : List Int × Bool) =>
          (c113 rf y302.2 1).bind fun (y303 : Int × Int) =>
          some (y302.1, y303)
        else
        bif x1.1 == 10 then
          bif x1.1 == 10 then
            bif inb x1.2.1 d1.length then
              (nth d1 x1.2.1.toNat).bind fun (x304 : Int) =>
              bif inb x1.2.2.1 d1.length then
                (nth d1 x1.2.2.1.toNat).bind fun (x305 : Int) =>
                (c113 rf (x304 == x305) 1).bind fun (y306 : Int × Int) =>
                some (d1, y306)
              else
                none
            else
              none
          else
          bif x1.1 == 19 then
            bif inb x1.2.1 d1.length then
              (nth d1 x1.2.1.toNat).bind fun (x307 : Int) =>
              bif inb x1.2.2.1 d1.length then
                (nth d1 x1.2.2.1.toNat).bind fun (x308 : Int) =>
                bif inb x1.2.1 d1.length then
                  (nth d1 x1.2.1.toNat).bind fun (x309 : Int) =>
                  (c113 rf (x307 == x308) x309).bind fun (y310 : Int × Int) =>
                  some (d1, y310)
                else
                  none
              else
                none
            else
              none
          else
          bif x1.1 == 21 then
            bif inb x1.2.1 d1.length then
              (nth d1 x1.2.1.toNat).bind fun (x311 : Int) =>
              some (d1, x311, 0)
            else
              none
          else
          bif x1.1 == 26 then
            bif inb x1.2.1 d1.length then
              (nth d1 x1.2.1.toNat).bind fun (x312 : Int) =>
              bif x312 == 1 then
                bif inb x1.2.2.1 d1.length then
                  (nth d1 x1.2.2.1.toNat).bind fun (x313 : Int) =>
                  bif inb x1.2.2.2.1 d1.length then
                    (nth d1 x1.2.2.2.1.toNat).bind fun (x314 : Int) =>
                    bif inb x1.2.2.1 d1.length then
                      (nth d1 x1.2.2.1.toNat).bind fun (x315 : Int) =>
                      (c113 rf (x313 == x314) x315).bind fun (y316 : Int × Int) =>
                      some (d1, y316)
                    else
                      none
                  else
                    none
                else
                  none
              else
              bif inb x1.2.2.1 d1.length then
                (nth d1 x1.2.2.1.toNat).bind fun (x317 : Int) =>
                (c113 rf false x317).bind fun (y318 : Int × Int) =>
                some (d1, y318)
              else
                none
            else
              none
          else
            (c112 rf d1 d2 d3 1).bind fun (y319 : List Int × Bool) =>
            (c113 rf y319.2 1).bind fun (y320 : Int × Int) =>
            some (y319.1, y320)
        else
        bif x1.1 == 11 then
          bif inb x1.2.1 d1.length then
            (nth d1 x1.2.1.toNat).bind fun (x321 : Int) =>
            bif inb x1.2.2.1 d1.length then
              (nth d1 x1.2.2.1.toNat).bind fun (x322 : Int) =>
              (c113 rf (x321 == x322) 1).bind fun (y323 : Int × Int) =>
              some (d1, y323)
            else
              none
          else
            none
        else
        bif x1.1 == 19 then
          bif inb x1.2.1 d1.length then
            (nth d1 x1.2.1.toNat).bind fun (x324 : Int) =>
            bif inb x1.2.2.1 d1.length then
              (nth d1 x1.2.2.1.toNat).bind fun (x325 : Int) =>
              bif inb x1.2.1 d1.length then
                (nth d1 x1.2.1.toNat).bind fun (x326 : Int) =>
                (c113 rf (x324 == x325) x326).bind fun (y327 : Int × Int) =>
                some (d1, y327)
              else
                none
            else
              none
          else
            none
        else
        bif x1.1 == 21 then
          bif inb x1.2.1 d1.length then
            (nth d1 x1.2.1.toNat).bind fun (x328 : Int) =>
            some (d1, x328, 0)
          else
            none
        else
        bif x1.1 == 26 then
          bif inb x1.2.1 d1.length then
            (nth d1 x1.2.1.toNat).bind fun (x329 : Int) =>
            bif x329 == 1 then
              bif inb x1.2.2.1 d1.length then
                (nth d1 x1.2.2.1.toNat).bind fun (x330 : Int) =>
                bif inb x1.2.2.2.1 d1.length then
                  (nth d1 x1.2.2.2.1.toNat).bind fun (x331 : Int) =>
                  bif inb x1.2.2.1 d1.length then
                    (nth d1 x1.2.2.1.toNat).bind fun (x332 : Int) =>
                    (c113 rf (x330 == x331) x332).bind fun (y333 : Int × Int) =>
                    some (d1, y333)
                  else
                    none
                else
                  none
              else
                none
            else
            bif inb x1.2.2.1 d1.length then
              (nth d1 x1.2.2.1.toNat).bind fun (x334 : Int) =>
              (c113 rf false x334).bind fun (y335 : Int × Int) =>
              some (d1, y335)
            else
              none
          else
            none
        else
          (c112 rf d1 d2 d3 1).bind fun (y336 : List Int × Bool) =>
          (c113 rf y336.2 1).bind fun (y337 : Int × Int) =>
          some (y336.1, y337)
      else
      bif x1.1 == 13 then
        (c112 rf d1 d2 d3 2).bind fun (y338 : List Int × Bool) =>
        (c113 rf y338.2 1).bind fun (y339 : Int × Int) =>
        some (y338.1, y339)
      else
      bif x1.1 == 10 then
        bif x1.1 == 10 then
          bif inb x1.2.1 d1.length then
            (nth d1 x1.2.1.toNat).bind fun (x340 : Int) =>
            bif inb x1.2.2.1 d1.length then
              (nth d1 x1.2.2.1.toNat).bind fun (x341 : Int) =>
              (c113 rf (x340 == x341) 1).bind fun (y342 : Int × Int) =>
              some (d1, y342)
            else
              none
          else
            none
        else
        bif x1.1 == 19 then
          bif inb x1.2.1 d1.length then
            (nth d1 x1.2.1.toNat).bind fun (x343 : Int) =>
            bif inb x1.2.2.1 d1.length then
              (nth d1 x1.2.2.1.toNat).bind fun (x344 : Int) =>
              bif inb x1.2.1 d1.length then
                (nth d1 x1.2.1.toNat).bind fun (x345 : Int) =>
                (c113 rf (x343 == x344) x345).bind fun (y346 : Int × Int) =>
                some (d1, y346)
              else
                none
            else
              none
          else
            none
        else
        bif x1.1 == 21 then
          bif inb x1.2.1 d1.length then
            (nth d1 x1.2.1.toNat).bind fun (x347 : Int) =>
            some (d1, x347, 0)
          else
            none
        else
        bif x1.1 == 26 then
          bif inb x1.2.1 d1.length then
            (nth d1 x1.2.1.toNat).bind fun (x348 : Int) =>
            bif x348 == 1 then
              bif inb x1.2.2.1 d1.length then
                (nth d1 x1.2.2.1.toNat).bind fun (x349 : Int) =>
                bif inb x1.2.2.2.1 d1.length then
                  (nth d1 x1.2.2.2.1.toNat).bind fun (x350 : Int) =>
                  bif inb x1.2.2.1 d1.length then
                    (nth d1 x1.2.2.1.toNat).bind fun (x351 : Int) =>
                    (c113 rf (x349 == x350) x351).bind fun (y352 : Int × Int) =>
                    some (d1, y352)
                  else
                    none
                else
                  none
              else
                none
            else
            bif inb x1.2.2.1 d1.length then
              (nth d1 x1.2.2.1.toNat).bind fun (x353 : Int) =>
              (c113 rf false x353).bind fun (y354 : Int × Int) =>
              some (d1, y354)
            else
              none
          else
            none
        else
          (c112 rf d1 d2 d3 1).bind fun (y355 : List Int × Bool) =>
          (c113 rf y355.2 1).bind fun (y356 : Int × Int) =>
          some (y355.1, y356)
      else
      bif x1.1 == 11 then
        bif inb x1.2.1 d1.length then
          (nth d1 x1.2.1.toNat).bind fun (x357 : Int) =>
          bif inb x1.2.2.1 d1.length then
            (nth d1 x1.2.2.1.toNat).bind fun (x358 : Int) =>
            (c113 rf (x357 == x358) 1).bind fun (y359 : Int × Int) =>
            some (d1, y359)
          else
            none
        else
          none
      else
      bif x1.1 == 19 then
        bif inb x1.2.1 d1.length then
          (nth d1 x1.2.1.toNat).bind fun (x360 : Int) =>
          bif inb x1.2.2.1 d1.length then
            (nth d1 x1.2.2.1.toNat).bind fun (x361 : Int) =>
            bif inb x1.2.1 d1.length then
              (nth d1 x1.2.1.toNat).bind fun (x362 : Int) =>
              (c113 rf (x360 == x361) x362).bind fun (y363 : Int × Int) =>
              some (d1, y363)
            else
              none
          else
            none
        else
          none
      else
      bif x1.1 == 21 then
        bif inb x1.2.1 d1.length then
          (nth d1 x1.2.1.toNat).bind fun (x364 : Int) =>
          some (d1, x364, 0)
        else
          none
      else
      bif x1.1 == 26 then
        bif inb x1.2.1 d1.length then
          (nth d1 x1.2.1.toNat).bind fun (x365 : Int) =>
          bif x365 == 1 then
            bif inb x1.2.2.1 d1.length then
              (nth d1 x1.2.2.1.toNat).bind fun (x366 : Int) =>
              bif inb x1.2.2.2.1 d1.length then
                (nth d1 x1.2.2.2.1.toNat).bind fun (x367 : Int) =>
                bif inb x1.2.2.1 d1.length then
                  (nth d1 x1.2.2.1.toNat).bind fun (x368 : Int) =>
                  (c113 rf (x366 == x367) x368).bind fun (y369 : Int × Int) =>
                  some (d1, y369)
                else
                  none
              else
                none
            else
              none
          else
          bif inb x1.2.2.1 d1.length then
            (nth d1 x1.2.2.1.toNat).bind fun (x370 : Int) =>
            (c113 rf false x370).bind fun (y371 : Int × Int) =>
            some (d1, y371)
          else
            none
        else
          none
      else
        (c112 rf d1 d2 d3 1).bind fun (y372 : List Int × Bool) =>
        (c113 rf y372.2 1).bind fun (y373 : Int × Int) =>
        some (y372.1, y373)
    else
    bif x1.1 == 18 then
      (c112 rf d1 d2 d3 2).bind fun (y374 : List Int × Bool) =>
      (c113 rf y374.2 2).bind fun (y375 : Int × Int) =>
      some (y374.1, y375)
    else
    bif x1.1 == 12 then
      bif x1.1 == 12 then
        (c112 rf d1 d2 d3 2).bind fun (y376 : List Int × Bool) =>
        (c113 rf y376.2 1).bind fun (y377 : Int × Int) =>
        some (y376.1, y377)
      else
      bif x1.1 == 10 then
        bif x1.1 == 10 then
          bif inb x1.2.1 d1.length then
            (nth d1 x1.2.1.toNat).bind fun (x378 : Int) =>
            bif inb x1.2.2.1 d1.length then
              (nth d1 x1.2.2.1.toNat).bind fun (x379 : Int) =>
              (c113 rf (x378 == x379) 1).bind fun (y380 : Int × Int) =>
              some (d1, y380)
            else
              none
          else
            none
        else
        bif x1.1 == 19 then
          bif inb x1.2.1 d1.length then
            (nth d1 x1.2.1.toNat).bind fun (x381 : Int) =>
            bif inb x1.2.2.1 d1.length then
              (nth d1 x1.2.2.1.toNat).bind fun (x382 : Int) =>
              bif inb x1.2.1 d1.length then
                (nth d1 x1.2.1.toNat).bind fun (x383 : Int) =>
                (c113 rf (x381 == x382) x383).bind fun (y384 : Int × Int) =>
                some (d1, y384)
              else
                none
            else
              none
          else
            none
        else
        bif x1.1 == 21 then
          bif inb x1.2.1 d1.length then
            (nth d1 x1.2.1.toNat).bind fun (x385 : Int) =>
            some (d1, x385, 0)
          else
            none
        else
        bif x1.1 == 26 then
          bif inb x1.2.1 d1.length then
            (nth d1 x1.2.1.toNat).bind fun (x386 : Int) =>
            bif x386 == 1 then
              bif inb x1.2.2.1 d1.length then
                (nth d1 x1.2.2.1.toNat).bind fun (x387 : Int) =>
                bif inb x1.2.2.2.1 d1.length then
                  (nth d1 x1.2.2.2.1.toNat).bind fun (x388 : Int) =>
                  bif inb x1.2.2.1 d1.length then
                    (nth d1 x1.2.2.1.toNat).bind fun (x389 : Int) =>
                    (c113 rf (x387 == x388) x389).bind fun (y390 : Int × Int) =>
                    some (d1, y390)
                  else
                    none
                else
                  none
              else
                none
            else
            bif inb x1.2.2.1 d1.length then
              (nth d1 x1.2.2.1.toNat).bind fun (x391 : Int) =>
              (c113 rf false x391).bind fun (y392 : Int × Int) =>
              some (d1, y392)
            else
              none
          else
            none
        else
          (c112 rf d1 d2 d3 1).bind fun (y393 : List Int × Bool) =>
          (c113 rf y393.2 1).bind fun (y394 : Int × Int) =>
          some (y393.1, y394)
      else
      bif x1.1 == 11 then
        bif inb x1.2.1 d1.length then
          (nth d1 x1.2.1.toNat).bind fun (x395 : Int) =>
          bif inb x1.2.2.1 d1.length then
            (nth d1 x1.2.2.1.toNat).bind fun (x396 : Int) =>
            (c113 rf (x395 == x396) 1).bind fun (y397 : Int × Int) =>
            some (d1, y397)
          else
            none
        else
          none
      else
      bif x1.1 == 19 then
        bif inb x1.2.1 d1.length then
          (nth d1 x1.2.1.toNat).bind fun (x398 : Int) =>
          bif inb x1.2.2.1 d1.length then
            (nth d1 x1.2.2.1.toNat).bind fun (x399 : Int) =>
            bif inb x1.2.1 d1.length then
              (nth d1 x1.2.1.toNat).bind fun (x400 : Int) =>
              (c113 rf (x398 == x399) x400).bind fun (y401 : Int × Int) =>
              some (d1, y401)
            else
              none
          else
            none
        else
          none
      else
      bif x1.1 == 21 then
        bif inb x1.2.1 d1.length then
          (nth d1 x1.2.1.toNat).bind fun (x402 : Int) =>
          some (d1, x402, 0)
        else
          none
      else
      bif x1.1 == 26 then
        bif inb x1.2.1 d1.length then
          (nth d1 x1.2.1.toNat).bind fun (x403 : Int) =>
          bif x403 == 1 then
            bif inb x1.2.2.1 d1.length then
              (nth d1 x1.2.2.1.toNat).bind fun (x404 : Int) =>
              bif inb x1.2.2.2.1 d1.length then
                (nth d1 x1.2.2.2.1.toNat).bind fun (x405 : Int) =>
                bif inb x1.2.2.1 d1.length then
                  (nth d1 x1.2.2.1.toNat).bind fun (x406 : Int) =>
                  (c113 rf (x404 == x405) x406).bind fun (y407 : Int × Int) =>
                  some (d1, y407)
                else
                  none
              else
                none
            else
              none
          else
          bif inb x1.2.2.1 d1.length then
            (nth d1 x1.2.2.1.toNat).bind fun (x408 : Int) =>
            (c113 rf false x408).bind fun (y409 : Int × Int) =>
            some (d1, y409)
          else
            none
        else
          none
      else
        (c112 rf d1 d2 d3 1).bind fun (y410 : List Int × Bool) =>
        (c113 rf y410.2 1).bind fun (y411 : Int × Int) =>
        some (y410.1, y411)
    else
    bif x1.1 == 13 then
      (c112 rf d1 d2 d3 2).bind fun (y412 : List Int × Bool) =>
      (c113 rf y412.2 1).bind fun (y413 : Int × Int) =>
      some (y412.1, y413)
    else
    bif x1.1 == 10 then
      bif x1.1 == 10 then
        bif inb x1.2.1 d1.length then
          (nth d1 x1.2.1.toNat).bind fun (x414 : Int) =>
          bif inb x1.2.2.1 d1.length then
            (nth d1 x1.2.2.1.toNat).bind fun (x415 : Int) =>
            (c113 rf (x414 == x415) 1).bind fun (y416 : Int × Int) =>
            some (d1, y416)
          else
            none
        else
          none
      else
      bif x1.1 == 19 then
        bif inb x1.2.1 d1.length then
          (nth d1 x1.2.1.toNat).bind fun (x417 : Int) =>
          bif inb x1.2.2.1 d1.length then
            (nth d1 x1.2.2.1.toNat).bind fun (x418 : Int) =>
            bif inb x1.2.1 d1.length then
              (nth d1 x1.2.1.toNat).bind fun (x419 : Int) =>
              (c113 rf (x417 == x418) x419).bind fun (y420 : Int × Int) =>
              some (d1, y420)
            else
              none
          else
            none
        else
          none
      else
      bif x1.1 == 21 then
        bif inb x1.2.1 d1.length then
          (nth d1 x1.2.1.toNat).bind fun (x421 : Int) =>
          some (d1, x421, 0)
        else
          none
      else
      bif x1.1 == 26 then
        bif inb x1.2.1 d1.length then
          (nth d1 x1.2.1.toNat).bind fun (x422 : Int) =>
          bif x422 == 1 then
            bif inb x1.2.2.1 d1.length then
              (nth d1 x1.2.2.1.toNat).bind fun (x423 : Int) =>
              bif inb x1.2.2.2.1 d1.length then
                (nth d1 x1.2.2.2.1.toNat).bind fun (x424 : Int) =>
                bif inb x1.2.2.1 d1.length then
                  (nth d1 x1.2.2.1.toNat).bind fun (x425 : Int) =>
                  (c113 rf (x423 == x424) x425).bind fun (y426 : Int × Int) =>
                  some (d1, y426)
                else
                  none
              else
                none
            else
              none
          else
          bif inb x1.2.2.1 d1.length then
            (nth d1 x1.2.2.1.toNat).bind fun (x427 : Int) =>
            (c113 rf false x427).bind fun (y428 : Int × Int) =>
            some (d1, y428)
          else
            none
        else
          none
      else
        (c112 rf d1 d2 d3 1).bind fun (y429 : List Int × Bool) =>
        (c113 rf y429.2 1).bind fun (y430 : Int × Int) =>
        some (y429.1, y430)
    else
    bif x1.1 == 11 then
      bif inb x1.2.1 d1.length then
        (nth d1 x1.2.1.toNat).bind fun (x431 : Int) =>
        bif inb x1.2.2.1 d1.length then
          (nth d1 x1.2.2.1.toNat).bind fun (x432 : Int) =>
          (c113 rf (x431 == x432) 1).bind fun (y433 : Int × Int) =>
          some (d1, y433)
        else
          none
      else
        none
    else
    bif x1.1 == 19 then
      bif inb x1.2.1 d1.length then
        (nth d1 x1.2.1.toNat).bind fun (x434 : Int) =>
        bif inb x1.2.2.1 d1.length then
          (nth d1 x1.2.2.1.toNat).bind fun (x435 : Int) =>
          bif inb x1.2.1 d1.length then
            (nth d1 x1.2.1.toNat).bind fun (x436 : Int) =>
            (c113 rf (x434 == x435) x436).bind fun (y437 : Int × Int) =>
            some (d1, y437)
          else
            none
        else
          none
      else
        none
    else
    bif x1.1 == 21 then
      bif inb x1.2.1 d1.length then
        (nth d1 x1.2.1.toNat).bind fun (x438 : Int) =>
        some (d1, x438, 0)
      else
        none
    else
    bif x1.1 == 26 then
      bif inb x1.2.1 d1.length then
        (nth d1 x1.2.1.toNat).bind fun (x439 : Int) =>
        bif x439 == 1 then
          bif inb x1.2.2.1 d1.length then
            (nth d1 x1.2.2.1.toNat).bind fun (x440 : Int) =>
            bif inb x1.2.2.2.1 d1.length then
              (nth d1 x1.2.2.2.1.toNat).bind fun (x441 : Int) =>
              bif inb x1.2.2.1 d1.length then
                (nth d1 x1.2.2.1.toNat).bind fun (x442 : Int) =>
                (c113 rf (x440 == x441) x442).bind fun (y443 : Int × Int) =>
                some (d1, y443)
              else
                none
            else
              none
          else
            none
        else
        bif inb x1.2.2.1 d1.length then
          (nth d1 x1.2.2.1.toNat).bind fun (x444 : Int) =>
          (c113 rf false x444).bind fun (y445 : Int × Int) =>
          some (d1, y445)
        else
          none
      else
        none
    else
      (c112 rf d1 d2 d3 1).bind fun (y446 : List Int × Bool) =>
      (c113 rf y446.2 1).bind fun (y447 : Int × Int) =>
      some (y446.1, y447)
  else
    none
theorem er107 (rf : T.RF) (rb : T.RB) (d1 : List Int) (d2 : XL) (d3 : Int) (d4 : XP) (d5 : List XU) : T.stepF rf rb 107 (d1, d2, d3, d4, d5) = r107 rf rb d1 d2 d3 d4 d5 := by kernel_rfl
theorem or107 {d1 : List Int} {d2 : XL} {d3 : Int} {d4 : XP} {d5 : List XU} {y : (List Int × Int × Int)} (h : r107 T.rf T.rb d1 d2 d3 d4 d5 = some y) : c107 T.rf d1 d2 d3 d4 d5 = some y := T.rf_of (f := 107) (d := (d1, d2, d3, d4, d5)) ((er107 T.rf T.rb d1 d2 d3 d4 d5).trans h)

/- bailmentref09.Types loop 0 -/
noncomputable def b128 (rf : T.RF) (rb : T.RB) (d1 : List Int) (d2 : XL) (d3 : XP) (d4 : List XU) (d5 : Int) : Option ((List Int × List Int × Int) ⊕ (List Int)) :=
  bif decide (d5 < (((d2.length : Nat) : Int))) then
    (c107 rf d1 d2 d5 d3 d4).bind fun (y1 : List Int × Int × Int) =>
    bif y1.2.2 != 0 then
      some (.inl (y1.1, [], y1.2.2))
    else
    bif inb d5 y1.1.length then
      bif Nat.blt d5.toNat y1.1.length then
        k128 rb (setNth y1.1 d5.toNat y1.2.1) d2 d3 d4 (IntKind.i64.wrap (d5 + 1))
      else
        none
    else
      none
  else
    some (.inr d1)
theorem eb128 (rf : T.RF) (rb : T.RB) (d1 : List Int) (d2 : XL) (d3 : XP) (d4 : List XU) (d5 : Int) : T.stepB rf rb 128 (d1, d2, d3, d4, d5) = b128 rf rb d1 d2 d3 d4 d5 := by kernel_rfl
theorem ob128 {d1 : List Int} {d2 : XL} {d3 : XP} {d4 : List XU} {d5 : Int} {y : ((List Int × List Int × Int) ⊕ (List Int))} (h : b128 T.rf T.rb d1 d2 d3 d4 d5 = some y) : k128 T.rb d1 d2 d3 d4 d5 = some y := T.rb_of (κ := 128) (d := (d1, d2, d3, d4, d5)) ((eb128 T.rf T.rb d1 d2 d3 d4 d5).trans h)

/- bailmentref09.Types -/
noncomputable def r106 (rf : T.RF) (rb : T.RB) (d1 : XL) (d2 : XP) (d3 : List XU) : Option (List Int × Int) :=
  bif inb' (((d1.length : Nat) : Int)) most then
    bif inb' (((d1.length : Nat) : Int)) d1.length then
      (k128 rb (List.replicate d1.length 0) d1 d2 d3 0).bind fun (z1 : (List Int × List Int × Int) ⊕ (List Int)) =>
      match z1 with
      | .inl u2 =>
        some u2.2
      | .inr w3 =>
        some (w3, 0)
    else
      none
  else
    none
theorem er106 (rf : T.RF) (rb : T.RB) (d1 : XL) (d2 : XP) (d3 : List XU) : T.stepF rf rb 106 (d1, d2, d3) = r106 rf rb d1 d2 d3 := by kernel_rfl
theorem or106 {d1 : XL} {d2 : XP} {d3 : List XU} {y : (List Int × Int)} (h : r106 T.rf T.rb d1 d2 d3 = some y) : c106 T.rf d1 d2 d3 = some y := T.rf_of (f := 106) (d := (d1, d2, d3)) ((er106 T.rf T.rb d1 d2 d3).trans h)

/- bailmentref09.Of -/
noncomputable def r98 (rf : T.RF) (rb : T.RB) (d1 : XL) (d2 : XP) (d3 : List XU) : Option (Int × Int) :=
  (c99 rf d1).bind fun (y1 : Bool) =>
  bif !y1 then
    some (0, 1)
  else
    (c103 rf d1).bind fun (y2 : XL) =>
    (c106 rf y2 d2 d3).bind fun (y3 : List Int × Int) =>
    bif y3.2 != 0 then
      some (0, y3.2)
    else
    bif inb (IntKind.i64.wrap ((((y3.1.length : Nat) : Int)) - 1)) y3.1.length then
      (nth y3.1 (IntKind.i64.wrap ((((y3.1.length : Nat) : Int)) - 1)).toNat).bind fun (x4 : Int) =>
      some (x4, 0)
    else
      none
theorem er98 (rf : T.RF) (rb : T.RB) (d1 : XL) (d2 : XP) (d3 : List XU) : T.stepF rf rb 98 (d1, d2, d3) = r98 rf rb d1 d2 d3 := by kernel_rfl
theorem or98 {d1 : XL} {d2 : XP} {d3 : List XU} {y : (Int × Int)} (h : r98 T.rf T.rb d1 d2 d3 = some y) : c98 T.rf d1 d2 d3 = some y := T.rf_of (f := 98) (d := (d1, d2, d3)) ((er98 T.rf T.rb d1 d2 d3).trans h)

/- bailmentlaw09.TypesOf -/
noncomputable def r0 (rf : T.RF) (rb : T.RB) (d1 : XL) (d2 : XP) (d3 : List XU) : Option Bool :=
  bif decide ((((d1.length : Nat) : Int)) > 300) then
    (c1 rf).bind fun (y1 : Bool) =>
    some y1
  else
  bif decide ((((d2.length : Nat) : Int)) > 60) then
    (c1 rf).bind fun (y2 : Bool) =>
    some y2
  else
    (c97 rf (d3, ([] : List UInt8), ([] : List UInt8))).bind fun (y3 : Bool) =>
    bif !y3 then
      (c1 rf).bind fun (y4 : Bool) =>
      some y4
    else
      (c44 rf d1 d2 d3).bind fun (y5 : Int × Int) =>
      (c98 rf d1 d2 d3).bind fun (y6 : Int × Int) =>
      bif y5.1 == y6.1 then
        bif y5.2 == y6.2 then
          (c1 rf).bind fun (y7 : Bool) =>
          some y7
        else
          some false
      else
        some false
theorem er0 (rf : T.RF) (rb : T.RB) (d1 : XL) (d2 : XP) (d3 : List XU) : T.stepF rf rb 0 (d1, d2, d3) = r0 rf rb d1 d2 d3 := by kernel_rfl
theorem or0 {d1 : XL} {d2 : XP} {d3 : List XU} {y : Bool} (h : r0 T.rf T.rb d1 d2 d3 = some y) : c0 T.rf d1 d2 d3 = some y := T.rf_of (f := 0) (d := (d1, d2, d3)) ((er0 T.rf T.rb d1 d2 d3).trans h)

/- bailmentref08.Streams -/
noncomputable def r117 (rf : T.RF) (rb : T.RB) (d1 : XU) : Option XP :=
  bif Nat.ble d1.2.2.1.length most then
    bif !d1.1 then
      bif (Nat.ble (d1.2.2.1.length + 1) most) && true then
        bif (Nat.ble ((d1.2.2.1 ++ [(d1.2.2.2.1, d1.2.2.2.2.1)]).length + d1.2.2.2.2.2.1.length) most) && true then
          some ((d1.2.2.1 ++ [(d1.2.2.2.1, d1.2.2.2.2.1)]) ++ d1.2.2.2.2.2.1)
        else
          none
      else
        none
    else
      some d1.2.2.1
  else
    none
theorem er117 (rf : T.RF) (rb : T.RB) (d1 : XU) : T.stepF rf rb 117 d1 = r117 rf rb d1 := by kernel_rfl
theorem or117 {d1 : XU} {y : XP} (h : r117 T.rf T.rb d1 = some y) : c117 T.rf d1 = some y := T.rf_of (f := 117) (d := d1) ((er117 T.rf T.rb d1).trans h)

/- bailmentref09.want -/
noncomputable def r118 (rf : T.RF) (rb : T.RB) (d1 : XL) (d2 : XP) (d3 : List XU) (d4 : Int) : Option Int :=
  (c98 rf d1 d2 d3).bind fun (y1 : Int × Int) =>
  bif y1.2 == 0 then
    bif y1.1 != d4 then
      some 10
    else
      some y1.2
  else
    some y1.2
theorem er118 (rf : T.RF) (rb : T.RB) (d1 : XL) (d2 : XP) (d3 : List XU) (d4 : Int) : T.stepF rf rb 118 (d1, d2, d3, d4) = r118 rf rb d1 d2 d3 d4 := by kernel_rfl
theorem or118 {d1 : XL} {d2 : XP} {d3 : List XU} {d4 : Int} {y : Int} (h : r118 T.rf T.rb d1 d2 d3 d4 = some y) : c118 T.rf d1 d2 d3 d4 = some y := T.rf_of (f := 118) (d := (d1, d2, d3, d4)) ((er118 T.rf T.rb d1 d2 d3 d4).trans h)

/- bailmentref09.items loop 0 -/
noncomputable def b136 (rf : T.RF) (rb : T.RB) (d1 : XU) (d2 : XP) (d3 : Int) : Option ((XU × Int) ⊕ XU) :=
  bif decide (d3 < (((d1.2.2.2.2.2.2.2.length : Nat) : Int))) then
    bif inb d3 d1.2.2.2.2.2.2.2.length then
      (nth d1.2.2.2.2.2.2.2 d3.toNat).bind fun (x1 : XI) =>
      bif x1.1 == 3 then
        (c118 rf x1.2.2.2.1 d2 [] x1.2.2.1).bind fun (y2 : Int) =>
        bif y2 != 0 then
          some (.inl (d1, y2))
        else
        bif x1.1 == 3 then
          bif (Nat.ble (d2.length + 1) most) && true then
            k136 rb d1 (d2 ++ [(x1.2.1, x1.2.2.1)]) (IntKind.i64.wrap (d3 + 1))
          else
            none
        else
          k136 rb d1 d2 (IntKind.i64.wrap (d3 + 1))
      else
      bif x1.1 == 1 then
        bif x1.1 == 1 then
          (c118 rf x1.2.2.2.1 d2 [] 1).bind fun (y3 : Int) =>
          bif y3 != 0 then
            some (.inl (d1, y3))
          else
          bif x1.1 == 3 then
            bif (Nat.ble (d2.length + 1) most) && true then
              k136 rb d1 (d2 ++ [(x1.2.1, x1.2.2.1)]) (IntKind.i64.wrap (d3 + 1))
            else
              none
          else
            k136 rb d1 d2 (IntKind.i64.wrap (d3 + 1))
        else
        bif x1.1 == 4 then
          (c118 rf x1.2.2.2.1 d2 [] 1).bind fun (y4 : Int) =>
          bif y4 == 0 then
            (c118 rf x1.2.2.2.2.1 d2 [] 1).bind fun (y5 : Int) =>
            bif y5 != 0 then
              some (.inl (d1, y5))
            else
            bif x1.1 == 3 then
              bif (Nat.ble (d2.length + 1) most) && true then
                k136 rb d1 (d2 ++ [(x1.2.1, x1.2.2.1)]) (IntKind.i64.wrap (d3 + 1))
              else
                none
            else
              k136 rb d1 d2 (IntKind.i64.wrap (d3 + 1))
          else
          bif y4 != 0 then
            some (.inl (d1, y4))
          else
          bif x1.1 == 3 then
            bif (Nat.ble (d2.length + 1) most) && true then
              k136 rb d1 (d2 ++ [(x1.2.1, x1.2.2.1)]) (IntKind.i64.wrap (d3 + 1))
            else
              none
          else
            k136 rb d1 d2 (IntKind.i64.wrap (d3 + 1))
        else
        bif x1.1 == 3 then
          bif (Nat.ble (d2.length + 1) most) && true then
            k136 rb d1 (d2 ++ [(x1.2.1, x1.2.2.1)]) (IntKind.i64.wrap (d3 + 1))
          else
            none
        else
          k136 rb d1 d2 (IntKind.i64.wrap (d3 + 1))
      else
      bif x1.1 == 2 then
        (c118 rf x1.2.2.2.1 d2 [] 1).bind fun (y6 : Int) =>
        bif y6 != 0 then
          some (.inl (d1, y6))
        else
        bif x1.1 == 3 then
          bif (Nat.ble (d2.length + 1) most) && true then
            k136 rb d1 (d2 ++ [(x1.2.1, x1.2.2.1)]) (IntKind.i64.wrap (d3 + 1))
          else
            none
        else
          k136 rb d1 d2 (IntKind.i64.wrap (d3 + 1))
      else
      bif x1.1 == 4 then
        (c118 rf x1.2.2.2.1 d2 [] 1).bind fun (y7 : Int) =>
        bif y7 == 0 then
          (c118 rf x1.2.2.2.2.1 d2 [] 1).bind fun (y8 : Int) =>
          bif y8 != 0 then
            some (.inl (d1, y8))
          else
          bif x1.1 == 3 then
            bif (Nat.ble (d2.length + 1) most) && true then
              k136 rb d1 (d2 ++ [(x1.2.1, x1.2.2.1)]) (IntKind.i64.wrap (d3 + 1))
            else
              none
          else
            k136 rb d1 d2 (IntKind.i64.wrap (d3 + 1))
        else
        bif y7 != 0 then
          some (.inl (d1, y7))
        else
        bif x1.1 == 3 then
          bif (Nat.ble (d2.length + 1) most) && true then
            k136 rb d1 (d2 ++ [(x1.2.1, x1.2.2.1)]) (IntKind.i64.wrap (d3 + 1))
          else
            none
        else
          k136 rb d1 d2 (IntKind.i64.wrap (d3 + 1))
      else
      bif x1.1 == 3 then
        bif (Nat.ble (d2.length + 1) most) && true then
          k136 rb d1 (d2 ++ [(x1.2.1, x1.2.2.1)]) (IntKind.i64.wrap (d3 + 1))
        else
          none
      else
        k136 rb d1 d2 (IntKind.i64.wrap (d3 + 1))
    else
      none
  else
    some (.inr d1)
theorem eb136 (rf : T.RF) (rb : T.RB) (d1 : XU) (d2 : XP) (d3 : Int) : T.stepB rf rb 136 (d1, d2, d3) = b136 rf rb d1 d2 d3 := by kernel_rfl
theorem ob136 {d1 : XU} {d2 : XP} {d3 : Int} {y : ((XU × Int) ⊕ XU)} (h : b136 T.rf T.rb d1 d2 d3 = some y) : k136 T.rb d1 d2 d3 = some y := T.rb_of (κ := 136) (d := (d1, d2, d3)) ((eb136 T.rf T.rb d1 d2 d3).trans h)

/- bailmentref09.items -/
noncomputable def r116 (rf : T.RF) (rb : T.RB) (d1 : XU) : Option Int :=
  (c117 rf d1).bind fun (y1 : XP) =>
  (k136 rb d1 y1 0).bind fun (z2 : (XU × Int) ⊕ XU) =>
  match z2 with
  | .inl u3 =>
    some u3.2
  | .inr w4 =>
    some 0
theorem er116 (rf : T.RF) (rb : T.RB) (d1 : XU) : T.stepF rf rb 116 d1 = r116 rf rb d1 := by kernel_rfl
theorem or116 {d1 : XU} {y : Int} (h : r116 T.rf T.rb d1 = some y) : c116 T.rf d1 = some y := T.rf_of (f := 116) (d := d1) ((er116 T.rf T.rb d1).trans h)

/- bailmentref09.Check loop 0 -/
noncomputable def b138 (rf : T.RF) (rb : T.RB) (d1 : List XU × List UInt8 × List UInt8) (d2 : Int × Int) (d3 : Int) : Option (((List XU × List UInt8 × List UInt8) × Int × Int) ⊕ ((List XU × List UInt8 × List UInt8) × Int × Int)) :=
  bif decide (d3 < (((d1.1.length : Nat) : Int))) then
    bif inb d3 d1.1.length then
      (nth d1.1 d3.toNat).bind fun (x1 : XU) =>
      (c116 rf x1).bind fun (y2 : Int) =>
      (c117 rf x1).bind fun (y3 : XP) =>
      (k139 rb d1 x1 d3 y2 y3 0).bind fun (z4 : (List XU × List UInt8 × List UInt8) × XU × Int) =>
      bif z4.2.2 != 0 then
        some (.inl (z4.1, z4.2.2, d3))
      else
        k138 rb z4.1 d2 (IntKind.i64.wrap (d3 + 1))
    else
      none
  else
    some (.inr (d1, d2))
theorem eb138 (rf : T.RF) (rb : T.RB) (d1 : List XU × List UInt8 × List UInt8) (d2 : Int × Int) (d3 : Int) : T.stepB rf rb 138 (d1, d2, d3) = b138 rf rb d1 d2 d3 := by kernel_rfl
theorem ob138 {d1 : List XU × List UInt8 × List UInt8} {d2 : Int × Int} {d3 : Int} {y : (((List XU × List UInt8 × List UInt8) × Int × Int) ⊕ ((List XU × List UInt8 × List UInt8) × Int × Int))} (h : b138 T.rf T.rb d1 d2 d3 = some y) : k138 T.rb d1 d2 d3 = some y := T.rb_of (κ := 138) (d := (d1, d2, d3)) ((eb138 T.rf T.rb d1 d2 d3).trans h)

/- bailmentref09.Check loop 2 -/
noncomputable def b139 (rf : T.RF) (rb : T.RB) (d1 : List XU × List UInt8 × List UInt8) (d2 : XU) (d3 : Int) (d4 : Int) (d5 : XP) (d6 : Int) : Option ((List XU × List UInt8 × List UInt8) × XU × Int) :=
  bif decide (d6 < (((d2.2.2.2.2.2.2.1.length : Nat) : Int))) then
    bif d4 == 0 then
      bif inb d6 d2.2.2.2.2.2.2.1.length then
        (nth d2.2.2.2.2.2.2.1 d6.toNat).bind fun (x1 : List UInt8 × XL) =>
        (c108 rf d5 x1.1).bind fun (y2 : Int × Bool) =>
        bif !y2.2 then
          k139 rb d1 d2 d3 8 d5 (IntKind.i64.wrap (d6 + 1))
        else
        bif inb d6 d2.2.2.2.2.2.2.1.length then
          (nth d2.2.2.2.2.2.2.1 d6.toNat).bind fun (x3 : List UInt8 × XL) =>
          bif inb' d3 d1.1.length then
            (c118 rf x3.2 d5 (sub d1.1 (some (0, (d3.toNat - 0)))) y2.1).bind fun (y4 : Int) =>
            k139 rb d1 d2 d3 y4 d5 (IntKind.i64.wrap (d6 + 1))
          else
            none
        else
          none
      else
        none
    else
      some (d1, d2, d4)
  else
    some (d1, d2, d4)
theorem eb139 (rf : T.RF) (rb : T.RB) (d1 : List XU × List UInt8 × List UInt8) (d2 : XU) (d3 : Int) (d4 : Int) (d5 : XP) (d6 : Int) : T.stepB rf rb 139 (d1, d2, d3, d4, d5, d6) = b139 rf rb d1 d2 d3 d4 d5 d6 := by kernel_rfl
theorem ob139 {d1 : List XU × List UInt8 × List UInt8} {d2 : XU} {d3 : Int} {d4 : Int} {d5 : XP} {d6 : Int} {y : ((List XU × List UInt8 × List UInt8) × XU × Int)} (h : b139 T.rf T.rb d1 d2 d3 d4 d5 d6 = some y) : k139 T.rb d1 d2 d3 d4 d5 d6 = some y := T.rb_of (κ := 139) (d := (d1, d2, d3, d4, d5, d6)) ((eb139 T.rf T.rb d1 d2 d3 d4 d5 d6).trans h)

/- bailmentref09.Check -/
noncomputable def r115 (rf : T.RF) (rb : T.RB) (d1 : List XU × List UInt8 × List UInt8) : Option (Int × Int) :=
  (k138 rb d1 (0, 0) 0).bind fun (z1 : ((List XU × List UInt8 × List UInt8) × Int × Int) ⊕ ((List XU × List UInt8 × List UInt8) × Int × Int)) =>
  match z1 with
  | .inl u2 =>
    some u2.2
  | .inr w3 =>
    some (0, 0)
theorem er115 (rf : T.RF) (rb : T.RB) (d1 : List XU × List UInt8 × List UInt8) : T.stepF rf rb 115 d1 = r115 rf rb d1 := by kernel_rfl
theorem or115 {d1 : List XU × List UInt8 × List UInt8} {y : (Int × Int)} (h : r115 T.rf T.rb d1 = some y) : c115 T.rf d1 = some y := T.rf_of (f := 115) (d := d1) ((er115 T.rf T.rb d1).trans h)

/- bailmentlaw09.TypesCheck -/
noncomputable def r114 (rf : T.RF) (rb : T.RB) (d1 : List XU × List UInt8 × List UInt8) : Option Bool :=
  (c97 rf d1).bind fun (y1 : Bool) =>
  bif !y1 then
    (c1 rf).bind fun (y2 : Bool) =>
    some y2
  else
    (c86 rf d1).bind fun (y3 : Int × Int) =>
    (c115 rf d1).bind fun (y4 : Int × Int) =>
    bif (y3.1 == y4.1) && (y3.2 == y4.2) then
      (c1 rf).bind fun (y5 : Bool) =>
      some y5
    else
      some false
theorem er114 (rf : T.RF) (rb : T.RB) (d1 : List XU × List UInt8 × List UInt8) : T.stepF rf rb 114 d1 = r114 rf rb d1 := by kernel_rfl
theorem or114 {d1 : List XU × List UInt8 × List UInt8} {y : Bool} (h : r114 T.rf T.rb d1 = some y) : c114 T.rf d1 = some y := T.rf_of (f := 114) (d := d1) ((er114 T.rf T.rb d1).trans h)

theorem place_len : tabs.placeL.length = 140 := rfl
end Go.Proofs.YtomofgclaiaikaaGreat.R
