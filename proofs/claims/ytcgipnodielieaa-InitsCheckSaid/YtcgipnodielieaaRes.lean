/-
  OUR OWN, PRINTED BY A PROGRAM OF OURS (table2.py): the table of the functions, and what each comes to.
-/
import Derived.Test.YtcgipnodielieaaResPA
namespace Go.Proofs.Ytcgipnodielieaa.R
open Go Go.Bm Go.Proofs
set_option linter.unusedVariables false
set_option linter.unusedSimpArgs false
set_option maxRecDepth 100000

/- bailmentref03.Depth loop 2 -/
noncomputable def b35q (rf : T.RF) (rb : T.RB) (d1 : List Int) (d2 : List Int) (d3 : Int) (d4 : Int) : Option (List Int × List Int) :=
  bif decide (d4 < (((d2.length : Nat) : Int))) then
    bif inb d4 d2.length then
      (nth d2 d4.toNat).bind fun (x1 : Int) =>
      bif decide (x1 ≥ 0) then
        bif inb d4 d2.length then
          (nth d2 d4.toNat).bind fun (x2 : Int) =>
          bif decide (x2 < d3) then
            bif inb d3 d1.length then
              bif inb d4 d2.length then
                (nth d2 d4.toNat).bind fun (x3 : Int) =>
                bif inb x3 d1.length then
                  agree (
                    (nth d1 d3.toNat).bind fun (x4 : Int) =>
                    (nth d1 x3.toNat).bind fun (x5 : Int) =>
                    bif inb d3 d1.length then
                      bif Nat.blt d3.toNat d1.length then
                        k35 rb (setNth d1 d3.toNat (if (IntKind.i64.wrap (x5 + 1)) > x4 then (IntKind.i64.wrap (x5 + 1)) else x4)) d2 d3 (IntKind.i64.wrap (d4 + 1))
                      else
                        none
                    else
                      none
                  ) (
                    (nth d1 x3.toNat).bind fun (x4 : Int) =>
                    (nth d1 d3.toNat).bind fun (x5 : Int) =>
                    bif inb d3 d1.length then
                      bif Nat.blt d3.toNat d1.length then
                        k35 rb (setNth d1 d3.toNat (if (IntKind.i64.wrap (x4 + 1)) > x5 then (IntKind.i64.wrap (x4 + 1)) else x5)) d2 d3 (IntKind.i64.wrap (d4 + 1))
                      else
                        none
                    else
                      none
                  )
                else
                  none
              else
                none
            else
              none
          else
            k35 rb d1 d2 d3 (IntKind.i64.wrap (d4 + 1))
        else
          none
      else
        k35 rb d1 d2 d3 (IntKind.i64.wrap (d4 + 1))
    else
      none
  else
    some (d1, d2)
noncomputable def b35 (rf : T.RF) (rb : T.RB) (d1 : List Int) (d2 : List Int) (d3 : Int) (d4 : Int) : Option (List Int × List Int) :=
  bif decide (d4 < (((d2.length : Nat) : Int))) then
    bif inb d4 d2.length then
      (nth d2 d4.toNat).bind fun (x1 : Int) =>
      bif decide (x1 ≥ 0) then
        bif inb d4 d2.length then
          (nth d2 d4.toNat).bind fun (x2 : Int) =>
          bif decide (x2 < d3) then
            bif inb d3 d1.length then
              bif inb d4 d2.length then
                (nth d2 d4.toNat).bind fun (x3 : Int) =>
                bif inb x3 d1.length then
                  (nth d1 d3.toNat).bind fun (x4 : Int) =>
                  (nth d1 x3.toNat).bind fun (x5 : Int) =>
                  bif inb d3 d1.length then
                    bif Nat.blt d3.toNat d1.length then
                      k35 rb (setNth d1 d3.toNat (if (IntKind.i64.wrap (x5 + 1)) > x4 then (IntKind.i64.wrap (x5 + 1)) else x4)) d2 d3 (IntKind.i64.wrap (d4 + 1))
                    else
                      none
                  else
                    none
                else
                  none
              else
                none
            else
              none
          else
            k35 rb d1 d2 d3 (IntKind.i64.wrap (d4 + 1))
        else
          none
      else
        k35 rb d1 d2 d3 (IntKind.i64.wrap (d4 + 1))
    else
      none
  else
    some (d1, d2)
theorem eb35 (rf : T.RF) (rb : T.RB) (d1 : List Int) (d2 : List Int) (d3 : Int) (d4 : Int) : T.stepB rf rb 35 (d1, d2, d3, d4) = b35q rf rb d1 d2 d3 d4 := by kernel_rfl
theorem sb35 (rf : T.RF) (rb : T.RB) (d1 : List Int) (d2 : List Int) (d3 : Int) (d4 : Int) : b35q rf rb d1 d2 d3 d4 = b35 rf rb d1 d2 d3 d4 := by
  unfold b35q b35; simp only [agN_eq, agree_self, agree_swap]
theorem ob35 {d1 : List Int} {d2 : List Int} {d3 : Int} {d4 : Int} {y : (List Int × List Int)} (h : b35 T.rf T.rb d1 d2 d3 d4 = some y) : k35 T.rb d1 d2 d3 d4 = some y := T.rb_of (κ := 35) (d := (d1, d2, d3, d4)) (((eb35 T.rf T.rb d1 d2 d3 d4).trans (sb35 T.rf T.rb d1 d2 d3 d4)).trans h)

/- bailmentref03.Depth -/
noncomputable def r42 (rf : T.RF) (rb : T.RB) (d1 : List (Int × Int × Int × Int × Int × List UInt8)) : Option Int :=
  bif inb' (((d1.length : Nat) : Int)) most then
    bif inb' (((d1.length : Nat) : Int)) d1.length then
      (k34 rb (List.replicate d1.length 0) d1 0).bind fun (z1 : List Int) =>
      bif (((d1.length : Nat) : Int)) == 0 then
        some 0
      else
      bif inb (IntKind.i64.wrap ((((d1.length : Nat) : Int)) - 1)) z1.length then
        (nth z1 (IntKind.i64.wrap ((((d1.length : Nat) : Int)) - 1)).toNat).bind fun (x2 : Int) =>
        some x2
      else
        none
    else
      none
  else
    none
theorem er42 (rf : T.RF) (rb : T.RB) (d1 : List (Int × Int × Int × Int × Int × List UInt8)) : T.stepF rf rb 42 d1 = r42 rf rb d1 := by kernel_rfl
theorem or42 {d1 : List (Int × Int × Int × Int × Int × List UInt8)} {y : Int} (h : r42 T.rf T.rb d1 = some y) : c42 T.rf d1 = some y := T.rf_of (f := 42) (d := d1) ((er42 T.rf T.rb d1).trans h)

/- bailmentref04.Parse tail 3 -/
noncomputable def b37 (rf : T.RF) (rb : T.RB) (d1 : Int × Int) (d2 : List (Int × List UInt8 × Int)) (d3 : Int) : Option (((Int × Int) × List (Int × Int × Int × Int × Int × List UInt8) × Int) ⊕ ((Int × Int) × List (Int × Int × Int × Int × Int × List UInt8) × Int)) :=
  (c15 rf (d2, d3, 0, 0, 0)).bind fun (y1 : (List (Int × List UInt8 × Int) × Int × Int × Int × Int) × List (Int × Int × Int × Int × Int × List UInt8)) =>
  bif y1.1.2.2.2.1 != 0 then
    some (.inl (y1.1.2.2.2, [], 0))
  else
  bif decide ((((y1.2.length : Nat) : Int)) > 5000) then
    (c25 rf d2 d3).bind fun (y2 : Int) =>
    some (.inl ((7, y2), [], 0))
  else
    (c42 rf y1.2).bind fun (y3 : Int) =>
    bif decide (y3 > 40) then
      (c25 rf d2 d3).bind fun (y4 : Int) =>
      some (.inl ((6, y4), [], 0))
    else
      some (.inr ((0, 0), y1.2, y1.1.2.1))
theorem eb37 (rf : T.RF) (rb : T.RB) (d1 : Int × Int) (d2 : List (Int × List UInt8 × Int)) (d3 : Int) : T.stepB rf rb 37 (d1, d2, d3) = b37 rf rb d1 d2 d3 := by kernel_rfl
theorem ob37 {d1 : Int × Int} {d2 : List (Int × List UInt8 × Int)} {d3 : Int} {y : (((Int × Int) × List (Int × Int × Int × Int × Int × List UInt8) × Int) ⊕ ((Int × Int) × List (Int × Int × Int × Int × Int × List UInt8) × Int))} (h : b37 T.rf T.rb d1 d2 d3 = some y) : k37 T.rb d1 d2 d3 = some y := T.rb_of (κ := 37) (d := (d1, d2, d3)) ((eb37 T.rf T.rb d1 d2 d3).trans h)

/- bailmentref04.Parse -/
noncomputable def r14 (rf : T.RF) (rb : T.RB) (d1 : List (Int × List UInt8 × Int)) (d2 : Int) : Option (List (Int × Int × Int × Int × Int × List UInt8) × Int × Int × Int) :=
  bif decide (d2 < 0) then
    (k37 rb (0, 0) d1 (((d1.length : Nat) : Int))).bind fun (z1 : ((Int × Int) × List (Int × Int × Int × Int × Int × List UInt8) × Int) ⊕ ((Int × Int) × List (Int × Int × Int × Int × Int × List UInt8) × Int)) =>
    match z1 with
    | .inl u2 =>
      some (u2.2.1, u2.2.2, u2.1)
    | .inr w3 =>
      some (w3.2.1, w3.2.2, w3.1)
  else
  bif decide (d2 > (((d1.length : Nat) : Int))) then
    (k37 rb (0, 0) d1 (((d1.length : Nat) : Int))).bind fun (z4 : ((Int × Int) × List (Int × Int × Int × Int × Int × List UInt8) × Int) ⊕ ((Int × Int) × List (Int × Int × Int × Int × Int × List UInt8) × Int)) =>
    match z4 with
    | .inl u5 =>
      some (u5.2.1, u5.2.2, u5.1)
    | .inr w6 =>
      some (w6.2.1, w6.2.2, w6.1)
  else
    (k37 rb (0, 0) d1 d2).bind fun (z7 : ((Int × Int) × List (Int × Int × Int × Int × Int × List UInt8) × Int) ⊕ ((Int × Int) × List (Int × Int × Int × Int × Int × List UInt8) × Int)) =>
    match z7 with
    | .inl u8 =>
      some (u8.2.1, u8.2.2, u8.1)
    | .inr w9 =>
      some (w9.2.1, w9.2.2, w9.1)
theorem er14 (rf : T.RF) (rb : T.RB) (d1 : List (Int × List UInt8 × Int)) (d2 : Int) : T.stepF rf rb 14 (d1, d2) = r14 rf rb d1 d2 := by kernel_rfl
theorem or14 {d1 : List (Int × List UInt8 × Int)} {d2 : Int} {y : (List (Int × Int × Int × Int × Int × List UInt8) × Int × Int × Int)} (h : r14 T.rf T.rb d1 d2 = some y) : c14 T.rf d1 d2 = some y := T.rf_of (f := 14) (d := (d1, d2)) ((er14 T.rf T.rb d1 d2).trans h)

/- bailmentref04.Read -/
noncomputable def r2 (rf : T.RF) (rb : T.RB) (d1 : List UInt8) : Option (List (Int × Int × Int × Int × Int × List UInt8) × Int × Int) :=
  (c3 rf d1).bind fun (y1 : List (Int × List UInt8 × Int) × Int × Int) =>
  bif y1.2.1 != 0 then
    some ([], y1.2)
  else
    (c14 rf y1.1 0).bind fun (y2 : List (Int × Int × Int × Int × Int × List UInt8) × Int × Int × Int) =>
    bif y2.2.2.1 != 0 then
      some ([], y2.2.2)
    else
    bif decide (y2.2.1 < (((y1.1.length : Nat) : Int))) then
      bif inb y2.2.1 y1.1.length then
        (nth y1.1 y2.2.1.toNat).bind fun (x3 : Int × List UInt8 × Int) =>
        some ([], 5, x3.2.2)
      else
        none
    else
      some (y2.1, 0, 0)
theorem er2 (rf : T.RF) (rb : T.RB) (d1 : List UInt8) : T.stepF rf rb 2 d1 = r2 rf rb d1 := by kernel_rfl
theorem or2 {d1 : List UInt8} {y : (List (Int × Int × Int × Int × Int × List UInt8) × Int × Int)} (h : r2 T.rf T.rb d1 = some y) : c2 T.rf d1 = some y := T.rf_of (f := 2) (d := d1) ((er2 T.rf T.rb d1).trans h)

/- tree.Kids -/
noncomputable def r46 (rf : T.RF) (rb : T.RB) (d1 : Int × Int × Int × Int × Int × List UInt8) : Option (List Int) :=
  bif d1.1 == 26 then
    some [d1.2.1, d1.2.2.1, d1.2.2.2.1]
  else
  bif d1.1 == 28 then
    bif d1.2.2.1 != (-1) then
      some [d1.2.2.1, d1.2.1]
    else
    bif d1.1 == 27 then
      bif d1.2.1 == (-1) then
        some []
      else
      bif decide (d1.1 ≥ 6) then
        bif decide (d1.1 ≤ 20) then
          some [d1.2.1, d1.2.2.1]
        else
        bif d1.1 == 4 then
          some [d1.2.1]
        else
        bif d1.1 == 5 then
          some [d1.2.1]
        else
        bif decide (d1.1 ≥ 21) then
          bif decide (d1.1 ≤ 28) then
            some [d1.2.1]
          else
            some []
        else
          some []
      else
      bif d1.1 == 4 then
        some [d1.2.1]
      else
      bif d1.1 == 5 then
        some [d1.2.1]
      else
      bif decide (d1.1 ≥ 21) then
        bif decide (d1.1 ≤ 28) then
          some [d1.2.1]
        else
          some []
      else
        some []
    else
    bif decide (d1.1 ≥ 6) then
      bif decide (d1.1 ≤ 20) then
        some [d1.2.1, d1.2.2.1]
      else
      bif d1.1 == 4 then
        some [d1.2.1]
      else
      bif d1.1 == 5 then
        some [d1.2.1]
      else
      bif decide (d1.1 ≥ 21) then
        bif decide (d1.1 ≤ 28) then
          some [d1.2.1]
        else
          some []
      else
        some []
    else
    bif d1.1 == 4 then
      some [d1.2.1]
    else
    bif d1.1 == 5 then
      some [d1.2.1]
    else
    bif decide (d1.1 ≥ 21) then
      bif decide (d1.1 ≤ 28) then
        some [d1.2.1]
      else
        some []
    else
      some []
  else
  bif d1.1 == 27 then
    bif d1.2.1 == (-1) then
      some []
    else
    bif decide (d1.1 ≥ 6) then
      bif decide (d1.1 ≤ 20) then
        some [d1.2.1, d1.2.2.1]
      else
      bif d1.1 == 4 then
        some [d1.2.1]
      else
      bif d1.1 == 5 then
        some [d1.2.1]
      else
      bif decide (d1.1 ≥ 21) then
        bif decide (d1.1 ≤ 28) then
          some [d1.2.1]
        else
          some []
      else
        some []
    else
    bif d1.1 == 4 then
      some [d1.2.1]
    else
    bif d1.1 == 5 then
      some [d1.2.1]
    else
    bif decide (d1.1 ≥ 21) then
      bif decide (d1.1 ≤ 28) then
        some [d1.2.1]
      else
        some []
    else
      some []
  else
  bif decide (d1.1 ≥ 6) then
    bif decide (d1.1 ≤ 20) then
      some [d1.2.1, d1.2.2.1]
    else
    bif d1.1 == 4 then
      some [d1.2.1]
    else
    bif d1.1 == 5 then
      some [d1.2.1]
    else
    bif decide (d1.1 ≥ 21) then
      bif decide (d1.1 ≤ 28) then
        some [d1.2.1]
      else
        some []
    else
      some []
  else
  bif d1.1 == 4 then
    some [d1.2.1]
  else
  bif d1.1 == 5 then
    some [d1.2.1]
  else
  bif decide (d1.1 ≥ 21) then
    bif decide (d1.1 ≤ 28) then
      some [d1.2.1]
    else
      some []
  else
    some []
theorem er46 (rf : T.RF) (rb : T.RB) (d1 : Int × Int × Int × Int × Int × List UInt8) : T.stepF rf rb 46 d1 = r46 rf rb d1 := by kernel_rfl
theorem or46 {d1 : Int × Int × Int × Int × Int × List UInt8} {y : (List Int)} (h : r46 T.rf T.rb d1 = some y) : c46 T.rf d1 = some y := T.rf_of (f := 46) (d := d1) ((er46 T.rf T.rb d1).trans h)

/- tree.with -/
noncomputable def r47 (rf : T.RF) (rb : T.RB) (d1 : Int × Int × Int × Int × Int × List UInt8) (d2 : List Int) : Option (Int × Int × Int × Int × Int × List UInt8) :=
  bif d1.1 == 28 then
    bif (((d2.length : Nat) : Int)) == 2 then
      bif inb 0 d2.length then
        (nth d2 0).bind fun (x1 : Int) =>
        bif inb 1 d2.length then
          (nth d2 1).bind fun (x2 : Int) =>
          some (d1.1, x2, x1, d1.2.2.2)
        else
          none
      else
        none
    else
    bif decide (0 < (((d2.length : Nat) : Int))) then
      bif inb 0 d2.length then
        (nth d2 0).bind fun (x3 : Int) =>
        bif decide (1 < (((d2.length : Nat) : Int))) then
          bif inb 1 d2.length then
            (nth d2 1).bind fun (x4 : Int) =>
            bif decide (2 < (((d2.length : Nat) : Int))) then
              bif inb 2 d2.length then
                (nth d2 2).bind fun (x5 : Int) =>
                some (d1.1, x3, x4, x5, d1.2.2.2.2)
              else
                none
            else
              some (d1.1, x3, x4, d1.2.2.2)
          else
            none
        else
        bif decide (2 < (((d2.length : Nat) : Int))) then
          bif inb 2 d2.length then
            (nth d2 2).bind fun (x6 : Int) =>
            some (d1.1, x3, d1.2.2.1, x6, d1.2.2.2.2)
          else
            none
        else
          some (d1.1, x3, d1.2.2)
      else
        none
    else
    bif decide (1 < (((d2.length : Nat) : Int))) then
      bif inb 1 d2.length then
        (nth d2 1).bind fun (x7 : Int) =>
        bif decide (2 < (((d2.length : Nat) : Int))) then
          bif inb 2 d2.length then
            (nth d2 2).bind fun (x8 : Int) =>
            some (d1.1, d1.2.1, x7, x8, d1.2.2.2.2)
          else
            none
        else
          some (d1.1, d1.2.1, x7, d1.2.2.2)
      else
        none
    else
    bif decide (2 < (((d2.length : Nat) : Int))) then
      bif inb 2 d2.length then
        (nth d2 2).bind fun (x9 : Int) =>
        some (d1.1, d1.2.1, d1.2.2.1, x9, d1.2.2.2.2)
      else
        none
    else
      some d1
  else
  bif decide (0 < (((d2.length : Nat) : Int))) then
    bif inb 0 d2.length then
      (nth d2 0).bind fun (x10 : Int) =>
      bif decide (1 < (((d2.length : Nat) : Int))) then
        bif inb 1 d2.length then
          (nth d2 1).bind fun (x11 : Int) =>
          bif decide (2 < (((d2.length : Nat) : Int))) then
            bif inb 2 d2.length then
              (nth d2 2).bind fun (x12 : Int) =>
              some (d1.1, x10, x11, x12, d1.2.2.2.2)
            else
              none
          else
            some (d1.1, x10, x11, d1.2.2.2)
        else
          none
      else
      bif decide (2 < (((d2.length : Nat) : Int))) then
        bif inb 2 d2.length then
          (nth d2 2).bind fun (x13 : Int) =>
          some (d1.1, x10, d1.2.2.1, x13, d1.2.2.2.2)
        else
          none
      else
        some (d1.1, x10, d1.2.2)
    else
      none
  else
  bif decide (1 < (((d2.length : Nat) : Int))) then
    bif inb 1 d2.length then
      (nth d2 1).bind fun (x14 : Int) =>
      bif decide (2 < (((d2.length : Nat) : Int))) then
        bif inb 2 d2.length then
          (nth d2 2).bind fun (x15 : Int) =>
          some (d1.1, d1.2.1, x14, x15, d1.2.2.2.2)
        else
          none
      else
        some (d1.1, d1.2.1, x14, d1.2.2.2)
    else
      none
  else
  bif decide (2 < (((d2.length : Nat) : Int))) then
    bif inb 2 d2.length then
      (nth d2 2).bind fun (x16 : Int) =>
      some (d1.1, d1.2.1, d1.2.2.1, x16, d1.2.2.2.2)
    else
      none
  else
    some d1
theorem er47 (rf : T.RF) (rb : T.RB) (d1 : Int × Int × Int × Int × Int × List UInt8) (d2 : List Int) : T.stepF rf rb 47 (d1, d2) = r47 rf rb d1 d2 := by kernel_rfl
theorem or47 {d1 : Int × Int × Int × Int × Int × List UInt8} {d2 : List Int} {y : (Int × Int × Int × Int × Int × List UInt8)} (h : r47 T.rf T.rb d1 d2 = some y) : c47 T.rf d1 d2 = some y := T.rf_of (f := 47) (d := (d1, d2)) ((er47 T.rf T.rb d1 d2).trans h)

/- tree.isNode tail 9 -/
noncomputable def b39q (rf : T.RF) (rb : T.RB) (d1 : Int × Int × Int × Int × Int × List UInt8) (d2 : Int) : Option ((Int × Int × Int × Int × Int × List UInt8) × Bool) :=
  agree (
    (c46 rf d1).bind fun (y1 : List Int) =>
    agN 1 (
      (c47 rf (d1.1, (-1), (-1), (-1), d1.2.2.2.2) y1).bind fun (y2 : Int × Int × Int × Int × Int × List UInt8) =>
      (k40 rb d1 y2 d2).bind fun (z3 : (Int × Int × Int × Int × Int × List UInt8) × (Int × Int × Int × Int × Int × List UInt8) × Bool) =>
      some (z3.1, z3.2.2)
    )
  ) (
    (c46 rf d1).bind fun (y1 : List Int) =>
    (c47 rf (d1.1, (-1), (-1), (-1), d1.2.2.2.2) y1).bind fun (y2 : Int × Int × Int × Int × Int × List UInt8) =>
    (k40 rb d1 y2 d2).bind fun (z3 : (Int × Int × Int × Int × Int × List UInt8) × (Int × Int × Int × Int × Int × List UInt8) × Bool) =>
    some (z3.1, z3.2.2)
  )
noncomputable def b39 (rf : T.RF) (rb : T.RB) (d1 : Int × Int × Int × Int × Int × List UInt8) (d2 : Int) : Option ((Int × Int × Int × Int × Int × List UInt8) × Bool) :=
  (c46 rf d1).bind fun (y1 : List Int) =>
  (c47 rf (d1.1, (-1), (-1), (-1), d1.2.2.2.2) y1).bind fun (y2 : Int × Int × Int × Int × Int × List UInt8) =>
  (k40 rb d1 y2 d2).bind fun (z3 : (Int × Int × Int × Int × Int × List UInt8) × (Int × Int × Int × Int × Int × List UInt8) × Bool) =>
  some (z3.1, z3.2.2)
theorem eb39 (rf : T.RF) (rb : T.RB) (d1 : Int × Int × Int × Int × Int × List UInt8) (d2 : Int) : T.stepB rf rb 39 (d1, d2) = b39q rf rb d1 d2 := by kernel_rfl
theorem sb39 (rf : T.RF) (rb : T.RB) (d1 : Int × Int × Int × Int × Int × List UInt8) (d2 : Int) : b39q rf rb d1 d2 = b39 rf rb d1 d2 := by
  unfold b39q b39; simp only [agN_eq, agree_self, agree_swap]
theorem ob39 {d1 : Int × Int × Int × Int × Int × List UInt8} {d2 : Int} {y : ((Int × Int × Int × Int × Int × List UInt8) × Bool)} (h : b39 T.rf T.rb d1 d2 = some y) : k39 T.rb d1 d2 = some y := T.rb_of (κ := 39) (d := (d1, d2)) (((eb39 T.rf T.rb d1 d2).trans (sb39 T.rf T.rb d1 d2)).trans h)

/- tree.isNode tail 10 -/
noncomputable def b40 (rf : T.RF) (rb : T.RB) (d1 : Int × Int × Int × Int × Int × List UInt8) (d2 : Int × Int × Int × Int × Int × List UInt8) (d3 : Int) : Option ((Int × Int × Int × Int × Int × List UInt8) × (Int × Int × Int × Int × Int × List UInt8) × Bool) :=
  bif d1.1 == 3 then
    bif decide (d1.1 ≥ 1) then
      bif decide (d1.1 ≤ 28) then
        bif (d1.1 == d2.1) && ((d1.2.1 == d2.2.1) && ((d1.2.2.1 == d2.2.2.1) && ((d1.2.2.2.1 == d2.2.2.2.1) && ((d1.2.2.2.2.1 == d2.2.2.2.2.1) && (d1.2.2.2.2.2 == d2.2.2.2.2.2))))) then
          bif decide (d1.2.2.2.2.1 ≥ 0) then
            bif decide (d1.2.2.2.2.1 ≤ d3) then
              some (d1, d2, (!(d1.2.2.2.2.2 == ([] : List UInt8))) == true)
            else
              some (d1, d2, false)
          else
            some (d1, d2, false)
        else
          some (d1, d2, false)
      else
        some (d1, d2, false)
    else
      some (d1, d2, false)
  else
  bif decide (d1.1 ≥ 1) then
    bif decide (d1.1 ≤ 28) then
      bif (d1.1 == d2.1) && ((d1.2.1 == d2.2.1) && ((d1.2.2.1 == d2.2.2.1) && ((d1.2.2.2.1 == d2.2.2.2.1) && ((d1.2.2.2.2.1 == d2.2.2.2.2.1) && (d1.2.2.2.2.2 == d2.2.2.2.2.2))))) then
        bif decide (d1.2.2.2.2.1 ≥ 0) then
          bif decide (d1.2.2.2.2.1 ≤ d3) then
            some (d1, d2, (!(d1.2.2.2.2.2 == ([] : List UInt8))) == (d1.1 == 27))
          else
            some (d1, d2, false)
        else
          some (d1, d2, false)
      else
        some (d1, d2, false)
    else
      some (d1, d2, false)
  else
    some (d1, d2, false)
theorem eb40 (rf : T.RF) (rb : T.RB) (d1 : Int × Int × Int × Int × Int × List UInt8) (d2 : Int × Int × Int × Int × Int × List UInt8) (d3 : Int) : T.stepB rf rb 40 (d1, d2, d3) = b40 rf rb d1 d2 d3 := by kernel_rfl
theorem ob40 {d1 : Int × Int × Int × Int × Int × List UInt8} {d2 : Int × Int × Int × Int × Int × List UInt8} {d3 : Int} {y : ((Int × Int × Int × Int × Int × List UInt8) × (Int × Int × Int × Int × Int × List UInt8) × Bool)} (h : b40 T.rf T.rb d1 d2 d3 = some y) : k40 T.rb d1 d2 d3 = some y := T.rb_of (κ := 40) (d := (d1, d2, d3)) ((eb40 T.rf T.rb d1 d2 d3).trans h)

/- tree.isNode -/
noncomputable def r45 (rf : T.RF) (rb : T.RB) (d1 : Int × Int × Int × Int × Int × List UInt8) : Option Bool :=
  bif d1.1 == 1 then
    (k39 rb d1 2147483647).bind fun (z1 : (Int × Int × Int × Int × Int × List UInt8) × Bool) =>
    some z1.2
  else
  bif d1.1 == 2 then
    (k39 rb d1 1).bind fun (z2 : (Int × Int × Int × Int × Int × List UInt8) × Bool) =>
    some z2.2
  else
  bif d1.1 == 25 then
    (k39 rb d1 1000).bind fun (z3 : (Int × Int × Int × Int × Int × List UInt8) × Bool) =>
    some z3.2
  else
    (k39 rb d1 0).bind fun (z4 : (Int × Int × Int × Int × Int × List UInt8) × Bool) =>
    some z4.2
theorem er45 (rf : T.RF) (rb : T.RB) (d1 : Int × Int × Int × Int × Int × List UInt8) : T.stepF rf rb 45 d1 = r45 rf rb d1 := by kernel_rfl
theorem or45 {d1 : Int × Int × Int × Int × Int × List UInt8} {y : Bool} (h : r45 T.rf T.rb d1 = some y) : c45 T.rf d1 = some y := T.rf_of (f := 45) (d := d1) ((er45 T.rf T.rb d1).trans h)

/- slices.Index[[]bool,bool] loop 0 -/
noncomputable def b42 (rf : T.RF) (rb : T.RB) (d1 : List Bool) (d2 : Bool) (d3 : Int) (d4 : Int) : Option (Int ⊕ Unit) :=
  bif decide (d4 < d3) then
    bif inb d4 d1.length then
      (nth d1 d4.toNat).bind fun (x1 : Bool) =>
      bif d2 == x1 then
        some (.inl d4)
      else
        k42 rb d1 d2 d3 (IntKind.i64.wrap (d4 + 1))
    else
      none
  else
    some (.inr ())
theorem eb42 (rf : T.RF) (rb : T.RB) (d1 : List Bool) (d2 : Bool) (d3 : Int) (d4 : Int) : T.stepB rf rb 42 (d1, d2, d3, d4) = b42 rf rb d1 d2 d3 d4 := by kernel_rfl
theorem ob42 {d1 : List Bool} {d2 : Bool} {d3 : Int} {d4 : Int} {y : (Int ⊕ Unit)} (h : b42 T.rf T.rb d1 d2 d3 d4 = some y) : k42 T.rb d1 d2 d3 d4 = some y := T.rb_of (κ := 42) (d := (d1, d2, d3, d4)) ((eb42 T.rf T.rb d1 d2 d3 d4).trans h)

/- slices.Index[[]bool,bool] -/
noncomputable def r49 (rf : T.RF) (rb : T.RB) (d1 : List Bool) (d2 : Bool) : Option Int :=
  (k42 rb d1 d2 (((d1.length : Nat) : Int)) 0).bind fun (z1 : Int ⊕ Unit) =>
  match z1 with
  | .inl u2 =>
    some u2
  | .inr w3 =>
    some (-1)
theorem er49 (rf : T.RF) (rb : T.RB) (d1 : List Bool) (d2 : Bool) : T.stepF rf rb 49 (d1, d2) = r49 rf rb d1 d2 := by kernel_rfl
theorem or49 {d1 : List Bool} {d2 : Bool} {y : Int} (h : r49 T.rf T.rb d1 d2 = some y) : c49 T.rf d1 d2 = some y := T.rf_of (f := 49) (d := (d1, d2)) ((er49 T.rf T.rb d1 d2).trans h)

/- slices.Contains[[]bool,bool] -/
noncomputable def r48 (rf : T.RF) (rb : T.RB) (d1 : List Bool) (d2 : Bool) : Option Bool :=
  (c49 rf d1 d2).bind fun (y1 : Int) =>
  some (decide (y1 ≥ 0))
theorem er48 (rf : T.RF) (rb : T.RB) (d1 : List Bool) (d2 : Bool) : T.stepF rf rb 48 (d1, d2) = r48 rf rb d1 d2 := by kernel_rfl
theorem or48 {d1 : List Bool} {d2 : Bool} {y : Bool} (h : r48 T.rf T.rb d1 d2 = some y) : c48 T.rf d1 d2 = some y := T.rf_of (f := 48) (d := (d1, d2)) ((er48 T.rf T.rb d1 d2).trans h)

/- tree.depths loop 0 -/
noncomputable def b49 (rf : T.RF) (rb : T.RB) (d1 : List Int) (d2 : List (Int × Int × Int × Int × Int × List UInt8)) (d3 : Int) (d4 : Int) : Option (List Int) :=
  bif decide (d4 < d3) then
    bif inb d4 d2.length then
      (nth d2 d4.toNat).bind fun (x1 : Int × Int × Int × Int × Int × List UInt8) =>
      (c46 rf x1).bind fun (y2 : List Int) =>
      (k50 rb d1 y2 d4 (((y2.length : Nat) : Int)) 0).bind fun (z3 : List Int × List Int) =>
      bif inb d4 z3.1.length then
        (nth z3.1 d4.toNat).bind fun (x4 : Int) =>
        bif inb d4 z3.1.length then
          bif Nat.blt d4.toNat z3.1.length then
            k49 rb (setNth z3.1 d4.toNat (IntKind.i64.wrap (x4 + 1))) d2 d3 (IntKind.i64.wrap (d4 + 1))
          else
            none
        else
          none
      else
        none
    else
      none
  else
    some d1
theorem eb49 (rf : T.RF) (rb : T.RB) (d1 : List Int) (d2 : List (Int × Int × Int × Int × Int × List UInt8)) (d3 : Int) (d4 : Int) : T.stepB rf rb 49 (d1, d2, d3, d4) = b49 rf rb d1 d2 d3 d4 := by kernel_rfl
theorem ob49 {d1 : List Int} {d2 : List (Int × Int × Int × Int × Int × List UInt8)} {d3 : Int} {d4 : Int} {y : (List Int)} (h : b49 T.rf T.rb d1 d2 d3 d4 = some y) : k49 T.rb d1 d2 d3 d4 = some y := T.rb_of (κ := 49) (d := (d1, d2, d3, d4)) ((eb49 T.rf T.rb d1 d2 d3 d4).trans h)

/- tree.depths loop 2 -/
noncomputable def b50q (rf : T.RF) (rb : T.RB) (d1 : List Int) (d2 : List Int) (d3 : Int) (d4 : Int) (d5 : Int) : Option (List Int × List Int) :=
  bif decide (d5 < d4) then
    bif inb d5 d2.length then
      (nth d2 d5.toNat).bind fun (x1 : Int) =>
      bif decide (x1 ≥ 0) then
        bif decide (x1 < d3) then
          bif inb d3 d1.length then
            bif inb x1 d1.length then
              agree (
                (nth d1 d3.toNat).bind fun (x2 : Int) =>
                (nth d1 x1.toNat).bind fun (x3 : Int) =>
                bif inb d3 d1.length then
                  bif Nat.blt d3.toNat d1.length then
                    k50 rb (setNth d1 d3.toNat (if x3 > x2 then x3 else x2)) d2 d3 d4 (IntKind.i64.wrap (d5 + 1))
                  else
                    none
                else
                  none
              ) (
                (nth d1 x1.toNat).bind fun (x2 : Int) =>
                (nth d1 d3.toNat).bind fun (x3 : Int) =>
                bif inb d3 d1.length then
                  bif Nat.blt d3.toNat d1.length then
                    k50 rb (setNth d1 d3.toNat (if x2 > x3 then x2 else x3)) d2 d3 d4 (IntKind.i64.wrap (d5 + 1))
                  else
                    none
                else
                  none
              )
            else
              none
          else
            none
        else
          k50 rb d1 d2 d3 d4 (IntKind.i64.wrap (d5 + 1))
      else
        k50 rb d1 d2 d3 d4 (IntKind.i64.wrap (d5 + 1))
    else
      none
  else
    some (d1, d2)
noncomputable def b50 (rf : T.RF) (rb : T.RB) (d1 : List Int) (d2 : List Int) (d3 : Int) (d4 : Int) (d5 : Int) : Option (List Int × List Int) :=
  bif decide (d5 < d4) then
    bif inb d5 d2.length then
      (nth d2 d5.toNat).bind fun (x1 : Int) =>
      bif decide (x1 ≥ 0) then
        bif decide (x1 < d3) then
          bif inb d3 d1.length then
            bif inb x1 d1.length then
              (nth d1 d3.toNat).bind fun (x2 : Int) =>
              (nth d1 x1.toNat).bind fun (x3 : Int) =>
              bif inb d3 d1.length then
                bif Nat.blt d3.toNat d1.length then
                  k50 rb (setNth d1 d3.toNat (if x3 > x2 then x3 else x2)) d2 d3 d4 (IntKind.i64.wrap (d5 + 1))
                else
                  none
              else
                none
            else
              none
          else
            none
        else
          k50 rb d1 d2 d3 d4 (IntKind.i64.wrap (d5 + 1))
      else
        k50 rb d1 d2 d3 d4 (IntKind.i64.wrap (d5 + 1))
    else
      none
  else
    some (d1, d2)
theorem eb50 (rf : T.RF) (rb : T.RB) (d1 : List Int) (d2 : List Int) (d3 : Int) (d4 : Int) (d5 : Int) : T.stepB rf rb 50 (d1, d2, d3, d4, d5) = b50q rf rb d1 d2 d3 d4 d5 := by kernel_rfl
theorem sb50 (rf : T.RF) (rb : T.RB) (d1 : List Int) (d2 : List Int) (d3 : Int) (d4 : Int) (d5 : Int) : b50q rf rb d1 d2 d3 d4 d5 = b50 rf rb d1 d2 d3 d4 d5 := by
  unfold b50q b50; simp only [agN_eq, agree_self, agree_swap]
theorem ob50 {d1 : List Int} {d2 : List Int} {d3 : Int} {d4 : Int} {d5 : Int} {y : (List Int × List Int)} (h : b50 T.rf T.rb d1 d2 d3 d4 d5 = some y) : k50 T.rb d1 d2 d3 d4 d5 = some y := T.rb_of (κ := 50) (d := (d1, d2, d3, d4, d5)) (((eb50 T.rf T.rb d1 d2 d3 d4 d5).trans (sb50 T.rf T.rb d1 d2 d3 d4 d5)).trans h)

/- tree.depths -/
noncomputable def r51 (rf : T.RF) (rb : T.RB) (d1 : List (Int × Int × Int × Int × Int × List UInt8)) : Option (List Int) :=
  bif inb' (((d1.length : Nat) : Int)) most then
    bif inb' (((d1.length : Nat) : Int)) d1.length then
      (k49 rb (List.replicate d1.length 0) d1 (((d1.length : Nat) : Int)) 0).bind fun (z1 : List Int) =>
      some z1
    else
      none
  else
    none
theorem er51 (rf : T.RF) (rb : T.RB) (d1 : List (Int × Int × Int × Int × Int × List UInt8)) : T.stepF rf rb 51 d1 = r51 rf rb d1 := by kernel_rfl
theorem or51 {d1 : List (Int × Int × Int × Int × Int × List UInt8)} {y : (List Int)} (h : r51 T.rf T.rb d1 = some y) : c51 T.rf d1 = some y := T.rf_of (f := 51) (d := d1) ((er51 T.rf T.rb d1).trans h)

/- tree.Depth -/
noncomputable def r50 (rf : T.RF) (rb : T.RB) (d1 : List (Int × Int × Int × Int × Int × List UInt8)) : Option Int :=
  bif (((d1.length : Nat) : Int)) == 0 then
    some 0
  else
    (c51 rf d1).bind fun (y1 : List Int) =>
    bif inb (IntKind.i64.wrap ((((d1.length : Nat) : Int)) - 1)) y1.length then
      (nth y1 (IntKind.i64.wrap ((((d1.length : Nat) : Int)) - 1)).toNat).bind fun (x2 : Int) =>
      some x2
    else
      none
theorem er50 (rf : T.RF) (rb : T.RB) (d1 : List (Int × Int × Int × Int × Int × List UInt8)) : T.stepF rf rb 50 d1 = r50 rf rb d1 := by kernel_rfl
theorem or50 {d1 : List (Int × Int × Int × Int × Int × List UInt8)} {y : Int} (h : r50 T.rf T.rb d1 = some y) : c50 T.rf d1 = some y := T.rf_of (f := 50) (d := d1) ((er50 T.rf T.rb d1).trans h)

/- tree.May loop 0 -/
noncomputable def b38 (rf : T.RF) (rb : T.RB) (d1 : List Bool) (d2 : List (Int × Int × Int × Int × Int × List UInt8)) (d3 : List (Int × Int × Int × Int × Int × List UInt8)) (d4 : Int) (d5 : Int) : Option ((List Bool × Bool) ⊕ (List Bool)) :=
  bif decide (d5 < d4) then
    bif inb d5 d3.length then
      (nth d3 d5.toNat).bind fun (x1 : Int × Int × Int × Int × Int × List UInt8) =>
      (c45 rf x1).bind fun (y2 : Bool) =>
      bif !y2 then
        some (.inl (d1, false))
      else
        (c46 rf x1).bind fun (y3 : List Int) =>
        (k41 rb d1 x1 y3 d2 d5 (((y3.length : Nat) : Int)) 0).bind fun (z4 : (List Bool × (Int × Int × Int × Int × Int × List UInt8) × List Int × Bool) ⊕ (List Bool × (Int × Int × Int × Int × Int × List UInt8) × List Int)) =>
        match z4 with
        | .inl u5 =>
          some (.inl (u5.1, u5.2.2.2))
        | .inr w6 =>
          k38 rb w6.1 d2 d3 d4 (IntKind.i64.wrap (d5 + 1))
    else
      none
  else
    some (.inr d1)
theorem eb38 (rf : T.RF) (rb : T.RB) (d1 : List Bool) (d2 : List (Int × Int × Int × Int × Int × List UInt8)) (d3 : List (Int × Int × Int × Int × Int × List UInt8)) (d4 : Int) (d5 : Int) : T.stepB rf rb 38 (d1, d2, d3, d4, d5) = b38 rf rb d1 d2 d3 d4 d5 := by kernel_rfl
theorem ob38 {d1 : List Bool} {d2 : List (Int × Int × Int × Int × Int × List UInt8)} {d3 : List (Int × Int × Int × Int × Int × List UInt8)} {d4 : Int} {d5 : Int} {y : ((List Bool × Bool) ⊕ (List Bool))} (h : b38 T.rf T.rb d1 d2 d3 d4 d5 = some y) : k38 T.rb d1 d2 d3 d4 d5 = some y := T.rb_of (κ := 38) (d := (d1, d2, d3, d4, d5)) ((eb38 T.rf T.rb d1 d2 d3 d4 d5).trans h)

/- tree.May loop 2 -/
noncomputable def b41 (rf : T.RF) (rb : T.RB) (d1 : List Bool) (d2 : Int × Int × Int × Int × Int × List UInt8) (d3 : List Int) (d4 : List (Int × Int × Int × Int × Int × List UInt8)) (d5 : Int) (d6 : Int) (d7 : Int) : Option ((List Bool × (Int × Int × Int × Int × Int × List UInt8) × List Int × Bool) ⊕ (List Bool × (Int × Int × Int × Int × Int × List UInt8) × List Int)) :=
  bif decide (d7 < d6) then
    bif inb d7 d3.length then
      (nth d3 d7.toNat).bind fun (x1 : Int) =>
      bif decide (x1 < 0) then
        some (.inl (d1, d2, d3, false))
      else
      bif decide (x1 ≥ d5) then
        some (.inl (d1, d2, d3, false))
      else
      bif inb x1 d1.length then
        (nth d1 x1.toNat).bind fun (x2 : Bool) =>
        bif x2 then
          some (.inl (d1, d2, d3, false))
        else
        bif inb x1 d1.length then
          bif Nat.blt x1.toNat d1.length then
            bif d2.1 == 27 then
              bif inb x1 d4.length then
                (nth d4 x1.toNat).bind fun (x3 : Int × Int × Int × Int × Int × List UInt8) =>
                bif !((x3.1 == 28) == true) then
                  some (.inl (setNth d1 x1.toNat true, d2, d3, false))
                else
                  k41 rb (setNth d1 x1.toNat true) d2 d3 d4 d5 d6 (IntKind.i64.wrap (d7 + 1))
              else
                none
            else
            bif d2.1 == 28 then
              bif d2.2.2.1 != (-1) then
                bif inb x1 d4.length then
                  (nth d4 x1.toNat).bind fun (x4 : Int × Int × Int × Int × Int × List UInt8) =>
                  bif !((x4.1 == 28) == (d7 == 0)) then
                    some (.inl (setNth d1 x1.toNat true, d2, d3, false))
                  else
                    k41 rb (setNth d1 x1.toNat true) d2 d3 d4 d5 d6 (IntKind.i64.wrap (d7 + 1))
                else
                  none
              else
              bif inb x1 d4.length then
                (nth d4 x1.toNat).bind fun (x5 : Int × Int × Int × Int × Int × List UInt8) =>
                bif !((x5.1 == 28) == false) then
                  some (.inl (setNth d1 x1.toNat true, d2, d3, false))
                else
                  k41 rb (setNth d1 x1.toNat true) d2 d3 d4 d5 d6 (IntKind.i64.wrap (d7 + 1))
              else
                none
            else
            bif inb x1 d4.length then
              (nth d4 x1.toNat).bind fun (x6 : Int × Int × Int × Int × Int × List UInt8) =>
              bif !((x6.1 == 28) == false) then
                some (.inl (setNth d1 x1.toNat true, d2, d3, false))
              else
                k41 rb (setNth d1 x1.toNat true) d2 d3 d4 d5 d6 (IntKind.i64.wrap (d7 + 1))
            else
              none
          else
            none
        else
          none
      else
        none
    else
      none
  else
    some (.inr (d1, d2, d3))
theorem eb41 (rf : T.RF) (rb : T.RB) (d1 : List Bool) (d2 : Int × Int × Int × Int × Int × List UInt8) (d3 : List Int) (d4 : List (Int × Int × Int × Int × Int × List UInt8)) (d5 : Int) (d6 : Int) (d7 : Int) : T.stepB rf rb 41 (d1, d2, d3, d4, d5, d6, d7) = b41 rf rb d1 d2 d3 d4 d5 d6 d7 := by kernel_rfl
theorem ob41 {d1 : List Bool} {d2 : Int × Int × Int × Int × Int × List UInt8} {d3 : List Int} {d4 : List (Int × Int × Int × Int × Int × List UInt8)} {d5 : Int} {d6 : Int} {d7 : Int} {y : ((List Bool × (Int × Int × Int × Int × Int × List UInt8) × List Int × Bool) ⊕ (List Bool × (Int × Int × Int × Int × Int × List UInt8) × List Int))} (h : b41 T.rf T.rb d1 d2 d3 d4 d5 d6 d7 = some y) : k41 T.rb d1 d2 d3 d4 d5 d6 d7 = some y := T.rb_of (κ := 41) (d := (d1, d2, d3, d4, d5, d6, d7)) ((eb41 T.rf T.rb d1 d2 d3 d4 d5 d6 d7).trans h)

/- tree.May -/
noncomputable def r44 (rf : T.RF) (rb : T.RB) (d1 : List (Int × Int × Int × Int × Int × List UInt8)) : Option Bool :=
  bif (((d1.length : Nat) : Int)) == 0 then
    some false
  else
  bif decide ((((d1.length : Nat) : Int)) > 5000) then
    some false
  else
  bif inb (IntKind.i64.wrap ((((d1.length : Nat) : Int)) - 1)) d1.length then
    (nth d1 (IntKind.i64.wrap ((((d1.length : Nat) : Int)) - 1)).toNat).bind fun (x1 : Int × Int × Int × Int × Int × List UInt8) =>
    bif x1.1 == 28 then
      some false
    else
    bif inb' (((d1.length : Nat) : Int)) most then
      bif inb' (((d1.length : Nat) : Int)) d1.length then
        (k38 rb (List.replicate d1.length false) d1 d1 (((d1.length : Nat) : Int)) 0).bind fun (z2 : (List Bool × Bool) ⊕ (List Bool)) =>
        match z2 with
        | .inl u3 =>
          some u3.2
        | .inr w4 =>
          bif inb' (IntKind.i64.wrap ((((d1.length : Nat) : Int)) - 1)) w4.length then
            (c48 rf (sub w4 (some (0, ((IntKind.i64.wrap ((((d1.length : Nat) : Int)) - 1)).toNat - 0)))) false).bind fun (y5 : Bool) =>
            bif !y5 then
              (c50 rf d1).bind fun (y6 : Int) =>
              some (decide (y6 ≤ 40))
            else
              some false
          else
            none
      else
        none
    else
      none
  else
    none
theorem er44 (rf : T.RF) (rb : T.RB) (d1 : List (Int × Int × Int × Int × Int × List UInt8)) : T.stepF rf rb 44 d1 = r44 rf rb d1 := by kernel_rfl
theorem or44 {d1 : List (Int × Int × Int × Int × Int × List UInt8)} {y : Bool} (h : r44 T.rf T.rb d1 = some y) : c44 T.rf d1 = some y := T.rf_of (f := 44) (d := d1) ((er44 T.rf T.rb d1).trans h)

/- inits.Of$1 loop 0 -/
noncomputable def b52 (rf : T.RF) (rb : T.RB) (d1 : List Bool) (d2 : List Int) (d3 : Int) (d4 : Int) : Option ((List Bool × Bool) ⊕ (List Bool)) :=
  bif decide (d4 < d3) then
    bif inb d4 d2.length then
      (nth d2 d4.toNat).bind fun (x1 : Int) =>
      bif inb x1 d1.length then
        (nth d1 x1.toNat).bind fun (x2 : Bool) =>
        bif x2 then
          some (.inl (d1, false))
        else
          k52 rb d1 d2 d3 (IntKind.i64.wrap (d4 + 1))
      else
        none
    else
      none
  else
    some (.inr d1)
theorem eb52 (rf : T.RF) (rb : T.RB) (d1 : List Bool) (d2 : List Int) (d3 : Int) (d4 : Int) : T.stepB rf rb 52 (d1, d2, d3, d4) = b52 rf rb d1 d2 d3 d4 := by kernel_rfl
theorem ob52 {d1 : List Bool} {d2 : List Int} {d3 : Int} {d4 : Int} {y : ((List Bool × Bool) ⊕ (List Bool))} (h : b52 T.rf T.rb d1 d2 d3 d4 = some y) : k52 T.rb d1 d2 d3 d4 = some y := T.rb_of (κ := 52) (d := (d1, d2, d3, d4)) ((eb52 T.rf T.rb d1 d2 d3 d4).trans h)

/- inits.Of$1 -/
noncomputable def r52 (rf : T.RF) (rb : T.RB) (d1 : List Bool) (d2 : List Int) : Option (List Bool × Bool) :=
  (k52 rb d1 d2 (((d2.length : Nat) : Int)) 0).bind fun (z1 : (List Bool × Bool) ⊕ (List Bool)) =>
  match z1 with
  | .inl u2 =>
    some u2
  | .inr w3 =>
    some (w3, true)
theorem er52 (rf : T.RF) (rb : T.RB) (d1 : List Bool) (d2 : List Int) : T.stepF rf rb 52 (d1, d2) = r52 rf rb d1 d2 := by kernel_rfl
theorem or52 {d1 : List Bool} {d2 : List Int} {y : (List Bool × Bool)} (h : r52 T.rf T.rb d1 d2 = some y) : c52 T.rf d1 d2 = some y := T.rf_of (f := 52) (d := (d1, d2)) ((er52 T.rf T.rb d1 d2).trans h)

/- inits.Of loop 0 -/
noncomputable def b55q (rf : T.RF) (rb : T.RB) (d1 : List Bool) (d2 : List (Int × Int × Int × Int × Int × List UInt8)) (d3 : Int) (d4 : Int) : Option ((List Bool × Int × Int) ⊕ (List Bool)) :=
  bif decide (d4 < d3) then
    bif inb d4 d2.length then
      (nth d2 d4.toNat).bind fun (x1 : Int × Int × Int × Int × Int × List UInt8) =>
      (c46 rf x1).bind fun (y2 : List Int) =>
      bif x1.1 == 19 then
        bif inb' 1 y2.length then
          (c52 rf d1 (sub y2 (some (0, 1)))).bind fun (y3 : List Bool × Bool) =>
          bif !y3.2 then
            some (.inl (y3.1, 0, 11))
          else
          bif inb d4 y3.1.length then
            bif Nat.blt d4.toNat y3.1.length then
              k55 rb (setNth y3.1 d4.toNat (x1.1 == 21)) d2 d3 (IntKind.i64.wrap (d4 + 1))
            else
              none
          else
            none
        else
          none
      else
      bif x1.1 == 21 then
        bif x1.1 == 21 then
          (c52 rf d1 y2).bind fun (y4 : List Bool × Bool) =>
          bif !y4.2 then
            some (.inl (y4.1, 0, 11))
          else
          bif inb d4 y4.1.length then
            bif Nat.blt d4.toNat y4.1.length then
              k55 rb (setNth y4.1 d4.toNat (x1.1 == 21)) d2 d3 (IntKind.i64.wrap (d4 + 1))
            else
              none
          else
            none
        else
          agN 1 (
            (c52 rf d1 y2).bind fun (y5 : List Bool × Bool) =>
            bif inb d4 y5.1.length then
              bif Nat.blt d4.toNat y5.1.length then
                k55 rb (setNth y5.1 d4.toNat (!y5.2)) d2 d3 (IntKind.i64.wrap (d4 + 1))
              else
                none
            else
              none
          )
      else
      bif x1.1 == 27 then
        bif x1.1 == 27 then
          (c52 rf d1 y2).bind fun (y6 : List Bool × Bool) =>
          bif !y6.2 then
            some (.inl (y6.1, 0, 11))
          else
          bif inb d4 y6.1.length then
            bif Nat.blt d4.toNat y6.1.length then
              k55 rb (setNth y6.1 d4.toNat (x1.1 == 21)) d2 d3 (IntKind.i64.wrap (d4 + 1))
            else
              none
          else
            none
        else
          agN 1 (
            (c52 rf d1 y2).bind fun (y7 : List Bool × Bool) =>
            bif inb d4 y7.1.length then
              bif Nat.blt d4.toNat y7.1.length then
                k55 rb (setNth y7.1 d4.toNat (!y7.2)) d2 d3 (IntKind.i64.wrap (d4 + 1))
              else
                none
            else
              none
          )
      else
      bif x1.1 == 20 then
        bif x1.1 == 20 then
          (c52 rf d1 y2).bind fun (y8 : List Bool × Bool) =>
          bif !y8.2 then
            some (.inl (y8.1, 0, 11))
          else
          bif inb d4 y8.1.length then
            bif Nat.blt d4.toNat y8.1.length then
              k55 rb (setNth y8.1 d4.toNat (x1.1 == 21)) d2 d3 (IntKind.i64.wrap (d4 + 1))
            else
              none
          else
            none
        else
          agN 1 (
            (c52 rf d1 y2).bind fun (y9 : List Bool × Bool) =>
            bif inb d4 y9.1.length then
              bif Nat.blt d4.toNat y9.1.length then
                k55 rb (setNth y9.1 d4.toNat (!y9.2)) d2 d3 (IntKind.i64.wrap (d4 + 1))
              else
                none
            else
              none
          )
      else
      bif x1.1 == 22 then
        bif x1.1 == 22 then
          (c52 rf d1 y2).bind fun (y10 : List Bool × Bool) =>
          bif !y10.2 then
            some (.inl (y10.1, 0, 11))
          else
          bif inb d4 y10.1.length then
            bif Nat.blt d4.toNat y10.1.length then
              k55 rb (setNth y10.1 d4.toNat (x1.1 == 21)) d2 d3 (IntKind.i64.wrap (d4 + 1))
            else
              none
          else
            none
        else
          agN 1 (
            (c52 rf d1 y2).bind fun (y11 : List Bool × Bool) =>
            bif inb d4 y11.1.length then
              bif Nat.blt d4.toNat y11.1.length then
                k55 rb (setNth y11.1 d4.toNat (!y11.2)) d2 d3 (IntKind.i64.wrap (d4 + 1))
              else
                none
            else
              none
          )
      else
      bif x1.1 == 23 then
        bif x1.1 == 23 then
          (c52 rf d1 y2).bind fun (y12 : List Bool × Bool) =>
          bif !y12.2 then
            some (.inl (y12.1, 0, 11))
          else
          bif inb d4 y12.1.length then
            bif Nat.blt d4.toNat y12.1.length then
              k55 rb (setNth y12.1 d4.toNat (x1.1 == 21)) d2 d3 (IntKind.i64.wrap (d4 + 1))
            else
              none
          else
            none
        else
          agN 1 (
            (c52 rf d1 y2).bind fun (y13 : List Bool × Bool) =>
            bif inb d4 y13.1.length then
              bif Nat.blt d4.toNat y13.1.length then
                k55 rb (setNth y13.1 d4.toNat (!y13.2)) d2 d3 (IntKind.i64.wrap (d4 + 1))
              else
                none
            else
              none
          )
      else
      bif x1.1 == 24 then
        bif x1.1 == 24 then
          (c52 rf d1 y2).bind fun (y14 : List Bool × Bool) =>
          bif !y14.2 then
            some (.inl (y14.1, 0, 11))
          else
          bif inb d4 y14.1.length then
            bif Nat.blt d4.toNat y14.1.length then
              k55 rb (setNth y14.1 d4.toNat (x1.1 == 21)) d2 d3 (IntKind.i64.wrap (d4 + 1))
            else
              none
          else
            none
        else
          agN 1 (
            (c52 rf d1 y2).bind fun (y15 : List Bool × Bool) =>
            bif inb d4 y15.1.length then
              bif Nat.blt d4.toNat y15.1.length then
                k55 rb (setNth y15.1 d4.toNat (!y15.2)) d2 d3 (IntKind.i64.wrap (d4 + 1))
              else
                none
            else
              none
          )
      else
      bif x1.1 == 25 then
        (c52 rf d1 y2).bind fun (y16 : List Bool × Bool) =>
        bif !y16.2 then
          some (.inl (y16.1, 0, 11))
        else
        bif inb d4 y16.1.length then
          bif Nat.blt d4.toNat y16.1.length then
            k55 rb (setNth y16.1 d4.toNat (x1.1 == 21)) d2 d3 (IntKind.i64.wrap (d4 + 1))
          else
            none
        else
          none
      else
        agN 1 (
          (c52 rf d1 y2).bind fun (y17 : List Bool × Bool) =>
          bif inb d4 y17.1.length then
            bif Nat.blt d4.toNat y17.1.length then
              k55 rb (setNth y17.1 d4.toNat (!y17.2)) d2 d3 (IntKind.i64.wrap (d4 + 1))
            else
              none
          else
            none
        )
    else
      none
  else
    some (.inr d1)
noncomputable def b55 (rf : T.RF) (rb : T.RB) (d1 : List Bool) (d2 : List (Int × Int × Int × Int × Int × List UInt8)) (d3 : Int) (d4 : Int) : Option ((List Bool × Int × Int) ⊕ (List Bool)) :=
  bif decide (d4 < d3) then
    bif inb d4 d2.length then
      (nth d2 d4.toNat).bind fun (x1 : Int × Int × Int × Int × Int × List UInt8) =>
      (c46 rf x1).bind fun (y2 : List Int) =>
      bif x1.1 == 19 then
        bif inb' 1 y2.length then
          (c52 rf d1 (sub y2 (some (0, 1)))).bind fun (y3 : List Bool × Bool) =>
          bif !y3.2 then
            some (.inl (y3.1, 0, 11))
          else
          bif inb d4 y3.1.length then
            bif Nat.blt d4.toNat y3.1.length then
              k55 rb (setNth y3.1 d4.toNat (x1.1 == 21)) d2 d3 (IntKind.i64.wrap (d4 + 1))
            else
              none
          else
            none
        else
          none
      else
      bif x1.1 == 21 then
        bif x1.1 == 21 then
          (c52 rf d1 y2).bind fun (y4 : List Bool × Bool) =>
          bif !y4.2 then
            some (.inl (y4.1, 0, 11))
          else
          bif inb d4 y4.1.length then
            bif Nat.blt d4.toNat y4.1.length then
              k55 rb (setNth y4.1 d4.toNat (x1.1 == 21)) d2 d3 (IntKind.i64.wrap (d4 + 1))
            else
              none
          else
            none
        else
          (c52 rf d1 y2).bind fun (y5 : List Bool × Bool) =>
          bif inb d4 y5.1.length then
            bif Nat.blt d4.toNat y5.1.length then
              k55 rb (setNth y5.1 d4.toNat (!y5.2)) d2 d3 (IntKind.i64.wrap (d4 + 1))
            else
              none
          else
            none
      else
      bif x1.1 == 27 then
        bif x1.1 == 27 then
          (c52 rf d1 y2).bind fun (y6 : List Bool × Bool) =>
          bif !y6.2 then
            some (.inl (y6.1, 0, 11))
          else
          bif inb d4 y6.1.length then
            bif Nat.blt d4.toNat y6.1.length then
              k55 rb (setNth y6.1 d4.toNat (x1.1 == 21)) d2 d3 (IntKind.i64.wrap (d4 + 1))
            else
              none
          else
            none
        else
          (c52 rf d1 y2).bind fun (y7 : List Bool × Bool) =>
          bif inb d4 y7.1.length then
            bif Nat.blt d4.toNat y7.1.length then
              k55 rb (setNth y7.1 d4.toNat (!y7.2)) d2 d3 (IntKind.i64.wrap (d4 + 1))
            else
              none
          else
            none
      else
      bif x1.1 == 20 then
        bif x1.1 == 20 then
          (c52 rf d1 y2).bind fun (y8 : List Bool × Bool) =>
          bif !y8.2 then
            some (.inl (y8.1, 0, 11))
          else
          bif inb d4 y8.1.length then
            bif Nat.blt d4.toNat y8.1.length then
              k55 rb (setNth y8.1 d4.toNat (x1.1 == 21)) d2 d3 (IntKind.i64.wrap (d4 + 1))
            else
              none
          else
            none
        else
          (c52 rf d1 y2).bind fun (y9 : List Bool × Bool) =>
          bif inb d4 y9.1.length then
            bif Nat.blt d4.toNat y9.1.length then
              k55 rb (setNth y9.1 d4.toNat (!y9.2)) d2 d3 (IntKind.i64.wrap (d4 + 1))
            else
              none
          else
            none
      else
      bif x1.1 == 22 then
        bif x1.1 == 22 then
          (c52 rf d1 y2).bind fun (y10 : List Bool × Bool) =>
          bif !y10.2 then
            some (.inl (y10.1, 0, 11))
          else
          bif inb d4 y10.1.length then
            bif Nat.blt d4.toNat y10.1.length then
              k55 rb (setNth y10.1 d4.toNat (x1.1 == 21)) d2 d3 (IntKind.i64.wrap (d4 + 1))
            else
              none
          else
            none
        else
          (c52 rf d1 y2).bind fun (y11 : List Bool × Bool) =>
          bif inb d4 y11.1.length then
            bif Nat.blt d4.toNat y11.1.length then
              k55 rb (setNth y11.1 d4.toNat (!y11.2)) d2 d3 (IntKind.i64.wrap (d4 + 1))
            else
              none
          else
            none
      else
      bif x1.1 == 23 then
        bif x1.1 == 23 then
          (c52 rf d1 y2).bind fun (y12 : List Bool × Bool) =>
          bif !y12.2 then
            some (.inl (y12.1, 0, 11))
          else
          bif inb d4 y12.1.length then
            bif Nat.blt d4.toNat y12.1.length then
              k55 rb (setNth y12.1 d4.toNat (x1.1 == 21)) d2 d3 (IntKind.i64.wrap (d4 + 1))
            else
              none
          else
            none
        else
          (c52 rf d1 y2).bind fun (y13 : List Bool × Bool) =>
          bif inb d4 y13.1.length then
            bif Nat.blt d4.toNat y13.1.length then
              k55 rb (setNth y13.1 d4.toNat (!y13.2)) d2 d3 (IntKind.i64.wrap (d4 + 1))
            else
              none
          else
            none
      else
      bif x1.1 == 24 then
        bif x1.1 == 24 then
          (c52 rf d1 y2).bind fun (y14 : List Bool × Bool) =>
          bif !y14.2 then
            some (.inl (y14.1, 0, 11))
          else
          bif inb d4 y14.1.length then
            bif Nat.blt d4.toNat y14.1.length then
              k55 rb (setNth y14.1 d4.toNat (x1.1 == 21)) d2 d3 (IntKind.i64.wrap (d4 + 1))
            else
              none
          else
            none
        else
          (c52 rf d1 y2).bind fun (y15 : List Bool × Bool) =>
          bif inb d4 y15.1.length then
            bif Nat.blt d4.toNat y15.1.length then
              k55 rb (setNth y15.1 d4.toNat (!y15.2)) d2 d3 (IntKind.i64.wrap (d4 + 1))
            else
              none
          else
            none
      else
      bif x1.1 == 25 then
        (c52 rf d1 y2).bind fun (y16 : List Bool × Bool) =>
        bif !y16.2 then
          some (.inl (y16.1, 0, 11))
        else
        bif inb d4 y16.1.length then
          bif Nat.blt d4.toNat y16.1.length then
            k55 rb (setNth y16.1 d4.toNat (x1.1 == 21)) d2 d3 (IntKind.i64.wrap (d4 + 1))
          else
            none
        else
          none
      else
        (c52 rf d1 y2).bind fun (y17 : List Bool × Bool) =>
        bif inb d4 y17.1.length then
          bif Nat.blt d4.toNat y17.1.length then
            k55 rb (setNth y17.1 d4.toNat (!y17.2)) d2 d3 (IntKind.i64.wrap (d4 + 1))
          else
            none
        else
          none
    else
      none
  else
    some (.inr d1)
theorem eb55 (rf : T.RF) (rb : T.RB) (d1 : List Bool) (d2 : List (Int × Int × Int × Int × Int × List UInt8)) (d3 : Int) (d4 : Int) : T.stepB rf rb 55 (d1, d2, d3, d4) = b55q rf rb d1 d2 d3 d4 := by kernel_rfl
theorem sb55 (rf : T.RF) (rb : T.RB) (d1 : List Bool) (d2 : List (Int × Int × Int × Int × Int × List UInt8)) (d3 : Int) (d4 : Int) : b55q rf rb d1 d2 d3 d4 = b55 rf rb d1 d2 d3 d4 := by
  unfold b55q b55; simp only [agN_eq, agree_self, agree_swap]
theorem ob55 {d1 : List Bool} {d2 : List (Int × Int × Int × Int × Int × List UInt8)} {d3 : Int} {d4 : Int} {y : ((List Bool × Int × Int) ⊕ (List Bool))} (h : b55 T.rf T.rb d1 d2 d3 d4 = some y) : k55 T.rb d1 d2 d3 d4 = some y := T.rb_of (κ := 55) (d := (d1, d2, d3, d4)) (((eb55 T.rf T.rb d1 d2 d3 d4).trans (sb55 T.rf T.rb d1 d2 d3 d4)).trans h)

/- inits.Of -/
noncomputable def r43 (rf : T.RF) (rb : T.RB) (d1 : List (Int × Int × Int × Int × Int × List UInt8)) : Option (Int × Int) :=
  (c44 rf d1).bind fun (y1 : Bool) =>
  bif !y1 then
    some (0, 1)
  else
  bif inb' (((d1.length : Nat) : Int)) most then
    bif inb' (((d1.length : Nat) : Int)) d1.length then
      (k55 rb (List.replicate d1.length false) d1 (((d1.length : Nat) : Int)) 0).bind fun (z2 : (List Bool × Int × Int) ⊕ (List Bool)) =>
      match z2 with
      | .inl u3 =>
        some u3.2
      | .inr w4 =>
        bif inb (IntKind.i64.wrap ((((d1.length : Nat) : Int)) - 1)) w4.length then
          (nth w4 (IntKind.i64.wrap ((((d1.length : Nat) : Int)) - 1)).toNat).bind fun (x5 : Bool) =>
          bif x5 then
            some (1, 0)
          else
            some (0, 0)
        else
          none
    else
      none
  else
    none
theorem er43 (rf : T.RF) (rb : T.RB) (d1 : List (Int × Int × Int × Int × Int × List UInt8)) : T.stepF rf rb 43 d1 = r43 rf rb d1 := by kernel_rfl
theorem or43 {d1 : List (Int × Int × Int × Int × Int × List UInt8)} {y : (Int × Int)} (h : r43 T.rf T.rb d1 = some y) : c43 T.rf d1 = some y := T.rf_of (f := 43) (d := d1) ((er43 T.rf T.rb d1).trans h)

/- (*bailment/bailmentref06.reader).ok -/
noncomputable def r55 (rf : T.RF) (rb : T.RB) (d1 : Int) (d2 : Int) (d3 : Int) (d4 : List (Int × List UInt8 × Int)) : Option (Int × Int × Int × List (Int × List UInt8 × Int) × Bool) :=
  some (d1, d2, d3, d4, d2 == 0)
theorem er55 (rf : T.RF) (rb : T.RB) (d1 : Int) (d2 : Int) (d3 : Int) (d4 : List (Int × List UInt8 × Int)) : T.stepF rf rb 55 (d1, d2, d3, d4) = r55 rf rb d1 d2 d3 d4 := by kernel_rfl
theorem or55 {d1 : Int} {d2 : Int} {d3 : Int} {d4 : List (Int × List UInt8 × Int)} {y : (Int × Int × Int × List (Int × List UInt8 × Int) × Bool)} (h : r55 T.rf T.rb d1 d2 d3 d4 = some y) : c55 T.rf d1 d2 d3 d4 = some y := T.rf_of (f := 55) (d := (d1, d2, d3, d4)) ((er55 T.rf T.rb d1 d2 d3 d4).trans h)

/- (*bailment/bailmentref06.reader).is -/
noncomputable def r54q (rf : T.RF) (rb : T.RB) (d1 : Int) (d2 : Int) (d3 : Int) (d4 : List (Int × List UInt8 × Int)) (d5 : List UInt8) : Option (Int × Int × Int × List (Int × List UInt8 × Int) × Bool) :=
  (c55 rf d1 d2 d3 d4).bind fun (y1 : Int × Int × Int × List (Int × List UInt8 × Int) × Bool) =>
  bif !y1.2.2.2.2 then
    agN 1 (
      some (y1.1, y1.2.1, y1.2.2.1, y1.2.2.2.1, false)
    )
  else
    agN 1 (
      bif decide (y1.1 ≥ (((y1.2.2.2.1.length : Nat) : Int))) then
        some (y1.1, y1.2.1, y1.2.2.1, y1.2.2.2.1, false)
      else
      bif inb y1.1 y1.2.2.2.1.length then
        (nth y1.2.2.2.1 y1.1.toNat).bind fun (x2 : Int × List UInt8 × Int) =>
        bif x2.1 == 4 then
          some (y1.1, y1.2.1, y1.2.2.1, y1.2.2.2.1, x2.2.1 == d5)
        else
        bif x2.1 == 3 then
          some (y1.1, y1.2.1, y1.2.2.1, y1.2.2.2.1, x2.2.1 == d5)
        else
          some (y1.1, y1.2.1, y1.2.2.1, y1.2.2.2.1, false)
      else
        none
    )
noncomputable def r54 (rf : T.RF) (rb : T.RB) (d1 : Int) (d2 : Int) (d3 : Int) (d4 : List (Int × List UInt8 × Int)) (d5 : List UInt8) : Option (Int × Int × Int × List (Int × List UInt8 × Int) × Bool) :=
  (c55 rf d1 d2 d3 d4).bind fun (y1 : Int × Int × Int × List (Int × List UInt8 × Int) × Bool) =>
  bif !y1.2.2.2.2 then
    some (y1.1, y1.2.1, y1.2.2.1, y1.2.2.2.1, false)
  else
  bif decide (y1.1 ≥ (((y1.2.2.2.1.length : Nat) : Int))) then
    some (y1.1, y1.2.1, y1.2.2.1, y1.2.2.2.1, false)
  else
  bif inb y1.1 y1.2.2.2.1.length then
    (nth y1.2.2.2.1 y1.1.toNat).bind fun (x2 : Int × List UInt8 × Int) =>
    bif x2.1 == 4 then
      some (y1.1, y1.2.1, y1.2.2.1, y1.2.2.2.1, x2.2.1 == d5)
    else
    bif x2.1 == 3 then
      some (y1.1, y1.2.1, y1.2.2.1, y1.2.2.2.1, x2.2.1 == d5)
    else
      some (y1.1, y1.2.1, y1.2.2.1, y1.2.2.2.1, false)
  else
    none
theorem er54 (rf : T.RF) (rb : T.RB) (d1 : Int) (d2 : Int) (d3 : Int) (d4 : List (Int × List UInt8 × Int)) (d5 : List UInt8) : T.stepF rf rb 54 (d1, d2, d3, d4, d5) = r54q rf rb d1 d2 d3 d4 d5 := by kernel_rfl
theorem sr54 (rf : T.RF) (rb : T.RB) (d1 : Int) (d2 : Int) (d3 : Int) (d4 : List (Int × List UInt8 × Int)) (d5 : List UInt8) : r54q rf rb d1 d2 d3 d4 d5 = r54 rf rb d1 d2 d3 d4 d5 := by
  unfold r54q r54; simp only [agN_eq, agree_self, agree_swap]
theorem or54 {d1 : Int} {d2 : Int} {d3 : Int} {d4 : List (Int × List UInt8 × Int)} {d5 : List UInt8} {y : (Int × Int × Int × List (Int × List UInt8 × Int) × Bool)} (h : r54 T.rf T.rb d1 d2 d3 d4 d5 = some y) : c54 T.rf d1 d2 d3 d4 d5 = some y := T.rf_of (f := 54) (d := (d1, d2, d3, d4, d5)) (((er54 T.rf T.rb d1 d2 d3 d4 d5).trans (sr54 T.rf T.rb d1 d2 d3 d4 d5)).trans h)

/- (*bailment/bailmentref06.reader).fail -/
noncomputable def r57q (rf : T.RF) (rb : T.RB) (d1 : Int) (d2 : Int) (d3 : Int) (d4 : List (Int × List UInt8 × Int)) (d5 : Int) : Option (List (Int × List UInt8 × Int) × Int × Int × Int) :=
  (c55 rf d1 d2 d3 d4).bind fun (y1 : Int × Int × Int × List (Int × List UInt8 × Int) × Bool) =>
  bif y1.2.2.2.2 then
    agN 1 (
      (c25 rf y1.2.2.2.1 y1.1).bind fun (y2 : Int) =>
      some (y1.2.2.2.1, y1.1, d5, y2)
    )
  else
    some (y1.2.2.2.1, y1.1, y1.2.1, y1.2.2.1)
noncomputable def r57 (rf : T.RF) (rb : T.RB) (d1 : Int) (d2 : Int) (d3 : Int) (d4 : List (Int × List UInt8 × Int)) (d5 : Int) : Option (List (Int × List UInt8 × Int) × Int × Int × Int) :=
  (c55 rf d1 d2 d3 d4).bind fun (y1 : Int × Int × Int × List (Int × List UInt8 × Int) × Bool) =>
  bif y1.2.2.2.2 then
    (c25 rf y1.2.2.2.1 y1.1).bind fun (y2 : Int) =>
    some (y1.2.2.2.1, y1.1, d5, y2)
  else
    some (y1.2.2.2.1, y1.1, y1.2.1, y1.2.2.1)
theorem er57 (rf : T.RF) (rb : T.RB) (d1 : Int) (d2 : Int) (d3 : Int) (d4 : List (Int × List UInt8 × Int)) (d5 : Int) : T.stepF rf rb 57 (d1, d2, d3, d4, d5) = r57q rf rb d1 d2 d3 d4 d5 := by kernel_rfl
theorem sr57 (rf : T.RF) (rb : T.RB) (d1 : Int) (d2 : Int) (d3 : Int) (d4 : List (Int × List UInt8 × Int)) (d5 : Int) : r57q rf rb d1 d2 d3 d4 d5 = r57 rf rb d1 d2 d3 d4 d5 := by
  unfold r57q r57; simp only [agN_eq, agree_self, agree_swap]
theorem or57 {d1 : Int} {d2 : Int} {d3 : Int} {d4 : List (Int × List UInt8 × Int)} {d5 : Int} {y : (List (Int × List UInt8 × Int) × Int × Int × Int)} (h : r57 T.rf T.rb d1 d2 d3 d4 d5 = some y) : c57 T.rf d1 d2 d3 d4 d5 = some y := T.rf_of (f := 57) (d := (d1, d2, d3, d4, d5)) (((er57 T.rf T.rb d1 d2 d3 d4 d5).trans (sr57 T.rf T.rb d1 d2 d3 d4 d5)).trans h)

/- (*bailment/bailmentref06.reader).room -/
noncomputable def r56 (rf : T.RF) (rb : T.RB) (d1 : Int) (d2 : Int) (d3 : Int) (d4 : List (Int × List UInt8 × Int)) (d5 : Int) : Option (List (Int × List UInt8 × Int) × Int × Int × Int) :=
  bif decide (d5 ≥ 200) then
    (c57 rf d1 d2 d3 d4 7).bind fun (y1 : List (Int × List UInt8 × Int) × Int × Int × Int) =>
    some y1
  else
    some (d4, d1, d2, d3)
theorem er56 (rf : T.RF) (rb : T.RB) (d1 : Int) (d2 : Int) (d3 : Int) (d4 : List (Int × List UInt8 × Int)) (d5 : Int) : T.stepF rf rb 56 (d1, d2, d3, d4, d5) = r56 rf rb d1 d2 d3 d4 d5 := by kernel_rfl
theorem or56 {d1 : Int} {d2 : Int} {d3 : Int} {d4 : List (Int × List UInt8 × Int)} {d5 : Int} {y : (List (Int × List UInt8 × Int) × Int × Int × Int)} (h : r56 T.rf T.rb d1 d2 d3 d4 d5 = some y) : c56 T.rf d1 d2 d3 d4 d5 = some y := T.rf_of (f := 56) (d := (d1, d2, d3, d4, d5)) ((er56 T.rf T.rb d1 d2 d3 d4 d5).trans h)

/- (*bailment/bailmentref06.reader).ok -/
noncomputable def r61 (rf : T.RF) (rb : T.RB) (d1 : List (Int × List UInt8 × Int) × Int × Int × Int) : Option ((List (Int × List UInt8 × Int) × Int × Int × Int) × Bool) :=
  some (d1, d1.2.2.1 == 0)
theorem er61 (rf : T.RF) (rb : T.RB) (d1 : List (Int × List UInt8 × Int) × Int × Int × Int) : T.stepF rf rb 61 d1 = r61 rf rb d1 := by kernel_rfl
theorem or61 {d1 : List (Int × List UInt8 × Int) × Int × Int × Int} {y : ((List (Int × List UInt8 × Int) × Int × Int × Int) × Bool)} (h : r61 T.rf T.rb d1 = some y) : c61 T.rf d1 = some y := T.rf_of (f := 61) (d := d1) ((er61 T.rf T.rb d1).trans h)

/- (*bailment/bailmentref06.reader).is -/
noncomputable def r60q (rf : T.RF) (rb : T.RB) (d1 : List (Int × List UInt8 × Int) × Int × Int × Int) (d2 : List UInt8) : Option ((List (Int × List UInt8 × Int) × Int × Int × Int) × Bool) :=
  (c61 rf d1).bind fun (y1 : (List (Int × List UInt8 × Int) × Int × Int × Int) × Bool) =>
  bif !y1.2 then
    agN 1 (
      some (y1.1, false)
    )
  else
    agN 1 (
      bif decide (y1.1.2.1 ≥ (((y1.1.1.length : Nat) : Int))) then
        some (y1.1, false)
      else
      bif inb y1.1.2.1 y1.1.1.length then
        (nth y1.1.1 y1.1.2.1.toNat).bind fun (x2 : Int × List UInt8 × Int) =>
        bif x2.1 == 4 then
          some (y1.1, x2.2.1 == d2)
        else
        bif x2.1 == 3 then
          some (y1.1, x2.2.1 == d2)
        else
          some (y1.1, false)
      else
        none
    )
noncomputable def r60 (rf : T.RF) (rb : T.RB) (d1 : List (Int × List UInt8 × Int) × Int × Int × Int) (d2 : List UInt8) : Option ((List (Int × List UInt8 × Int) × Int × Int × Int) × Bool) :=
  (c61 rf d1).bind fun (y1 : (List (Int × List UInt8 × Int) × Int × Int × Int) × Bool) =>
  bif !y1.2 then
    some (y1.1, false)
  else
  bif decide (y1.1.2.1 ≥ (((y1.1.1.length : Nat) : Int))) then
    some (y1.1, false)
  else
  bif inb y1.1.2.1 y1.1.1.length then
    (nth y1.1.1 y1.1.2.1.toNat).bind fun (x2 : Int × List UInt8 × Int) =>
    bif x2.1 == 4 then
      some (y1.1, x2.2.1 == d2)
    else
    bif x2.1 == 3 then
      some (y1.1, x2.2.1 == d2)
    else
      some (y1.1, false)
  else
    none
theorem er60 (rf : T.RF) (rb : T.RB) (d1 : List (Int × List UInt8 × Int) × Int × Int × Int) (d2 : List UInt8) : T.stepF rf rb 60 (d1, d2) = r60q rf rb d1 d2 := by kernel_rfl
theorem sr60 (rf : T.RF) (rb : T.RB) (d1 : List (Int × List UInt8 × Int) × Int × Int × Int) (d2 : List UInt8) : r60q rf rb d1 d2 = r60 rf rb d1 d2 := by
  unfold r60q r60; simp only [agN_eq, agree_self, agree_swap]
theorem or60 {d1 : List (Int × List UInt8 × Int) × Int × Int × Int} {d2 : List UInt8} {y : ((List (Int × List UInt8 × Int) × Int × Int × Int) × Bool)} (h : r60 T.rf T.rb d1 d2 = some y) : c60 T.rf d1 d2 = some y := T.rf_of (f := 60) (d := (d1, d2)) (((er60 T.rf T.rb d1 d2).trans (sr60 T.rf T.rb d1 d2)).trans h)

/- (*bailment/bailmentref06.reader).take -/
noncomputable def r59 (rf : T.RF) (rb : T.RB) (d1 : List (Int × List UInt8 × Int) × Int × Int × Int) (d2 : List UInt8) : Option ((List (Int × List UInt8 × Int) × Int × Int × Int) × Bool) :=
  (c60 rf d1 d2).bind fun (y1 : (List (Int × List UInt8 × Int) × Int × Int × Int) × Bool) =>
  bif !y1.2 then
    some (y1.1, false)
  else
    some ((y1.1.1, IntKind.i64.wrap (y1.1.2.1 + 1), y1.1.2.2), true)
theorem er59 (rf : T.RF) (rb : T.RB) (d1 : List (Int × List UInt8 × Int) × Int × Int × Int) (d2 : List UInt8) : T.stepF rf rb 59 (d1, d2) = r59 rf rb d1 d2 := by kernel_rfl
theorem or59 {d1 : List (Int × List UInt8 × Int) × Int × Int × Int} {d2 : List UInt8} {y : ((List (Int × List UInt8 × Int) × Int × Int × Int) × Bool)} (h : r59 T.rf T.rb d1 d2 = some y) : c59 T.rf d1 d2 = some y := T.rf_of (f := 59) (d := (d1, d2)) ((er59 T.rf T.rb d1 d2).trans h)

/- (*bailment/bailmentref06.reader).named -/
noncomputable def r63q (rf : T.RF) (rb : T.RB) (d1 : List (Int × List UInt8 × Int) × Int × Int × Int) : Option ((List (Int × List UInt8 × Int) × Int × Int × Int) × Bool) :=
  (c61 rf d1).bind fun (y1 : (List (Int × List UInt8 × Int) × Int × Int × Int) × Bool) =>
  bif y1.2 then
    agN 1 (
      bif decide (y1.1.2.1 < (((y1.1.1.length : Nat) : Int))) then
        agN 1 (
          bif inb y1.1.2.1 y1.1.1.length then
            (nth y1.1.1 y1.1.2.1.toNat).bind fun (x2 : Int × List UInt8 × Int) =>
            some (y1.1, x2.1 == 1)
          else
            none
        )
      else
        agN 1 (
          some (y1.1, false)
        )
    )
  else
    agN 1 (
      agN 1 (
        some (y1.1, false)
      )
    )
noncomputable def r63 (rf : T.RF) (rb : T.RB) (d1 : List (Int × List UInt8 × Int) × Int × Int × Int) : Option ((List (Int × List UInt8 × Int) × Int × Int × Int) × Bool) :=
  (c61 rf d1).bind fun (y1 : (List (Int × List UInt8 × Int) × Int × Int × Int) × Bool) =>
  bif y1.2 then
    bif decide (y1.1.2.1 < (((y1.1.1.length : Nat) : Int))) then
      bif inb y1.1.2.1 y1.1.1.length then
        (nth y1.1.1 y1.1.2.1.toNat).bind fun (x2 : Int × List UInt8 × Int) =>
        some (y1.1, x2.1 == 1)
      else
        none
    else
      some (y1.1, false)
  else
    some (y1.1, false)
theorem er63 (rf : T.RF) (rb : T.RB) (d1 : List (Int × List UInt8 × Int) × Int × Int × Int) : T.stepF rf rb 63 d1 = r63q rf rb d1 := by kernel_rfl
theorem sr63 (rf : T.RF) (rb : T.RB) (d1 : List (Int × List UInt8 × Int) × Int × Int × Int) : r63q rf rb d1 = r63 rf rb d1 := by
  unfold r63q r63; simp only [agN_eq, agree_self, agree_swap]
theorem or63 {d1 : List (Int × List UInt8 × Int) × Int × Int × Int} {y : ((List (Int × List UInt8 × Int) × Int × Int × Int) × Bool)} (h : r63 T.rf T.rb d1 = some y) : c63 T.rf d1 = some y := T.rf_of (f := 63) (d := d1) (((er63 T.rf T.rb d1).trans (sr63 T.rf T.rb d1)).trans h)

/- (*bailment/bailmentref06.reader).fail -/
noncomputable def r64q (rf : T.RF) (rb : T.RB) (d1 : List (Int × List UInt8 × Int) × Int × Int × Int) (d2 : Int) : Option (List (Int × List UInt8 × Int) × Int × Int × Int) :=
  (c61 rf d1).bind fun (y1 : (List (Int × List UInt8 × Int) × Int × Int × Int) × Bool) =>
  bif y1.2 then
    agN 1 (
      (c25 rf y1.1.1 y1.1.2.1).bind fun (y2 : Int) =>
      some (y1.1.1, y1.1.2.1, d2, y2)
    )
  else
    some y1.1
noncomputable def r64 (rf : T.RF) (rb : T.RB) (d1 : List (Int × List UInt8 × Int) × Int × Int × Int) (d2 : Int) : Option (List (Int × List UInt8 × Int) × Int × Int × Int) :=
  (c61 rf d1).bind fun (y1 : (List (Int × List UInt8 × Int) × Int × Int × Int) × Bool) =>
  bif y1.2 then
    (c25 rf y1.1.1 y1.1.2.1).bind fun (y2 : Int) =>
    some (y1.1.1, y1.1.2.1, d2, y2)
  else
    some y1.1
theorem er64 (rf : T.RF) (rb : T.RB) (d1 : List (Int × List UInt8 × Int) × Int × Int × Int) (d2 : Int) : T.stepF rf rb 64 (d1, d2) = r64q rf rb d1 d2 := by kernel_rfl
theorem sr64 (rf : T.RF) (rb : T.RB) (d1 : List (Int × List UInt8 × Int) × Int × Int × Int) (d2 : Int) : r64q rf rb d1 d2 = r64 rf rb d1 d2 := by
  unfold r64q r64; simp only [agN_eq, agree_self, agree_swap]
theorem or64 {d1 : List (Int × List UInt8 × Int) × Int × Int × Int} {d2 : Int} {y : (List (Int × List UInt8 × Int) × Int × Int × Int)} (h : r64 T.rf T.rb d1 d2 = some y) : c64 T.rf d1 d2 = some y := T.rf_of (f := 64) (d := (d1, d2)) (((er64 T.rf T.rb d1 d2).trans (sr64 T.rf T.rb d1 d2)).trans h)

/- (*bailment/bailmentref06.reader).name -/
noncomputable def r62 (rf : T.RF) (rb : T.RB) (d1 : List (Int × List UInt8 × Int) × Int × Int × Int) : Option ((List (Int × List UInt8 × Int) × Int × Int × Int) × List UInt8) :=
  (c63 rf d1).bind fun (y1 : (List (Int × List UInt8 × Int) × Int × Int × Int) × Bool) =>
  bif !y1.2 then
    (c64 rf y1.1 5).bind fun (y2 : List (Int × List UInt8 × Int) × Int × Int × Int) =>
    some (y2, ([] : List UInt8))
  else
  bif inb (IntKind.i64.wrap ((IntKind.i64.wrap (y1.1.2.1 + 1)) - 1)) y1.1.1.length then
    (nth y1.1.1 (IntKind.i64.wrap ((IntKind.i64.wrap (y1.1.2.1 + 1)) - 1)).toNat).bind fun (x3 : Int × List UInt8 × Int) =>
    some ((y1.1.1, IntKind.i64.wrap (y1.1.2.1 + 1), y1.1.2.2), x3.2.1)
  else
    none
theorem er62 (rf : T.RF) (rb : T.RB) (d1 : List (Int × List UInt8 × Int) × Int × Int × Int) : T.stepF rf rb 62 d1 = r62 rf rb d1 := by kernel_rfl
theorem or62 {d1 : List (Int × List UInt8 × Int) × Int × Int × Int} {y : ((List (Int × List UInt8 × Int) × Int × Int × Int) × List UInt8)} (h : r62 T.rf T.rb d1 = some y) : c62 T.rf d1 = some y := T.rf_of (f := 62) (d := d1) ((er62 T.rf T.rb d1).trans h)

/- (*bailment/bailmentref06.reader).need -/
noncomputable def r66 (rf : T.RF) (rb : T.RB) (d1 : List (Int × List UInt8 × Int) × Int × Int × Int) (d2 : List UInt8) : Option (List (Int × List UInt8 × Int) × Int × Int × Int) :=
  (c59 rf d1 d2).bind fun (y1 : (List (Int × List UInt8 × Int) × Int × Int × Int) × Bool) =>
  bif !y1.2 then
    (c64 rf y1.1 5).bind fun (y2 : List (Int × List UInt8 × Int) × Int × Int × Int) =>
    some y2
  else
    some y1.1
theorem er66 (rf : T.RF) (rb : T.RB) (d1 : List (Int × List UInt8 × Int) × Int × Int × Int) (d2 : List UInt8) : T.stepF rf rb 66 (d1, d2) = r66 rf rb d1 d2 := by kernel_rfl
theorem or66 {d1 : List (Int × List UInt8 × Int) × Int × Int × Int} {d2 : List UInt8} {y : (List (Int × List UInt8 × Int) × Int × Int × Int)} (h : r66 T.rf T.rb d1 d2 = some y) : c66 T.rf d1 d2 = some y := T.rf_of (f := 66) (d := (d1, d2)) ((er66 T.rf T.rb d1 d2).trans h)

/- (*bailment/bailmentref06.reader).room -/
noncomputable def r67 (rf : T.RF) (rb : T.RB) (d1 : List (Int × List UInt8 × Int) × Int × Int × Int) (d2 : Int) : Option (List (Int × List UInt8 × Int) × Int × Int × Int) :=
  bif decide (d2 ≥ 200) then
    (c64 rf d1 7).bind fun (y1 : List (Int × List UInt8 × Int) × Int × Int × Int) =>
    some y1
  else
    some d1
theorem er67 (rf : T.RF) (rb : T.RB) (d1 : List (Int × List UInt8 × Int) × Int × Int × Int) (d2 : Int) : T.stepF rf rb 67 (d1, d2) = r67 rf rb d1 d2 := by kernel_rfl
theorem or67 {d1 : List (Int × List UInt8 × Int) × Int × Int × Int} {d2 : Int} {y : (List (Int × List UInt8 × Int) × Int × Int × Int)} (h : r67 T.rf T.rb d1 d2 = some y) : c67 T.rf d1 d2 = some y := T.rf_of (f := 67) (d := (d1, d2)) ((er67 T.rf T.rb d1 d2).trans h)

/- (*bailment/bailmentref06.reader).param -/
noncomputable def r68 (rf : T.RF) (rb : T.RB) (d1 : List (Int × List UInt8 × Int) × Int × Int × Int) : Option ((List (Int × List UInt8 × Int) × Int × Int × Int) × List UInt8 × Int) :=
  (c62 rf d1).bind fun (y1 : (List (Int × List UInt8 × Int) × Int × Int × Int) × List UInt8) =>
  (c66 rf y1.1 ([58] : List UInt8)).bind fun (y2 : List (Int × List UInt8 × Int) × Int × Int × Int) =>
  (c59 rf y2 ([98, 111, 111, 108] : List UInt8)).bind fun (y3 : (List (Int × List UInt8 × Int) × Int × Int × Int) × Bool) =>
  bif y3.2 then
    some (y3.1, y1.2, 1)
  else
    (c59 rf y3.1 ([105, 110, 116] : List UInt8)).bind fun (y4 : (List (Int × List UInt8 × Int) × Int × Int × Int) × Bool) =>
    bif y4.2 then
      some (y4.1, y1.2, 2)
    else
      (c64 rf y4.1 5).bind fun (y5 : List (Int × List UInt8 × Int) × Int × Int × Int) =>
      some (y5, y1.2, 0)
theorem er68 (rf : T.RF) (rb : T.RB) (d1 : List (Int × List UInt8 × Int) × Int × Int × Int) : T.stepF rf rb 68 d1 = r68 rf rb d1 := by kernel_rfl
theorem or68 {d1 : List (Int × List UInt8 × Int) × Int × Int × Int} {y : ((List (Int × List UInt8 × Int) × Int × Int × Int) × List UInt8 × Int)} (h : r68 T.rf T.rb d1 = some y) : c68 T.rf d1 = some y := T.rf_of (f := 68) (d := d1) ((er68 T.rf T.rb d1).trans h)

/- (*bailment/bailmentref06.reader).inputs loop 0 -/
noncomputable def b59 (rf : T.RF) (rb : T.RB) (d1 : List (Int × List UInt8 × Int) × Int × Int × Int) (d2 : List (List UInt8 × Int)) : Option (((List (Int × List UInt8 × Int) × Int × Int × Int) × List (List UInt8 × Int)) ⊕ (List (Int × List UInt8 × Int) × Int × Int × Int)) :=
  (c61 rf d1).bind fun (y1 : (List (Int × List UInt8 × Int) × Int × Int × Int) × Bool) =>
  bif y1.2 then
    (c67 rf y1.1 (((d2.length : Nat) : Int))).bind fun (y2 : List (Int × List UInt8 × Int) × Int × Int × Int) =>
    (c68 rf y2).bind fun (y3 : (List (Int × List UInt8 × Int) × Int × Int × Int) × List UInt8 × Int) =>
    bif (Nat.ble (d2.length + 1) most) && true then
      (c59 rf y3.1 ([41] : List UInt8)).bind fun (y4 : (List (Int × List UInt8 × Int) × Int × Int × Int) × Bool) =>
      bif y4.2 then
        some (.inl (y4.1, d2 ++ [y3.2]))
      else
        (c66 rf y4.1 ([59] : List UInt8)).bind fun (y5 : List (Int × List UInt8 × Int) × Int × Int × Int) =>
        k59 rb y5 (d2 ++ [y3.2])
    else
      none
  else
    some (.inr y1.1)
theorem eb59 (rf : T.RF) (rb : T.RB) (d1 : List (Int × List UInt8 × Int) × Int × Int × Int) (d2 : List (List UInt8 × Int)) : T.stepB rf rb 59 (d1, d2) = b59 rf rb d1 d2 := by kernel_rfl
theorem ob59 {d1 : List (Int × List UInt8 × Int) × Int × Int × Int} {d2 : List (List UInt8 × Int)} {y : (((List (Int × List UInt8 × Int) × Int × Int × Int) × List (List UInt8 × Int)) ⊕ (List (Int × List UInt8 × Int) × Int × Int × Int))} (h : b59 T.rf T.rb d1 d2 = some y) : k59 T.rb d1 d2 = some y := T.rb_of (κ := 59) (d := (d1, d2)) ((eb59 T.rf T.rb d1 d2).trans h)

/- (*bailment/bailmentref06.reader).inputs -/
noncomputable def r65 (rf : T.RF) (rb : T.RB) (d1 : List (Int × List UInt8 × Int) × Int × Int × Int) : Option ((List (Int × List UInt8 × Int) × Int × Int × Int) × List (List UInt8 × Int)) :=
  (c66 rf d1 ([40] : List UInt8)).bind fun (y1 : List (Int × List UInt8 × Int) × Int × Int × Int) =>
  (c59 rf y1 ([41] : List UInt8)).bind fun (y2 : (List (Int × List UInt8 × Int) × Int × Int × Int) × Bool) =>
  bif y2.2 then
    some (y2.1, [])
  else
    (k59 rb y2.1 []).bind fun (z3 : ((List (Int × List UInt8 × Int) × Int × Int × Int) × List (List UInt8 × Int)) ⊕ (List (Int × List UInt8 × Int) × Int × Int × Int)) =>
    match z3 with
    | .inl u4 =>
      some u4
    | .inr w5 =>
      some (w5, [])
theorem er65 (rf : T.RF) (rb : T.RB) (d1 : List (Int × List UInt8 × Int) × Int × Int × Int) : T.stepF rf rb 65 d1 = r65 rf rb d1 := by kernel_rfl
theorem or65 {d1 : List (Int × List UInt8 × Int) × Int × Int × Int} {y : ((List (Int × List UInt8 × Int) × Int × Int × Int) × List (List UInt8 × Int))} (h : r65 T.rf T.rb d1 = some y) : c65 T.rf d1 = some y := T.rf_of (f := 65) (d := d1) ((er65 T.rf T.rb d1).trans h)

/- (*bailment/bailmentref06.reader).begins -/
noncomputable def r70 (rf : T.RF) (rb : T.RB) (d1 : List (Int × List UInt8 × Int) × Int × Int × Int) : Option ((List (Int × List UInt8 × Int) × Int × Int × Int) × Bool) :=
  (c60 rf d1 ([97, 115, 115, 117, 109, 101] : List UInt8)).bind fun (y1 : (List (Int × List UInt8 × Int) × Int × Int × Int) × Bool) =>
  bif y1.2 then
    some (y1.1, true)
  else
    (c60 rf y1.1 ([103, 117, 97, 114, 97, 110, 116, 101, 101] : List UInt8)).bind fun (y2 : (List (Int × List UInt8 × Int) × Int × Int × Int) × Bool) =>
    bif y2.2 then
      some (y2.1, true)
    else
      (c60 rf y2.1 ([103, 104, 111, 115, 116] : List UInt8)).bind fun (y3 : (List (Int × List UInt8 × Int) × Int × Int × Int) × Bool) =>
      bif y3.2 then
        some (y3.1, true)
      else
        (c60 rf y3.1 ([109, 111, 100, 101] : List UInt8)).bind fun (y4 : (List (Int × List UInt8 × Int) × Int × Int × Int) × Bool) =>
        bif y4.2 then
          some (y4.1, true)
        else
          (c60 rf y4.1 ([105, 109, 112, 111, 114, 116] : List UInt8)).bind fun (y5 : (List (Int × List UInt8 × Int) × Int × Int × Int) × Bool) =>
          some y5
theorem er70 (rf : T.RF) (rb : T.RB) (d1 : List (Int × List UInt8 × Int) × Int × Int × Int) : T.stepF rf rb 70 d1 = r70 rf rb d1 := by kernel_rfl
theorem or70 {d1 : List (Int × List UInt8 × Int) × Int × Int × Int} {y : ((List (Int × List UInt8 × Int) × Int × Int × Int) × Bool)} (h : r70 T.rf T.rb d1 = some y) : c70 T.rf d1 = some y := T.rf_of (f := 70) (d := d1) ((er70 T.rf T.rb d1).trans h)

/- (*bailment/bailmentref06.reader).expr tail 4 -/
noncomputable def b61 (rf : T.RF) (rb : T.RB) (d1 : List (Int × List UInt8 × Int) × Int × Int × Int) (d2 : Int × Int) (d3 : List (Int × Int × Int × Int × Int × List UInt8)) (d4 : Int) : Option ((List (Int × List UInt8 × Int) × Int × Int × Int) × (Int × Int) × List (Int × Int × Int × Int × Int × List UInt8)) :=
  bif d2.1 != 0 then
    some ((d1.1, d1.2.1, d2), d2, [])
  else
    some ((d1.1, d4, d1.2.2), d2, d3)
theorem eb61 (rf : T.RF) (rb : T.RB) (d1 : List (Int × List UInt8 × Int) × Int × Int × Int) (d2 : Int × Int) (d3 : List (Int × Int × Int × Int × Int × List UInt8)) (d4 : Int) : T.stepB rf rb 61 (d1, d2, d3, d4) = b61 rf rb d1 d2 d3 d4 := by kernel_rfl
theorem ob61 {d1 : List (Int × List UInt8 × Int) × Int × Int × Int} {d2 : Int × Int} {d3 : List (Int × Int × Int × Int × Int × List UInt8)} {d4 : Int} {y : ((List (Int × List UInt8 × Int) × Int × Int × Int) × (Int × Int) × List (Int × Int × Int × Int × Int × List UInt8))} (h : b61 T.rf T.rb d1 d2 d3 d4 = some y) : k61 T.rb d1 d2 d3 d4 = some y := T.rb_of (κ := 61) (d := (d1, d2, d3, d4)) ((eb61 T.rf T.rb d1 d2 d3 d4).trans h)

/- (*bailment/bailmentref06.reader).expr -/
noncomputable def r72q (rf : T.RF) (rb : T.RB) (d1 : List (Int × List UInt8 × Int) × Int × Int × Int) : Option ((List (Int × List UInt8 × Int) × Int × Int × Int) × List (Int × Int × Int × Int × Int × List UInt8)) :=
  (c61 rf d1).bind fun (y1 : (List (Int × List UInt8 × Int) × Int × Int × Int) × Bool) =>
  bif !y1.2 then
    some (y1.1, [])
  else
    agN 1 (
      (c14 rf y1.1.1 y1.1.2.1).bind fun (y2 : List (Int × Int × Int × Int × Int × List UInt8) × Int × Int × Int) =>
      (k61 rb y1.1 y2.2.2 y2.1 y2.2.1).bind fun (z3 : (List (Int × List UInt8 × Int) × Int × Int × Int) × (Int × Int) × List (Int × Int × Int × Int × Int × List UInt8)) =>
      some (z3.1, z3.2.2)
    )
noncomputable def r72 (rf : T.RF) (rb : T.RB) (d1 : List (Int × List UInt8 × Int) × Int × Int × Int) : Option ((List (Int × List UInt8 × Int) × Int × Int × Int) × List (Int × Int × Int × Int × Int × List UInt8)) :=
  (c61 rf d1).bind fun (y1 : (List (Int × List UInt8 × Int) × Int × Int × Int) × Bool) =>
  bif !y1.2 then
    some (y1.1, [])
  else
    (c14 rf y1.1.1 y1.1.2.1).bind fun (y2 : List (Int × Int × Int × Int × Int × List UInt8) × Int × Int × Int) =>
    (k61 rb y1.1 y2.2.2 y2.1 y2.2.1).bind fun (z3 : (List (Int × List UInt8 × Int) × Int × Int × Int) × (Int × Int) × List (Int × Int × Int × Int × Int × List UInt8)) =>
    some (z3.1, z3.2.2)
theorem er72 (rf : T.RF) (rb : T.RB) (d1 : List (Int × List UInt8 × Int) × Int × Int × Int) : T.stepF rf rb 72 d1 = r72q rf rb d1 := by kernel_rfl
theorem sr72 (rf : T.RF) (rb : T.RB) (d1 : List (Int × List UInt8 × Int) × Int × Int × Int) : r72q rf rb d1 = r72 rf rb d1 := by
  unfold r72q r72; simp only [agN_eq, agree_self, agree_swap]
theorem or72 {d1 : List (Int × List UInt8 × Int) × Int × Int × Int} {y : ((List (Int × List UInt8 × Int) × Int × Int × Int) × List (Int × Int × Int × Int × Int × List UInt8))} (h : r72 T.rf T.rb d1 = some y) : c72 T.rf d1 = some y := T.rf_of (f := 72) (d := d1) (((er72 T.rf T.rb d1).trans (sr72 T.rf T.rb d1)).trans h)

/- (*bailment/bailmentref06.reader).args loop 0 -/
noncomputable def b63 (rf : T.RF) (rb : T.RB) (d1 : List (Int × List UInt8 × Int) × Int × Int × Int) (d2 : List (List (Int × Int × Int × Int × Int × List UInt8))) : Option (((List (Int × List UInt8 × Int) × Int × Int × Int) × List (List (Int × Int × Int × Int × Int × List UInt8))) ⊕ (List (Int × List UInt8 × Int) × Int × Int × Int)) :=
  (c61 rf d1).bind fun (y1 : (List (Int × List UInt8 × Int) × Int × Int × Int) × Bool) =>
  bif y1.2 then
    (c67 rf y1.1 (((d2.length : Nat) : Int))).bind fun (y2 : List (Int × List UInt8 × Int) × Int × Int × Int) =>
    (c72 rf y2).bind fun (y3 : (List (Int × List UInt8 × Int) × Int × Int × Int) × List (Int × Int × Int × Int × Int × List UInt8)) =>
    bif (Nat.ble (d2.length + 1) most) && true then
      (c59 rf y3.1 ([41] : List UInt8)).bind fun (y4 : (List (Int × List UInt8 × Int) × Int × Int × Int) × Bool) =>
      bif y4.2 then
        some (.inl (y4.1, d2 ++ [y3.2]))
      else
        (c66 rf y4.1 ([44] : List UInt8)).bind fun (y5 : List (Int × List UInt8 × Int) × Int × Int × Int) =>
        k63 rb y5 (d2 ++ [y3.2])
    else
      none
  else
    some (.inr y1.1)
theorem eb63 (rf : T.RF) (rb : T.RB) (d1 : List (Int × List UInt8 × Int) × Int × Int × Int) (d2 : List (List (Int × Int × Int × Int × Int × List UInt8))) : T.stepB rf rb 63 (d1, d2) = b63 rf rb d1 d2 := by kernel_rfl
theorem ob63 {d1 : List (Int × List UInt8 × Int) × Int × Int × Int} {d2 : List (List (Int × Int × Int × Int × Int × List UInt8))} {y : (((List (Int × List UInt8 × Int) × Int × Int × Int) × List (List (Int × Int × Int × Int × Int × List UInt8))) ⊕ (List (Int × List UInt8 × Int) × Int × Int × Int))} (h : b63 T.rf T.rb d1 d2 = some y) : k63 T.rb d1 d2 = some y := T.rb_of (κ := 63) (d := (d1, d2)) ((eb63 T.rf T.rb d1 d2).trans h)

/- (*bailment/bailmentref06.reader).args -/
noncomputable def r73 (rf : T.RF) (rb : T.RB) (d1 : List (Int × List UInt8 × Int) × Int × Int × Int) : Option ((List (Int × List UInt8 × Int) × Int × Int × Int) × List (List (Int × Int × Int × Int × Int × List UInt8))) :=
  (c66 rf d1 ([40] : List UInt8)).bind fun (y1 : List (Int × List UInt8 × Int) × Int × Int × Int) =>
  (c59 rf y1 ([41] : List UInt8)).bind fun (y2 : (List (Int × List UInt8 × Int) × Int × Int × Int) × Bool) =>
  bif y2.2 then
    some (y2.1, [])
  else
    (k63 rb y2.1 []).bind fun (z3 : ((List (Int × List UInt8 × Int) × Int × Int × Int) × List (List (Int × Int × Int × Int × Int × List UInt8))) ⊕ (List (Int × List UInt8 × Int) × Int × Int × Int)) =>
    match z3 with
    | .inl u4 =>
      some u4
    | .inr w5 =>
      some (w5, [])
theorem er73 (rf : T.RF) (rb : T.RB) (d1 : List (Int × List UInt8 × Int) × Int × Int × Int) : T.stepF rf rb 73 d1 = r73 rf rb d1 := by kernel_rfl
theorem or73 {d1 : List (Int × List UInt8 × Int) × Int × Int × Int} {y : ((List (Int × List UInt8 × Int) × Int × Int × Int) × List (List (Int × Int × Int × Int × Int × List UInt8)))} (h : r73 T.rf T.rb d1 = some y) : c73 T.rf d1 = some y := T.rf_of (f := 73) (d := d1) ((er73 T.rf T.rb d1).trans h)

/- (*bailment/bailmentref06.reader).item -/
noncomputable def r71 (rf : T.RF) (rb : T.RB) (d1 : List (Int × List UInt8 × Int) × Int × Int × Int) : Option ((List (Int × List UInt8 × Int) × Int × Int × Int) × (Int × List UInt8 × Int × List (Int × Int × Int × Int × Int × List UInt8) × List (Int × Int × Int × Int × Int × List UInt8) × List (List (Int × Int × Int × Int × Int × List UInt8))) × Bool) :=
  (c59 rf d1 ([97, 115, 115, 117, 109, 101] : List UInt8)).bind fun (y1 : (List (Int × List UInt8 × Int) × Int × Int × Int) × Bool) =>
  bif y1.2 then
    (c72 rf y1.1).bind fun (y2 : (List (Int × List UInt8 × Int) × Int × Int × Int) × List (Int × Int × Int × Int × Int × List UInt8)) =>
    (c66 rf y2.1 ([59] : List UInt8)).bind fun (y3 : List (Int × List UInt8 × Int) × Int × Int × Int) =>
    some (y3, (1, ([] : List UInt8), 0, y2.2, [], []), true)
  else
    (c59 rf y1.1 ([103, 117, 97, 114, 97, 110, 116, 101, 101] : List UInt8)).bind fun (y4 : (List (Int × List UInt8 × Int) × Int × Int × Int) × Bool) =>
    bif y4.2 then
      (c72 rf y4.1).bind fun (y5 : (List (Int × List UInt8 × Int) × Int × Int × Int) × List (Int × Int × Int × Int × Int × List UInt8)) =>
      (c66 rf y5.1 ([59] : List UInt8)).bind fun (y6 : List (Int × List UInt8 × Int) × Int × Int × Int) =>
      some (y6, (2, ([] : List UInt8), 0, y5.2, [], []), true)
    else
      (c59 rf y4.1 ([103, 104, 111, 115, 116] : List UInt8)).bind fun (y7 : (List (Int × List UInt8 × Int) × Int × Int × Int) × Bool) =>
      bif y7.2 then
        (c68 rf y7.1).bind fun (y8 : (List (Int × List UInt8 × Int) × Int × Int × Int) × List UInt8 × Int) =>
        (c66 rf y8.1 ([61] : List UInt8)).bind fun (y9 : List (Int × List UInt8 × Int) × Int × Int × Int) =>
        (c72 rf y9).bind fun (y10 : (List (Int × List UInt8 × Int) × Int × Int × Int) × List (Int × Int × Int × Int × Int × List UInt8)) =>
        (c66 rf y10.1 ([59] : List UInt8)).bind fun (y11 : List (Int × List UInt8 × Int) × Int × Int × Int) =>
        some (y11, (3, y8.2.1, y8.2.2, y10.2, [], []), true)
      else
        (c59 rf y7.1 ([109, 111, 100, 101] : List UInt8)).bind fun (y12 : (List (Int × List UInt8 × Int) × Int × Int × Int) × Bool) =>
        bif y12.2 then
          (c62 rf y12.1).bind fun (y13 : (List (Int × List UInt8 × Int) × Int × Int × Int) × List UInt8) =>
          (c66 rf y13.1 ([114, 101, 113, 117, 105, 114, 101] : List UInt8)).bind fun (y14 : List (Int × List UInt8 × Int) × Int × Int × Int) =>
          (c72 rf y14).bind fun (y15 : (List (Int × List UInt8 × Int) × Int × Int × Int) × List (Int × Int × Int × Int × Int × List UInt8)) =>
          (c66 rf y15.1 ([101, 110, 115, 117, 114, 101] : List UInt8)).bind fun (y16 : List (Int × List UInt8 × Int) × Int × Int × Int) =>
          (c72 rf y16).bind fun (y17 : (List (Int × List UInt8 × Int) × Int × Int × Int) × List (Int × Int × Int × Int × Int × List UInt8)) =>
          (c66 rf y17.1 ([59] : List UInt8)).bind fun (y18 : List (Int × List UInt8 × Int) × Int × Int × Int) =>
          some (y18, (4, y13.2, 0, y15.2, y17.2, []), true)
        else
          (c59 rf y12.1 ([105, 109, 112, 111, 114, 116] : List UInt8)).bind fun (y19 : (List (Int × List UInt8 × Int) × Int × Int × Int) × Bool) =>
          bif y19.2 then
            (c62 rf y19.1).bind fun (y20 : (List (Int × List UInt8 × Int) × Int × Int × Int) × List UInt8) =>
            (c73 rf y20.1).bind fun (y21 : (List (Int × List UInt8 × Int) × Int × Int × Int) × List (List (Int × Int × Int × Int × Int × List UInt8))) =>
            (c66 rf y21.1 ([59] : List UInt8)).bind fun (y22 : List (Int × List UInt8 × Int) × Int × Int × Int) =>
            some (y22, (5, y20.2, 0, [], [], y21.2), true)
          else
            some (y19.1, (0, ([] : List UInt8), 0, [], [], []), false)
theorem er71 (rf : T.RF) (rb : T.RB) (d1 : List (Int × List UInt8 × Int) × Int × Int × Int) : T.stepF rf rb 71 d1 = r71 rf rb d1 := by kernel_rfl
theorem or71 {d1 : List (Int × List UInt8 × Int) × Int × Int × Int} {y : ((List (Int × List UInt8 × Int) × Int × Int × Int) × (Int × List UInt8 × Int × List (Int × Int × Int × Int × Int × List UInt8) × List (Int × Int × Int × Int × Int × List UInt8) × List (List (Int × Int × Int × Int × Int × List UInt8))) × Bool)} (h : r71 T.rf T.rb d1 = some y) : c71 T.rf d1 = some y := T.rf_of (f := 71) (d := d1) ((er71 T.rf T.rb d1).trans h)

/- (*bailment/bailmentref06.reader).items loop 0 -/
noncomputable def b64 (rf : T.RF) (rb : T.RB) (d1 : List (Int × List UInt8 × Int) × Int × Int × Int) (d2 : List (Int × List UInt8 × Int × List (Int × Int × Int × Int × Int × List UInt8) × List (Int × Int × Int × Int × Int × List UInt8) × List (List (Int × Int × Int × Int × Int × List UInt8)))) : Option ((List (Int × List UInt8 × Int) × Int × Int × Int) × List (Int × List UInt8 × Int × List (Int × Int × Int × Int × Int × List UInt8) × List (Int × Int × Int × Int × Int × List UInt8) × List (List (Int × Int × Int × Int × Int × List UInt8)))) :=
  (c70 rf d1).bind fun (y1 : (List (Int × List UInt8 × Int) × Int × Int × Int) × Bool) =>
  bif y1.2 then
    (c67 rf y1.1 (((d2.length : Nat) : Int))).bind fun (y2 : List (Int × List UInt8 × Int) × Int × Int × Int) =>
    (c71 rf y2).bind fun (y3 : (List (Int × List UInt8 × Int) × Int × Int × Int) × (Int × List UInt8 × Int × List (Int × Int × Int × Int × Int × List UInt8) × List (Int × Int × Int × Int × Int × List UInt8) × List (List (Int × Int × Int × Int × Int × List UInt8))) × Bool) =>
    bif y3.2.2 then
      bif (Nat.ble (d2.length + 1) most) && true then
        k64 rb y3.1 (d2 ++ [y3.2.1])
      else
        none
    else
      k64 rb y3.1 d2
  else
    some (y1.1, d2)
theorem eb64 (rf : T.RF) (rb : T.RB) (d1 : List (Int × List UInt8 × Int) × Int × Int × Int) (d2 : List (Int × List UInt8 × Int × List (Int × Int × Int × Int × Int × List UInt8) × List (Int × Int × Int × Int × Int × List UInt8) × List (List (Int × Int × Int × Int × Int × List UInt8)))) : T.stepB rf rb 64 (d1, d2) = b64 rf rb d1 d2 := by kernel_rfl
theorem ob64 {d1 : List (Int × List UInt8 × Int) × Int × Int × Int} {d2 : List (Int × List UInt8 × Int × List (Int × Int × Int × Int × Int × List UInt8) × List (Int × Int × Int × Int × Int × List UInt8) × List (List (Int × Int × Int × Int × Int × List UInt8)))} {y : ((List (Int × List UInt8 × Int) × Int × Int × Int) × List (Int × List UInt8 × Int × List (Int × Int × Int × Int × Int × List UInt8) × List (Int × Int × Int × Int × Int × List UInt8) × List (List (Int × Int × Int × Int × Int × List UInt8))))} (h : b64 T.rf T.rb d1 d2 = some y) : k64 T.rb d1 d2 = some y := T.rb_of (κ := 64) (d := (d1, d2)) ((eb64 T.rf T.rb d1 d2).trans h)

/- (*bailment/bailmentref06.reader).items -/
noncomputable def r69 (rf : T.RF) (rb : T.RB) (d1 : List (Int × List UInt8 × Int) × Int × Int × Int) : Option ((List (Int × List UInt8 × Int) × Int × Int × Int) × List (Int × List UInt8 × Int × List (Int × Int × Int × Int × Int × List UInt8) × List (Int × Int × Int × Int × Int × List UInt8) × List (List (Int × Int × Int × Int × Int × List UInt8)))) :=
  (k64 rb d1 []).bind fun (z1 : (List (Int × List UInt8 × Int) × Int × Int × Int) × List (Int × List UInt8 × Int × List (Int × Int × Int × Int × Int × List UInt8) × List (Int × Int × Int × Int × Int × List UInt8) × List (List (Int × Int × Int × Int × Int × List UInt8)))) =>
  (c66 rf z1.1 ([101, 110, 100] : List UInt8)).bind fun (y2 : List (Int × List UInt8 × Int) × Int × Int × Int) =>
  some (y2, z1.2)
theorem er69 (rf : T.RF) (rb : T.RB) (d1 : List (Int × List UInt8 × Int) × Int × Int × Int) : T.stepF rf rb 69 d1 = r69 rf rb d1 := by kernel_rfl
theorem or69 {d1 : List (Int × List UInt8 × Int) × Int × Int × Int} {y : ((List (Int × List UInt8 × Int) × Int × Int × Int) × List (Int × List UInt8 × Int × List (Int × Int × Int × Int × Int × List UInt8) × List (Int × Int × Int × Int × Int × List UInt8) × List (List (Int × Int × Int × Int × Int × List UInt8))))} (h : r69 T.rf T.rb d1 = some y) : c69 T.rf d1 = some y := T.rf_of (f := 69) (d := d1) ((er69 T.rf T.rb d1).trans h)

/- (*bailment/bailmentref06.reader).vars loop 0 -/
noncomputable def b66 (rf : T.RF) (rb : T.RB) (d1 : List (Int × List UInt8 × Int) × Int × Int × Int) (d2 : List (List UInt8 × Int)) : Option (((List (Int × List UInt8 × Int) × Int × Int × Int) × List (List UInt8 × Int)) ⊕ (List (Int × List UInt8 × Int) × Int × Int × Int)) :=
  (c61 rf d1).bind fun (y1 : (List (Int × List UInt8 × Int) × Int × Int × Int) × Bool) =>
  bif y1.2 then
    (c67 rf y1.1 (((d2.length : Nat) : Int))).bind fun (y2 : List (Int × List UInt8 × Int) × Int × Int × Int) =>
    (c68 rf y2).bind fun (y3 : (List (Int × List UInt8 × Int) × Int × Int × Int) × List UInt8 × Int) =>
    bif (Nat.ble (d2.length + 1) most) && true then
      (c66 rf y3.1 ([59] : List UInt8)).bind fun (y4 : List (Int × List UInt8 × Int) × Int × Int × Int) =>
      (c63 rf y4).bind fun (y5 : (List (Int × List UInt8 × Int) × Int × Int × Int) × Bool) =>
      bif !y5.2 then
        some (.inl (y5.1, d2 ++ [y3.2]))
      else
        k66 rb y5.1 (d2 ++ [y3.2])
    else
      none
  else
    some (.inr y1.1)
theorem eb66 (rf : T.RF) (rb : T.RB) (d1 : List (Int × List UInt8 × Int) × Int × Int × Int) (d2 : List (List UInt8 × Int)) : T.stepB rf rb 66 (d1, d2) = b66 rf rb d1 d2 := by kernel_rfl
theorem ob66 {d1 : List (Int × List UInt8 × Int) × Int × Int × Int} {d2 : List (List UInt8 × Int)} {y : (((List (Int × List UInt8 × Int) × Int × Int × Int) × List (List UInt8 × Int)) ⊕ (List (Int × List UInt8 × Int) × Int × Int × Int))} (h : b66 T.rf T.rb d1 d2 = some y) : k66 T.rb d1 d2 = some y := T.rb_of (κ := 66) (d := (d1, d2)) ((eb66 T.rf T.rb d1 d2).trans h)

/- (*bailment/bailmentref06.reader).vars -/
noncomputable def r74 (rf : T.RF) (rb : T.RB) (d1 : List (Int × List UInt8 × Int) × Int × Int × Int) : Option ((List (Int × List UInt8 × Int) × Int × Int × Int) × List (List UInt8 × Int)) :=
  (k66 rb d1 []).bind fun (z1 : ((List (Int × List UInt8 × Int) × Int × Int × Int) × List (List UInt8 × Int)) ⊕ (List (Int × List UInt8 × Int) × Int × Int × Int)) =>
  match z1 with
  | .inl u2 =>
    some u2
  | .inr w3 =>
    some (w3, [])
theorem er74 (rf : T.RF) (rb : T.RB) (d1 : List (Int × List UInt8 × Int) × Int × Int × Int) : T.stepF rf rb 74 d1 = r74 rf rb d1 := by kernel_rfl
theorem or74 {d1 : List (Int × List UInt8 × Int) × Int × Int × Int} {y : ((List (Int × List UInt8 × Int) × Int × Int × Int) × List (List UInt8 × Int))} (h : r74 T.rf T.rb d1 = some y) : c74 T.rf d1 = some y := T.rf_of (f := 74) (d := d1) ((er74 T.rf T.rb d1).trans h)

/- (*bailment/bailmentref06.reader).equations loop 0 -/
noncomputable def b68 (rf : T.RF) (rb : T.RB) (d1 : List (Int × List UInt8 × Int) × Int × Int × Int) (d2 : List (List UInt8 × List (Int × Int × Int × Int × Int × List UInt8))) : Option ((List (Int × List UInt8 × Int) × Int × Int × Int) × List (List UInt8 × List (Int × Int × Int × Int × Int × List UInt8))) :=
  (c63 rf d1).bind fun (y1 : (List (Int × List UInt8 × Int) × Int × Int × Int) × Bool) =>
  bif y1.2 then
    (c67 rf y1.1 (((d2.length : Nat) : Int))).bind fun (y2 : List (Int × List UInt8 × Int) × Int × Int × Int) =>
    (c62 rf y2).bind fun (y3 : (List (Int × List UInt8 × Int) × Int × Int × Int) × List UInt8) =>
    (c66 rf y3.1 ([61] : List UInt8)).bind fun (y4 : List (Int × List UInt8 × Int) × Int × Int × Int) =>
    (c72 rf y4).bind fun (y5 : (List (Int × List UInt8 × Int) × Int × Int × Int) × List (Int × Int × Int × Int × Int × List UInt8)) =>
    (c66 rf y5.1 ([59] : List UInt8)).bind fun (y6 : List (Int × List UInt8 × Int) × Int × Int × Int) =>
    bif (Nat.ble (d2.length + 1) most) && true then
      k68 rb y6 (d2 ++ [(y3.2, y5.2)])
    else
      none
  else
    some (y1.1, d2)
theorem eb68 (rf : T.RF) (rb : T.RB) (d1 : List (Int × List UInt8 × Int) × Int × Int × Int) (d2 : List (List UInt8 × List (Int × Int × Int × Int × Int × List UInt8))) : T.stepB rf rb 68 (d1, d2) = b68 rf rb d1 d2 := by kernel_rfl
theorem ob68 {d1 : List (Int × List UInt8 × Int) × Int × Int × Int} {d2 : List (List UInt8 × List (Int × Int × Int × Int × Int × List UInt8))} {y : ((List (Int × List UInt8 × Int) × Int × Int × Int) × List (List UInt8 × List (Int × Int × Int × Int × Int × List UInt8)))} (h : b68 T.rf T.rb d1 d2 = some y) : k68 T.rb d1 d2 = some y := T.rb_of (κ := 68) (d := (d1, d2)) ((eb68 T.rf T.rb d1 d2).trans h)

/- (*bailment/bailmentref06.reader).equations -/
noncomputable def r75 (rf : T.RF) (rb : T.RB) (d1 : List (Int × List UInt8 × Int) × Int × Int × Int) : Option ((List (Int × List UInt8 × Int) × Int × Int × Int) × List (List UInt8 × List (Int × Int × Int × Int × Int × List UInt8))) :=
  (k68 rb d1 []).bind fun (z1 : (List (Int × List UInt8 × Int) × Int × Int × Int) × List (List UInt8 × List (Int × Int × Int × Int × Int × List UInt8))) =>
  (c66 rf z1.1 ([116, 101, 108] : List UInt8)).bind fun (y2 : List (Int × List UInt8 × Int) × Int × Int × Int) =>
  some (y2, z1.2)
theorem er75 (rf : T.RF) (rb : T.RB) (d1 : List (Int × List UInt8 × Int) × Int × Int × Int) : T.stepF rf rb 75 d1 = r75 rf rb d1 := by kernel_rfl
theorem or75 {d1 : List (Int × List UInt8 × Int) × Int × Int × Int} {y : ((List (Int × List UInt8 × Int) × Int × Int × Int) × List (List UInt8 × List (Int × Int × Int × Int × Int × List UInt8)))} (h : r75 T.rf T.rb d1 = some y) : c75 T.rf d1 = some y := T.rf_of (f := 75) (d := d1) ((er75 T.rf T.rb d1).trans h)

/- (*bailment/bailmentref06.reader).unit -/
noncomputable def r58 (rf : T.RF) (rb : T.RB) (d1 : List (Int × List UInt8 × Int) × Int × Int × Int) : Option ((List (Int × List UInt8 × Int) × Int × Int × Int) × Bool × List UInt8 × List (List UInt8 × Int) × List UInt8 × Int × List (List UInt8 × Int) × List (List UInt8 × List (Int × Int × Int × Int × Int × List UInt8)) × List (Int × List UInt8 × Int × List (Int × Int × Int × Int × Int × List UInt8) × List (Int × Int × Int × Int × Int × List UInt8) × List (List (Int × Int × Int × Int × Int × List UInt8)))) :=
  (c59 rf d1 ([99, 111, 110, 116, 114, 97, 99, 116] : List UInt8)).bind fun (y1 : (List (Int × List UInt8 × Int) × Int × Int × Int) × Bool) =>
  bif y1.2 then
    (c62 rf y1.1).bind fun (y2 : (List (Int × List UInt8 × Int) × Int × Int × Int) × List UInt8) =>
    (c65 rf y2.1).bind fun (y3 : (List (Int × List UInt8 × Int) × Int × Int × Int) × List (List UInt8 × Int)) =>
    (c69 rf y3.1).bind fun (y4 : (List (Int × List UInt8 × Int) × Int × Int × Int) × List (Int × List UInt8 × Int × List (Int × Int × Int × Int × Int × List UInt8) × List (Int × Int × Int × Int × Int × List UInt8) × List (List (Int × Int × Int × Int × Int × List UInt8)))) =>
    some (y4.1, true, y2.2, y3.2, ([] : List UInt8), 0, [], [], y4.2)
  else
    (c66 rf y1.1 ([110, 111, 100, 101] : List UInt8)).bind fun (y5 : List (Int × List UInt8 × Int) × Int × Int × Int) =>
    (c62 rf y5).bind fun (y6 : (List (Int × List UInt8 × Int) × Int × Int × Int) × List UInt8) =>
    (c65 rf y6.1).bind fun (y7 : (List (Int × List UInt8 × Int) × Int × Int × Int) × List (List UInt8 × Int)) =>
    (c66 rf y7.1 ([114, 101, 116, 117, 114, 110, 115] : List UInt8)).bind fun (y8 : List (Int × List UInt8 × Int) × Int × Int × Int) =>
    (c66 rf y8 ([40] : List UInt8)).bind fun (y9 : List (Int × List UInt8 × Int) × Int × Int × Int) =>
    (c68 rf y9).bind fun (y10 : (List (Int × List UInt8 × Int) × Int × Int × Int) × List UInt8 × Int) =>
    (c66 rf y10.1 ([41] : List UInt8)).bind fun (y11 : List (Int × List UInt8 × Int) × Int × Int × Int) =>
    (c59 rf y11 ([99, 111, 110, 116, 114, 97, 99, 116] : List UInt8)).bind fun (y12 : (List (Int × List UInt8 × Int) × Int × Int × Int) × Bool) =>
    bif y12.2 then
      (c69 rf y12.1).bind fun (y13 : (List (Int × List UInt8 × Int) × Int × Int × Int) × List (Int × List UInt8 × Int × List (Int × Int × Int × Int × Int × List UInt8) × List (Int × Int × Int × Int × Int × List UInt8) × List (List (Int × Int × Int × Int × Int × List UInt8)))) =>
      (c59 rf y13.1 ([118, 97, 114] : List UInt8)).bind fun (y14 : (List (Int × List UInt8 × Int) × Int × Int × Int) × Bool) =>
      bif y14.2 then
        (c74 rf y14.1).bind fun (y15 : (List (Int × List UInt8 × Int) × Int × Int × Int) × List (List UInt8 × Int)) =>
        (c66 rf y15.1 ([108, 101, 116] : List UInt8)).bind fun (y16 : List (Int × List UInt8 × Int) × Int × Int × Int) =>
        (c75 rf y16).bind fun (y17 : (List (Int × List UInt8 × Int) × Int × Int × Int) × List (List UInt8 × List (Int × Int × Int × Int × Int × List UInt8))) =>
        some (y17.1, false, y6.2, y7.2, y10.2.1, y10.2.2, y15.2, y17.2, y13.2)
      else
        (c66 rf y14.1 ([108, 101, 116] : List UInt8)).bind fun (y18 : List (Int × List UInt8 × Int) × Int × Int × Int) =>
        (c75 rf y18).bind fun (y19 : (List (Int × List UInt8 × Int) × Int × Int × Int) × List (List UInt8 × List (Int × Int × Int × Int × Int × List UInt8))) =>
        some (y19.1, false, y6.2, y7.2, y10.2.1, y10.2.2, [], y19.2, y13.2)
    else
      (c59 rf y12.1 ([118, 97, 114] : List UInt8)).bind fun (y20 : (List (Int × List UInt8 × Int) × Int × Int × Int) × Bool) =>
      bif y20.2 then
        (c74 rf y20.1).bind fun (y21 : (List (Int × List UInt8 × Int) × Int × Int × Int) × List (List UInt8 × Int)) =>
        (c66 rf y21.1 ([108, 101, 116] : List UInt8)).bind fun (y22 : List (Int × List UInt8 × Int) × Int × Int × Int) =>
        (c75 rf y22).bind fun (y23 : (List (Int × List UInt8 × Int) × Int × Int × Int) × List (List UInt8 × List (Int × Int × Int × Int × Int × List UInt8))) =>
        some (y23.1, false, y6.2, y7.2, y10.2.1, y10.2.2, y21.2, y23.2, [])
      else
        (c66 rf y20.1 ([108, 101, 116] : List UInt8)).bind fun (y24 : List (Int × List UInt8 × Int) × Int × Int × Int) =>
        (c75 rf y24).bind fun (y25 : (List (Int × List UInt8 × Int) × Int × Int × Int) × List (List UInt8 × List (Int × Int × Int × Int × Int × List UInt8))) =>
        some (y25.1, false, y6.2, y7.2, y10.2.1, y10.2.2, [], y25.2, [])
theorem er58 (rf : T.RF) (rb : T.RB) (d1 : List (Int × List UInt8 × Int) × Int × Int × Int) : T.stepF rf rb 58 d1 = r58 rf rb d1 := by kernel_rfl
theorem or58 {d1 : List (Int × List UInt8 × Int) × Int × Int × Int} {y : ((List (Int × List UInt8 × Int) × Int × Int × Int) × Bool × List UInt8 × List (List UInt8 × Int) × List UInt8 × Int × List (List UInt8 × Int) × List (List UInt8 × List (Int × Int × Int × Int × Int × List UInt8)) × List (Int × List UInt8 × Int × List (Int × Int × Int × Int × Int × List UInt8) × List (Int × Int × Int × Int × Int × List UInt8) × List (List (Int × Int × Int × Int × Int × List UInt8))))} (h : r58 T.rf T.rb d1 = some y) : c58 T.rf d1 = some y := T.rf_of (f := 58) (d := d1) ((er58 T.rf T.rb d1).trans h)

/- bailmentref06.Parse loop 0 -/
noncomputable def b83q (rf : T.RF) (rb : T.RB) (d1 : List (Int × List UInt8 × Int) × Int × Int × Int) (d2 : List UInt8) (d3 : List UInt8) (d4 : List (Bool × List UInt8 × List (List UInt8 × Int) × List UInt8 × Int × List (List UInt8 × Int) × List (List UInt8 × List (Int × Int × Int × Int × Int × List UInt8)) × List (Int × List UInt8 × Int × List (Int × Int × Int × Int × Int × List UInt8) × List (Int × Int × Int × Int × Int × List UInt8) × List (List (Int × Int × Int × Int × Int × List UInt8))))) : Option ((List (Int × List UInt8 × Int) × Int × Int × Int) × List UInt8 × List UInt8 × List (Bool × List UInt8 × List (List UInt8 × Int) × List UInt8 × Int × List (List UInt8 × Int) × List (List UInt8 × List (Int × Int × Int × Int × Int × List UInt8)) × List (Int × List UInt8 × Int × List (Int × Int × Int × Int × Int × List UInt8) × List (Int × Int × Int × Int × Int × List UInt8) × List (List (Int × Int × Int × Int × Int × List UInt8))))) :=
  (c60 rf d1 ([110, 111, 100, 101] : List UInt8)).bind fun (y1 : (List (Int × List UInt8 × Int) × Int × Int × Int) × Bool) =>
  bif y1.2 then
    (c67 rf y1.1 (((d4.length : Nat) : Int))).bind fun (y2 : List (Int × List UInt8 × Int) × Int × Int × Int) =>
    agree (
      (c58 rf y2).bind fun (y3 : (List (Int × List UInt8 × Int) × Int × Int × Int) × Bool × List UInt8 × List (List UInt8 × Int) × List UInt8 × Int × List (List UInt8 × Int) × List (List UInt8 × List (Int × Int × Int × Int × Int × List UInt8)) × List (Int × List UInt8 × Int × List (Int × Int × Int × Int × Int × List UInt8) × List (Int × Int × Int × Int × Int × List UInt8) × List (List (Int × Int × Int × Int × Int × List UInt8)))) =>
      bif (Nat.ble (d4.length + 1) most) && true then
        k83 rb y3.1 d2 d3 (d4 ++ [y3.2])
      else
        none
    ) (
      (c58 rf y2).bind fun (y3 : (List (Int × List UInt8 × Int) × Int × Int × Int) × Bool × List UInt8 × List (List UInt8 × Int) × List UInt8 × Int × List (List UInt8 × Int) × List (List UInt8 × List (Int × Int × Int × Int × Int × List UInt8)) × List (Int × List UInt8 × Int × List (Int × Int × Int × Int × Int × List UInt8) × List (Int × Int × Int × Int × Int × List UInt8) × List (List (Int × Int × Int × Int × Int × List UInt8)))) =>
      agN 1 (
        bif (Nat.ble (d4.length + 1) most) && true then
          k83 rb y3.1 d2 d3 (d4 ++ [y3.2])
        else
          none
      )
    )
  else
    (c60 rf y1.1 ([99, 111, 110, 116, 114, 97, 99, 116] : List UInt8)).bind fun (y4 : (List (Int × List UInt8 × Int) × Int × Int × Int) × Bool) =>
    bif y4.2 then
      (c67 rf y4.1 (((d4.length : Nat) : Int))).bind fun (y5 : List (Int × List UInt8 × Int) × Int × Int × Int) =>
      agree (
        (c58 rf y5).bind fun (y6 : (List (Int × List UInt8 × Int) × Int × Int × Int) × Bool × List UInt8 × List (List UInt8 × Int) × List UInt8 × Int × List (List UInt8 × Int) × List (List UInt8 × List (Int × Int × Int × Int × Int × List UInt8)) × List (Int × List UInt8 × Int × List (Int × Int × Int × Int × Int × List UInt8) × List (Int × Int × Int × Int × Int × List UInt8) × List (List (Int × Int × Int × Int × Int × List UInt8)))) =>
        bif (Nat.ble (d4.length + 1) most) && true then
          k83 rb y6.1 d2 d3 (d4 ++ [y6.2])
        else
          none
      ) (
        (c58 rf y5).bind fun (y6 : (List (Int × List UInt8 × Int) × Int × Int × Int) × Bool × List UInt8 × List (List UInt8 × Int) × List UInt8 × Int × List (List UInt8 × Int) × List (List UInt8 × List (Int × Int × Int × Int × Int × List UInt8)) × List (Int × List UInt8 × Int × List (Int × Int × Int × Int × Int × List UInt8) × List (Int × Int × Int × Int × Int × List UInt8) × List (List (Int × Int × Int × Int × Int × List UInt8)))) =>
        agN 1 (
          bif (Nat.ble (d4.length + 1) most) && true then
            k83 rb y6.1 d2 d3 (d4 ++ [y6.2])
          else
            none
        )
      )
    else
      some (y4.1, d2, d3, d4)
noncomputable def b83 (rf : T.RF) (rb : T.RB) (d1 : List (Int × List UInt8 × Int) × Int × Int × Int) (d2 : List UInt8) (d3 : List UInt8) (d4 : List (Bool × List UInt8 × List (List UInt8 × Int) × List UInt8 × Int × List (List UInt8 × Int) × List (List UInt8 × List (Int × Int × Int × Int × Int × List UInt8)) × List (Int × List UInt8 × Int × List (Int × Int × Int × Int × Int × List UInt8) × List (Int × Int × Int × Int × Int × List UInt8) × List (List (Int × Int × Int × Int × Int × List UInt8))))) : Option ((List (Int × List UInt8 × Int) × Int × Int × Int) × List UInt8 × List UInt8 × List (Bool × List UInt8 × List (List UInt8 × Int) × List UInt8 × Int × List (List UInt8 × Int) × List (List UInt8 × List (Int × Int × Int × Int × Int × List UInt8)) × List (Int × List UInt8 × Int × List (Int × Int × Int × Int × Int × List UInt8) × List (Int × Int × Int × Int × Int × List UInt8) × List (List (Int × Int × Int × Int × Int × List UInt8))))) :=
  (c60 rf d1 ([110, 111, 100, 101] : List UInt8)).bind fun (y1 : (List (Int × List UInt8 × Int) × Int × Int × Int) × Bool) =>
  bif y1.2 then
    (c67 rf y1.1 (((d4.length : Nat) : Int))).bind fun (y2 : List (Int × List UInt8 × Int) × Int × Int × Int) =>
    (c58 rf y2).bind fun (y3 : (List (Int × List UInt8 × Int) × Int × Int × Int) × Bool × List UInt8 × List (List UInt8 × Int) × List UInt8 × Int × List (List UInt8 × Int) × List (List UInt8 × List (Int × Int × Int × Int × Int × List UInt8)) × List (Int × List UInt8 × Int × List (Int × Int × Int × Int × Int × List UInt8) × List (Int × Int × Int × Int × Int × List UInt8) × List (List (Int × Int × Int × Int × Int × List UInt8)))) =>
    bif (Nat.ble (d4.length + 1) most) && true then
      k83 rb y3.1 d2 d3 (d4 ++ [y3.2])
    else
      none
  else
    (c60 rf y1.1 ([99, 111, 110, 116, 114, 97, 99, 116] : List UInt8)).bind fun (y4 : (List (Int × List UInt8 × Int) × Int × Int × Int) × Bool) =>
    bif y4.2 then
      (c67 rf y4.1 (((d4.length : Nat) : Int))).bind fun (y5 : List (Int × List UInt8 × Int) × Int × Int × Int) =>
      (c58 rf y5).bind fun (y6 : (List (Int × List UInt8 × Int) × Int × Int × Int) × Bool × List UInt8 × List (List UInt8 × Int) × List UInt8 × Int × List (List UInt8 × Int) × List (List UInt8 × List (Int × Int × Int × Int × Int × List UInt8)) × List (Int × List UInt8 × Int × List (Int × Int × Int × Int × Int × List UInt8) × List (Int × Int × Int × Int × Int × List UInt8) × List (List (Int × Int × Int × Int × Int × List UInt8)))) =>
      bif (Nat.ble (d4.length + 1) most) && true then
        k83 rb y6.1 d2 d3 (d4 ++ [y6.2])
      else
        none
    else
      some (y4.1, d2, d3, d4)
theorem eb83 (rf : T.RF) (rb : T.RB) (d1 : List (Int × List UInt8 × Int) × Int × Int × Int) (d2 : List UInt8) (d3 : List UInt8) (d4 : List (Bool × List UInt8 × List (List UInt8 × Int) × List UInt8 × Int × List (List UInt8 × Int) × List (List UInt8 × List (Int × Int × Int × Int × Int × List UInt8)) × List (Int × List UInt8 × Int × List (Int × Int × Int × Int × Int × List UInt8) × List (Int × Int × Int × Int × Int × List UInt8) × List (List (Int × Int × Int × Int × Int × List UInt8))))) : T.stepB rf rb 83 (d1, d2, d3, d4) = b83q rf rb d1 d2 d3 d4 := by kernel_rfl
theorem sb83 (rf : T.RF) (rb : T.RB) (d1 : List (Int × List UInt8 × Int) × Int × Int × Int) (d2 : List UInt8) (d3 : List UInt8) (d4 : List (Bool × List UInt8 × List (List UInt8 × Int) × List UInt8 × Int × List (List UInt8 × Int) × List (List UInt8 × List (Int × Int × Int × Int × Int × List UInt8)) × List (Int × List UInt8 × Int × List (Int × Int × Int × Int × Int × List UInt8) × List (Int × Int × Int × Int × Int × List UInt8) × List (List (Int × Int × Int × Int × Int × List UInt8))))) : b83q rf rb d1 d2 d3 d4 = b83 rf rb d1 d2 d3 d4 := by
  unfold b83q b83; simp only [agN_eq, agree_self, agree_swap]
theorem ob83 {d1 : List (Int × List UInt8 × Int) × Int × Int × Int} {d2 : List UInt8} {d3 : List UInt8} {d4 : List (Bool × List UInt8 × List (List UInt8 × Int) × List UInt8 × Int × List (List UInt8 × Int) × List (List UInt8 × List (Int × Int × Int × Int × Int × List UInt8)) × List (Int × List UInt8 × Int × List (Int × Int × Int × Int × Int × List UInt8) × List (Int × Int × Int × Int × Int × List UInt8) × List (List (Int × Int × Int × Int × Int × List UInt8))))} {y : ((List (Int × List UInt8 × Int) × Int × Int × Int) × List UInt8 × List UInt8 × List (Bool × List UInt8 × List (List UInt8 × Int) × List UInt8 × Int × List (List UInt8 × Int) × List (List UInt8 × List (Int × Int × Int × Int × Int × List UInt8)) × List (Int × List UInt8 × Int × List (Int × Int × Int × Int × Int × List UInt8) × List (Int × Int × Int × Int × Int × List UInt8) × List (List (Int × Int × Int × Int × Int × List UInt8)))))} (h : b83 T.rf T.rb d1 d2 d3 d4 = some y) : k83 T.rb d1 d2 d3 d4 = some y := T.rb_of (κ := 83) (d := (d1, d2, d3, d4)) (((eb83 T.rf T.rb d1 d2 d3 d4).trans (sb83 T.rf T.rb d1 d2 d3 d4)).trans h)

/- bailmentref06.Parse tail 15 -/
noncomputable def b84q (rf : T.RF) (rb : T.RB) (d1 : List UInt8) (d2 : List UInt8) (d3 : Int × Int) (d4 : List (Int × List UInt8 × Int) × Int × Int × Int) (d5 : List UInt8) (d6 : List UInt8) (d7 : List (Bool × List UInt8 × List (List UInt8 × Int) × List UInt8 × Int × List (List UInt8 × Int) × List (List UInt8 × List (Int × Int × Int × Int × Int × List UInt8)) × List (Int × List UInt8 × Int × List (Int × Int × Int × Int × Int × List UInt8) × List (Int × Int × Int × Int × Int × List UInt8) × List (List (Int × Int × Int × Int × Int × List UInt8))))) (d8 : List (Bool × List UInt8 × List (List UInt8 × Int) × List UInt8 × Int × List (List UInt8 × Int) × List (List UInt8 × List (Int × Int × Int × Int × Int × List UInt8)) × List (Int × List UInt8 × Int × List (Int × Int × Int × Int × Int × List UInt8) × List (Int × Int × Int × Int × Int × List UInt8) × List (List (Int × Int × Int × Int × Int × List UInt8))))) : Option ((List UInt8 × List UInt8 × (Int × Int) × (List (Int × List UInt8 × Int) × Int × Int × Int) × List UInt8 × List UInt8 × List (Bool × List UInt8 × List (List UInt8 × Int) × List UInt8 × Int × List (List UInt8 × Int) × List (List UInt8 × List (Int × Int × Int × Int × Int × List UInt8)) × List (Int × List UInt8 × Int × List (Int × Int × Int × Int × Int × List UInt8) × List (Int × Int × Int × Int × Int × List UInt8) × List (List (Int × Int × Int × Int × Int × List UInt8)))) × List (Bool × List UInt8 × List (List UInt8 × Int) × List UInt8 × Int × List (List UInt8 × Int) × List (List UInt8 × List (Int × Int × Int × Int × Int × List UInt8)) × List (Int × List UInt8 × Int × List (Int × Int × Int × Int × Int × List UInt8) × List (Int × Int × Int × Int × Int × List UInt8) × List (List (Int × Int × Int × Int × Int × List UInt8)))) × List (Bool × List UInt8 × List (List UInt8 × Int) × List UInt8 × Int × List (List UInt8 × Int) × List (List UInt8 × List (Int × Int × Int × Int × Int × List UInt8)) × List (Int × List UInt8 × Int × List (Int × Int × Int × Int × Int × List UInt8) × List (Int × Int × Int × Int × Int × List UInt8) × List (List (Int × Int × Int × Int × Int × List UInt8))))) ⊕ (List UInt8 × List UInt8 × (Int × Int) × (List (Int × List UInt8 × Int) × Int × Int × Int) × List UInt8 × List UInt8 × List (Bool × List UInt8 × List (List UInt8 × Int) × List UInt8 × Int × List (List UInt8 × Int) × List (List UInt8 × List (Int × Int × Int × Int × Int × List UInt8)) × List (Int × List UInt8 × Int × List (Int × Int × Int × Int × Int × List UInt8) × List (Int × Int × Int × Int × Int × List UInt8) × List (List (Int × Int × Int × Int × Int × List UInt8)))) × List (Bool × List UInt8 × List (List UInt8 × Int) × List UInt8 × Int × List (List UInt8 × Int) × List (List UInt8 × List (Int × Int × Int × Int × Int × List UInt8)) × List (Int × List UInt8 × Int × List (Int × Int × Int × Int × Int × List UInt8) × List (Int × Int × Int × Int × Int × List UInt8) × List (List (Int × Int × Int × Int × Int × List UInt8)))))) :=
  (c61 rf d4).bind fun (y1 : (List (Int × List UInt8 × Int) × Int × Int × Int) × Bool) =>
  bif y1.2 then
    agN 1 (
      bif decide (y1.1.2.1 < (((y1.1.1.length : Nat) : Int))) then
        (c64 rf y1.1 5).bind fun (y2 : List (Int × List UInt8 × Int) × Int × Int × Int) =>
        (c61 rf y2).bind fun (y3 : (List (Int × List UInt8 × Int) × Int × Int × Int) × Bool) =>
        bif !y3.2 then
          some (.inl (([] : List UInt8), ([] : List UInt8), y3.1.2.2, y3.1, d5, d6, d7, d8, []))
        else
          some (.inr (d5, d6, (0, 0), y3.1, d5, d6, d7, d8))
      else
        (c61 rf y1.1).bind fun (y4 : (List (Int × List UInt8 × Int) × Int × Int × Int) × Bool) =>
        bif !y4.2 then
          some (.inl (([] : List UInt8), ([] : List UInt8), y4.1.2.2, y4.1, d5, d6, d7, d8, []))
        else
          some (.inr (d5, d6, (0, 0), y4.1, d5, d6, d7, d8))
    )
  else
    agN 1 (
      (c61 rf y1.1).bind fun (y5 : (List (Int × List UInt8 × Int) × Int × Int × Int) × Bool) =>
      bif !y5.2 then
        some (.inl (([] : List UInt8), ([] : List UInt8), y5.1.2.2, y5.1, d5, d6, d7, d8, []))
      else
        some (.inr (d5, d6, (0, 0), y5.1, d5, d6, d7, d8))
    )
noncomputable def b84 (rf : T.RF) (rb : T.RB) (d1 : List UInt8) (d2 : List UInt8) (d3 : Int × Int) (d4 : List (Int × List UInt8 × Int) × Int × Int × Int) (d5 : List UInt8) (d6 : List UInt8) (d7 : List (Bool × List UInt8 × List (List UInt8 × Int) × List UInt8 × Int × List (List UInt8 × Int) × List (List UInt8 × List (Int × Int × Int × Int × Int × List UInt8)) × List (Int × List UInt8 × Int × List (Int × Int × Int × Int × Int × List UInt8) × List (Int × Int × Int × Int × Int × List UInt8) × List (List (Int × Int × Int × Int × Int × List UInt8))))) (d8 : List (Bool × List UInt8 × List (List UInt8 × Int) × List UInt8 × Int × List (List UInt8 × Int) × List (List UInt8 × List (Int × Int × Int × Int × Int × List UInt8)) × List (Int × List UInt8 × Int × List (Int × Int × Int × Int × Int × List UInt8) × List (Int × Int × Int × Int × Int × List UInt8) × List (List (Int × Int × Int × Int × Int × List UInt8))))) : Option ((List UInt8 × List UInt8 × (Int × Int) × (List (Int × List UInt8 × Int) × Int × Int × Int) × List UInt8 × List UInt8 × List (Bool × List UInt8 × List (List UInt8 × Int) × List UInt8 × Int × List (List UInt8 × Int) × List (List UInt8 × List (Int × Int × Int × Int × Int × List UInt8)) × List (Int × List UInt8 × Int × List (Int × Int × Int × Int × Int × List UInt8) × List (Int × Int × Int × Int × Int × List UInt8) × List (List (Int × Int × Int × Int × Int × List UInt8)))) × List (Bool × List UInt8 × List (List UInt8 × Int) × List UInt8 × Int × List (List UInt8 × Int) × List (List UInt8 × List (Int × Int × Int × Int × Int × List UInt8)) × List (Int × List UInt8 × Int × List (Int × Int × Int × Int × Int × List UInt8) × List (Int × Int × Int × Int × Int × List UInt8) × List (List (Int × Int × Int × Int × Int × List UInt8)))) × List (Bool × List UInt8 × List (List UInt8 × Int) × List UInt8 × Int × List (List UInt8 × Int) × List (List UInt8 × List (Int × Int × Int × Int × Int × List UInt8)) × List (Int × List UInt8 × Int × List (Int × Int × Int × Int × Int × List UInt8) × List (Int × Int × Int × Int × Int × List UInt8) × List (List (Int × Int × Int × Int × Int × List UInt8))))) ⊕ (List UInt8 × List UInt8 × (Int × Int) × (List (Int × List UInt8 × Int) × Int × Int × Int) × List UInt8 × List UInt8 × List (Bool × List UInt8 × List (List UInt8 × Int) × List UInt8 × Int × List (List UInt8 × Int) × List (List UInt8 × List (Int × Int × Int × Int × Int × List UInt8)) × List (Int × List UInt8 × Int × List (Int × Int × Int × Int × Int × List UInt8) × List (Int × Int × Int × Int × Int × List UInt8) × List (List (Int × Int × Int × Int × Int × List UInt8)))) × List (Bool × List UInt8 × List (List UInt8 × Int) × List UInt8 × Int × List (List UInt8 × Int) × List (List UInt8 × List (Int × Int × Int × Int × Int × List UInt8)) × List (Int × List UInt8 × Int × List (Int × Int × Int × Int × Int × List UInt8) × List (Int × Int × Int × Int × Int × List UInt8) × List (List (Int × Int × Int × Int × Int × List UInt8)))))) :=
  (c61 rf d4).bind fun (y1 : (List (Int × List UInt8 × Int) × Int × Int × Int) × Bool) =>
  bif y1.2 then
    bif decide (y1.1.2.1 < (((y1.1.1.length : Nat) : Int))) then
      (c64 rf y1.1 5).bind fun (y2 : List (Int × List UInt8 × Int) × Int × Int × Int) =>
      (c61 rf y2).bind fun (y3 : (List (Int × List UInt8 × Int) × Int × Int × Int) × Bool) =>
      bif !y3.2 then
        some (.inl (([] : List UInt8), ([] : List UInt8), y3.1.2.2, y3.1, d5, d6, d7, d8, []))
      else
        some (.inr (d5, d6, (0, 0), y3.1, d5, d6, d7, d8))
    else
      (c61 rf y1.1).bind fun (y4 : (List (Int × List UInt8 × Int) × Int × Int × Int) × Bool) =>
      bif !y4.2 then
        some (.inl (([] : List UInt8), ([] : List UInt8), y4.1.2.2, y4.1, d5, d6, d7, d8, []))
      else
        some (.inr (d5, d6, (0, 0), y4.1, d5, d6, d7, d8))
  else
    (c61 rf y1.1).bind fun (y5 : (List (Int × List UInt8 × Int) × Int × Int × Int) × Bool) =>
    bif !y5.2 then
      some (.inl (([] : List UInt8), ([] : List UInt8), y5.1.2.2, y5.1, d5, d6, d7, d8, []))
    else
      some (.inr (d5, d6, (0, 0), y5.1, d5, d6, d7, d8))
theorem eb84 (rf : T.RF) (rb : T.RB) (d1 : List UInt8) (d2 : List UInt8) (d3 : Int × Int) (d4 : List (Int × List UInt8 × Int) × Int × Int × Int) (d5 : List UInt8) (d6 : List UInt8) (d7 : List (Bool × List UInt8 × List (List UInt8 × Int) × List UInt8 × Int × List (List UInt8 × Int) × List (List UInt8 × List (Int × Int × Int × Int × Int × List UInt8)) × List (Int × List UInt8 × Int × List (Int × Int × Int × Int × Int × List UInt8) × List (Int × Int × Int × Int × Int × List UInt8) × List (List (Int × Int × Int × Int × Int × List UInt8))))) (d8 : List (Bool × List UInt8 × List (List UInt8 × Int) × List UInt8 × Int × List (List UInt8 × Int) × List (List UInt8 × List (Int × Int × Int × Int × Int × List UInt8)) × List (Int × List UInt8 × Int × List (Int × Int × Int × Int × Int × List UInt8) × List (Int × Int × Int × Int × Int × List UInt8) × List (List (Int × Int × Int × Int × Int × List UInt8))))) : T.stepB rf rb 84 (d1, d2, d3, d4, d5, d6, d7, d8) = b84q rf rb d1 d2 d3 d4 d5 d6 d7 d8 := by kernel_rfl
theorem sb84 (rf : T.RF) (rb : T.RB) (d1 : List UInt8) (d2 : List UInt8) (d3 : Int × Int) (d4 : List (Int × List UInt8 × Int) × Int × Int × Int) (d5 : List UInt8) (d6 : List UInt8) (d7 : List (Bool × List UInt8 × List (List UInt8 × Int) × List UInt8 × Int × List (List UInt8 × Int) × List (List UInt8 × List (Int × Int × Int × Int × Int × List UInt8)) × List (Int × List UInt8 × Int × List (Int × Int × Int × Int × Int × List UInt8) × List (Int × Int × Int × Int × Int × List UInt8) × List (List (Int × Int × Int × Int × Int × List UInt8))))) (d8 : List (Bool × List UInt8 × List (List UInt8 × Int) × List UInt8 × Int × List (List UInt8 × Int) × List (List UInt8 × List (Int × Int × Int × Int × Int × List UInt8)) × List (Int × List UInt8 × Int × List (Int × Int × Int × Int × Int × List UInt8) × List (Int × Int × Int × Int × Int × List UInt8) × List (List (Int × Int × Int × Int × Int × List UInt8))))) : b84q rf rb d1 d2 d3 d4 d5 d6 d7 d8 = b84 rf rb d1 d2 d3 d4 d5 d6 d7 d8 := by
  unfold b84q b84; simp only [agN_eq, agree_self, agree_swap]
theorem ob84 {d1 : List UInt8} {d2 : List UInt8} {d3 : Int × Int} {d4 : List (Int × List UInt8 × Int) × Int × Int × Int} {d5 : List UInt8} {d6 : List UInt8} {d7 : List (Bool × List UInt8 × List (List UInt8 × Int) × List UInt8 × Int × List (List UInt8 × Int) × List (List UInt8 × List (Int × Int × Int × Int × Int × List UInt8)) × List (Int × List UInt8 × Int × List (Int × Int × Int × Int × Int × List UInt8) × List (Int × Int × Int × Int × Int × List UInt8) × List (List (Int × Int × Int × Int × Int × List UInt8))))} {d8 : List (Bool × List UInt8 × List (List UInt8 × Int) × List UInt8 × Int × List (List UInt8 × Int) × List (List UInt8 × List (Int × Int × Int × Int × Int × List UInt8)) × List (Int × List UInt8 × Int × List (Int × Int × Int × Int × Int × List UInt8) × List (Int × Int × Int × Int × Int × List UInt8) × List (List (Int × Int × Int × Int × Int × List UInt8))))} {y : ((List UInt8 × List UInt8 × (Int × Int) × (List (Int × List UInt8 × Int) × Int × Int × Int) × List UInt8 × List UInt8 × List (Bool × List UInt8 × List (List UInt8 × Int) × List UInt8 × Int × List (List UInt8 × Int) × List (List UInt8 × List (Int × Int × Int × Int × Int × List UInt8)) × List (Int × List UInt8 × Int × List (Int × Int × Int × Int × Int × List UInt8) × List (Int × Int × Int × Int × Int × List UInt8) × List (List (Int × Int × Int × Int × Int × List UInt8)))) × List (Bool × List UInt8 × List (List UInt8 × Int) × List UInt8 × Int × List (List UInt8 × Int) × List (List UInt8 × List (Int × Int × Int × Int × Int × List UInt8)) × List (Int × List UInt8 × Int × List (Int × Int × Int × Int × Int × List UInt8) × List (Int × Int × Int × Int × Int × List UInt8) × List (List (Int × Int × Int × Int × Int × List UInt8)))) × List (Bool × List UInt8 × List (List UInt8 × Int) × List UInt8 × Int × List (List UInt8 × Int) × List (List UInt8 × List (Int × Int × Int × Int × Int × List UInt8)) × List (Int × List UInt8 × Int × List (Int × Int × Int × Int × Int × List UInt8) × List (Int × Int × Int × Int × Int × List UInt8) × List (List (Int × Int × Int × Int × Int × List UInt8))))) ⊕ (List UInt8 × List UInt8 × (Int × Int) × (List (Int × List UInt8 × Int) × Int × Int × Int) × List UInt8 × List UInt8 × List (Bool × List UInt8 × List (List UInt8 × Int) × List UInt8 × Int × List (List UInt8 × Int) × List (List UInt8 × List (Int × Int × Int × Int × Int × List UInt8)) × List (Int × List UInt8 × Int × List (Int × Int × Int × Int × Int × List UInt8) × List (Int × Int × Int × Int × Int × List UInt8) × List (List (Int × Int × Int × Int × Int × List UInt8)))) × List (Bool × List UInt8 × List (List UInt8 × Int) × List UInt8 × Int × List (List UInt8 × Int) × List (List UInt8 × List (Int × Int × Int × Int × Int × List UInt8)) × List (Int × List UInt8 × Int × List (Int × Int × Int × Int × Int × List UInt8) × List (Int × Int × Int × Int × Int × List UInt8) × List (List (Int × Int × Int × Int × Int × List UInt8))))))} (h : b84 T.rf T.rb d1 d2 d3 d4 d5 d6 d7 d8 = some y) : k84 T.rb d1 d2 d3 d4 d5 d6 d7 d8 = some y := T.rb_of (κ := 84) (d := (d1, d2, d3, d4, d5, d6, d7, d8)) (((eb84 T.rf T.rb d1 d2 d3 d4 d5 d6 d7 d8).trans (sb84 T.rf T.rb d1 d2 d3 d4 d5 d6 d7 d8)).trans h)

/- bailmentref06.Parse -/
noncomputable def r53 (rf : T.RF) (rb : T.RB) (d1 : List UInt8) : Option ((List (Bool × List UInt8 × List (List UInt8 × Int) × List UInt8 × Int × List (List UInt8 × Int) × List (List UInt8 × List (Int × Int × Int × Int × Int × List UInt8)) × List (Int × List UInt8 × Int × List (Int × Int × Int × Int × Int × List UInt8) × List (Int × Int × Int × Int × Int × List UInt8) × List (List (Int × Int × Int × Int × Int × List UInt8)))) × List UInt8 × List UInt8) × Int × Int) :=
  (c3 rf d1).bind fun (y1 : List (Int × List UInt8 × Int) × Int × Int) =>
  bif y1.2.1 != 0 then
    some (([], ([] : List UInt8), ([] : List UInt8)), y1.2)
  else
    (k83 rb (y1.1, 0, 0, 0) ([] : List UInt8) ([] : List UInt8) []).bind fun (z2 : (List (Int × List UInt8 × Int) × Int × Int × Int) × List UInt8 × List UInt8 × List (Bool × List UInt8 × List (List UInt8 × Int) × List UInt8 × Int × List (List UInt8 × Int) × List (List UInt8 × List (Int × Int × Int × Int × Int × List UInt8)) × List (Int × List UInt8 × Int × List (Int × Int × Int × Int × Int × List UInt8) × List (Int × Int × Int × Int × Int × List UInt8) × List (List (Int × Int × Int × Int × Int × List UInt8))))) =>
    (c66 rf z2.1 ([109, 97, 105, 110] : List UInt8)).bind fun (y3 : List (Int × List UInt8 × Int) × Int × Int × Int) =>
    (c62 rf y3).bind fun (y4 : (List (Int × List UInt8 × Int) × Int × Int × Int) × List UInt8) =>
    (c66 rf y4.1 ([59] : List UInt8)).bind fun (y5 : List (Int × List UInt8 × Int) × Int × Int × Int) =>
    (c59 rf y5 ([102, 97, 108, 108, 98, 97, 99, 107] : List UInt8)).bind fun (y6 : (List (Int × List UInt8 × Int) × Int × Int × Int) × Bool) =>
    bif y6.2 then
      (c62 rf y6.1).bind fun (y7 : (List (Int × List UInt8 × Int) × Int × Int × Int) × List UInt8) =>
      (c66 rf y7.1 ([59] : List UInt8)).bind fun (y8 : List (Int × List UInt8 × Int) × Int × Int × Int) =>
      (k84 rb ([] : List UInt8) ([] : List UInt8) (0, 0) y8 y4.2 y7.2 [] z2.2.2.2).bind fun (z9 : (List UInt8 × List UInt8 × (Int × Int) × (List (Int × List UInt8 × Int) × Int × Int × Int) × List UInt8 × List UInt8 × List (Bool × List UInt8 × List (List UInt8 × Int) × List UInt8 × Int × List (List UInt8 × Int) × List (List UInt8 × List (Int × Int × Int × Int × Int × List UInt8)) × List (Int × List UInt8 × Int × List (Int × Int × Int × Int × Int × List UInt8) × List (Int × Int × Int × Int × Int × List UInt8) × List (List (Int × Int × Int × Int × Int × List UInt8)))) × List (Bool × List UInt8 × List (List UInt8 × Int) × List UInt8 × Int × List (List UInt8 × Int) × List (List UInt8 × List (Int × Int × Int × Int × Int × List UInt8)) × List (Int × List UInt8 × Int × List (Int × Int × Int × Int × Int × List UInt8) × List (Int × Int × Int × Int × Int × List UInt8) × List (List (Int × Int × Int × Int × Int × List UInt8)))) × List (Bool × List UInt8 × List (List UInt8 × Int) × List UInt8 × Int × List (List UInt8 × Int) × List (List UInt8 × List (Int × Int × Int × Int × Int × List UInt8)) × List (Int × List UInt8 × Int × List (Int × Int × Int × Int × Int × List UInt8) × List (Int × Int × Int × Int × Int × List UInt8) × List (List (Int × Int × Int × Int × Int × List UInt8))))) ⊕ (List UInt8 × List UInt8 × (Int × Int) × (List (Int × List UInt8 × Int) × Int × Int × Int) × List UInt8 × List UInt8 × List (Bool × List UInt8 × List (List UInt8 × Int) × List UInt8 × Int × List (List UInt8 × Int) × List (List UInt8 × List (Int × Int × Int × Int × Int × List UInt8)) × List (Int × List UInt8 × Int × List (Int × Int × Int × Int × Int × List UInt8) × List (Int × Int × Int × Int × Int × List UInt8) × List (List (Int × Int × Int × Int × Int × List UInt8)))) × List (Bool × List UInt8 × List (List UInt8 × Int) × List UInt8 × Int × List (List UInt8 × Int) × List (List UInt8 × List (Int × Int × Int × Int × Int × List UInt8)) × List (Int × List UInt8 × Int × List (Int × Int × Int × Int × Int × List UInt8) × List (Int × Int × Int × Int × Int × List UInt8) × List (List (Int × Int × Int × Int × Int × List UInt8)))))) =>
      match z9 with
      | .inl u10 =>
        some ((u10.2.2.2.2.2.2.2.2, u10.1, u10.2.1), u10.2.2.1)
      | .inr w11 =>
        some ((w11.2.2.2.2.2.2.2, w11.1, w11.2.1), w11.2.2.1)
    else
      (k84 rb ([] : List UInt8) ([] : List UInt8) (0, 0) y6.1 y4.2 z2.2.2.1 [] z2.2.2.2).bind fun (z12 : (List UInt8 × List UInt8 × (Int × Int) × (List (Int × List UInt8 × Int) × Int × Int × Int) × List UInt8 × List UInt8 × List (Bool × List UInt8 × List (List UInt8 × Int) × List UInt8 × Int × List (List UInt8 × Int) × List (List UInt8 × List (Int × Int × Int × Int × Int × List UInt8)) × List (Int × List UInt8 × Int × List (Int × Int × Int × Int × Int × List UInt8) × List (Int × Int × Int × Int × Int × List UInt8) × List (List (Int × Int × Int × Int × Int × List UInt8)))) × List (Bool × List UInt8 × List (List UInt8 × Int) × List UInt8 × Int × List (List UInt8 × Int) × List (List UInt8 × List (Int × Int × Int × Int × Int × List UInt8)) × List (Int × List UInt8 × Int × List (Int × Int × Int × Int × Int × List UInt8) × List (Int × Int × Int × Int × Int × List UInt8) × List (List (Int × Int × Int × Int × Int × List UInt8)))) × List (Bool × List UInt8 × List (List UInt8 × Int) × List UInt8 × Int × List (List UInt8 × Int) × List (List UInt8 × List (Int × Int × Int × Int × Int × List UInt8)) × List (Int × List UInt8 × Int × List (Int × Int × Int × Int × Int × List UInt8) × List (Int × Int × Int × Int × Int × List UInt8) × List (List (Int × Int × Int × Int × Int × List UInt8))))) ⊕ (List UInt8 × List UInt8 × (Int × Int) × (List (Int × List UInt8 × Int) × Int × Int × Int) × List UInt8 × List UInt8 × List (Bool × List UInt8 × List (List UInt8 × Int) × List UInt8 × Int × List (List UInt8 × Int) × List (List UInt8 × List (Int × Int × Int × Int × Int × List UInt8)) × List (Int × List UInt8 × Int × List (Int × Int × Int × Int × Int × List UInt8) × List (Int × Int × Int × Int × Int × List UInt8) × List (List (Int × Int × Int × Int × Int × List UInt8)))) × List (Bool × List UInt8 × List (List UInt8 × Int) × List UInt8 × Int × List (List UInt8 × Int) × List (List UInt8 × List (Int × Int × Int × Int × Int × List UInt8)) × List (Int × List UInt8 × Int × List (Int × Int × Int × Int × Int × List UInt8) × List (Int × Int × Int × Int × Int × List UInt8) × List (List (Int × Int × Int × Int × Int × List UInt8)))))) =>
      match z12 with
      | .inl u13 =>
        some ((u13.2.2.2.2.2.2.2.2, u13.1, u13.2.1), u13.2.2.1)
      | .inr w14 =>
        some ((w14.2.2.2.2.2.2.2, w14.1, w14.2.1), w14.2.2.1)
theorem er53 (rf : T.RF) (rb : T.RB) (d1 : List UInt8) : T.stepF rf rb 53 d1 = r53 rf rb d1 := by kernel_rfl
theorem or53 {d1 : List UInt8} {y : ((List (Bool × List UInt8 × List (List UInt8 × Int) × List UInt8 × Int × List (List UInt8 × Int) × List (List UInt8 × List (Int × Int × Int × Int × Int × List UInt8)) × List (Int × List UInt8 × Int × List (Int × Int × Int × Int × Int × List UInt8) × List (Int × Int × Int × Int × Int × List UInt8) × List (List (Int × Int × Int × Int × Int × List UInt8)))) × List UInt8 × List UInt8) × Int × Int)} (h : r53 T.rf T.rb d1 = some y) : c53 T.rf d1 = some y := T.rf_of (f := 53) (d := d1) ((er53 T.rf T.rb d1).trans h)

/- inits.unit loop 0 -/
noncomputable def b91 (rf : T.RF) (rb : T.RB) (d1 : List (List (Int × Int × Int × Int × Int × List UInt8))) (d2 : List (List UInt8 × List (Int × Int × Int × Int × Int × List UInt8))) (d3 : Int) (d4 : Int) : Option (List (List (Int × Int × Int × Int × Int × List UInt8))) :=
  bif decide (d4 < d3) then
    bif inb d4 d2.length then
      (nth d2 d4.toNat).bind fun (x1 : List UInt8 × List (Int × Int × Int × Int × Int × List UInt8)) =>
      bif (((x1.2.length : Nat) : Int)) == 0 then
        bif (Nat.ble (d1.length + 1) most) && true then
          k91 rb (d1 ++ [[(0, 0, 0, 0, 0, ([] : List UInt8))]]) d2 d3 (IntKind.i64.wrap (d4 + 1))
        else
          none
      else
      bif (Nat.ble (d1.length + 1) most) && true then
        k91 rb (d1 ++ [x1.2]) d2 d3 (IntKind.i64.wrap (d4 + 1))
      else
        none
    else
      none
  else
    some d1
theorem eb91 (rf : T.RF) (rb : T.RB) (d1 : List (List (Int × Int × Int × Int × Int × List UInt8))) (d2 : List (List UInt8 × List (Int × Int × Int × Int × Int × List UInt8))) (d3 : Int) (d4 : Int) : T.stepB rf rb 91 (d1, d2, d3, d4) = b91 rf rb d1 d2 d3 d4 := by kernel_rfl
theorem ob91 {d1 : List (List (Int × Int × Int × Int × Int × List UInt8))} {d2 : List (List UInt8 × List (Int × Int × Int × Int × Int × List UInt8))} {d3 : Int} {d4 : Int} {y : (List (List (Int × Int × Int × Int × Int × List UInt8)))} (h : b91 T.rf T.rb d1 d2 d3 d4 = some y) : k91 T.rb d1 d2 d3 d4 = some y := T.rb_of (κ := 91) (d := (d1, d2, d3, d4)) ((eb91 T.rf T.rb d1 d2 d3 d4).trans h)

/- inits.unit loop 2 -/
noncomputable def b92 (rf : T.RF) (rb : T.RB) (d1 : List (List (Int × Int × Int × Int × Int × List UInt8))) (d2 : List (Int × List UInt8 × Int × List (Int × Int × Int × Int × Int × List UInt8) × List (Int × Int × Int × Int × Int × List UInt8) × List (List (Int × Int × Int × Int × Int × List UInt8)))) (d3 : Int) (d4 : Int) : Option (List (List (Int × Int × Int × Int × Int × List UInt8))) :=
  bif decide (d4 < d3) then
    bif inb d4 d2.length then
      (nth d2 d4.toNat).bind fun (x1 : Int × List UInt8 × Int × List (Int × Int × Int × Int × Int × List UInt8) × List (Int × Int × Int × Int × Int × List UInt8) × List (List (Int × Int × Int × Int × Int × List UInt8))) =>
      bif (Nat.ble (d1.length + 2) most) && true then
        bif (Nat.ble ((d1 ++ [x1.2.2.2.1, x1.2.2.2.2.1]).length + x1.2.2.2.2.2.length) most) && true then
          k92 rb ((d1 ++ [x1.2.2.2.1, x1.2.2.2.2.1]) ++ x1.2.2.2.2.2) d2 d3 (IntKind.i64.wrap (d4 + 1))
        else
          none
      else
        none
    else
      none
  else
    some d1
theorem eb92 (rf : T.RF) (rb : T.RB) (d1 : List (List (Int × Int × Int × Int × Int × List UInt8))) (d2 : List (Int × List UInt8 × Int × List (Int × Int × Int × Int × Int × List UInt8) × List (Int × Int × Int × Int × Int × List UInt8) × List (List (Int × Int × Int × Int × Int × List UInt8)))) (d3 : Int) (d4 : Int) : T.stepB rf rb 92 (d1, d2, d3, d4) = b92 rf rb d1 d2 d3 d4 := by kernel_rfl
theorem ob92 {d1 : List (List (Int × Int × Int × Int × Int × List UInt8))} {d2 : List (Int × List UInt8 × Int × List (Int × Int × Int × Int × Int × List UInt8) × List (Int × Int × Int × Int × Int × List UInt8) × List (List (Int × Int × Int × Int × Int × List UInt8)))} {d3 : Int} {d4 : Int} {y : (List (List (Int × Int × Int × Int × Int × List UInt8)))} (h : b92 T.rf T.rb d1 d2 d3 d4 = some y) : k92 T.rb d1 d2 d3 d4 = some y := T.rb_of (κ := 92) (d := (d1, d2, d3, d4)) ((eb92 T.rf T.rb d1 d2 d3 d4).trans h)

/- inits.unit loop 4 -/
noncomputable def b93 (rf : T.RF) (rb : T.RB) (d1 : List (List (Int × Int × Int × Int × Int × List UInt8))) (d2 : Int) (d3 : Int) : Option ((List (List (Int × Int × Int × Int × Int × List UInt8)) × Int) ⊕ (List (List (Int × Int × Int × Int × Int × List UInt8)))) :=
  bif decide (d3 < d2) then
    bif inb d3 d1.length then
      (nth d1 d3.toNat).bind fun (x1 : List (Int × Int × Int × Int × Int × List UInt8)) =>
      bif (((x1.length : Nat) : Int)) == 0 then
        k93 rb d1 d2 (IntKind.i64.wrap (d3 + 1))
      else
        (c43 rf x1).bind fun (y2 : Int × Int) =>
        bif y2.2 != 0 then
          some (.inl (d1, y2.2))
        else
        bif decide (y2.1 > 0) then
          some (.inl (d1, 11))
        else
          k93 rb d1 d2 (IntKind.i64.wrap (d3 + 1))
    else
      none
  else
    some (.inr d1)
theorem eb93 (rf : T.RF) (rb : T.RB) (d1 : List (List (Int × Int × Int × Int × Int × List UInt8))) (d2 : Int) (d3 : Int) : T.stepB rf rb 93 (d1, d2, d3) = b93 rf rb d1 d2 d3 := by kernel_rfl
theorem ob93 {d1 : List (List (Int × Int × Int × Int × Int × List UInt8))} {d2 : Int} {d3 : Int} {y : ((List (List (Int × Int × Int × Int × Int × List UInt8)) × Int) ⊕ (List (List (Int × Int × Int × Int × Int × List UInt8))))} (h : b93 T.rf T.rb d1 d2 d3 = some y) : k93 T.rb d1 d2 d3 = some y := T.rb_of (κ := 93) (d := (d1, d2, d3)) ((eb93 T.rf T.rb d1 d2 d3).trans h)

/- inits.unit -/
noncomputable def r77 (rf : T.RF) (rb : T.RB) (d1 : Bool × List UInt8 × List (List UInt8 × Int) × List UInt8 × Int × List (List UInt8 × Int) × List (List UInt8 × List (Int × Int × Int × Int × Int × List UInt8)) × List (Int × List UInt8 × Int × List (Int × Int × Int × Int × Int × List UInt8) × List (Int × Int × Int × Int × Int × List UInt8) × List (List (Int × Int × Int × Int × Int × List UInt8)))) : Option Int :=
  (k91 rb [] d1.2.2.2.2.2.2.1 (((d1.2.2.2.2.2.2.1.length : Nat) : Int)) 0).bind fun (z1 : List (List (Int × Int × Int × Int × Int × List UInt8))) =>
  (k92 rb z1 d1.2.2.2.2.2.2.2 (((d1.2.2.2.2.2.2.2.length : Nat) : Int)) 0).bind fun (z2 : List (List (Int × Int × Int × Int × Int × List UInt8))) =>
  (k93 rb z2 (((z2.length : Nat) : Int)) 0).bind fun (z3 : (List (List (Int × Int × Int × Int × Int × List UInt8)) × Int) ⊕ (List (List (Int × Int × Int × Int × Int × List UInt8)))) =>
  match z3 with
  | .inl u4 =>
    some u4.2
  | .inr w5 =>
    some 0
theorem er77 (rf : T.RF) (rb : T.RB) (d1 : Bool × List UInt8 × List (List UInt8 × Int) × List UInt8 × Int × List (List UInt8 × Int) × List (List UInt8 × List (Int × Int × Int × Int × Int × List UInt8)) × List (Int × List UInt8 × Int × List (Int × Int × Int × Int × Int × List UInt8) × List (Int × Int × Int × Int × Int × List UInt8) × List (List (Int × Int × Int × Int × Int × List UInt8)))) : T.stepF rf rb 77 d1 = r77 rf rb d1 := by kernel_rfl
theorem or77 {d1 : Bool × List UInt8 × List (List UInt8 × Int) × List UInt8 × Int × List (List UInt8 × Int) × List (List UInt8 × List (Int × Int × Int × Int × Int × List UInt8)) × List (Int × List UInt8 × Int × List (Int × Int × Int × Int × Int × List UInt8) × List (Int × Int × Int × Int × Int × List UInt8) × List (List (Int × Int × Int × Int × Int × List UInt8)))} {y : Int} (h : r77 T.rf T.rb d1 = some y) : c77 T.rf d1 = some y := T.rf_of (f := 77) (d := d1) ((er77 T.rf T.rb d1).trans h)

/- inits.Check loop 0 -/
noncomputable def b85 (rf : T.RF) (rb : T.RB) (d1 : Int × Int) (d2 : List (Bool × List UInt8 × List (List UInt8 × Int) × List UInt8 × Int × List (List UInt8 × Int) × List (List UInt8 × List (Int × Int × Int × Int × Int × List UInt8)) × List (Int × List UInt8 × Int × List (Int × Int × Int × Int × Int × List UInt8) × List (Int × Int × Int × Int × Int × List UInt8) × List (List (Int × Int × Int × Int × Int × List UInt8))))) (d3 : Int) (d4 : Int) : Option ((Int × Int) ⊕ (Int × Int)) :=
  bif decide (d4 < d3) then
    bif inb d4 d2.length then
      (nth d2 d4.toNat).bind fun (x1 : Bool × List UInt8 × List (List UInt8 × Int) × List UInt8 × Int × List (List UInt8 × Int) × List (List UInt8 × List (Int × Int × Int × Int × Int × List UInt8)) × List (Int × List UInt8 × Int × List (Int × Int × Int × Int × Int × List UInt8) × List (Int × Int × Int × Int × Int × List UInt8) × List (List (Int × Int × Int × Int × Int × List UInt8)))) =>
      (c77 rf x1).bind fun (y2 : Int) =>
      bif y2 != 0 then
        some (.inl (y2, d4))
      else
        k85 rb d1 d2 d3 (IntKind.i64.wrap (d4 + 1))
    else
      none
  else
    some (.inr d1)
theorem eb85 (rf : T.RF) (rb : T.RB) (d1 : Int × Int) (d2 : List (Bool × List UInt8 × List (List UInt8 × Int) × List UInt8 × Int × List (List UInt8 × Int) × List (List UInt8 × List (Int × Int × Int × Int × Int × List UInt8)) × List (Int × List UInt8 × Int × List (Int × Int × Int × Int × Int × List UInt8) × List (Int × Int × Int × Int × Int × List UInt8) × List (List (Int × Int × Int × Int × Int × List UInt8))))) (d3 : Int) (d4 : Int) : T.stepB rf rb 85 (d1, d2, d3, d4) = b85 rf rb d1 d2 d3 d4 := by kernel_rfl
theorem ob85 {d1 : Int × Int} {d2 : List (Bool × List UInt8 × List (List UInt8 × Int) × List UInt8 × Int × List (List UInt8 × Int) × List (List UInt8 × List (Int × Int × Int × Int × Int × List UInt8)) × List (Int × List UInt8 × Int × List (Int × Int × Int × Int × Int × List UInt8) × List (Int × Int × Int × Int × Int × List UInt8) × List (List (Int × Int × Int × Int × Int × List UInt8))))} {d3 : Int} {d4 : Int} {y : ((Int × Int) ⊕ (Int × Int))} (h : b85 T.rf T.rb d1 d2 d3 d4 = some y) : k85 T.rb d1 d2 d3 d4 = some y := T.rb_of (κ := 85) (d := (d1, d2, d3, d4)) ((eb85 T.rf T.rb d1 d2 d3 d4).trans h)

/- inits.Check -/
noncomputable def r76 (rf : T.RF) (rb : T.RB) (d1 : List (Bool × List UInt8 × List (List UInt8 × Int) × List UInt8 × Int × List (List UInt8 × Int) × List (List UInt8 × List (Int × Int × Int × Int × Int × List UInt8)) × List (Int × List UInt8 × Int × List (Int × Int × Int × Int × Int × List UInt8) × List (Int × Int × Int × Int × Int × List UInt8) × List (List (Int × Int × Int × Int × Int × List UInt8)))) × List UInt8 × List UInt8) : Option (Int × Int) :=
  (k85 rb (0, 0) d1.1 (((d1.1.length : Nat) : Int)) 0).bind fun (z1 : (Int × Int) ⊕ (Int × Int)) =>
  match z1 with
  | .inl u2 =>
    some u2
  | .inr w3 =>
    some (0, 0)
theorem er76 (rf : T.RF) (rb : T.RB) (d1 : List (Bool × List UInt8 × List (List UInt8 × Int) × List UInt8 × Int × List (List UInt8 × Int) × List (List UInt8 × List (Int × Int × Int × Int × Int × List UInt8)) × List (Int × List UInt8 × Int × List (Int × Int × Int × Int × Int × List UInt8) × List (Int × Int × Int × Int × Int × List UInt8) × List (List (Int × Int × Int × Int × Int × List UInt8)))) × List UInt8 × List UInt8) : T.stepF rf rb 76 d1 = r76 rf rb d1 := by kernel_rfl
theorem or76 {d1 : List (Bool × List UInt8 × List (List UInt8 × Int) × List UInt8 × Int × List (List UInt8 × Int) × List (List UInt8 × List (Int × Int × Int × Int × Int × List UInt8)) × List (Int × List UInt8 × Int × List (Int × Int × Int × Int × Int × List UInt8) × List (Int × Int × Int × Int × Int × List UInt8) × List (List (Int × Int × Int × Int × Int × List UInt8)))) × List UInt8 × List UInt8} {y : (Int × Int)} (h : r76 T.rf T.rb d1 = some y) : c76 T.rf d1 = some y := T.rf_of (f := 76) (d := d1) ((er76 T.rf T.rb d1).trans h)

/- bailmentlaw10.live -/
noncomputable def r1 (rf : T.RF) (rb : T.RB) : Option Bool :=
  (c2 rf ([49, 32, 43, 32, 112, 114, 101, 32, 97] : List UInt8)).bind fun (y1 : List (Int × Int × Int × Int × Int × List UInt8) × Int × Int) =>
  (c2 rf ([48, 32, 45, 62, 32, 112, 114, 101, 32, 97] : List UInt8)).bind fun (y2 : List (Int × Int × Int × Int × Int × List UInt8) × Int × Int) =>
  (c2 rf ([112, 114, 101, 32, 112, 114, 101, 32, 97] : List UInt8)).bind fun (y3 : List (Int × Int × Int × Int × Int × List UInt8) × Int × Int) =>
  (c43 rf y1.1).bind fun (y4 : Int × Int) =>
  (c43 rf y2.1).bind fun (y5 : Int × Int) =>
  (c43 rf y3.1).bind fun (y6 : Int × Int) =>
  (c43 rf []).bind fun (y7 : Int × Int) =>
  (c53 rf ([110, 111, 100, 101, 32, 102, 40, 97, 58, 105, 110, 116, 41, 32, 114, 101, 116, 117, 114, 110, 115, 40, 99, 58, 105, 110, 116, 41, 32, 108, 101, 116, 32, 99, 61, 112, 114, 101, 32, 97, 59, 32, 116, 101, 108, 32, 109, 97, 105, 110, 32, 102, 59] : List UInt8)).bind fun (y8 : (List (Bool × List UInt8 × List (List UInt8 × Int) × List UInt8 × Int × List (List UInt8 × Int) × List (List UInt8 × List (Int × Int × Int × Int × Int × List UInt8)) × List (Int × List UInt8 × Int × List (Int × Int × Int × Int × Int × List UInt8) × List (Int × Int × Int × Int × Int × List UInt8) × List (List (Int × Int × Int × Int × Int × List UInt8)))) × List UInt8 × List UInt8) × Int × Int) =>
  bif y4.1 == 1 then
    bif y4.2 == 0 then
      bif y5.1 == 0 then
        bif y5.2 == 0 then
          bif y6.2 == 11 then
            bif y7.2 == 1 then
              (c76 rf y8.1).bind fun (y9 : Int × Int) =>
              bif (y9.1 == 11) && (y9.2 == 0) then
                (c76 rf ([], ([] : List UInt8), ([] : List UInt8))).bind fun (y10 : Int × Int) =>
                some ((y10.1 == 0) && (y10.2 == 0))
              else
                some false
            else
              some false
          else
            some false
        else
          some false
      else
        some false
    else
      some false
  else
    some false
theorem er1 (rf : T.RF) (rb : T.RB) : T.stepF rf rb 1 () = r1 rf rb := by kernel_rfl
theorem or1 {y : Bool} (h : r1 T.rf T.rb = some y) : c1 T.rf = some y := T.rf_of (f := 1) (d := ()) ((er1 T.rf T.rb).trans h)

/- bailmentref03.bare -/
noncomputable def r80 (rf : T.RF) (rb : T.RB) (d1 : Int × Int × Int × Int × Int × List UInt8) : Option Bool :=
  (c29 rf d1).bind fun (y1 : List Int) =>
  bif d1.1 == 27 then
    bif d1.2.2.1 == (-1) then
      some (d1.2.2.2.1 == (-1))
    else
      some false
  else
  bif d1.1 == 28 then
    some (d1.2.2.2.1 == (-1))
  else
  bif decide ((((y1.length : Nat) : Int)) > 0) then
    bif decide ((((y1.length : Nat) : Int)) > 1) then
      bif decide ((((y1.length : Nat) : Int)) > 2) then
        some true
      else
        some (d1.2.2.2.1 == (-1))
    else
    bif d1.2.2.1 == (-1) then
      bif decide ((((y1.length : Nat) : Int)) > 2) then
        some true
      else
        some (d1.2.2.2.1 == (-1))
    else
      some false
  else
  bif d1.2.1 == (-1) then
    bif decide ((((y1.length : Nat) : Int)) > 1) then
      bif decide ((((y1.length : Nat) : Int)) > 2) then
        some true
      else
        some (d1.2.2.2.1 == (-1))
    else
    bif d1.2.2.1 == (-1) then
      bif decide ((((y1.length : Nat) : Int)) > 2) then
        some true
      else
        some (d1.2.2.2.1 == (-1))
    else
      some false
  else
    some false
theorem er80 (rf : T.RF) (rb : T.RB) (d1 : Int × Int × Int × Int × Int × List UInt8) : T.stepF rf rb 80 d1 = r80 rf rb d1 := by kernel_rfl
theorem or80 {d1 : Int × Int × Int × Int × Int × List UInt8} {y : Bool} (h : r80 T.rf T.rb d1 = some y) : c80 T.rf d1 = some y := T.rf_of (f := 80) (d := d1) ((er80 T.rf T.rb d1).trans h)

/- bailmentref03.plain -/
noncomputable def r81 (rf : T.RF) (rb : T.RB) (d1 : Int × Int × Int × Int × Int × List UInt8) : Option Bool :=
  bif d1.1 == 3 then
    bif !((!(d1.2.2.2.2.2 == ([] : List UInt8))) == true) then
      some false
    else
    bif d1.1 == 1 then
      bif decide (d1.2.2.2.2.1 ≥ 0) then
        some (decide (d1.2.2.2.2.1 ≤ 2147483647))
      else
        some false
    else
    bif d1.1 == 2 then
      bif d1.2.2.2.2.1 == 0 then
        some true
      else
        some (d1.2.2.2.2.1 == 1)
    else
    bif d1.1 == 25 then
      bif decide (d1.2.2.2.2.1 ≥ 0) then
        some (decide (d1.2.2.2.2.1 ≤ 1000))
      else
        some false
    else
      some (d1.2.2.2.2.1 == 0)
  else
  bif !((!(d1.2.2.2.2.2 == ([] : List UInt8))) == (d1.1 == 27)) then
    some false
  else
  bif d1.1 == 1 then
    bif decide (d1.2.2.2.2.1 ≥ 0) then
      some (decide (d1.2.2.2.2.1 ≤ 2147483647))
    else
      some false
  else
  bif d1.1 == 2 then
    bif d1.2.2.2.2.1 == 0 then
      some true
    else
      some (d1.2.2.2.2.1 == 1)
  else
  bif d1.1 == 25 then
    bif decide (d1.2.2.2.2.1 ≥ 0) then
      some (decide (d1.2.2.2.2.1 ≤ 1000))
    else
      some false
  else
    some (d1.2.2.2.2.1 == 0)
theorem er81 (rf : T.RF) (rb : T.RB) (d1 : Int × Int × Int × Int × Int × List UInt8) : T.stepF rf rb 81 d1 = r81 rf rb d1 := by kernel_rfl
theorem or81 {d1 : Int × Int × Int × Int × Int × List UInt8} {y : Bool} (h : r81 T.rf T.rb d1 = some y) : c81 T.rf d1 = some y := T.rf_of (f := 81) (d := d1) ((er81 T.rf T.rb d1).trans h)

/- bailmentref03.args loop 0 -/
noncomputable def b96 (rf : T.RF) (rb : T.RB) (d1 : Int × Int × Int × Int × Int × List UInt8) (d2 : List Int) (d3 : List (Int × Int × Int × Int × Int × List UInt8)) (d4 : Int) : Option (((Int × Int × Int × Int × Int × List UInt8) × List Int × Bool) ⊕ ((Int × Int × Int × Int × Int × List UInt8) × List Int)) :=
  bif decide (d4 < (((d2.length : Nat) : Int))) then
    bif inb d4 d2.length then
      (nth d2 d4.toNat).bind fun (x1 : Int) =>
      bif inb x1 d3.length then
        (nth d3 x1.toNat).bind fun (x2 : Int × Int × Int × Int × Int × List UInt8) =>
        bif d1.1 == 27 then
          bif !((x2.1 == 28) == true) then
            some (.inl (d1, d2, false))
          else
            k96 rb d1 d2 d3 (IntKind.i64.wrap (d4 + 1))
        else
        bif d1.1 == 28 then
          bif (((d2.length : Nat) : Int)) == 2 then
            bif !((x2.1 == 28) == (d4 == 0)) then
              some (.inl (d1, d2, false))
            else
              k96 rb d1 d2 d3 (IntKind.i64.wrap (d4 + 1))
          else
          bif !((x2.1 == 28) == false) then
            some (.inl (d1, d2, false))
          else
            k96 rb d1 d2 d3 (IntKind.i64.wrap (d4 + 1))
        else
        bif !((x2.1 == 28) == false) then
          some (.inl (d1, d2, false))
        else
          k96 rb d1 d2 d3 (IntKind.i64.wrap (d4 + 1))
      else
        none
    else
      none
  else
    some (.inr (d1, d2))
theorem eb96 (rf : T.RF) (rb : T.RB) (d1 : Int × Int × Int × Int × Int × List UInt8) (d2 : List Int) (d3 : List (Int × Int × Int × Int × Int × List UInt8)) (d4 : Int) : T.stepB rf rb 96 (d1, d2, d3, d4) = b96 rf rb d1 d2 d3 d4 := by kernel_rfl
theorem ob96 {d1 : Int × Int × Int × Int × Int × List UInt8} {d2 : List Int} {d3 : List (Int × Int × Int × Int × Int × List UInt8)} {d4 : Int} {y : (((Int × Int × Int × Int × Int × List UInt8) × List Int × Bool) ⊕ ((Int × Int × Int × Int × Int × List UInt8) × List Int))} (h : b96 T.rf T.rb d1 d2 d3 d4 = some y) : k96 T.rb d1 d2 d3 d4 = some y := T.rb_of (κ := 96) (d := (d1, d2, d3, d4)) ((eb96 T.rf T.rb d1 d2 d3 d4).trans h)

/- bailmentref03.args -/
noncomputable def r82 (rf : T.RF) (rb : T.RB) (d1 : List (Int × Int × Int × Int × Int × List UInt8)) (d2 : Int) : Option Bool :=
  bif inb d2 d1.length then
    (nth d1 d2.toNat).bind fun (x1 : Int × Int × Int × Int × Int × List UInt8) =>
    (c29 rf x1).bind fun (y2 : List Int) =>
    (k96 rb x1 y2 d1 0).bind fun (z3 : ((Int × Int × Int × Int × Int × List UInt8) × List Int × Bool) ⊕ ((Int × Int × Int × Int × Int × List UInt8) × List Int)) =>
    match z3 with
    | .inl u4 =>
      some u4.2.2
    | .inr w5 =>
      some true
  else
    none
theorem er82 (rf : T.RF) (rb : T.RB) (d1 : List (Int × Int × Int × Int × Int × List UInt8)) (d2 : Int) : T.stepF rf rb 82 (d1, d2) = r82 rf rb d1 d2 := by kernel_rfl
theorem or82 {d1 : List (Int × Int × Int × Int × Int × List UInt8)} {d2 : Int} {y : Bool} (h : r82 T.rf T.rb d1 d2 = some y) : c82 T.rf d1 d2 = some y := T.rf_of (f := 82) (d := (d1, d2)) ((er82 T.rf T.rb d1 d2).trans h)

/- bailmentref03.May loop 0 -/
noncomputable def b94 (rf : T.RF) (rb : T.RB) (d1 : List Int) (d2 : List (Int × Int × Int × Int × Int × List UInt8)) (d3 : Int) : Option ((List Int × Bool) ⊕ (List Int)) :=
  bif decide (d3 < (((d2.length : Nat) : Int))) then
    bif inb d3 d2.length then
      (nth d2 d3.toNat).bind fun (x1 : Int × Int × Int × Int × Int × List UInt8) =>
      bif decide (x1.1 < 1) then
        some (.inl (d1, false))
      else
      bif inb d3 d2.length then
        (nth d2 d3.toNat).bind fun (x2 : Int × Int × Int × Int × Int × List UInt8) =>
        bif decide (x2.1 > 28) then
          some (.inl (d1, false))
        else
        bif inb d3 d2.length then
          (nth d2 d3.toNat).bind fun (x3 : Int × Int × Int × Int × Int × List UInt8) =>
          (c80 rf x3).bind fun (y4 : Bool) =>
          bif !y4 then
            some (.inl (d1, false))
          else
          bif inb d3 d2.length then
            (nth d2 d3.toNat).bind fun (x5 : Int × Int × Int × Int × Int × List UInt8) =>
            (c81 rf x5).bind fun (y6 : Bool) =>
            bif !y6 then
              some (.inl (d1, false))
            else
            bif inb d3 d2.length then
              (nth d2 d3.toNat).bind fun (x7 : Int × Int × Int × Int × Int × List UInt8) =>
              (c29 rf x7).bind fun (y8 : List Int) =>
              (k95 rb d1 y8 d3 0).bind fun (z9 : (List Int × List Int × Bool) ⊕ (List Int × List Int)) =>
              match z9 with
              | .inl u10 =>
                some (.inl (u10.1, u10.2.2))
              | .inr w11 =>
                (c82 rf d2 d3).bind fun (y12 : Bool) =>
                bif !y12 then
                  some (.inl (w11.1, false))
                else
                  k94 rb w11.1 d2 (IntKind.i64.wrap (d3 + 1))
            else
              none
          else
            none
        else
          none
      else
        none
    else
      none
  else
    some (.inr d1)
theorem eb94 (rf : T.RF) (rb : T.RB) (d1 : List Int) (d2 : List (Int × Int × Int × Int × Int × List UInt8)) (d3 : Int) : T.stepB rf rb 94 (d1, d2, d3) = b94 rf rb d1 d2 d3 := by kernel_rfl
theorem ob94 {d1 : List Int} {d2 : List (Int × Int × Int × Int × Int × List UInt8)} {d3 : Int} {y : ((List Int × Bool) ⊕ (List Int))} (h : b94 T.rf T.rb d1 d2 d3 = some y) : k94 T.rb d1 d2 d3 = some y := T.rb_of (κ := 94) (d := (d1, d2, d3)) ((eb94 T.rf T.rb d1 d2 d3).trans h)

/- bailmentref03.May loop 2 -/
noncomputable def b95 (rf : T.RF) (rb : T.RB) (d1 : List Int) (d2 : List Int) (d3 : Int) (d4 : Int) : Option ((List Int × List Int × Bool) ⊕ (List Int × List Int)) :=
  bif decide (d4 < (((d2.length : Nat) : Int))) then
    bif inb d4 d2.length then
      (nth d2 d4.toNat).bind fun (x1 : Int) =>
      bif decide (x1 < 0) then
        some (.inl (d1, d2, false))
      else
      bif inb d4 d2.length then
        (nth d2 d4.toNat).bind fun (x2 : Int) =>
        bif decide (x2 ≥ d3) then
          some (.inl (d1, d2, false))
        else
        bif inb d4 d2.length then
          (nth d2 d4.toNat).bind fun (x3 : Int) =>
          bif inb x3 d1.length then
            (nth d1 x3.toNat).bind fun (x4 : Int) =>
            bif inb x3 d1.length then
              bif Nat.blt x3.toNat d1.length then
                k95 rb (setNth d1 x3.toNat (IntKind.i64.wrap (x4 + 1))) d2 d3 (IntKind.i64.wrap (d4 + 1))
              else
                none
            else
              none
          else
            none
        else
          none
      else
        none
    else
      none
  else
    some (.inr (d1, d2))
theorem eb95 (rf : T.RF) (rb : T.RB) (d1 : List Int) (d2 : List Int) (d3 : Int) (d4 : Int) : T.stepB rf rb 95 (d1, d2, d3, d4) = b95 rf rb d1 d2 d3 d4 := by kernel_rfl
theorem ob95 {d1 : List Int} {d2 : List Int} {d3 : Int} {d4 : Int} {y : ((List Int × List Int × Bool) ⊕ (List Int × List Int))} (h : b95 T.rf T.rb d1 d2 d3 d4 = some y) : k95 T.rb d1 d2 d3 d4 = some y := T.rb_of (κ := 95) (d := (d1, d2, d3, d4)) ((eb95 T.rf T.rb d1 d2 d3 d4).trans h)

/- bailmentref03.May loop 4 -/
noncomputable def b97 (rf : T.RF) (rb : T.RB) (d1 : List Int) (d2 : List (Int × Int × Int × Int × Int × List UInt8)) (d3 : Int) : Option ((List Int × Bool) ⊕ (List Int)) :=
  bif decide (d3 < (IntKind.i64.wrap ((((d2.length : Nat) : Int)) - 1))) then
    bif inb d3 d1.length then
      (nth d1 d3.toNat).bind fun (x1 : Int) =>
      bif x1 != 1 then
        some (.inl (d1, false))
      else
        k97 rb d1 d2 (IntKind.i64.wrap (d3 + 1))
    else
      none
  else
    some (.inr d1)
theorem eb97 (rf : T.RF) (rb : T.RB) (d1 : List Int) (d2 : List (Int × Int × Int × Int × Int × List UInt8)) (d3 : Int) : T.stepB rf rb 97 (d1, d2, d3) = b97 rf rb d1 d2 d3 := by kernel_rfl
theorem ob97 {d1 : List Int} {d2 : List (Int × Int × Int × Int × Int × List UInt8)} {d3 : Int} {y : ((List Int × Bool) ⊕ (List Int))} (h : b97 T.rf T.rb d1 d2 d3 = some y) : k97 T.rb d1 d2 d3 = some y := T.rb_of (κ := 97) (d := (d1, d2, d3)) ((eb97 T.rf T.rb d1 d2 d3).trans h)

/- bailmentref03.May -/
noncomputable def r79 (rf : T.RF) (rb : T.RB) (d1 : List (Int × Int × Int × Int × Int × List UInt8)) : Option Bool :=
  bif decide ((((d1.length : Nat) : Int)) < 1) then
    some false
  else
  bif decide ((((d1.length : Nat) : Int)) > 5000) then
    some false
  else
  bif inb' (((d1.length : Nat) : Int)) most then
    bif inb' (((d1.length : Nat) : Int)) d1.length then
      (k94 rb (List.replicate d1.length 0) d1 0).bind fun (z1 : (List Int × Bool) ⊕ (List Int)) =>
      match z1 with
      | .inl u2 =>
        some u2.2
      | .inr w3 =>
        (k97 rb w3 d1 0).bind fun (z4 : (List Int × Bool) ⊕ (List Int)) =>
        match z4 with
        | .inl u5 =>
          some u5.2
        | .inr w6 =>
          bif inb (IntKind.i64.wrap ((((d1.length : Nat) : Int)) - 1)) d1.length then
            (nth d1 (IntKind.i64.wrap ((((d1.length : Nat) : Int)) - 1)).toNat).bind fun (x7 : Int × Int × Int × Int × Int × List UInt8) =>
            bif x7.1 != 28 then
              (c42 rf d1).bind fun (y8 : Int) =>
              some (decide (y8 ≤ 40))
            else
              some false
          else
            none
    else
      none
  else
    none
theorem er79 (rf : T.RF) (rb : T.RB) (d1 : List (Int × Int × Int × Int × Int × List UInt8)) : T.stepF rf rb 79 d1 = r79 rf rb d1 := by kernel_rfl
theorem or79 {d1 : List (Int × Int × Int × Int × Int × List UInt8)} {y : Bool} (h : r79 T.rf T.rb d1 = some y) : c79 T.rf d1 = some y := T.rf_of (f := 79) (d := d1) ((er79 T.rf T.rb d1).trans h)

/- bailmentref10.node loop 0 -/
noncomputable def b99 (rf : T.RF) (rb : T.RB) (d1 : List Int) (d2 : List Int) (d3 : Int) (d4 : Int) : Option (List Int × List Int × Int) :=
  bif decide (d4 < (((d2.length : Nat) : Int))) then
    bif inb d4 d2.length then
      (nth d2 d4.toNat).bind fun (x1 : Int) =>
      bif inb x1 d1.length then
        (nth d1 x1.toNat).bind fun (x2 : Int) =>
        k99 rb d1 d2 (if x2 > d3 then x2 else d3) (IntKind.i64.wrap (d4 + 1))
      else
        none
    else
      none
  else
    some (d1, d2, d3)
theorem eb99 (rf : T.RF) (rb : T.RB) (d1 : List Int) (d2 : List Int) (d3 : Int) (d4 : Int) : T.stepB rf rb 99 (d1, d2, d3, d4) = b99 rf rb d1 d2 d3 d4 := by kernel_rfl
theorem ob99 {d1 : List Int} {d2 : List Int} {d3 : Int} {d4 : Int} {y : (List Int × List Int × Int)} (h : b99 T.rf T.rb d1 d2 d3 d4 = some y) : k99 T.rb d1 d2 d3 d4 = some y := T.rb_of (κ := 99) (d := (d1, d2, d3, d4)) ((eb99 T.rf T.rb d1 d2 d3 d4).trans h)

/- bailmentref10.node -/
noncomputable def r83 (rf : T.RF) (rb : T.RB) (d1 : List Int) (d2 : List (Int × Int × Int × Int × Int × List UInt8)) (d3 : Int) : Option (List Int × Int × Int) :=
  bif inb d3 d2.length then
    (nth d2 d3.toNat).bind fun (x1 : Int × Int × Int × Int × Int × List UInt8) =>
    (c29 rf x1).bind fun (y2 : List Int) =>
    (k99 rb d1 y2 0 0).bind fun (z3 : List Int × List Int × Int) =>
    bif x1.1 == 21 then
      bif decide (z3.2.2 > 0) then
        some (z3.1, 0, 11)
      else
        some (z3.1, 1, 0)
    else
    bif x1.1 == 19 then
      bif inb x1.2.1 z3.1.length then
        (nth z3.1 x1.2.1.toNat).bind fun (x4 : Int) =>
        bif decide (x4 > 0) then
          some (z3.1, 0, 11)
        else
          some (z3.1, 0, 0)
      else
        none
    else
    bif x1.1 == 27 then
      bif x1.1 == 27 then
        bif decide (z3.2.2 > 0) then
          some (z3.1, 0, 11)
        else
          some (z3.1, 0, 0)
      else
        some (z3.1, z3.2.2, 0)
    else
    bif x1.1 == 20 then
      bif x1.1 == 20 then
        bif decide (z3.2.2 > 0) then
          some (z3.1, 0, 11)
        else
          some (z3.1, 0, 0)
      else
        some (z3.1, z3.2.2, 0)
    else
    bif x1.1 == 22 then
      bif x1.1 == 22 then
        bif decide (z3.2.2 > 0) then
          some (z3.1, 0, 11)
        else
          some (z3.1, 0, 0)
      else
        some (z3.1, z3.2.2, 0)
    else
    bif x1.1 == 23 then
      bif x1.1 == 23 then
        bif decide (z3.2.2 > 0) then
          some (z3.1, 0, 11)
        else
          some (z3.1, 0, 0)
      else
        some (z3.1, z3.2.2, 0)
    else
    bif x1.1 == 24 then
      bif x1.1 == 24 then
        bif decide (z3.2.2 > 0) then
          some (z3.1, 0, 11)
        else
          some (z3.1, 0, 0)
      else
        some (z3.1, z3.2.2, 0)
    else
    bif x1.1 == 25 then
      bif decide (z3.2.2 > 0) then
        some (z3.1, 0, 11)
      else
        some (z3.1, 0, 0)
    else
      some (z3.1, z3.2.2, 0)
  else
    none
theorem er83 (rf : T.RF) (rb : T.RB) (d1 : List Int) (d2 : List (Int × Int × Int × Int × Int × List UInt8)) (d3 : Int) : T.stepF rf rb 83 (d1, d2, d3) = r83 rf rb d1 d2 d3 := by kernel_rfl
theorem or83 {d1 : List Int} {d2 : List (Int × Int × Int × Int × Int × List UInt8)} {d3 : Int} {y : (List Int × Int × Int)} (h : r83 T.rf T.rb d1 d2 d3 = some y) : c83 T.rf d1 d2 d3 = some y := T.rf_of (f := 83) (d := (d1, d2, d3)) ((er83 T.rf T.rb d1 d2 d3).trans h)

/- bailmentref10.Of loop 0 -/
noncomputable def b98 (rf : T.RF) (rb : T.RB) (d1 : List Int) (d2 : List (Int × Int × Int × Int × Int × List UInt8)) (d3 : Int) : Option ((List Int × Int × Int) ⊕ (List Int)) :=
  bif decide (d3 < (((d2.length : Nat) : Int))) then
    (c83 rf d1 d2 d3).bind fun (y1 : List Int × Int × Int) =>
    bif y1.2.2 != 0 then
      some (.inl (y1.1, 0, y1.2.2))
    else
    bif inb d3 y1.1.length then
      bif Nat.blt d3.toNat y1.1.length then
        k98 rb (setNth y1.1 d3.toNat y1.2.1) d2 (IntKind.i64.wrap (d3 + 1))
      else
        none
    else
      none
  else
    some (.inr d1)
theorem eb98 (rf : T.RF) (rb : T.RB) (d1 : List Int) (d2 : List (Int × Int × Int × Int × Int × List UInt8)) (d3 : Int) : T.stepB rf rb 98 (d1, d2, d3) = b98 rf rb d1 d2 d3 := by kernel_rfl
theorem ob98 {d1 : List Int} {d2 : List (Int × Int × Int × Int × Int × List UInt8)} {d3 : Int} {y : ((List Int × Int × Int) ⊕ (List Int))} (h : b98 T.rf T.rb d1 d2 d3 = some y) : k98 T.rb d1 d2 d3 = some y := T.rb_of (κ := 98) (d := (d1, d2, d3)) ((eb98 T.rf T.rb d1 d2 d3).trans h)

/- bailmentref10.Of -/
noncomputable def r78 (rf : T.RF) (rb : T.RB) (d1 : List (Int × Int × Int × Int × Int × List UInt8)) : Option (Int × Int) :=
  (c79 rf d1).bind fun (y1 : Bool) =>
  bif !y1 then
    some (0, 1)
  else
  bif inb' (((d1.length : Nat) : Int)) most then
    bif inb' (((d1.length : Nat) : Int)) d1.length then
      (k98 rb (List.replicate d1.length 0) d1 0).bind fun (z2 : (List Int × Int × Int) ⊕ (List Int)) =>
      match z2 with
      | .inl u3 =>
        some u3.2
      | .inr w4 =>
        bif inb (IntKind.i64.wrap ((((w4.length : Nat) : Int)) - 1)) w4.length then
          (nth w4 (IntKind.i64.wrap ((((w4.length : Nat) : Int)) - 1)).toNat).bind fun (x5 : Int) =>
          some (x5, 0)
        else
          none
    else
      none
  else
    none
theorem er78 (rf : T.RF) (rb : T.RB) (d1 : List (Int × Int × Int × Int × Int × List UInt8)) : T.stepF rf rb 78 d1 = r78 rf rb d1 := by kernel_rfl
theorem or78 {d1 : List (Int × Int × Int × Int × Int × List UInt8)} {y : (Int × Int)} (h : r78 T.rf T.rb d1 = some y) : c78 T.rf d1 = some y := T.rf_of (f := 78) (d := d1) ((er78 T.rf T.rb d1).trans h)

/- bailmentlaw10.InitsOf -/
noncomputable def r0 (rf : T.RF) (rb : T.RB) (d1 : List (Int × Int × Int × Int × Int × List UInt8)) : Option Bool :=
  bif decide ((((d1.length : Nat) : Int)) > 300) then
    (c1 rf).bind fun (y1 : Bool) =>
    some y1
  else
    (c43 rf d1).bind fun (y2 : Int × Int) =>
    (c78 rf d1).bind fun (y3 : Int × Int) =>
    bif y2.1 == y3.1 then
      bif y2.2 == y3.2 then
        (c1 rf).bind fun (y4 : Bool) =>
        some y4
      else
        some false
    else
      some false
theorem er0 (rf : T.RF) (rb : T.RB) (d1 : List (Int × Int × Int × Int × Int × List UInt8)) : T.stepF rf rb 0 d1 = r0 rf rb d1 := by kernel_rfl
theorem or0 {d1 : List (Int × Int × Int × Int × Int × List UInt8)} {y : Bool} (h : r0 T.rf T.rb d1 = some y) : c0 T.rf d1 = some y := T.rf_of (f := 0) (d := d1) ((er0 T.rf T.rb d1).trans h)

/- bailmentref06.Small loop 0 -/
noncomputable def b100 (rf : T.RF) (rb : T.RB) (d1 : List (Bool × List UInt8 × List (List UInt8 × Int) × List UInt8 × Int × List (List UInt8 × Int) × List (List UInt8 × List (Int × Int × Int × Int × Int × List UInt8)) × List (Int × List UInt8 × Int × List (Int × Int × Int × Int × Int × List UInt8) × List (Int × Int × Int × Int × Int × List UInt8) × List (List (Int × Int × Int × Int × Int × List UInt8)))) × List UInt8 × List UInt8) (d2 : Int) : Option (((List (Bool × List UInt8 × List (List UInt8 × Int) × List UInt8 × Int × List (List UInt8 × Int) × List (List UInt8 × List (Int × Int × Int × Int × Int × List UInt8)) × List (Int × List UInt8 × Int × List (Int × Int × Int × Int × Int × List UInt8) × List (Int × Int × Int × Int × Int × List UInt8) × List (List (Int × Int × Int × Int × Int × List UInt8)))) × List UInt8 × List UInt8) × Bool) ⊕ (List (Bool × List UInt8 × List (List UInt8 × Int) × List UInt8 × Int × List (List UInt8 × Int) × List (List UInt8 × List (Int × Int × Int × Int × Int × List UInt8)) × List (Int × List UInt8 × Int × List (Int × Int × Int × Int × Int × List UInt8) × List (Int × Int × Int × Int × Int × List UInt8) × List (List (Int × Int × Int × Int × Int × List UInt8)))) × List UInt8 × List UInt8)) :=
  bif decide (d2 < (((d1.1.length : Nat) : Int))) then
    bif inb d2 d1.1.length then
      (nth d1.1 d2.toNat).bind fun (x1 : Bool × List UInt8 × List (List UInt8 × Int) × List UInt8 × Int × List (List UInt8 × Int) × List (List UInt8 × List (Int × Int × Int × Int × Int × List UInt8)) × List (Int × List UInt8 × Int × List (Int × Int × Int × Int × Int × List UInt8) × List (Int × Int × Int × Int × Int × List UInt8) × List (List (Int × Int × Int × Int × Int × List UInt8)))) =>
      bif decide ((((x1.2.2.1.length : Nat) : Int)) > 30) then
        some (.inl (d1, false))
      else
      bif decide ((((x1.2.2.2.2.2.1.length : Nat) : Int)) > 30) then
        some (.inl (d1, false))
      else
      bif decide ((((x1.2.2.2.2.2.2.1.length : Nat) : Int)) > 30) then
        some (.inl (d1, false))
      else
      bif decide ((((x1.2.2.2.2.2.2.2.length : Nat) : Int)) > 30) then
        some (.inl (d1, false))
      else
        (k101 rb x1 0).bind fun (z2 : ((Bool × List UInt8 × List (List UInt8 × Int) × List UInt8 × Int × List (List UInt8 × Int) × List (List UInt8 × List (Int × Int × Int × Int × Int × List UInt8)) × List (Int × List UInt8 × Int × List (Int × Int × Int × Int × Int × List UInt8) × List (Int × Int × Int × Int × Int × List UInt8) × List (List (Int × Int × Int × Int × Int × List UInt8)))) × Bool) ⊕ (Bool × List UInt8 × List (List UInt8 × Int) × List UInt8 × Int × List (List UInt8 × Int) × List (List UInt8 × List (Int × Int × Int × Int × Int × List UInt8)) × List (Int × List UInt8 × Int × List (Int × Int × Int × Int × Int × List UInt8) × List (Int × Int × Int × Int × Int × List UInt8) × List (List (Int × Int × Int × Int × Int × List UInt8))))) =>
        match z2 with
        | .inl u3 =>
          some (.inl (d1, u3.2))
        | .inr w4 =>
          (k102 rb w4 0).bind fun (z5 : ((Bool × List UInt8 × List (List UInt8 × Int) × List UInt8 × Int × List (List UInt8 × Int) × List (List UInt8 × List (Int × Int × Int × Int × Int × List UInt8)) × List (Int × List UInt8 × Int × List (Int × Int × Int × Int × Int × List UInt8) × List (Int × Int × Int × Int × Int × List UInt8) × List (List (Int × Int × Int × Int × Int × List UInt8)))) × Bool) ⊕ (Bool × List UInt8 × List (List UInt8 × Int) × List UInt8 × Int × List (List UInt8 × Int) × List (List UInt8 × List (Int × Int × Int × Int × Int × List UInt8)) × List (Int × List UInt8 × Int × List (Int × Int × Int × Int × Int × List UInt8) × List (Int × Int × Int × Int × Int × List UInt8) × List (List (Int × Int × Int × Int × Int × List UInt8))))) =>
          match z5 with
          | .inl u6 =>
            some (.inl (d1, u6.2))
          | .inr w7 =>
            k100 rb d1 (IntKind.i64.wrap (d2 + 1))
    else
      none
  else
    some (.inr d1)
theorem eb100 (rf : T.RF) (rb : T.RB) (d1 : List (Bool × List UInt8 × List (List UInt8 × Int) × List UInt8 × Int × List (List UInt8 × Int) × List (List UInt8 × List (Int × Int × Int × Int × Int × List UInt8)) × List (Int × List UInt8 × Int × List (Int × Int × Int × Int × Int × List UInt8) × List (Int × Int × Int × Int × Int × List UInt8) × List (List (Int × Int × Int × Int × Int × List UInt8)))) × List UInt8 × List UInt8) (d2 : Int) : T.stepB rf rb 100 (d1, d2) = b100 rf rb d1 d2 := by kernel_rfl
theorem ob100 {d1 : List (Bool × List UInt8 × List (List UInt8 × Int) × List UInt8 × Int × List (List UInt8 × Int) × List (List UInt8 × List (Int × Int × Int × Int × Int × List UInt8)) × List (Int × List UInt8 × Int × List (Int × Int × Int × Int × Int × List UInt8) × List (Int × Int × Int × Int × Int × List UInt8) × List (List (Int × Int × Int × Int × Int × List UInt8)))) × List UInt8 × List UInt8} {d2 : Int} {y : (((List (Bool × List UInt8 × List (List UInt8 × Int) × List UInt8 × Int × List (List UInt8 × Int) × List (List UInt8 × List (Int × Int × Int × Int × Int × List UInt8)) × List (Int × List UInt8 × Int × List (Int × Int × Int × Int × Int × List UInt8) × List (Int × Int × Int × Int × Int × List UInt8) × List (List (Int × Int × Int × Int × Int × List UInt8)))) × List UInt8 × List UInt8) × Bool) ⊕ (List (Bool × List UInt8 × List (List UInt8 × Int) × List UInt8 × Int × List (List UInt8 × Int) × List (List UInt8 × List (Int × Int × Int × Int × Int × List UInt8)) × List (Int × List UInt8 × Int × List (Int × Int × Int × Int × Int × List UInt8) × List (Int × Int × Int × Int × Int × List UInt8) × List (List (Int × Int × Int × Int × Int × List UInt8)))) × List UInt8 × List UInt8))} (h : b100 T.rf T.rb d1 d2 = some y) : k100 T.rb d1 d2 = some y := T.rb_of (κ := 100) (d := (d1, d2)) ((eb100 T.rf T.rb d1 d2).trans h)

/- bailmentref06.Small loop 2 -/
noncomputable def b101 (rf : T.RF) (rb : T.RB) (d1 : Bool × List UInt8 × List (List UInt8 × Int) × List UInt8 × Int × List (List UInt8 × Int) × List (List UInt8 × List (Int × Int × Int × Int × Int × List UInt8)) × List (Int × List UInt8 × Int × List (Int × Int × Int × Int × Int × List UInt8) × List (Int × Int × Int × Int × Int × List UInt8) × List (List (Int × Int × Int × Int × Int × List UInt8)))) (d2 : Int) : Option (((Bool × List UInt8 × List (List UInt8 × Int) × List UInt8 × Int × List (List UInt8 × Int) × List (List UInt8 × List (Int × Int × Int × Int × Int × List UInt8)) × List (Int × List UInt8 × Int × List (Int × Int × Int × Int × Int × List UInt8) × List (Int × Int × Int × Int × Int × List UInt8) × List (List (Int × Int × Int × Int × Int × List UInt8)))) × Bool) ⊕ (Bool × List UInt8 × List (List UInt8 × Int) × List UInt8 × Int × List (List UInt8 × Int) × List (List UInt8 × List (Int × Int × Int × Int × Int × List UInt8)) × List (Int × List UInt8 × Int × List (Int × Int × Int × Int × Int × List UInt8) × List (Int × Int × Int × Int × Int × List UInt8) × List (List (Int × Int × Int × Int × Int × List UInt8))))) :=
  bif decide (d2 < (((d1.2.2.2.2.2.2.1.length : Nat) : Int))) then
    bif inb d2 d1.2.2.2.2.2.2.1.length then
      (nth d1.2.2.2.2.2.2.1 d2.toNat).bind fun (x1 : List UInt8 × List (Int × Int × Int × Int × Int × List UInt8)) =>
      bif decide ((((x1.2.length : Nat) : Int)) > 200) then
        some (.inl (d1, false))
      else
        k101 rb d1 (IntKind.i64.wrap (d2 + 1))
    else
      none
  else
    some (.inr d1)
theorem eb101 (rf : T.RF) (rb : T.RB) (d1 : Bool × List UInt8 × List (List UInt8 × Int) × List UInt8 × Int × List (List UInt8 × Int) × List (List UInt8 × List (Int × Int × Int × Int × Int × List UInt8)) × List (Int × List UInt8 × Int × List (Int × Int × Int × Int × Int × List UInt8) × List (Int × Int × Int × Int × Int × List UInt8) × List (List (Int × Int × Int × Int × Int × List UInt8)))) (d2 : Int) : T.stepB rf rb 101 (d1, d2) = b101 rf rb d1 d2 := by kernel_rfl
theorem ob101 {d1 : Bool × List UInt8 × List (List UInt8 × Int) × List UInt8 × Int × List (List UInt8 × Int) × List (List UInt8 × List (Int × Int × Int × Int × Int × List UInt8)) × List (Int × List UInt8 × Int × List (Int × Int × Int × Int × Int × List UInt8) × List (Int × Int × Int × Int × Int × List UInt8) × List (List (Int × Int × Int × Int × Int × List UInt8)))} {d2 : Int} {y : (((Bool × List UInt8 × List (List UInt8 × Int) × List UInt8 × Int × List (List UInt8 × Int) × List (List UInt8 × List (Int × Int × Int × Int × Int × List UInt8)) × List (Int × List UInt8 × Int × List (Int × Int × Int × Int × Int × List UInt8) × List (Int × Int × Int × Int × Int × List UInt8) × List (List (Int × Int × Int × Int × Int × List UInt8)))) × Bool) ⊕ (Bool × List UInt8 × List (List UInt8 × Int) × List UInt8 × Int × List (List UInt8 × Int) × List (List UInt8 × List (Int × Int × Int × Int × Int × List UInt8)) × List (Int × List UInt8 × Int × List (Int × Int × Int × Int × Int × List UInt8) × List (Int × Int × Int × Int × Int × List UInt8) × List (List (Int × Int × Int × Int × Int × List UInt8)))))} (h : b101 T.rf T.rb d1 d2 = some y) : k101 T.rb d1 d2 = some y := T.rb_of (κ := 101) (d := (d1, d2)) ((eb101 T.rf T.rb d1 d2).trans h)

/- bailmentref06.Small loop 4 -/
noncomputable def b102 (rf : T.RF) (rb : T.RB) (d1 : Bool × List UInt8 × List (List UInt8 × Int) × List UInt8 × Int × List (List UInt8 × Int) × List (List UInt8 × List (Int × Int × Int × Int × Int × List UInt8)) × List (Int × List UInt8 × Int × List (Int × Int × Int × Int × Int × List UInt8) × List (Int × Int × Int × Int × Int × List UInt8) × List (List (Int × Int × Int × Int × Int × List UInt8)))) (d2 : Int) : Option (((Bool × List UInt8 × List (List UInt8 × Int) × List UInt8 × Int × List (List UInt8 × Int) × List (List UInt8 × List (Int × Int × Int × Int × Int × List UInt8)) × List (Int × List UInt8 × Int × List (Int × Int × Int × Int × Int × List UInt8) × List (Int × Int × Int × Int × Int × List UInt8) × List (List (Int × Int × Int × Int × Int × List UInt8)))) × Bool) ⊕ (Bool × List UInt8 × List (List UInt8 × Int) × List UInt8 × Int × List (List UInt8 × Int) × List (List UInt8 × List (Int × Int × Int × Int × Int × List UInt8)) × List (Int × List UInt8 × Int × List (Int × Int × Int × Int × Int × List UInt8) × List (Int × Int × Int × Int × Int × List UInt8) × List (List (Int × Int × Int × Int × Int × List UInt8))))) :=
  bif decide (d2 < (((d1.2.2.2.2.2.2.2.length : Nat) : Int))) then
    bif inb d2 d1.2.2.2.2.2.2.2.length then
      (nth d1.2.2.2.2.2.2.2 d2.toNat).bind fun (x1 : Int × List UInt8 × Int × List (Int × Int × Int × Int × Int × List UInt8) × List (Int × Int × Int × Int × Int × List UInt8) × List (List (Int × Int × Int × Int × Int × List UInt8))) =>
      bif decide ((((x1.2.2.2.1.length : Nat) : Int)) > 200) then
        some (.inl (d1, false))
      else
      bif decide ((((x1.2.2.2.2.1.length : Nat) : Int)) > 200) then
        some (.inl (d1, false))
      else
      bif decide ((((x1.2.2.2.2.2.length : Nat) : Int)) > 30) then
        some (.inl (d1, false))
      else
        (k103 rb x1 0).bind fun (z2 : ((Int × List UInt8 × Int × List (Int × Int × Int × Int × Int × List UInt8) × List (Int × Int × Int × Int × Int × List UInt8) × List (List (Int × Int × Int × Int × Int × List UInt8))) × Bool) ⊕ (Int × List UInt8 × Int × List (Int × Int × Int × Int × Int × List UInt8) × List (Int × Int × Int × Int × Int × List UInt8) × List (List (Int × Int × Int × Int × Int × List UInt8)))) =>
        match z2 with
        | .inl u3 =>
          some (.inl (d1, u3.2))
        | .inr w4 =>
          k102 rb d1 (IntKind.i64.wrap (d2 + 1))
    else
      none
  else
    some (.inr d1)
theorem eb102 (rf : T.RF) (rb : T.RB) (d1 : Bool × List UInt8 × List (List UInt8 × Int) × List UInt8 × Int × List (List UInt8 × Int) × List (List UInt8 × List (Int × Int × Int × Int × Int × List UInt8)) × List (Int × List UInt8 × Int × List (Int × Int × Int × Int × Int × List UInt8) × List (Int × Int × Int × Int × Int × List UInt8) × List (List (Int × Int × Int × Int × Int × List UInt8)))) (d2 : Int) : T.stepB rf rb 102 (d1, d2) = b102 rf rb d1 d2 := by kernel_rfl
theorem ob102 {d1 : Bool × List UInt8 × List (List UInt8 × Int) × List UInt8 × Int × List (List UInt8 × Int) × List (List UInt8 × List (Int × Int × Int × Int × Int × List UInt8)) × List (Int × List UInt8 × Int × List (Int × Int × Int × Int × Int × List UInt8) × List (Int × Int × Int × Int × Int × List UInt8) × List (List (Int × Int × Int × Int × Int × List UInt8)))} {d2 : Int} {y : (((Bool × List UInt8 × List (List UInt8 × Int) × List UInt8 × Int × List (List UInt8 × Int) × List (List UInt8 × List (Int × Int × Int × Int × Int × List UInt8)) × List (Int × List UInt8 × Int × List (Int × Int × Int × Int × Int × List UInt8) × List (Int × Int × Int × Int × Int × List UInt8) × List (List (Int × Int × Int × Int × Int × List UInt8)))) × Bool) ⊕ (Bool × List UInt8 × List (List UInt8 × Int) × List UInt8 × Int × List (List UInt8 × Int) × List (List UInt8 × List (Int × Int × Int × Int × Int × List UInt8)) × List (Int × List UInt8 × Int × List (Int × Int × Int × Int × Int × List UInt8) × List (Int × Int × Int × Int × Int × List UInt8) × List (List (Int × Int × Int × Int × Int × List UInt8)))))} (h : b102 T.rf T.rb d1 d2 = some y) : k102 T.rb d1 d2 = some y := T.rb_of (κ := 102) (d := (d1, d2)) ((eb102 T.rf T.rb d1 d2).trans h)

/- bailmentref06.Small loop 6 -/
noncomputable def b103 (rf : T.RF) (rb : T.RB) (d1 : Int × List UInt8 × Int × List (Int × Int × Int × Int × Int × List UInt8) × List (Int × Int × Int × Int × Int × List UInt8) × List (List (Int × Int × Int × Int × Int × List UInt8))) (d2 : Int) : Option (((Int × List UInt8 × Int × List (Int × Int × Int × Int × Int × List UInt8) × List (Int × Int × Int × Int × Int × List UInt8) × List (List (Int × Int × Int × Int × Int × List UInt8))) × Bool) ⊕ (Int × List UInt8 × Int × List (Int × Int × Int × Int × Int × List UInt8) × List (Int × Int × Int × Int × Int × List UInt8) × List (List (Int × Int × Int × Int × Int × List UInt8)))) :=
  bif decide (d2 < (((d1.2.2.2.2.2.length : Nat) : Int))) then
    bif inb d2 d1.2.2.2.2.2.length then
      (nth d1.2.2.2.2.2 d2.toNat).bind fun (x1 : List (Int × Int × Int × Int × Int × List UInt8)) =>
      bif decide ((((x1.length : Nat) : Int)) > 200) then
        some (.inl (d1, false))
      else
        k103 rb d1 (IntKind.i64.wrap (d2 + 1))
    else
      none
  else
    some (.inr d1)
theorem eb103 (rf : T.RF) (rb : T.RB) (d1 : Int × List UInt8 × Int × List (Int × Int × Int × Int × Int × List UInt8) × List (Int × Int × Int × Int × Int × List UInt8) × List (List (Int × Int × Int × Int × Int × List UInt8))) (d2 : Int) : T.stepB rf rb 103 (d1, d2) = b103 rf rb d1 d2 := by kernel_rfl
theorem ob103 {d1 : Int × List UInt8 × Int × List (Int × Int × Int × Int × Int × List UInt8) × List (Int × Int × Int × Int × Int × List UInt8) × List (List (Int × Int × Int × Int × Int × List UInt8))} {d2 : Int} {y : (((Int × List UInt8 × Int × List (Int × Int × Int × Int × Int × List UInt8) × List (Int × Int × Int × Int × Int × List UInt8) × List (List (Int × Int × Int × Int × Int × List UInt8))) × Bool) ⊕ (Int × List UInt8 × Int × List (Int × Int × Int × Int × Int × List UInt8) × List (Int × Int × Int × Int × Int × List UInt8) × List (List (Int × Int × Int × Int × Int × List UInt8))))} (h : b103 T.rf T.rb d1 d2 = some y) : k103 T.rb d1 d2 = some y := T.rb_of (κ := 103) (d := (d1, d2)) ((eb103 T.rf T.rb d1 d2).trans h)

/- bailmentref06.Small -/
noncomputable def r85 (rf : T.RF) (rb : T.RB) (d1 : List (Bool × List UInt8 × List (List UInt8 × Int) × List UInt8 × Int × List (List UInt8 × Int) × List (List UInt8 × List (Int × Int × Int × Int × Int × List UInt8)) × List (Int × List UInt8 × Int × List (Int × Int × Int × Int × Int × List UInt8) × List (Int × Int × Int × Int × Int × List UInt8) × List (List (Int × Int × Int × Int × Int × List UInt8)))) × List UInt8 × List UInt8) : Option Bool :=
  bif decide ((((d1.1.length : Nat) : Int)) > 30) then
    some false
  else
    (k100 rb d1 0).bind fun (z1 : ((List (Bool × List UInt8 × List (List UInt8 × Int) × List UInt8 × Int × List (List UInt8 × Int) × List (List UInt8 × List (Int × Int × Int × Int × Int × List UInt8)) × List (Int × List UInt8 × Int × List (Int × Int × Int × Int × Int × List UInt8) × List (Int × Int × Int × Int × Int × List UInt8) × List (List (Int × Int × Int × Int × Int × List UInt8)))) × List UInt8 × List UInt8) × Bool) ⊕ (List (Bool × List UInt8 × List (List UInt8 × Int) × List UInt8 × Int × List (List UInt8 × Int) × List (List UInt8 × List (Int × Int × Int × Int × Int × List UInt8)) × List (Int × List UInt8 × Int × List (Int × Int × Int × Int × Int × List UInt8) × List (Int × Int × Int × Int × Int × List UInt8) × List (List (Int × Int × Int × Int × Int × List UInt8)))) × List UInt8 × List UInt8)) =>
    match z1 with
    | .inl u2 =>
      some u2.2
    | .inr w3 =>
      some true
theorem er85 (rf : T.RF) (rb : T.RB) (d1 : List (Bool × List UInt8 × List (List UInt8 × Int) × List UInt8 × Int × List (List UInt8 × Int) × List (List UInt8 × List (Int × Int × Int × Int × Int × List UInt8)) × List (Int × List UInt8 × Int × List (Int × Int × Int × Int × Int × List UInt8) × List (Int × Int × Int × Int × Int × List UInt8) × List (List (Int × Int × Int × Int × Int × List UInt8)))) × List UInt8 × List UInt8) : T.stepF rf rb 85 d1 = r85 rf rb d1 := by kernel_rfl
theorem or85 {d1 : List (Bool × List UInt8 × List (List UInt8 × Int) × List UInt8 × Int × List (List UInt8 × Int) × List (List UInt8 × List (Int × Int × Int × Int × Int × List UInt8)) × List (Int × List UInt8 × Int × List (Int × Int × Int × Int × Int × List UInt8) × List (Int × Int × Int × Int × Int × List UInt8) × List (List (Int × Int × Int × Int × Int × List UInt8)))) × List UInt8 × List UInt8} {y : Bool} (h : r85 T.rf T.rb d1 = some y) : c85 T.rf d1 = some y := T.rf_of (f := 85) (d := d1) ((er85 T.rf T.rb d1).trans h)

/- bailmentref10.begun -/
noncomputable def r87 (rf : T.RF) (rb : T.RB) (d1 : List (Int × Int × Int × Int × Int × List UInt8)) : Option Int :=
  (c78 rf d1).bind fun (y1 : Int × Int) =>
  bif y1.2 == 0 then
    bif decide (y1.1 > 0) then
      some 11
    else
      some y1.2
  else
    some y1.2
theorem er87 (rf : T.RF) (rb : T.RB) (d1 : List (Int × Int × Int × Int × Int × List UInt8)) : T.stepF rf rb 87 d1 = r87 rf rb d1 := by kernel_rfl
theorem or87 {d1 : List (Int × Int × Int × Int × Int × List UInt8)} {y : Int} (h : r87 T.rf T.rb d1 = some y) : c87 T.rf d1 = some y := T.rf_of (f := 87) (d := d1) ((er87 T.rf T.rb d1).trans h)

/- bailmentref10.Check loop 0 -/
noncomputable def b116 (rf : T.RF) (rb : T.RB) (d1 : List (Bool × List UInt8 × List (List UInt8 × Int) × List UInt8 × Int × List (List UInt8 × Int) × List (List UInt8 × List (Int × Int × Int × Int × Int × List UInt8)) × List (Int × List UInt8 × Int × List (Int × Int × Int × Int × Int × List UInt8) × List (Int × Int × Int × Int × Int × List UInt8) × List (List (Int × Int × Int × Int × Int × List UInt8)))) × List UInt8 × List UInt8) (d2 : Int × Int) (d3 : Int) : Option (((List (Bool × List UInt8 × List (List UInt8 × Int) × List UInt8 × Int × List (List UInt8 × Int) × List (List UInt8 × List (Int × Int × Int × Int × Int × List UInt8)) × List (Int × List UInt8 × Int × List (Int × Int × Int × Int × Int × List UInt8) × List (Int × Int × Int × Int × Int × List UInt8) × List (List (Int × Int × Int × Int × Int × List UInt8)))) × List UInt8 × List UInt8) × Int × Int) ⊕ ((List (Bool × List UInt8 × List (List UInt8 × Int) × List UInt8 × Int × List (List UInt8 × Int) × List (List UInt8 × List (Int × Int × Int × Int × Int × List UInt8)) × List (Int × List UInt8 × Int × List (Int × Int × Int × Int × Int × List UInt8) × List (Int × Int × Int × Int × Int × List UInt8) × List (List (Int × Int × Int × Int × Int × List UInt8)))) × List UInt8 × List UInt8) × Int × Int)) :=
  bif decide (d3 < (((d1.1.length : Nat) : Int))) then
    bif inb d3 d1.1.length then
      (nth d1.1 d3.toNat).bind fun (x1 : Bool × List UInt8 × List (List UInt8 × Int) × List UInt8 × Int × List (List UInt8 × Int) × List (List UInt8 × List (Int × Int × Int × Int × Int × List UInt8)) × List (Int × List UInt8 × Int × List (Int × Int × Int × Int × Int × List UInt8) × List (Int × Int × Int × Int × Int × List UInt8) × List (List (Int × Int × Int × Int × Int × List UInt8)))) =>
      (k117 rb x1 [] 0).bind fun (z2 : (Bool × List UInt8 × List (List UInt8 × Int) × List UInt8 × Int × List (List UInt8 × Int) × List (List UInt8 × List (Int × Int × Int × Int × Int × List UInt8)) × List (Int × List UInt8 × Int × List (Int × Int × Int × Int × Int × List UInt8) × List (Int × Int × Int × Int × Int × List UInt8) × List (List (Int × Int × Int × Int × Int × List UInt8)))) × List (List (Int × Int × Int × Int × Int × List UInt8))) =>
      (k118 rb z2.1 z2.2 0).bind fun (z3 : (Bool × List UInt8 × List (List UInt8 × Int) × List UInt8 × Int × List (List UInt8 × Int) × List (List UInt8 × List (Int × Int × Int × Int × Int × List UInt8)) × List (Int × List UInt8 × Int × List (Int × Int × Int × Int × Int × List UInt8) × List (Int × Int × Int × Int × Int × List UInt8) × List (List (Int × Int × Int × Int × Int × List UInt8)))) × List (List (Int × Int × Int × Int × Int × List UInt8))) =>
      (k121 rb d2 z3.2 d3 0).bind fun (z4 : ((Int × Int) × List (List (Int × Int × Int × Int × Int × List UInt8))) ⊕ ((Int × Int) × List (List (Int × Int × Int × Int × Int × List UInt8)))) =>
      match z4 with
      | .inl u5 =>
        some (.inl (d1, u5.1))
      | .inr w6 =>
        k116 rb d1 w6.1 (IntKind.i64.wrap (d3 + 1))
    else
      none
  else
    some (.inr (d1, d2))
theorem eb116 (rf : T.RF) (rb : T.RB) (d1 : List (Bool × List UInt8 × List (List UInt8 × Int) × List UInt8 × Int × List (List UInt8 × Int) × List (List UInt8 × List (Int × Int × Int × Int × Int × List UInt8)) × List (Int × List UInt8 × Int × List (Int × Int × Int × Int × Int × List UInt8) × List (Int × Int × Int × Int × Int × List UInt8) × List (List (Int × Int × Int × Int × Int × List UInt8)))) × List UInt8 × List UInt8) (d2 : Int × Int) (d3 : Int) : T.stepB rf rb 116 (d1, d2, d3) = b116 rf rb d1 d2 d3 := by kernel_rfl
theorem ob116 {d1 : List (Bool × List UInt8 × List (List UInt8 × Int) × List UInt8 × Int × List (List UInt8 × Int) × List (List UInt8 × List (Int × Int × Int × Int × Int × List UInt8)) × List (Int × List UInt8 × Int × List (Int × Int × Int × Int × Int × List UInt8) × List (Int × Int × Int × Int × Int × List UInt8) × List (List (Int × Int × Int × Int × Int × List UInt8)))) × List UInt8 × List UInt8} {d2 : Int × Int} {d3 : Int} {y : (((List (Bool × List UInt8 × List (List UInt8 × Int) × List UInt8 × Int × List (List UInt8 × Int) × List (List UInt8 × List (Int × Int × Int × Int × Int × List UInt8)) × List (Int × List UInt8 × Int × List (Int × Int × Int × Int × Int × List UInt8) × List (Int × Int × Int × Int × Int × List UInt8) × List (List (Int × Int × Int × Int × Int × List UInt8)))) × List UInt8 × List UInt8) × Int × Int) ⊕ ((List (Bool × List UInt8 × List (List UInt8 × Int) × List UInt8 × Int × List (List UInt8 × Int) × List (List UInt8 × List (Int × Int × Int × Int × Int × List UInt8)) × List (Int × List UInt8 × Int × List (Int × Int × Int × Int × Int × List UInt8) × List (Int × Int × Int × Int × Int × List UInt8) × List (List (Int × Int × Int × Int × Int × List UInt8)))) × List UInt8 × List UInt8) × Int × Int))} (h : b116 T.rf T.rb d1 d2 d3 = some y) : k116 T.rb d1 d2 d3 = some y := T.rb_of (κ := 116) (d := (d1, d2, d3)) ((eb116 T.rf T.rb d1 d2 d3).trans h)

/- bailmentref10.Check loop 2 -/
noncomputable def b117 (rf : T.RF) (rb : T.RB) (d1 : Bool × List UInt8 × List (List UInt8 × Int) × List UInt8 × Int × List (List UInt8 × Int) × List (List UInt8 × List (Int × Int × Int × Int × Int × List UInt8)) × List (Int × List UInt8 × Int × List (Int × Int × Int × Int × Int × List UInt8) × List (Int × Int × Int × Int × Int × List UInt8) × List (List (Int × Int × Int × Int × Int × List UInt8)))) (d2 : List (List (Int × Int × Int × Int × Int × List UInt8))) (d3 : Int) : Option ((Bool × List UInt8 × List (List UInt8 × Int) × List UInt8 × Int × List (List UInt8 × Int) × List (List UInt8 × List (Int × Int × Int × Int × Int × List UInt8)) × List (Int × List UInt8 × Int × List (Int × Int × Int × Int × Int × List UInt8) × List (Int × Int × Int × Int × Int × List UInt8) × List (List (Int × Int × Int × Int × Int × List UInt8)))) × List (List (Int × Int × Int × Int × Int × List UInt8))) :=
  bif decide (d3 < (((d1.2.2.2.2.2.2.1.length : Nat) : Int))) then
    bif inb d3 d1.2.2.2.2.2.2.1.length then
      (nth d1.2.2.2.2.2.2.1 d3.toNat).bind fun (x1 : List UInt8 × List (Int × Int × Int × Int × Int × List UInt8)) =>
      bif (Nat.ble (d2.length + 1) most) && true then
        k117 rb d1 (d2 ++ [x1.2]) (IntKind.i64.wrap (d3 + 1))
      else
        none
    else
      none
  else
    some (d1, d2)
theorem eb117 (rf : T.RF) (rb : T.RB) (d1 : Bool × List UInt8 × List (List UInt8 × Int) × List UInt8 × Int × List (List UInt8 × Int) × List (List UInt8 × List (Int × Int × Int × Int × Int × List UInt8)) × List (Int × List UInt8 × Int × List (Int × Int × Int × Int × Int × List UInt8) × List (Int × Int × Int × Int × Int × List UInt8) × List (List (Int × Int × Int × Int × Int × List UInt8)))) (d2 : List (List (Int × Int × Int × Int × Int × List UInt8))) (d3 : Int) : T.stepB rf rb 117 (d1, d2, d3) = b117 rf rb d1 d2 d3 := by kernel_rfl
theorem ob117 {d1 : Bool × List UInt8 × List (List UInt8 × Int) × List UInt8 × Int × List (List UInt8 × Int) × List (List UInt8 × List (Int × Int × Int × Int × Int × List UInt8)) × List (Int × List UInt8 × Int × List (Int × Int × Int × Int × Int × List UInt8) × List (Int × Int × Int × Int × Int × List UInt8) × List (List (Int × Int × Int × Int × Int × List UInt8)))} {d2 : List (List (Int × Int × Int × Int × Int × List UInt8))} {d3 : Int} {y : ((Bool × List UInt8 × List (List UInt8 × Int) × List UInt8 × Int × List (List UInt8 × Int) × List (List UInt8 × List (Int × Int × Int × Int × Int × List UInt8)) × List (Int × List UInt8 × Int × List (Int × Int × Int × Int × Int × List UInt8) × List (Int × Int × Int × Int × Int × List UInt8) × List (List (Int × Int × Int × Int × Int × List UInt8)))) × List (List (Int × Int × Int × Int × Int × List UInt8)))} (h : b117 T.rf T.rb d1 d2 d3 = some y) : k117 T.rb d1 d2 d3 = some y := T.rb_of (κ := 117) (d := (d1, d2, d3)) ((eb117 T.rf T.rb d1 d2 d3).trans h)

/- bailmentref10.Check loop 4 -/
noncomputable def b118 (rf : T.RF) (rb : T.RB) (d1 : Bool × List UInt8 × List (List UInt8 × Int) × List UInt8 × Int × List (List UInt8 × Int) × List (List UInt8 × List (Int × Int × Int × Int × Int × List UInt8)) × List (Int × List UInt8 × Int × List (Int × Int × Int × Int × Int × List UInt8) × List (Int × Int × Int × Int × Int × List UInt8) × List (List (Int × Int × Int × Int × Int × List UInt8)))) (d2 : List (List (Int × Int × Int × Int × Int × List UInt8))) (d3 : Int) : Option ((Bool × List UInt8 × List (List UInt8 × Int) × List UInt8 × Int × List (List UInt8 × Int) × List (List UInt8 × List (Int × Int × Int × Int × Int × List UInt8)) × List (Int × List UInt8 × Int × List (Int × Int × Int × Int × Int × List UInt8) × List (Int × Int × Int × Int × Int × List UInt8) × List (List (Int × Int × Int × Int × Int × List UInt8)))) × List (List (Int × Int × Int × Int × Int × List UInt8))) :=
  bif decide (d3 < (((d1.2.2.2.2.2.2.2.length : Nat) : Int))) then
    bif inb d3 d1.2.2.2.2.2.2.2.length then
      (nth d1.2.2.2.2.2.2.2 d3.toNat).bind fun (x1 : Int × List UInt8 × Int × List (Int × Int × Int × Int × Int × List UInt8) × List (Int × Int × Int × Int × Int × List UInt8) × List (List (Int × Int × Int × Int × Int × List UInt8))) =>
      bif decide ((((x1.2.2.2.1.length : Nat) : Int)) > 0) then
        bif (Nat.ble (d2.length + 1) most) && true then
          (k119 rb (d2 ++ [x1.2.2.2.1]) x1).bind fun (z2 : (Int × List UInt8 × Int × List (Int × Int × Int × Int × Int × List UInt8) × List (Int × Int × Int × Int × Int × List UInt8) × List (List (Int × Int × Int × Int × Int × List UInt8))) × List (List (Int × Int × Int × Int × Int × List UInt8))) =>
          k118 rb d1 z2.2 (IntKind.i64.wrap (d3 + 1))
        else
          none
      else
        (k119 rb d2 x1).bind fun (z3 : (Int × List UInt8 × Int × List (Int × Int × Int × Int × Int × List UInt8) × List (Int × Int × Int × Int × Int × List UInt8) × List (List (Int × Int × Int × Int × Int × List UInt8))) × List (List (Int × Int × Int × Int × Int × List UInt8))) =>
        k118 rb d1 z3.2 (IntKind.i64.wrap (d3 + 1))
    else
      none
  else
    some (d1, d2)
theorem eb118 (rf : T.RF) (rb : T.RB) (d1 : Bool × List UInt8 × List (List UInt8 × Int) × List UInt8 × Int × List (List UInt8 × Int) × List (List UInt8 × List (Int × Int × Int × Int × Int × List UInt8)) × List (Int × List UInt8 × Int × List (Int × Int × Int × Int × Int × List UInt8) × List (Int × Int × Int × Int × Int × List UInt8) × List (List (Int × Int × Int × Int × Int × List UInt8)))) (d2 : List (List (Int × Int × Int × Int × Int × List UInt8))) (d3 : Int) : T.stepB rf rb 118 (d1, d2, d3) = b118 rf rb d1 d2 d3 := by kernel_rfl
theorem ob118 {d1 : Bool × List UInt8 × List (List UInt8 × Int) × List UInt8 × Int × List (List UInt8 × Int) × List (List UInt8 × List (Int × Int × Int × Int × Int × List UInt8)) × List (Int × List UInt8 × Int × List (Int × Int × Int × Int × Int × List UInt8) × List (Int × Int × Int × Int × Int × List UInt8) × List (List (Int × Int × Int × Int × Int × List UInt8)))} {d2 : List (List (Int × Int × Int × Int × Int × List UInt8))} {d3 : Int} {y : ((Bool × List UInt8 × List (List UInt8 × Int) × List UInt8 × Int × List (List UInt8 × Int) × List (List UInt8 × List (Int × Int × Int × Int × Int × List UInt8)) × List (Int × List UInt8 × Int × List (Int × Int × Int × Int × Int × List UInt8) × List (Int × Int × Int × Int × Int × List UInt8) × List (List (Int × Int × Int × Int × Int × List UInt8)))) × List (List (Int × Int × Int × Int × Int × List UInt8)))} (h : b118 T.rf T.rb d1 d2 d3 = some y) : k118 T.rb d1 d2 d3 = some y := T.rb_of (κ := 118) (d := (d1, d2, d3)) ((eb118 T.rf T.rb d1 d2 d3).trans h)

/- bailmentref10.Check tail 16 -/
noncomputable def b119 (rf : T.RF) (rb : T.RB) (d1 : List (List (Int × Int × Int × Int × Int × List UInt8))) (d2 : Int × List UInt8 × Int × List (Int × Int × Int × Int × Int × List UInt8) × List (Int × Int × Int × Int × Int × List UInt8) × List (List (Int × Int × Int × Int × Int × List UInt8))) : Option ((Int × List UInt8 × Int × List (Int × Int × Int × Int × Int × List UInt8) × List (Int × Int × Int × Int × Int × List UInt8) × List (List (Int × Int × Int × Int × Int × List UInt8))) × List (List (Int × Int × Int × Int × Int × List UInt8))) :=
  bif decide ((((d2.2.2.2.2.1.length : Nat) : Int)) > 0) then
    bif (Nat.ble (d1.length + 1) most) && true then
      (k120 rb (d1 ++ [d2.2.2.2.2.1]) d2 0).bind fun (z1 : (Int × List UInt8 × Int × List (Int × Int × Int × Int × Int × List UInt8) × List (Int × Int × Int × Int × Int × List UInt8) × List (List (Int × Int × Int × Int × Int × List UInt8))) × List (List (Int × Int × Int × Int × Int × List UInt8))) =>
      some z1
    else
      none
  else
    (k120 rb d1 d2 0).bind fun (z2 : (Int × List UInt8 × Int × List (Int × Int × Int × Int × Int × List UInt8) × List (Int × Int × Int × Int × Int × List UInt8) × List (List (Int × Int × Int × Int × Int × List UInt8))) × List (List (Int × Int × Int × Int × Int × List UInt8))) =>
    some z2
theorem eb119 (rf : T.RF) (rb : T.RB) (d1 : List (List (Int × Int × Int × Int × Int × List UInt8))) (d2 : Int × List UInt8 × Int × List (Int × Int × Int × Int × Int × List UInt8) × List (Int × Int × Int × Int × Int × List UInt8) × List (List (Int × Int × Int × Int × Int × List UInt8))) : T.stepB rf rb 119 (d1, d2) = b119 rf rb d1 d2 := by kernel_rfl
theorem ob119 {d1 : List (List (Int × Int × Int × Int × Int × List UInt8))} {d2 : Int × List UInt8 × Int × List (Int × Int × Int × Int × Int × List UInt8) × List (Int × Int × Int × Int × Int × List UInt8) × List (List (Int × Int × Int × Int × Int × List UInt8))} {y : ((Int × List UInt8 × Int × List (Int × Int × Int × Int × Int × List UInt8) × List (Int × Int × Int × Int × Int × List UInt8) × List (List (Int × Int × Int × Int × Int × List UInt8))) × List (List (Int × Int × Int × Int × Int × List UInt8)))} (h : b119 T.rf T.rb d1 d2 = some y) : k119 T.rb d1 d2 = some y := T.rb_of (κ := 119) (d := (d1, d2)) ((eb119 T.rf T.rb d1 d2).trans h)

/- bailmentref10.Check loop 6 -/
noncomputable def b120 (rf : T.RF) (rb : T.RB) (d1 : List (List (Int × Int × Int × Int × Int × List UInt8))) (d2 : Int × List UInt8 × Int × List (Int × Int × Int × Int × Int × List UInt8) × List (Int × Int × Int × Int × Int × List UInt8) × List (List (Int × Int × Int × Int × Int × List UInt8))) (d3 : Int) : Option ((Int × List UInt8 × Int × List (Int × Int × Int × Int × Int × List UInt8) × List (Int × Int × Int × Int × Int × List UInt8) × List (List (Int × Int × Int × Int × Int × List UInt8))) × List (List (Int × Int × Int × Int × Int × List UInt8))) :=
  bif decide (d3 < (((d2.2.2.2.2.2.length : Nat) : Int))) then
    bif inb d3 d2.2.2.2.2.2.length then
      (nth d2.2.2.2.2.2 d3.toNat).bind fun (x1 : List (Int × Int × Int × Int × Int × List UInt8)) =>
      bif decide ((((x1.length : Nat) : Int)) > 0) then
        bif inb d3 d2.2.2.2.2.2.length then
          (nth d2.2.2.2.2.2 d3.toNat).bind fun (x2 : List (Int × Int × Int × Int × Int × List UInt8)) =>
          bif (Nat.ble (d1.length + 1) most) && true then
            k120 rb (d1 ++ [x2]) d2 (IntKind.i64.wrap (d3 + 1))
          else
            none
        else
          none
      else
        k120 rb d1 d2 (IntKind.i64.wrap (d3 + 1))
    else
      none
  else
    some (d2, d1)
theorem eb120 (rf : T.RF) (rb : T.RB) (d1 : List (List (Int × Int × Int × Int × Int × List UInt8))) (d2 : Int × List UInt8 × Int × List (Int × Int × Int × Int × Int × List UInt8) × List (Int × Int × Int × Int × Int × List UInt8) × List (List (Int × Int × Int × Int × Int × List UInt8))) (d3 : Int) : T.stepB rf rb 120 (d1, d2, d3) = b120 rf rb d1 d2 d3 := by kernel_rfl
theorem ob120 {d1 : List (List (Int × Int × Int × Int × Int × List UInt8))} {d2 : Int × List UInt8 × Int × List (Int × Int × Int × Int × Int × List UInt8) × List (Int × Int × Int × Int × Int × List UInt8) × List (List (Int × Int × Int × Int × Int × List UInt8))} {d3 : Int} {y : ((Int × List UInt8 × Int × List (Int × Int × Int × Int × Int × List UInt8) × List (Int × Int × Int × Int × Int × List UInt8) × List (List (Int × Int × Int × Int × Int × List UInt8))) × List (List (Int × Int × Int × Int × Int × List UInt8)))} (h : b120 T.rf T.rb d1 d2 d3 = some y) : k120 T.rb d1 d2 d3 = some y := T.rb_of (κ := 120) (d := (d1, d2, d3)) ((eb120 T.rf T.rb d1 d2 d3).trans h)

/- bailmentref10.Check loop 8 -/
noncomputable def b121 (rf : T.RF) (rb : T.RB) (d1 : Int × Int) (d2 : List (List (Int × Int × Int × Int × Int × List UInt8))) (d3 : Int) (d4 : Int) : Option (((Int × Int) × List (List (Int × Int × Int × Int × Int × List UInt8))) ⊕ ((Int × Int) × List (List (Int × Int × Int × Int × Int × List UInt8)))) :=
  bif decide (d4 < (((d2.length : Nat) : Int))) then
    bif inb d4 d2.length then
      (nth d2 d4.toNat).bind fun (x1 : List (Int × Int × Int × Int × Int × List UInt8)) =>
      (c87 rf x1).bind fun (y2 : Int) =>
      bif y2 != 0 then
        some (.inl ((y2, d3), d2))
      else
        k121 rb d1 d2 d3 (IntKind.i64.wrap (d4 + 1))
    else
      none
  else
    some (.inr (d1, d2))
theorem eb121 (rf : T.RF) (rb : T.RB) (d1 : Int × Int) (d2 : List (List (Int × Int × Int × Int × Int × List UInt8))) (d3 : Int) (d4 : Int) : T.stepB rf rb 121 (d1, d2, d3, d4) = b121 rf rb d1 d2 d3 d4 := by kernel_rfl
theorem ob121 {d1 : Int × Int} {d2 : List (List (Int × Int × Int × Int × Int × List UInt8))} {d3 : Int} {d4 : Int} {y : (((Int × Int) × List (List (Int × Int × Int × Int × Int × List UInt8))) ⊕ ((Int × Int) × List (List (Int × Int × Int × Int × Int × List UInt8))))} (h : b121 T.rf T.rb d1 d2 d3 d4 = some y) : k121 T.rb d1 d2 d3 d4 = some y := T.rb_of (κ := 121) (d := (d1, d2, d3, d4)) ((eb121 T.rf T.rb d1 d2 d3 d4).trans h)

/- bailmentref10.Check -/
noncomputable def r86 (rf : T.RF) (rb : T.RB) (d1 : List (Bool × List UInt8 × List (List UInt8 × Int) × List UInt8 × Int × List (List UInt8 × Int) × List (List UInt8 × List (Int × Int × Int × Int × Int × List UInt8)) × List (Int × List UInt8 × Int × List (Int × Int × Int × Int × Int × List UInt8) × List (Int × Int × Int × Int × Int × List UInt8) × List (List (Int × Int × Int × Int × Int × List UInt8)))) × List UInt8 × List UInt8) : Option (Int × Int) :=
  (k116 rb d1 (0, 0) 0).bind fun (z1 : ((List (Bool × List UInt8 × List (List UInt8 × Int) × List UInt8 × Int × List (List UInt8 × Int) × List (List UInt8 × List (Int × Int × Int × Int × Int × List UInt8)) × List (Int × List UInt8 × Int × List (Int × Int × Int × Int × Int × List UInt8) × List (Int × Int × Int × Int × Int × List UInt8) × List (List (Int × Int × Int × Int × Int × List UInt8)))) × List UInt8 × List UInt8) × Int × Int) ⊕ ((List (Bool × List UInt8 × List (List UInt8 × Int) × List UInt8 × Int × List (List UInt8 × Int) × List (List UInt8 × List (Int × Int × Int × Int × Int × List UInt8)) × List (Int × List UInt8 × Int × List (Int × Int × Int × Int × Int × List UInt8) × List (Int × Int × Int × Int × Int × List UInt8) × List (List (Int × Int × Int × Int × Int × List UInt8)))) × List UInt8 × List UInt8) × Int × Int)) =>
  match z1 with
  | .inl u2 =>
    some u2.2
  | .inr w3 =>
    some (0, 0)
theorem er86 (rf : T.RF) (rb : T.RB) (d1 : List (Bool × List UInt8 × List (List UInt8 × Int) × List UInt8 × Int × List (List UInt8 × Int) × List (List UInt8 × List (Int × Int × Int × Int × Int × List UInt8)) × List (Int × List UInt8 × Int × List (Int × Int × Int × Int × Int × List UInt8) × List (Int × Int × Int × Int × Int × List UInt8) × List (List (Int × Int × Int × Int × Int × List UInt8)))) × List UInt8 × List UInt8) : T.stepF rf rb 86 d1 = r86 rf rb d1 := by kernel_rfl
theorem or86 {d1 : List (Bool × List UInt8 × List (List UInt8 × Int) × List UInt8 × Int × List (List UInt8 × Int) × List (List UInt8 × List (Int × Int × Int × Int × Int × List UInt8)) × List (Int × List UInt8 × Int × List (Int × Int × Int × Int × Int × List UInt8) × List (Int × Int × Int × Int × Int × List UInt8) × List (List (Int × Int × Int × Int × Int × List UInt8)))) × List UInt8 × List UInt8} {y : (Int × Int)} (h : r86 T.rf T.rb d1 = some y) : c86 T.rf d1 = some y := T.rf_of (f := 86) (d := d1) ((er86 T.rf T.rb d1).trans h)

/- bailmentlaw10.InitsCheck -/
noncomputable def r84 (rf : T.RF) (rb : T.RB) (d1 : List (Bool × List UInt8 × List (List UInt8 × Int) × List UInt8 × Int × List (List UInt8 × Int) × List (List UInt8 × List (Int × Int × Int × Int × Int × List UInt8)) × List (Int × List UInt8 × Int × List (Int × Int × Int × Int × Int × List UInt8) × List (Int × Int × Int × Int × Int × List UInt8) × List (List (Int × Int × Int × Int × Int × List UInt8)))) × List UInt8 × List UInt8) : Option Bool :=
  (c85 rf d1).bind fun (y1 : Bool) =>
  bif !y1 then
    (c1 rf).bind fun (y2 : Bool) =>
    some y2
  else
    (c76 rf d1).bind fun (y3 : Int × Int) =>
    (c86 rf d1).bind fun (y4 : Int × Int) =>
    bif (y3.1 == y4.1) && (y3.2 == y4.2) then
      (c1 rf).bind fun (y5 : Bool) =>
      some y5
    else
      some false
theorem er84 (rf : T.RF) (rb : T.RB) (d1 : List (Bool × List UInt8 × List (List UInt8 × Int) × List UInt8 × Int × List (List UInt8 × Int) × List (List UInt8 × List (Int × Int × Int × Int × Int × List UInt8)) × List (Int × List UInt8 × Int × List (Int × Int × Int × Int × Int × List UInt8) × List (Int × Int × Int × Int × Int × List UInt8) × List (List (Int × Int × Int × Int × Int × List UInt8)))) × List UInt8 × List UInt8) : T.stepF rf rb 84 d1 = r84 rf rb d1 := by kernel_rfl
theorem or84 {d1 : List (Bool × List UInt8 × List (List UInt8 × Int) × List UInt8 × Int × List (List UInt8 × Int) × List (List UInt8 × List (Int × Int × Int × Int × Int × List UInt8)) × List (Int × List UInt8 × Int × List (Int × Int × Int × Int × Int × List UInt8) × List (Int × Int × Int × Int × Int × List UInt8) × List (List (Int × Int × Int × Int × Int × List UInt8)))) × List UInt8 × List UInt8} {y : Bool} (h : r84 T.rf T.rb d1 = some y) : c84 T.rf d1 = some y := T.rf_of (f := 84) (d := d1) ((er84 T.rf T.rb d1).trans h)

/- bailmentlaw10.InitsArrow -/
noncomputable def r88 (rf : T.RF) (rb : T.RB) (d1 : List (Int × Int × Int × Int × Int × List UInt8)) : Option Bool :=
  bif decide ((((d1.length : Nat) : Int)) > 200) then
    (c1 rf).bind fun (y1 : Bool) =>
    some y1
  else
    (c79 rf d1).bind fun (y2 : Bool) =>
    bif !y2 then
      (c1 rf).bind fun (y3 : Bool) =>
      some y3
    else
      (c42 rf d1).bind fun (y4 : Int) =>
      bif decide (y4 > 38) then
        (c1 rf).bind fun (y5 : Bool) =>
        some y5
      else
        (c43 rf d1).bind fun (y6 : Int × Int) =>
        (c27 rf 1 1 ([] : List UInt8) []).bind fun (y7 : List (Int × Int × Int × Int × Int × List UInt8)) =>
        (c27 rf 19 0 ([] : List UInt8) [y7, d1]).bind fun (y8 : List (Int × Int × Int × Int × Int × List UInt8)) =>
        (c43 rf y8).bind fun (y9 : Int × Int) =>
        (c27 rf 19 0 ([] : List UInt8) [d1, y7]).bind fun (y10 : List (Int × Int × Int × Int × Int × List UInt8)) =>
        (c43 rf y10).bind fun (y11 : Int × Int) =>
        (c27 rf 21 0 ([] : List UInt8) [d1]).bind fun (y12 : List (Int × Int × Int × Int × Int × List UInt8)) =>
        (c43 rf y12).bind fun (y13 : Int × Int) =>
        bif y6.2 != 0 then
          bif y9.2 == y6.2 then
            bif y11.2 == y6.2 then
              bif y13.2 == y6.2 then
                (c1 rf).bind fun (y14 : Bool) =>
                some y14
              else
                some false
            else
              some false
          else
            some false
        else
        bif y9.1 != 0 then
          some false
        else
        bif y9.2 != 0 then
          some false
        else
        bif y6.1 != 0 then
          bif y6.1 != 1 then
            some false
          else
          bif y6.1 == 1 then
            bif y11.2 == 11 then
              bif y13.2 == 11 then
                (c1 rf).bind fun (y15 : Bool) =>
                some y15
              else
                some false
            else
              some false
          else
          bif y11.2 == 0 then
            bif y13.1 == 1 then
              bif y13.2 == 0 then
                (c1 rf).bind fun (y16 : Bool) =>
                some y16
              else
                some false
            else
              some false
          else
            some false
        else
        bif y6.1 == 1 then
          bif y11.2 == 11 then
            bif y13.2 == 11 then
              (c1 rf).bind fun (y17 : Bool) =>
              some y17
            else
              some false
          else
            some false
        else
        bif y11.2 == 0 then
          bif y13.1 == 1 then
            bif y13.2 == 0 then
              (c1 rf).bind fun (y18 : Bool) =>
              some y18
            else
              some false
          else
            some false
        else
          some false
theorem er88 (rf : T.RF) (rb : T.RB) (d1 : List (Int × Int × Int × Int × Int × List UInt8)) : T.stepF rf rb 88 d1 = r88 rf rb d1 := by kernel_rfl
theorem or88 {d1 : List (Int × Int × Int × Int × Int × List UInt8)} {y : Bool} (h : r88 T.rf T.rb d1 = some y) : c88 T.rf d1 = some y := T.rf_of (f := 88) (d := d1) ((er88 T.rf T.rb d1).trans h)

/- bailmentlaw10.InitsPlain loop 0 -/
noncomputable def b122 (rf : T.RF) (rb : T.RB) (d1 : List (Int × Int × Int × Int × Int × List UInt8)) (d2 : Int) : Option (Bool ⊕ Unit) :=
  bif decide (d2 < (((d1.length : Nat) : Int))) then
    bif inb d2 d1.length then
      (nth d1 d2.toNat).bind fun (x1 : Int × Int × Int × Int × Int × List UInt8) =>
      bif x1.1 == 21 then
        (c1 rf).bind fun (y2 : Bool) =>
        some (.inl y2)
      else
        k122 rb d1 (IntKind.i64.wrap (d2 + 1))
    else
      none
  else
    some (.inr ())
theorem eb122 (rf : T.RF) (rb : T.RB) (d1 : List (Int × Int × Int × Int × Int × List UInt8)) (d2 : Int) : T.stepB rf rb 122 (d1, d2) = b122 rf rb d1 d2 := by kernel_rfl
theorem ob122 {d1 : List (Int × Int × Int × Int × Int × List UInt8)} {d2 : Int} {y : (Bool ⊕ Unit)} (h : b122 T.rf T.rb d1 d2 = some y) : k122 T.rb d1 d2 = some y := T.rb_of (κ := 122) (d := (d1, d2)) ((eb122 T.rf T.rb d1 d2).trans h)

/- bailmentlaw10.InitsPlain -/
noncomputable def r89 (rf : T.RF) (rb : T.RB) (d1 : List (Int × Int × Int × Int × Int × List UInt8)) : Option Bool :=
  bif decide ((((d1.length : Nat) : Int)) > 300) then
    (c1 rf).bind fun (y1 : Bool) =>
    some y1
  else
    (c79 rf d1).bind fun (y2 : Bool) =>
    bif !y2 then
      (c1 rf).bind fun (y3 : Bool) =>
      some y3
    else
      (k122 rb d1 0).bind fun (z4 : Bool ⊕ Unit) =>
      match z4 with
      | .inl u5 =>
        some u5
      | .inr w6 =>
        (c43 rf d1).bind fun (y7 : Int × Int) =>
        bif y7.1 == 0 then
          bif y7.2 == 0 then
            (c1 rf).bind fun (y8 : Bool) =>
            some y8
          else
            some false
        else
          some false
theorem er89 (rf : T.RF) (rb : T.RB) (d1 : List (Int × Int × Int × Int × Int × List UInt8)) : T.stepF rf rb 89 d1 = r89 rf rb d1 := by kernel_rfl
theorem or89 {d1 : List (Int × Int × Int × Int × Int × List UInt8)} {y : Bool} (h : r89 T.rf T.rb d1 = some y) : c89 T.rf d1 = some y := T.rf_of (f := 89) (d := d1) ((er89 T.rf T.rb d1).trans h)

/- bailmentref03.order loop 0 -/
noncomputable def b124 (rf : T.RF) (rb : T.RB) (d1 : List (Int × Int × Int × Int × Int × List UInt8)) (d2 : List Int) (d3 : List Int) (d4 : List (Int × Int × Int × Int × Int × List UInt8)) (d5 : Int) : Option (List Int × List (Int × Int × Int × Int × Int × List UInt8) × List Int) :=
  bif decide (d5 < (((d2.length : Nat) : Int))) then
    bif inb d5 d2.length then
      (nth d2 d5.toNat).bind fun (x1 : Int) =>
      (c93 rf d1 d4 x1).bind fun (y2 : List (Int × Int × Int × Int × Int × List UInt8)) =>
      bif (Nat.ble (d3.length + 1) most) && true then
        k124 rb y2 d2 (d3 ++ [IntKind.i64.wrap ((((y2.length : Nat) : Int)) - 1)]) d4 (IntKind.i64.wrap (d5 + 1))
      else
        none
    else
      none
  else
    some (d2, d1, d3)
theorem eb124 (rf : T.RF) (rb : T.RB) (d1 : List (Int × Int × Int × Int × Int × List UInt8)) (d2 : List Int) (d3 : List Int) (d4 : List (Int × Int × Int × Int × Int × List UInt8)) (d5 : Int) : T.stepB rf rb 124 (d1, d2, d3, d4, d5) = b124 rf rb d1 d2 d3 d4 d5 := by kernel_rfl
theorem ob124 {d1 : List (Int × Int × Int × Int × Int × List UInt8)} {d2 : List Int} {d3 : List Int} {d4 : List (Int × Int × Int × Int × Int × List UInt8)} {d5 : Int} {y : (List Int × List (Int × Int × Int × Int × Int × List UInt8) × List Int)} (h : b124 T.rf T.rb d1 d2 d3 d4 d5 = some y) : k124 T.rb d1 d2 d3 d4 d5 = some y := T.rb_of (κ := 124) (d := (d1, d2, d3, d4, d5)) ((eb124 T.rf T.rb d1 d2 d3 d4 d5).trans h)

/- bailmentref03.order -/
noncomputable def r93 (rf : T.RF) (rb : T.RB) (d1 : List (Int × Int × Int × Int × Int × List UInt8)) (d2 : List (Int × Int × Int × Int × Int × List UInt8)) (d3 : Int) : Option (List (Int × Int × Int × Int × Int × List UInt8)) :=
  bif inb d3 d2.length then
    (nth d2 d3.toNat).bind fun (x1 : Int × Int × Int × Int × Int × List UInt8) =>
    (c29 rf x1).bind fun (y2 : List Int) =>
    (k124 rb d1 y2 [] d2 0).bind fun (z3 : List Int × List (Int × Int × Int × Int × Int × List UInt8) × List Int) =>
    bif inb d3 d2.length then
      (nth d2 d3.toNat).bind fun (x4 : Int × Int × Int × Int × Int × List UInt8) =>
      (c32 rf x4 z3.2.2).bind fun (y5 : Int × Int × Int × Int × Int × List UInt8) =>
      bif (Nat.ble (z3.2.1.length + 1) most) && true then
        some (z3.2.1 ++ [y5])
      else
        none
    else
      none
  else
    none
theorem er93 (rf : T.RF) (rb : T.RB) (d1 : List (Int × Int × Int × Int × Int × List UInt8)) (d2 : List (Int × Int × Int × Int × Int × List UInt8)) (d3 : Int) : T.stepF rf rb 93 (d1, d2, d3) = r93 rf rb d1 d2 d3 := by kernel_rfl
theorem or93 {d1 : List (Int × Int × Int × Int × Int × List UInt8)} {d2 : List (Int × Int × Int × Int × Int × List UInt8)} {d3 : Int} {y : (List (Int × Int × Int × Int × Int × List UInt8))} (h : r93 T.rf T.rb d1 d2 d3 = some y) : c93 T.rf d1 d2 d3 = some y := T.rf_of (f := 93) (d := (d1, d2, d3)) ((er93 T.rf T.rb d1 d2 d3).trans h)

/- bailmentref03.Sub -/
noncomputable def r92 (rf : T.RF) (rb : T.RB) (d1 : List (Int × Int × Int × Int × Int × List UInt8)) (d2 : Int) : Option (List (Int × Int × Int × Int × Int × List UInt8)) :=
  (c79 rf d1).bind fun (y1 : Bool) =>
  bif !y1 then
    some []
  else
  bif decide (d2 < 0) then
    some []
  else
  bif decide (d2 ≥ (((d1.length : Nat) : Int))) then
    some []
  else
    (c93 rf [] d1 d2).bind fun (y2 : List (Int × Int × Int × Int × Int × List UInt8)) =>
    some y2
theorem er92 (rf : T.RF) (rb : T.RB) (d1 : List (Int × Int × Int × Int × Int × List UInt8)) (d2 : Int) : T.stepF rf rb 92 (d1, d2) = r92 rf rb d1 d2 := by kernel_rfl
theorem or92 {d1 : List (Int × Int × Int × Int × Int × List UInt8)} {d2 : Int} {y : (List (Int × Int × Int × Int × Int × List UInt8))} (h : r92 T.rf T.rb d1 d2 = some y) : c92 T.rf d1 d2 = some y := T.rf_of (f := 92) (d := (d1, d2)) ((er92 T.rf T.rb d1 d2).trans h)

/- bailmentref03.Norm -/
noncomputable def r91 (rf : T.RF) (rb : T.RB) (d1 : List (Int × Int × Int × Int × Int × List UInt8)) : Option (List (Int × Int × Int × Int × Int × List UInt8)) :=
  (c92 rf d1 (IntKind.i64.wrap ((((d1.length : Nat) : Int)) - 1))).bind fun (y1 : List (Int × Int × Int × Int × Int × List UInt8)) =>
  some y1
theorem er91 (rf : T.RF) (rb : T.RB) (d1 : List (Int × Int × Int × Int × Int × List UInt8)) : T.stepF rf rb 91 d1 = r91 rf rb d1 := by kernel_rfl
theorem or91 {d1 : List (Int × Int × Int × Int × Int × List UInt8)} {y : (List (Int × Int × Int × Int × Int × List UInt8))} (h : r91 T.rf T.rb d1 = some y) : c91 T.rf d1 = some y := T.rf_of (f := 91) (d := d1) ((er91 T.rf T.rb d1).trans h)

/- bailmentlaw10.InitsOrder loop 0 -/
noncomputable def b125 (rf : T.RF) (rb : T.RB) (d1 : List (Int × Int × Int × Int × Int × List UInt8)) (d2 : Int) (d3 : Int) : Option (Bool ⊕ Unit) :=
  bif decide (d3 < (((d1.length : Nat) : Int))) then
    bif d2 == 0 then
      (c92 rf d1 d3).bind fun (y1 : List (Int × Int × Int × Int × Int × List UInt8)) =>
      (c43 rf y1).bind fun (y2 : Int × Int) =>
      bif inb d3 d1.length then
        (nth d1 d3.toNat).bind fun (x3 : Int × Int × Int × Int × Int × List UInt8) =>
        bif x3.1 != 28 then
          bif y2.2 != 0 then
            some (.inl false)
          else
            k125 rb d1 d2 (IntKind.i64.wrap (d3 + 1))
        else
          k125 rb d1 d2 (IntKind.i64.wrap (d3 + 1))
      else
        none
    else
      some (.inr ())
  else
    some (.inr ())
theorem eb125 (rf : T.RF) (rb : T.RB) (d1 : List (Int × Int × Int × Int × Int × List UInt8)) (d2 : Int) (d3 : Int) : T.stepB rf rb 125 (d1, d2, d3) = b125 rf rb d1 d2 d3 := by kernel_rfl
theorem ob125 {d1 : List (Int × Int × Int × Int × Int × List UInt8)} {d2 : Int} {d3 : Int} {y : (Bool ⊕ Unit)} (h : b125 T.rf T.rb d1 d2 d3 = some y) : k125 T.rb d1 d2 d3 = some y := T.rb_of (κ := 125) (d := (d1, d2, d3)) ((eb125 T.rf T.rb d1 d2 d3).trans h)

/- bailmentlaw10.InitsOrder -/
noncomputable def r90 (rf : T.RF) (rb : T.RB) (d1 : List (Int × Int × Int × Int × Int × List UInt8)) : Option Bool :=
  bif decide ((((d1.length : Nat) : Int)) > 200) then
    (c1 rf).bind fun (y1 : Bool) =>
    some y1
  else
    (c79 rf d1).bind fun (y2 : Bool) =>
    bif !y2 then
      (c1 rf).bind fun (y3 : Bool) =>
      some y3
    else
      (c43 rf d1).bind fun (y4 : Int × Int) =>
      (c91 rf d1).bind fun (y5 : List (Int × Int × Int × Int × Int × List UInt8)) =>
      (c43 rf y5).bind fun (y6 : Int × Int) =>
      bif y4.1 != y6.1 then
        some false
      else
      bif y4.2 != y6.2 then
        some false
      else
        (k125 rb d1 y4.2 0).bind fun (z7 : Bool ⊕ Unit) =>
        match z7 with
        | .inl u8 =>
          some u8
        | .inr w9 =>
          (c1 rf).bind fun (y10 : Bool) =>
          some y10
theorem er90 (rf : T.RF) (rb : T.RB) (d1 : List (Int × Int × Int × Int × Int × List UInt8)) : T.stepF rf rb 90 d1 = r90 rf rb d1 := by kernel_rfl
theorem or90 {d1 : List (Int × Int × Int × Int × Int × List UInt8)} {y : Bool} (h : r90 T.rf T.rb d1 = some y) : c90 T.rf d1 = some y := T.rf_of (f := 90) (d := d1) ((er90 T.rf T.rb d1).trans h)

/- bailmentlaw10.InitsBoth -/
noncomputable def r94 (rf : T.RF) (rb : T.RB) (d1 : List (Int × Int × Int × Int × Int × List UInt8)) (d2 : List (Int × Int × Int × Int × Int × List UInt8)) : Option Bool :=
  bif decide ((((d1.length : Nat) : Int)) > 100) then
    (c1 rf).bind fun (y1 : Bool) =>
    some y1
  else
  bif decide ((((d2.length : Nat) : Int)) > 100) then
    (c1 rf).bind fun (y2 : Bool) =>
    some y2
  else
    (c79 rf d1).bind fun (y3 : Bool) =>
    bif !y3 then
      (c1 rf).bind fun (y4 : Bool) =>
      some y4
    else
      (c79 rf d2).bind fun (y5 : Bool) =>
      bif !y5 then
        (c1 rf).bind fun (y6 : Bool) =>
        some y6
      else
        (c27 rf 14 0 ([] : List UInt8) [d1, d2]).bind fun (y7 : List (Int × Int × Int × Int × Int × List UInt8)) =>
        (c79 rf y7).bind fun (y8 : Bool) =>
        bif !y8 then
          (c1 rf).bind fun (y9 : Bool) =>
          some y9
        else
          (c43 rf d1).bind fun (y10 : Int × Int) =>
          (c43 rf d2).bind fun (y11 : Int × Int) =>
          (c43 rf y7).bind fun (y12 : Int × Int) =>
          bif y10.2 != 0 then
            bif y12.2 == 11 then
              (c1 rf).bind fun (y13 : Bool) =>
              some y13
            else
              some false
          else
          bif y11.2 != 0 then
            bif y12.2 == 11 then
              (c1 rf).bind fun (y14 : Bool) =>
              some y14
            else
              some false
          else
          bif y12.1 == (if y11.1 > y10.1 then y11.1 else y10.1) then
            bif y12.2 == 0 then
              (c1 rf).bind fun (y15 : Bool) =>
              some y15
            else
              some false
          else
            some false
theorem er94 (rf : T.RF) (rb : T.RB) (d1 : List (Int × Int × Int × Int × Int × List UInt8)) (d2 : List (Int × Int × Int × Int × Int × List UInt8)) : T.stepF rf rb 94 (d1, d2) = r94 rf rb d1 d2 := by kernel_rfl
theorem or94 {d1 : List (Int × Int × Int × Int × Int × List UInt8)} {d2 : List (Int × Int × Int × Int × Int × List UInt8)} {y : Bool} (h : r94 T.rf T.rb d1 d2 = some y) : c94 T.rf d1 d2 = some y := T.rf_of (f := 94) (d := (d1, d2)) ((er94 T.rf T.rb d1 d2).trans h)

theorem place_len : tabs.placeL.length = 126 := rfl
end Go.Proofs.Ytcgipnodielieaa.R
