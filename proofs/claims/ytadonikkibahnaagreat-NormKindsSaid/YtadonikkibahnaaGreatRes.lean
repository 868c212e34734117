import Derived.Test.YtadonikkibahnaaGreatResPA
namespace Go.Proofs.YtadonikkibahnaaGreat.R
noncomputable section
open Go Go.Bm Go.Proofs
set_option linter.unusedVariables false
set_option linter.unusedSimpArgs false
set_option maxRecDepth 100000
def b206 (rf:T.RF) (rb:T.RB) (d1 d2 d3:List Int) (d4 d5:Int):Option (List Int × List Int) :=
 bif decide (d5 < d4) then
  bif inb d5 d3.length then
   (nth d3 d5.toNat).bind fun x1 =>
   bif inb x1 d1.length then
   (nth d1 x1.toNat).bind fun x2 =>
   bif inb x1 d1.length then
   bif Nat.blt x1.toNat d1.length then
   bif inb x1 (setNth d1 x1.toNat (IntKind.i64.wrap (x2 - 1))).length then
   (nth (setNth d1 x1.toNat (IntKind.i64.wrap (x2 - 1))) x1.toNat).bind fun x3 =>
   bif x3 == 0 then
   (c64 rf d2 x1).bind fun y4 =>
   k206 rb (setNth d1 x1.toNat (IntKind.i64.wrap (x2 - 1))) y4 d3 d4 (IntKind.i64.wrap (d5 + 1))
   else
   k206 rb (setNth d1 x1.toNat (IntKind.i64.wrap (x2 - 1))) d2 d3 d4 (IntKind.i64.wrap (d5 + 1))
   else
   none
   else
   none
   else
   none
   else
   none
  else
   none
 else
  some (d1,d2)
theorem eb206:EqB 206 (W5 b206):=fun _ _ _ => by kernel_rfl
theorem ob206:IB5 b206 k206:=fun h => eb206.o h
def r57 (rf:T.RF) (rb:T.RB) (d1:List (List UInt8 × XL)):Option (List Int × Int) :=
 bif decide ((d1.length:Int) > 4000) then
  some ([],7)
 else
  (k201 rb [] d1 (d1.length:Int) 0).bind fun z1 =>
  bif inb' (d1.length:Int) most then
   bif inb' (d1.length:Int) d1.length then
   bif inb' (d1.length:Int) most then
   bif inb' (d1.length:Int) d1.length then
   (k202 rb z1 (List.replicate d1.length (0:Int)) (List.replicate d1.length []) [] d1 (d1.length:Int) 0).bind fun z2 =>
   (k205 rb z2.2.1 [] z2.2.2.2 z2.2.2.1).bind fun z3 =>
   bif decide ((z3.2.1.length:Int) < (d1.length:Int)) then
   some ([],12)
   else
   some (z3.2.1,0)
   else
   none
   else
   none
   else
   none
  else
   none
theorem er57:EqF 57 fun a b => r57 a b:=fun _ _ _ => by kernel_rfl
theorem or57:IF1 r57 c57:=fun h => er57.o h
def b244 (rf:T.RF) (rb:T.RB) (d1:Int) (d2:Bool) (d3:Int) (d4:List Unit) (d5:List (List UInt8 × Int)) (d6:List Int) (d7:List XS) (d8 d9:Int):Option ((Int × Bool × Int × List Unit × List (List UInt8 × Int) × List Int) ⊕ (Int × Bool × Int × List Unit × List (List UInt8 × Int) × List Int)) :=
 bif decide (d9 < d8) then
  bif inb d9 d7.length then
   (nth d7 d9.toNat).bind fun x1 =>
   bif assocHas (CT.eqK .str) d5 x1.1 then
   some (.inl (1,d2,d3,d4,d5,d6))
   else
   k244 rb d1 d2 d3 d4 (assocSet (CT.eqK .str) d5 x1.1 d9) d6 d7 d8 (IntKind.i64.wrap (d9 + 1))
  else
   none
 else
  some (.inr (d1,d2,d3,d4,d5,d6))
theorem eb244:EqB 244 (W9 b244):=fun _ _ _ => by kernel_rfl
theorem ob244:IB9 b244 k244:=fun h => eb244.o h
def b245w0 (rf:T.RF) (rb:T.RB) (d1:Int) (d2:List (List UInt8 × XL)) (d3:List Int) (d4:Bool) (d5:Int) (d6:List Unit) (d7:List (List UInt8 × Int)) (d8:List Int) (d9:List XS) (d10 d11:Int) (w1:XS):Option ((Int × Bool × Int × List (List UInt8 × Int) × List Int × List Unit) ⊕ (Int × Bool × Int × List (List UInt8 × Int) × List Int × List (List UInt8 × XL) × List Int × List Unit)) :=
 (k246 rb d1 d2 d3 w1 d4 d5 w1.1 w1.2.1 w1.2.2 [] d6 d7 d8 (List.replicate w1.2.2.length false) (List.replicate (if 1 > (w1.2.2.length:Int) then 1 else (w1.2.2.length:Int)).toNat (0:Int)) (List.replicate w1.2.2.length ()) d11).bind fun q2 =>
 match q2 with
 | .inl q3 =>
   k245 rb q3.1 q3.2.1 q3.2.2.1 q3.2.2.2.2.1 q3.2.2.2.2.2.1 q3.2.2.2.2.2.2.2.2.2.2.2.2.2.2.2 q3.2.2.2.2.2.2.2.2.2.2.1 q3.2.2.2.2.2.2.2.2.2.2.2.1 d9 d10 (IntKind.i64.wrap (d11 + 1))
 | .inr q3 =>
   match q3 with
   | .inl q4 =>
     some (.inl (q4.1,q4.2.2.2.2.1,q4.2.2.2.2.2.1,q4.2.2.2.2.2.2.2.2.2.2.1,q4.2.2.2.2.2.2.2.2.2.2.2.1,q4.2.2.2.2.2.2.2.2.2.2.2.2.2.2.2))
   | .inr q4 =>
     k245 rb q4.1 q4.2.2.2.2.2.2.2.2.2.2.2.2.2.1 q4.2.2.2.2.2.2.2.2.2.2.2.2.2.2.1 q4.2.2.1 q4.2.2.2.1 q4.2.2.2.2.2.2.2.2.2.2.2.2.2.2.2 q4.2.2.2.2.2.2.2.2.1 q4.2.2.2.2.2.2.2.2.2.1 d9 d10 (IntKind.i64.wrap (d11 + 1))
def b245w1 (rf:T.RF) (rb:T.RB) (d1:Int) (d2:List (List UInt8 × XL)) (d3:List Int) (d4:Bool) (d5:Int) (d6:List Unit) (d7:List (List UInt8 × Int)) (d8:List Int) (d9:List XS) (d10 d11:Int) (w1:XS):Option ((Int × Bool × Int × List (List UInt8 × Int) × List Int × List Unit) ⊕ (Int × Bool × Int × List (List UInt8 × Int) × List Int × List (List UInt8 × XL) × List Int × List Unit)) :=
 bif inb' (w1.2.2.length:Int) most then
  bif inb' (w1.2.2.length:Int) w1.2.2.length then
   agree (
   bif inb' (w1.2.2.length:Int) most then
   bif inb' (w1.2.2.length:Int) w1.2.2.length then
   agree (
   bif inb' (if 1 > (w1.2.2.length:Int) then 1 else (w1.2.2.length:Int)) most then
   bif inb' (if 1 > (w1.2.2.length:Int) then 1 else (w1.2.2.length:Int)) (if 1 > (w1.2.2.length:Int) then 1 else (w1.2.2.length:Int)).toNat then
   agN 1 (
   b245w0 rf rb d1 d2 d3 d4 d5 d6 d7 d8 d9 d10 d11 w1
   )
   else
   none
   else
   none
   ) (
   bif inb' (if 1 > (w1.2.2.length:Int) then 1 else (w1.2.2.length:Int)) most then
   bif inb' (if 1 > (w1.2.2.length:Int) then 1 else (w1.2.2.length:Int)) (if 1 > (w1.2.2.length:Int) then 1 else (w1.2.2.length:Int)).toNat then
   b245w0 rf rb d1 d2 d3 d4 d5 d6 d7 d8 d9 d10 d11 w1
   else
   none
   else
   none
   )
   else
   none
   else
   none
   ) (
   agree (
   bif inb' (if 1 > (w1.2.2.length:Int) then 1 else (w1.2.2.length:Int)) most then
   bif inb' (if 1 > (w1.2.2.length:Int) then 1 else (w1.2.2.length:Int)) (if 1 > (w1.2.2.length:Int) then 1 else (w1.2.2.length:Int)).toNat then
   agree (
   bif inb' (w1.2.2.length:Int) most then
   bif inb' (w1.2.2.length:Int) w1.2.2.length then
   agN 1 (
   b245w0 rf rb d1 d2 d3 d4 d5 d6 d7 d8 d9 d10 d11 w1
   )
   else
   none
   else
   none
   ) (
   bif inb' (w1.2.2.length:Int) most then
   bif inb' (w1.2.2.length:Int) w1.2.2.length then
   b245w0 rf rb d1 d2 d3 d4 d5 d6 d7 d8 d9 d10 d11 w1
   else
   none
   else
   none
   )
   else
   none
   else
   none
   ) (
   agree (
   bif inb' (w1.2.2.length:Int) most then
   bif inb' (w1.2.2.length:Int) w1.2.2.length then
   bif inb' (if 1 > (w1.2.2.length:Int) then 1 else (w1.2.2.length:Int)) most then
   bif inb' (if 1 > (w1.2.2.length:Int) then 1 else (w1.2.2.length:Int)) (if 1 > (w1.2.2.length:Int) then 1 else (w1.2.2.length:Int)).toNat then
   b245w0 rf rb d1 d2 d3 d4 d5 d6 d7 d8 d9 d10 d11 w1
   else
   none
   else
   none
   else
   none
   else
   none
   ) (
   bif inb' (if 1 > (w1.2.2.length:Int) then 1 else (w1.2.2.length:Int)) most then
   bif inb' (if 1 > (w1.2.2.length:Int) then 1 else (w1.2.2.length:Int)) (if 1 > (w1.2.2.length:Int) then 1 else (w1.2.2.length:Int)).toNat then
   bif inb' (w1.2.2.length:Int) most then
   bif inb' (w1.2.2.length:Int) w1.2.2.length then
   b245w0 rf rb d1 d2 d3 d4 d5 d6 d7 d8 d9 d10 d11 w1
   else
   none
   else
   none
   else
   none
   else
   none
   )
   )
   )
  else
   none
 else
  none
def b245w2 (rf:T.RF) (rb:T.RB) (d1:Int) (d2:List (List UInt8 × XL)) (d3:List Int) (d4:Bool) (d5:Int) (d6:List Unit) (d7:List (List UInt8 × Int)) (d8:List Int) (d9:List XS) (d10 d11:Int) (w1:XS):Option ((Int × Bool × Int × List (List UInt8 × Int) × List Int × List Unit) ⊕ (Int × Bool × Int × List (List UInt8 × Int) × List Int × List (List UInt8 × XL) × List Int × List Unit)) :=
 bif inb' (w1.2.2.length:Int) most then
  bif inb' (w1.2.2.length:Int) w1.2.2.length then
   agree (
   bif inb' (w1.2.2.length:Int) most then
   bif inb' (w1.2.2.length:Int) w1.2.2.length then
   bif inb' (if 1 > (w1.2.2.length:Int) then 1 else (w1.2.2.length:Int)) most then
   bif inb' (if 1 > (w1.2.2.length:Int) then 1 else (w1.2.2.length:Int)) (if 1 > (w1.2.2.length:Int) then 1 else (w1.2.2.length:Int)).toNat then
   b245w0 rf rb d1 d2 d3 d4 d5 d6 d7 d8 d9 d10 d11 w1
   else
   none
   else
   none
   else
   none
   else
   none
   ) (
   bif inb' (if 1 > (w1.2.2.length:Int) then 1 else (w1.2.2.length:Int)) most then
   bif inb' (if 1 > (w1.2.2.length:Int) then 1 else (w1.2.2.length:Int)) (if 1 > (w1.2.2.length:Int) then 1 else (w1.2.2.length:Int)).toNat then
   bif inb' (w1.2.2.length:Int) most then
   bif inb' (w1.2.2.length:Int) w1.2.2.length then
   b245w0 rf rb d1 d2 d3 d4 d5 d6 d7 d8 d9 d10 d11 w1
   else
   none
   else
   none
   else
   none
   else
   none
   )
  else
   none
 else
  none
def b245q (rf:T.RF) (rb:T.RB) (d1:Int) (d2:List (List UInt8 × XL)) (d3:List Int) (d4:Bool) (d5:Int) (d6:List Unit) (d7:List (List UInt8 × Int)) (d8:List Int) (d9:List XS) (d10 d11:Int):Option ((Int × Bool × Int × List (List UInt8 × Int) × List Int × List Unit) ⊕ (Int × Bool × Int × List (List UInt8 × Int) × List Int × List (List UInt8 × XL) × List Int × List Unit)) :=
 bif decide (d11 < d10) then
  bif inb d11 d9.length then
   (nth d9 d11.toNat).bind fun x1 =>
   agree (
   b245w1 rf rb d1 d2 d3 d4 d5 d6 d7 d8 d9 d10 d11 x1
   ) (
   agree (
   b245w1 rf rb d1 d2 d3 d4 d5 d6 d7 d8 d9 d10 d11 x1
   ) (
   agree (
   bif inb' (if 1 > (x1.2.2.length:Int) then 1 else (x1.2.2.length:Int)) most then
   bif inb' (if 1 > (x1.2.2.length:Int) then 1 else (x1.2.2.length:Int)) (if 1 > (x1.2.2.length:Int) then 1 else (x1.2.2.length:Int)).toNat then
   agree (
   bif inb' (x1.2.2.length:Int) most then
   bif inb' (x1.2.2.length:Int) x1.2.2.length then
   agree (
   bif inb' (x1.2.2.length:Int) most then
   bif inb' (x1.2.2.length:Int) x1.2.2.length then
   agN 1 (
   b245w0 rf rb d1 d2 d3 d4 d5 d6 d7 d8 d9 d10 d11 x1
   )
   else
   none
   else
   none
   ) (
   bif inb' (x1.2.2.length:Int) most then
   bif inb' (x1.2.2.length:Int) x1.2.2.length then
   b245w0 rf rb d1 d2 d3 d4 d5 d6 d7 d8 d9 d10 d11 x1
   else
   none
   else
   none
   )
   else
   none
   else
   none
   ) (
   agree (
   bif inb' (x1.2.2.length:Int) most then
   bif inb' (x1.2.2.length:Int) x1.2.2.length then
   agree (
   bif inb' (x1.2.2.length:Int) most then
   bif inb' (x1.2.2.length:Int) x1.2.2.length then
   agN 1 (
   b245w0 rf rb d1 d2 d3 d4 d5 d6 d7 d8 d9 d10 d11 x1
   )
   else
   none
   else
   none
   ) (
   bif inb' (x1.2.2.length:Int) most then
   bif inb' (x1.2.2.length:Int) x1.2.2.length then
   b245w0 rf rb d1 d2 d3 d4 d5 d6 d7 d8 d9 d10 d11 x1
   else
   none
   else
   none
   )
   else
   none
   else
   none
   ) (
   agN 1 (
   bif inb' (x1.2.2.length:Int) most then
   bif inb' (x1.2.2.length:Int) x1.2.2.length then
   bif inb' (x1.2.2.length:Int) most then
   bif inb' (x1.2.2.length:Int) x1.2.2.length then
   b245w0 rf rb d1 d2 d3 d4 d5 d6 d7 d8 d9 d10 d11 x1
   else
   none
   else
   none
   else
   none
   else
   none
   )
   )
   )
   else
   none
   else
   none
   ) (
   agree (
   b245w2 rf rb d1 d2 d3 d4 d5 d6 d7 d8 d9 d10 d11 x1
   ) (
   agree (
   b245w2 rf rb d1 d2 d3 d4 d5 d6 d7 d8 d9 d10 d11 x1
   ) (
   bif inb' (if 1 > (x1.2.2.length:Int) then 1 else (x1.2.2.length:Int)) most then
   bif inb' (if 1 > (x1.2.2.length:Int) then 1 else (x1.2.2.length:Int)) (if 1 > (x1.2.2.length:Int) then 1 else (x1.2.2.length:Int)).toNat then
   agN 1 (
   bif inb' (x1.2.2.length:Int) most then
   bif inb' (x1.2.2.length:Int) x1.2.2.length then
   bif inb' (x1.2.2.length:Int) most then
   bif inb' (x1.2.2.length:Int) x1.2.2.length then
   b245w0 rf rb d1 d2 d3 d4 d5 d6 d7 d8 d9 d10 d11 x1
   else
   none
   else
   none
   else
   none
   else
   none
   )
   else
   none
   else
   none
   )
   )
   )
   )
   )
  else
   none
 else
  some (.inr (d1,d4,d5,d7,d8,d2,d3,d6))
def b245 (rf:T.RF) (rb:T.RB) (d1:Int) (d2:List (List UInt8 × XL)) (d3:List Int) (d4:Bool) (d5:Int) (d6:List Unit) (d7:List (List UInt8 × Int)) (d8:List Int) (d9:List XS) (d10 d11:Int):Option ((Int × Bool × Int × List (List UInt8 × Int) × List Int × List Unit) ⊕ (Int × Bool × Int × List (List UInt8 × Int) × List Int × List (List UInt8 × XL) × List Int × List Unit)) :=
 bif decide (d11 < d10) then
  bif inb d11 d9.length then
   (nth d9 d11.toNat).bind fun x1 =>
   bif inb' (x1.2.2.length:Int) most then
    bif inb' (x1.2.2.length:Int) x1.2.2.length then
     bif inb' (x1.2.2.length:Int) most then
      bif inb' (x1.2.2.length:Int) x1.2.2.length then
       bif inb' (if 1 > (x1.2.2.length:Int) then 1 else (x1.2.2.length:Int)) most then
        bif inb' (if 1 > (x1.2.2.length:Int) then 1 else (x1.2.2.length:Int)) (if 1 > (x1.2.2.length:Int) then 1 else (x1.2.2.length:Int)).toNat then
         (k246 rb d1 d2 d3 x1 d4 d5 x1.1 x1.2.1 x1.2.2 [] d6 d7 d8 (List.replicate x1.2.2.length false) (List.replicate (if 1 > (x1.2.2.length:Int) then 1 else (x1.2.2.length:Int)).toNat (0:Int)) (List.replicate x1.2.2.length ()) d11).bind fun z2 =>
         match z2 with
         | .inl u3 =>
           k245 rb u3.1 u3.2.1 u3.2.2.1 u3.2.2.2.2.1 u3.2.2.2.2.2.1 u3.2.2.2.2.2.2.2.2.2.2.2.2.2.2.2 u3.2.2.2.2.2.2.2.2.2.2.1 u3.2.2.2.2.2.2.2.2.2.2.2.1 d9 d10 (IntKind.i64.wrap (d11 + 1))
         | .inr w4 =>
           match w4 with
           | .inl u5 =>
             some (.inl (u5.1,u5.2.2.2.2.1,u5.2.2.2.2.2.1,u5.2.2.2.2.2.2.2.2.2.2.1,u5.2.2.2.2.2.2.2.2.2.2.2.1,u5.2.2.2.2.2.2.2.2.2.2.2.2.2.2.2))
           | .inr w6 =>
             k245 rb w6.1 w6.2.2.2.2.2.2.2.2.2.2.2.2.2.1 w6.2.2.2.2.2.2.2.2.2.2.2.2.2.2.1 w6.2.2.1 w6.2.2.2.1 w6.2.2.2.2.2.2.2.2.2.2.2.2.2.2.2 w6.2.2.2.2.2.2.2.2.1 w6.2.2.2.2.2.2.2.2.2.1 d9 d10 (IntKind.i64.wrap (d11 + 1))
        else
         none
       else
        none
      else
       none
     else
      none
    else
     none
   else
    none
  else
   none
 else
  some (.inr (d1,d4,d5,d7,d8,d2,d3,d6))
theorem eb245:EqB 245 (W11 b245q):=fun _ _ _ => by kernel_rfl
theorem sb245 (rf rb d1 d2 d3 d4 d5 d6 d7 d8 d9 d10 d11):b245q rf rb d1 d2 d3 d4 d5 d6 d7 d8 d9 d10 d11 = b245 rf rb d1 d2 d3 d4 d5 d6 d7 d8 d9 d10 d11:=by
 unfold b245q b245 b245w2 b245w1 b245w0; simp only [agN_eq,agree_self,agree_swap,guard_and,agree_guard,Bool.and_assoc,Bool.and_comm,Bool.and_left_comm,Bool.and_self,Bool.and_self_left]
theorem ob245 {d1 d2 d3 d4 d5 d6 d7 d8 d9 d10 d11 y} (h:b245 T.rf T.rb d1 d2 d3 d4 d5 d6 d7 d8 d9 d10 d11 = some y):k245 T.rb d1 d2 d3 d4 d5 d6 d7 d8 d9 d10 d11 = some y:=eb245.o ((sb245 _ _ _ _ _ _ _ _ _ _ _ _ _).trans h)
def b246w0 (rf:T.RF) (rb:T.RB) (d1:Int) (d2:List (List UInt8 × XL)) (d3:List Int) (d4:XS) (d5:Bool) (d6:Int) (d7:List UInt8) (d8:Int) (d9:XL) (d10:List Int) (d11:List Unit) (d12:List (List UInt8 × Int)) (d13:List Int) (d14:List Bool) (d15:List Int) (d16:List Unit) (d17:Int):Option ((Int × List (List UInt8 × XL) × List Int × XS × Bool × Int × List UInt8 × Int × XL × List Int × List (List UInt8 × Int) × List Int × List Bool × List Int × List Unit × List Unit) ⊕ (Int × List (List UInt8 × XL) × List Int × XS × Bool × Int × List UInt8 × Int × XL × List Int × List (List UInt8 × Int) × List Int × List Bool × List Int × List Unit × List Unit) ⊕ (Int × XS × Bool × Int × List UInt8 × Int × XL × List Int × List (List UInt8 × Int) × List Int × List Bool × List Int × List Unit × List (List UInt8 × XL) × List Int × List Unit)) :=
 bif (Nat.ble (d11.length + 1) most) && true then
  (k247 rb d1 d2 d3 d4 d5 d6 d7 d8 d9 d10 (d11 ++ [()]) d12 d13 d14 d15 d16 d17).bind fun q1 =>
  match q1 with
  | .inl q2 =>
    some (.inl (q2.1,q2.2.1,q2.2.2.1,q2.2.2.2.1,q2.2.2.2.2.1,q2.2.2.2.2.2.1,q2.2.2.2.2.2.2.1,q2.2.2.2.2.2.2.2.1,q2.2.2.2.2.2.2.2.2.1,q2.2.2.2.2.2.2.2.2.2.1,q2.2.2.2.2.2.2.2.2.2.2.2.1,q2.2.2.2.2.2.2.2.2.2.2.2.2.1,q2.2.2.2.2.2.2.2.2.2.2.2.2.2.1,q2.2.2.2.2.2.2.2.2.2.2.2.2.2.2.1,q2.2.2.2.2.2.2.2.2.2.2.2.2.2.2.2,q2.2.2.2.2.2.2.2.2.2.2.1))
  | .inr q2 =>
    match q2 with
    | .inl q3 =>
      some (.inr (.inl (q3.1,q3.2.1,q3.2.2.1,q3.2.2.2.1,q3.2.2.2.2.1,q3.2.2.2.2.2.1,q3.2.2.2.2.2.2.1,q3.2.2.2.2.2.2.2.1,q3.2.2.2.2.2.2.2.2.1,q3.2.2.2.2.2.2.2.2.2.1,q3.2.2.2.2.2.2.2.2.2.2.2.1,q3.2.2.2.2.2.2.2.2.2.2.2.2.1,q3.2.2.2.2.2.2.2.2.2.2.2.2.2.1,q3.2.2.2.2.2.2.2.2.2.2.2.2.2.2.1,q3.2.2.2.2.2.2.2.2.2.2.2.2.2.2.2,q3.2.2.2.2.2.2.2.2.2.2.1)))
    | .inr q3 =>
      some (.inr (.inr (q3.1,q3.2.1,q3.2.2.1,q3.2.2.2.1,q3.2.2.2.2.1,q3.2.2.2.2.2.1,q3.2.2.2.2.2.2.1,q3.2.2.2.2.2.2.2.1,q3.2.2.2.2.2.2.2.2.2.1,q3.2.2.2.2.2.2.2.2.2.2.1,q3.2.2.2.2.2.2.2.2.2.2.2.1,q3.2.2.2.2.2.2.2.2.2.2.2.2.1,q3.2.2.2.2.2.2.2.2.2.2.2.2.2.1,q3.2.2.2.2.2.2.2.2.2.2.2.2.2.2.1,q3.2.2.2.2.2.2.2.2.2.2.2.2.2.2.2,q3.2.2.2.2.2.2.2.2.1)))
 else
  none
def b246q (rf:T.RF) (rb:T.RB) (d1:Int) (d2:List (List UInt8 × XL)) (d3:List Int) (d4:XS) (d5:Bool) (d6:Int) (d7:List UInt8) (d8:Int) (d9:XL) (d10:List Int) (d11:List Unit) (d12:List (List UInt8 × Int)) (d13:List Int) (d14:List Bool) (d15:List Int) (d16:List Unit) (d17:Int):Option ((Int × List (List UInt8 × XL) × List Int × XS × Bool × Int × List UInt8 × Int × XL × List Int × List (List UInt8 × Int) × List Int × List Bool × List Int × List Unit × List Unit) ⊕ (Int × List (List UInt8 × XL) × List Int × XS × Bool × Int × List UInt8 × Int × XL × List Int × List (List UInt8 × Int) × List Int × List Bool × List Int × List Unit × List Unit) ⊕ (Int × XS × Bool × Int × List UInt8 × Int × XL × List Int × List (List UInt8 × Int) × List Int × List Bool × List Int × List Unit × List (List UInt8 × XL) × List Int × List Unit)) :=
 agree (
  agree (
   agN 1 (
   b246w0 rf rb d1 d2 d3 d4 d5 d6 d7 d8 d9 d10 d11 d12 d13 d14 d15 d16 d17
   )
  ) (
   b246w0 rf rb d1 d2 d3 d4 d5 d6 d7 d8 d9 d10 d11 d12 d13 d14 d15 d16 d17
  )
 ) (
  agree (
   agree (
   agN 1 (
   b246w0 rf rb d1 d2 d3 d4 d5 d6 d7 d8 d9 d10 d11 d12 d13 d14 d15 d16 d17
   )
   ) (
   agN 1 (
   agN 2 (
   b246w0 rf rb d1 d2 d3 d4 d5 d6 d7 d8 d9 d10 d11 d12 d13 d14 d15 d16 d17
   )
   )
   )
  ) (
   agN 3 (
   b246w0 rf rb d1 d2 d3 d4 d5 d6 d7 d8 d9 d10 d11 d12 d13 d14 d15 d16 d17
   )
  )
 )
def b246 (rf:T.RF) (rb:T.RB) (d1:Int) (d2:List (List UInt8 × XL)) (d3:List Int) (d4:XS) (d5:Bool) (d6:Int) (d7:List UInt8) (d8:Int) (d9:XL) (d10:List Int) (d11:List Unit) (d12:List (List UInt8 × Int)) (d13:List Int) (d14:List Bool) (d15:List Int) (d16:List Unit) (d17:Int):Option ((Int × List (List UInt8 × XL) × List Int × XS × Bool × Int × List UInt8 × Int × XL × List Int × List (List UInt8 × Int) × List Int × List Bool × List Int × List Unit × List Unit) ⊕ (Int × List (List UInt8 × XL) × List Int × XS × Bool × Int × List UInt8 × Int × XL × List Int × List (List UInt8 × Int) × List Int × List Bool × List Int × List Unit × List Unit) ⊕ (Int × XS × Bool × Int × List UInt8 × Int × XL × List Int × List (List UInt8 × Int) × List Int × List Bool × List Int × List Unit × List (List UInt8 × XL) × List Int × List Unit)) :=
 bif (Nat.ble (d11.length + 1) most) && true then
  (k247 rb d1 d2 d3 d4 d5 d6 d7 d8 d9 d10 (d11 ++ [()]) d12 d13 d14 d15 d16 d17).bind fun z1 =>
  match z1 with
  | .inl u2 =>
    some (.inl (u2.1,u2.2.1,u2.2.2.1,u2.2.2.2.1,u2.2.2.2.2.1,u2.2.2.2.2.2.1,u2.2.2.2.2.2.2.1,u2.2.2.2.2.2.2.2.1,u2.2.2.2.2.2.2.2.2.1,u2.2.2.2.2.2.2.2.2.2.1,u2.2.2.2.2.2.2.2.2.2.2.2.1,u2.2.2.2.2.2.2.2.2.2.2.2.2.1,u2.2.2.2.2.2.2.2.2.2.2.2.2.2.1,u2.2.2.2.2.2.2.2.2.2.2.2.2.2.2.1,u2.2.2.2.2.2.2.2.2.2.2.2.2.2.2.2,u2.2.2.2.2.2.2.2.2.2.2.1))
  | .inr w3 =>
    match w3 with
    | .inl u4 =>
      some (.inr (.inl (u4.1,u4.2.1,u4.2.2.1,u4.2.2.2.1,u4.2.2.2.2.1,u4.2.2.2.2.2.1,u4.2.2.2.2.2.2.1,u4.2.2.2.2.2.2.2.1,u4.2.2.2.2.2.2.2.2.1,u4.2.2.2.2.2.2.2.2.2.1,u4.2.2.2.2.2.2.2.2.2.2.2.1,u4.2.2.2.2.2.2.2.2.2.2.2.2.1,u4.2.2.2.2.2.2.2.2.2.2.2.2.2.1,u4.2.2.2.2.2.2.2.2.2.2.2.2.2.2.1,u4.2.2.2.2.2.2.2.2.2.2.2.2.2.2.2,u4.2.2.2.2.2.2.2.2.2.2.1)))
    | .inr w5 =>
      some (.inr (.inr (w5.1,w5.2.1,w5.2.2.1,w5.2.2.2.1,w5.2.2.2.2.1,w5.2.2.2.2.2.1,w5.2.2.2.2.2.2.1,w5.2.2.2.2.2.2.2.1,w5.2.2.2.2.2.2.2.2.2.1,w5.2.2.2.2.2.2.2.2.2.2.1,w5.2.2.2.2.2.2.2.2.2.2.2.1,w5.2.2.2.2.2.2.2.2.2.2.2.2.1,w5.2.2.2.2.2.2.2.2.2.2.2.2.2.1,w5.2.2.2.2.2.2.2.2.2.2.2.2.2.2.1,w5.2.2.2.2.2.2.2.2.2.2.2.2.2.2.2,w5.2.2.2.2.2.2.2.2.1)))
 else
  none
theorem eb246:EqB 246 (W17 b246q):=fun _ _ _ => by kernel_rfl
theorem sb246 (rf rb d1 d2 d3 d4 d5 d6 d7 d8 d9 d10 d11 d12 d13 d14 d15 d16 d17):b246q rf rb d1 d2 d3 d4 d5 d6 d7 d8 d9 d10 d11 d12 d13 d14 d15 d16 d17 = b246 rf rb d1 d2 d3 d4 d5 d6 d7 d8 d9 d10 d11 d12 d13 d14 d15 d16 d17:=by
 unfold b246q b246 b246w0; simp only [agN_eq,agree_self,agree_swap]
theorem ob246 {d1 d2 d3 d4 d5 d6 d7 d8 d9 d10 d11 d12 d13 d14 d15 d16 d17 y} (h:b246 T.rf T.rb d1 d2 d3 d4 d5 d6 d7 d8 d9 d10 d11 d12 d13 d14 d15 d16 d17 = some y):k246 T.rb d1 d2 d3 d4 d5 d6 d7 d8 d9 d10 d11 d12 d13 d14 d15 d16 d17 = some y:=eb246.o ((sb246 _ _ _ _ _ _ _ _ _ _ _ _ _ _ _ _ _ _ _).trans h)
def b247 (rf:T.RF) (rb:T.RB) (d1:Int) (d2:List (List UInt8 × XL)) (d3:List Int) (d4:XS) (d5:Bool) (d6:Int) (d7:List UInt8) (d8:Int) (d9:XL) (d10:List Int) (d11:List Unit) (d12:List (List UInt8 × Int)) (d13:List Int) (d14:List Bool) (d15:List Int) (d16:List Unit) (d17:Int):Option ((Int × List (List UInt8 × XL) × List Int × XS × Bool × Int × List UInt8 × Int × XL × List Int × List Unit × List (List UInt8 × Int) × List Int × List Bool × List Int × List Unit) ⊕ (Int × List (List UInt8 × XL) × List Int × XS × Bool × Int × List UInt8 × Int × XL × List Int × List Unit × List (List UInt8 × Int) × List Int × List Bool × List Int × List Unit) ⊕ (Int × XS × Bool × Int × List UInt8 × Int × XL × List Int × List Unit × List (List UInt8 × Int) × List Int × List Bool × List Int × List Unit × List (List UInt8 × XL) × List Int)) :=
 bif (d4.2.2.length:Int) == 0 then
  some (.inl (d1,d2,d3,d4,d5,d6,d7,d8,d9,d10,d11,d12,d13,d14,d15,d16))
 else
  (c47 rf d4.2.2).bind fun y1 =>
  bif !y1 then
   some (.inr (.inl (1,d2,d3,d4,d5,d6,d7,d8,d9,d10,d11,d12,d13,d14,d15,d16)))
  else
   (c55 rf d4.2.2).bind fun y2 =>
   bif Nat.ble y2.length most then
    bif Nat.beq y2.length 0 then
     bif (Nat.ble (d2.length + 1) most) && true then
      bif (Nat.ble (d3.length + 1) most) && true then
       some (.inr (.inr (d1,d4,d5,d6,d7,d8,d9,d10,d11,d12,d13,d14,d15,d16,d2 ++ [(d4.1,d4.2.2)],d3 ++ [d17])))
      else
       none
     else
      none
    else
     (nth y2 (y2.length - 1)).bind fun x3 =>
     (k248 rb d1 y2 d5 d6 d7 d8 d9 d10 d11 d12 d13 d14 d15 d16 ((((y2.length - 1):Nat):Int)) x3).bind fun z4 =>
     match z4 with
     | .inl u5 =>
       some (.inr (.inl (u5.1,d2,d3,d4,u5.2.2)))
     | .inr w6 =>
       bif (Nat.ble (d2.length + 1) most) && true then
        bif (Nat.ble (d3.length + 1) most) && true then
         some (.inr (.inr (w6.1,d4,w6.2.2.1,w6.2.2.2.1,w6.2.2.2.2.1,w6.2.2.2.2.2.1,w6.2.2.2.2.2.2.1,w6.2.2.2.2.2.2.2.1,w6.2.2.2.2.2.2.2.2.1,w6.2.2.2.2.2.2.2.2.2.1,w6.2.2.2.2.2.2.2.2.2.2.1,w6.2.2.2.2.2.2.2.2.2.2.2.1,w6.2.2.2.2.2.2.2.2.2.2.2.2.1,w6.2.2.2.2.2.2.2.2.2.2.2.2.2,d2 ++ [(d4.1,d4.2.2)],d3 ++ [d17])))
        else
         none
       else
        none
   else
    none
theorem eb247:EqB 247 (W17 b247):=fun _ _ _ => by kernel_rfl
theorem ob247:IB17 b247 k247:=fun h => eb247.o h
def b248 (rf:T.RF) (rb:T.RB) (d1:Int) (d2:XL) (d3:Bool) (d4:Int) (d5:List UInt8) (d6:Int) (d7:XL) (d8:List Int) (d9:List Unit) (d10:List (List UInt8 × Int)) (d11:List Int) (d12:List Bool) (d13:List Int) (d14:List Unit) (d15:Int) (d16:XN):Option ((Int × XL × Bool × Int × List UInt8 × Int × XL × List Int × List Unit × List (List UInt8 × Int) × List Int × List Bool × List Int × List Unit) ⊕ (Int × XL × Bool × Int × List UInt8 × Int × XL × List Int × List Unit × List (List UInt8 × Int) × List Int × List Bool × List Int × List Unit)) :=
 (k249 rb d1 d16 d3 d4 d5 d6 d7 d8 d9 d10 d11 d12 d13 d14 d15).bind fun z1 =>
 match z1 with
 | .inl u2 =>
   some (.inl (u2.1,d2,u2.2.2))
 | .inr w3 =>
   bif d15 == 0 then
    some (.inr (w3.1,d2,w3.2.2))
   else
    (nth d2 (d15 - 1).toNat).bind fun x4 =>
    k248 rb w3.1 d2 w3.2.2.1 w3.2.2.2.1 w3.2.2.2.2.1 w3.2.2.2.2.2.1 w3.2.2.2.2.2.2.1 w3.2.2.2.2.2.2.2.1 w3.2.2.2.2.2.2.2.2.1 w3.2.2.2.2.2.2.2.2.2.1 w3.2.2.2.2.2.2.2.2.2.2.1 w3.2.2.2.2.2.2.2.2.2.2.2.1 w3.2.2.2.2.2.2.2.2.2.2.2.2.1 w3.2.2.2.2.2.2.2.2.2.2.2.2.2 (d15 - 1) x4
theorem eb248:EqB 248 (W16 b248):=fun _ _ _ => by kernel_rfl
theorem ob248:IB16 b248 k248:=fun h => eb248.o h
def b249w0 (rf:T.RF) (rb:T.RB) (d1:Int) (d2:XN) (d3:Bool) (d4:Int) (d5:List UInt8) (d6:Int) (d7:XL) (d8:List Int) (d9:List Unit) (d10:List (List UInt8 × Int)) (d11:List Int) (d12:List Bool) (d13:List Int) (d14:List Unit) (d15:Int):Option ((Int × XN × Bool × Int × List UInt8 × Int × XL × List Int × List Unit × List (List UInt8 × Int) × List Int × List Bool × List Int × List Unit) ⊕ (Int × XN × Bool × Int × List UInt8 × Int × XL × List Int × List Unit × List (List UInt8 × Int) × List Int × List Bool × List Int × List Unit)) :=
 (c56 rf d2).bind fun q1 =>
 match q1 with
 | .inl q2 =>
   bif inb d15 d14.length then
    bif Nat.blt d15.toNat d14.length then
     (k250 rb d2 d5 d6 d7 d8 d12 d13 (setNth d14 d15.toNat ()) d15).bind fun q3 =>
     some (.inr (d1,q3.1,d3,d4,q3.2.1,q3.2.2.1,q3.2.2.2.1,q3.2.2.2.2.1,d9,d10,d11,q3.2.2.2.2.2))
    else
     none
   else
    none
 | .inr q2 =>
   match q2 with
   | .inl q3 =>
     bif inb d15 d14.length then
      bif Nat.blt d15.toNat d14.length then
       (k250 rb d2 d5 d6 d7 d8 d12 d13 (setNth d14 d15.toNat ()) d15).bind fun q4 =>
       some (.inr (d1,q4.1,d3,d4,q4.2.1,q4.2.2.1,q4.2.2.2.1,q4.2.2.2.2.1,d9,d10,d11,q4.2.2.2.2.2))
      else
       none
     else
      none
   | .inr q3 =>
     match q3 with
     | .inl q4 =>
       bif inb d15 d14.length then
        bif Nat.blt d15.toNat d14.length then
         (k250 rb d2 d5 d6 d7 d8 d12 d13 (setNth d14 d15.toNat ()) d15).bind fun q5 =>
         some (.inr (d1,q5.1,d3,d4,q5.2.1,q5.2.2.1,q5.2.2.2.1,q5.2.2.2.2.1,d9,d10,d11,q5.2.2.2.2.2))
        else
         none
       else
        none
     | .inr q4 =>
       match q4 with
       | .inl q5 =>
         bif inb d15 d14.length then
          bif Nat.blt d15.toNat d14.length then
           (k250 rb d2 d5 d6 d7 d8 d12 d13 (setNth d14 d15.toNat ()) d15).bind fun q6 =>
           some (.inr (d1,q6.1,d3,d4,q6.2.1,q6.2.2.1,q6.2.2.2.1,q6.2.2.2.2.1,d9,d10,d11,q6.2.2.2.2.2))
          else
           none
         else
          none
       | .inr q5 =>
         bif inb d15 d14.length then
          bif Nat.blt d15.toNat d14.length then
           (k250 rb d2 d5 d6 d7 d8 d12 d13 (setNth d14 d15.toNat ()) d15).bind fun q6 =>
           some (.inr (d1,q6.1,d3,d4,q6.2.1,q6.2.2.1,q6.2.2.2.1,q6.2.2.2.2.1,d9,d10,d11,q6.2.2.2.2.2))
          else
           none
         else
          none
def b249q (rf:T.RF) (rb:T.RB) (d1:Int) (d2:XN) (d3:Bool) (d4:Int) (d5:List UInt8) (d6:Int) (d7:XL) (d8:List Int) (d9:List Unit) (d10:List (List UInt8 × Int)) (d11:List Int) (d12:List Bool) (d13:List Int) (d14:List Unit) (d15:Int):Option ((Int × XN × Bool × Int × List UInt8 × Int × XL × List Int × List Unit × List (List UInt8 × Int) × List Int × List Bool × List Int × List Unit) ⊕ (Int × XN × Bool × Int × List UInt8 × Int × XL × List Int × List Unit × List (List UInt8 × Int) × List Int × List Bool × List Int × List Unit)) :=
 bif d2.1 == 27 then
  some (.inl (1,d2,d3,d4,d5,d6,d7,d8,d9,d10,d11,d12,d13,d14))
 else
 bif d2.1 == 3 then
  bif !(assocHas (CT.eqK .str) d10 d2.2.2.2.2.2) then
   some (.inl (1,d2,d3,d4,d5,d6,d7,d8,d9,d10,d11,d12,d13,d14))
  else
   agree (
   agN 1 (
   b249w0 rf rb d1 d2 d3 d4 d5 d6 d7 d8 d9 d10 d11 d12 d13 d14 d15
   )
   ) (
   b249w0 rf rb d1 d2 d3 d4 d5 d6 d7 d8 d9 d10 d11 d12 d13 d14 d15
   )
 else
  agree (
   agN 1 (
   b249w0 rf rb d1 d2 d3 d4 d5 d6 d7 d8 d9 d10 d11 d12 d13 d14 d15
   )
  ) (
   b249w0 rf rb d1 d2 d3 d4 d5 d6 d7 d8 d9 d10 d11 d12 d13 d14 d15
  )
def b249 (rf:T.RF) (rb:T.RB) (d1:Int) (d2:XN) (d3:Bool) (d4:Int) (d5:List UInt8) (d6:Int) (d7:XL) (d8:List Int) (d9:List Unit) (d10:List (List UInt8 × Int)) (d11:List Int) (d12:List Bool) (d13:List Int) (d14:List Unit) (d15:Int):Option ((Int × XN × Bool × Int × List UInt8 × Int × XL × List Int × List Unit × List (List UInt8 × Int) × List Int × List Bool × List Int × List Unit) ⊕ (Int × XN × Bool × Int × List UInt8 × Int × XL × List Int × List Unit × List (List UInt8 × Int) × List Int × List Bool × List Int × List Unit)) :=
 bif d2.1 == 27 then
  some (.inl (1,d2,d3,d4,d5,d6,d7,d8,d9,d10,d11,d12,d13,d14))
 else
 bif d2.1 == 3 then
  bif !(assocHas (CT.eqK .str) d10 d2.2.2.2.2.2) then
   some (.inl (1,d2,d3,d4,d5,d6,d7,d8,d9,d10,d11,d12,d13,d14))
  else
   (c56 rf d2).bind fun y1 =>
   match y1 with
   | .inl u2 =>
     bif inb d15 d14.length then
      bif Nat.blt d15.toNat d14.length then
       (k250 rb d2 d5 d6 d7 d8 d12 d13 (setNth d14 d15.toNat ()) d15).bind fun z4 =>
       some (.inr (d1,z4.1,d3,d4,z4.2.1,z4.2.2.1,z4.2.2.2.1,z4.2.2.2.2.1,d9,d10,d11,z4.2.2.2.2.2))
      else
       none
     else
      none
   | .inr w3 =>
     match w3 with
     | .inl u5 =>
       bif inb d15 d14.length then
        bif Nat.blt d15.toNat d14.length then
         (k250 rb d2 d5 d6 d7 d8 d12 d13 (setNth d14 d15.toNat ()) d15).bind fun z7 =>
         some (.inr (d1,z7.1,d3,d4,z7.2.1,z7.2.2.1,z7.2.2.2.1,z7.2.2.2.2.1,d9,d10,d11,z7.2.2.2.2.2))
        else
         none
       else
        none
     | .inr w6 =>
       match w6 with
       | .inl u8 =>
         bif inb d15 d14.length then
          bif Nat.blt d15.toNat d14.length then
           (k250 rb d2 d5 d6 d7 d8 d12 d13 (setNth d14 d15.toNat ()) d15).bind fun z10 =>
           some (.inr (d1,z10.1,d3,d4,z10.2.1,z10.2.2.1,z10.2.2.2.1,z10.2.2.2.2.1,d9,d10,d11,z10.2.2.2.2.2))
          else
           none
         else
          none
       | .inr w9 =>
         match w9 with
         | .inl u11 =>
           bif inb d15 d14.length then
            bif Nat.blt d15.toNat d14.length then
             (k250 rb d2 d5 d6 d7 d8 d12 d13 (setNth d14 d15.toNat ()) d15).bind fun z13 =>
             some (.inr (d1,z13.1,d3,d4,z13.2.1,z13.2.2.1,z13.2.2.2.1,z13.2.2.2.2.1,d9,d10,d11,z13.2.2.2.2.2))
            else
             none
           else
            none
         | .inr w12 =>
           bif inb d15 d14.length then
            bif Nat.blt d15.toNat d14.length then
             (k250 rb d2 d5 d6 d7 d8 d12 d13 (setNth d14 d15.toNat ()) d15).bind fun z14 =>
             some (.inr (d1,z14.1,d3,d4,z14.2.1,z14.2.2.1,z14.2.2.2.1,z14.2.2.2.2.1,d9,d10,d11,z14.2.2.2.2.2))
            else
             none
           else
            none
 else
  (c56 rf d2).bind fun y15 =>
  match y15 with
  | .inl u16 =>
    bif inb d15 d14.length then
     bif Nat.blt d15.toNat d14.length then
      (k250 rb d2 d5 d6 d7 d8 d12 d13 (setNth d14 d15.toNat ()) d15).bind fun z18 =>
      some (.inr (d1,z18.1,d3,d4,z18.2.1,z18.2.2.1,z18.2.2.2.1,z18.2.2.2.2.1,d9,d10,d11,z18.2.2.2.2.2))
     else
      none
    else
     none
  | .inr w17 =>
    match w17 with
    | .inl u19 =>
      bif inb d15 d14.length then
       bif Nat.blt d15.toNat d14.length then
        (k250 rb d2 d5 d6 d7 d8 d12 d13 (setNth d14 d15.toNat ()) d15).bind fun z21 =>
        some (.inr (d1,z21.1,d3,d4,z21.2.1,z21.2.2.1,z21.2.2.2.1,z21.2.2.2.2.1,d9,d10,d11,z21.2.2.2.2.2))
       else
        none
      else
       none
    | .inr w20 =>
      match w20 with
      | .inl u22 =>
        bif inb d15 d14.length then
         bif Nat.blt d15.toNat d14.length then
          (k250 rb d2 d5 d6 d7 d8 d12 d13 (setNth d14 d15.toNat ()) d15).bind fun z24 =>
          some (.inr (d1,z24.1,d3,d4,z24.2.1,z24.2.2.1,z24.2.2.2.1,z24.2.2.2.2.1,d9,d10,d11,z24.2.2.2.2.2))
         else
          none
        else
         none
      | .inr w23 =>
        match w23 with
        | .inl u25 =>
          bif inb d15 d14.length then
           bif Nat.blt d15.toNat d14.length then
            (k250 rb d2 d5 d6 d7 d8 d12 d13 (setNth d14 d15.toNat ()) d15).bind fun z27 =>
            some (.inr (d1,z27.1,d3,d4,z27.2.1,z27.2.2.1,z27.2.2.2.1,z27.2.2.2.2.1,d9,d10,d11,z27.2.2.2.2.2))
           else
            none
          else
           none
        | .inr w26 =>
          bif inb d15 d14.length then
           bif Nat.blt d15.toNat d14.length then
            (k250 rb d2 d5 d6 d7 d8 d12 d13 (setNth d14 d15.toNat ()) d15).bind fun z28 =>
            some (.inr (d1,z28.1,d3,d4,z28.2.1,z28.2.2.1,z28.2.2.2.1,z28.2.2.2.2.1,d9,d10,d11,z28.2.2.2.2.2))
           else
            none
          else
           none
theorem eb249:EqB 249 (W15 b249q):=fun _ _ _ => by kernel_rfl
theorem sb249 (rf rb d1 d2 d3 d4 d5 d6 d7 d8 d9 d10 d11 d12 d13 d14 d15):b249q rf rb d1 d2 d3 d4 d5 d6 d7 d8 d9 d10 d11 d12 d13 d14 d15 = b249 rf rb d1 d2 d3 d4 d5 d6 d7 d8 d9 d10 d11 d12 d13 d14 d15:=by
 unfold b249q b249 b249w0; simp only [agN_eq,agree_self,agree_swap]
theorem ob249 {d1 d2 d3 d4 d5 d6 d7 d8 d9 d10 d11 d12 d13 d14 d15 y} (h:b249 T.rf T.rb d1 d2 d3 d4 d5 d6 d7 d8 d9 d10 d11 d12 d13 d14 d15 = some y):k249 T.rb d1 d2 d3 d4 d5 d6 d7 d8 d9 d10 d11 d12 d13 d14 d15 = some y:=eb249.o ((sb249 _ _ _ _ _ _ _ _ _ _ _ _ _ _ _ _ _).trans h)
def b250 (rf:T.RF) (rb:T.RB) (d1:XN) (d2:List UInt8) (d3:Int) (d4:XL) (d5:List Int) (d6:List Bool) (d7:List Int) (d8:List Unit) (d9:Int):Option (XN × List UInt8 × Int × XL × List Int × List Bool × List Int × List Unit) :=
 (c49 rf d1).bind fun y1 =>
 (k251 rb d1 y1 d2 d3 d4 d5 d6 d7 d8 d9 (y1.length:Int) 0).bind fun z2 =>
 some (z2.1,z2.2.2)
theorem eb250:EqB 250 (W9 b250):=fun _ _ _ => by kernel_rfl
theorem ob250:IB9 b250 k250:=fun h => eb250.o h
def b251w0 (rf:T.RF) (rb:T.RB) (d1:XN) (d2:List Int) (d3:List UInt8) (d4:Int) (d5:XL) (d6:List Int) (d7:List Bool) (d8:List Int) (d9:List Unit) (d10 d11 d12 w1:Int):Option (XN × List Int × List UInt8 × Int × XL × List Int × List Bool × List Int × List Unit) :=
 (nth d7 d10.toNat).bind fun q2 =>
 bif q2 then
  bif inb w1 d7.length then
   bif Nat.blt w1.toNat d7.length then
   k251 rb d1 d2 d3 d4 d5 d6 (setNth d7 w1.toNat true) d8 d9 d10 d11 (IntKind.i64.wrap (d12 + 1))
   else
   none
  else
   none
 else
 bif d1.1 == 21 then
  bif inb w1 d7.length then
   bif Nat.blt w1.toNat d7.length then
   k251 rb d1 d2 d3 d4 d5 d6 (setNth d7 w1.toNat true) d8 d9 d10 d11 (IntKind.i64.wrap (d12 + 1))
   else
   none
  else
   none
 else
 bif inb w1 d7.length then
  bif Nat.blt w1.toNat d7.length then
   k251 rb d1 d2 d3 d4 d5 d6 (setNth d7 w1.toNat (d1.1 == 24)) d8 d9 d10 d11 (IntKind.i64.wrap (d12 + 1))
  else
   none
 else
  none
def b251q (rf:T.RF) (rb:T.RB) (d1:XN) (d2:List Int) (d3:List UInt8) (d4:Int) (d5:XL) (d6:List Int) (d7:List Bool) (d8:List Int) (d9:List Unit) (d10 d11 d12:Int):Option (XN × List Int × List UInt8 × Int × XL × List Int × List Bool × List Int × List Unit) :=
 bif decide (d12 < d11) then
  bif inb d12 d2.length then
   (nth d2 d12.toNat).bind fun x1 =>
   agree (
   agree (
   bif inb d10 d7.length then
   b251w0 rf rb d1 d2 d3 d4 d5 d6 d7 d8 d9 d10 d11 d12 x1
   else
   none
   ) (
   agree (
   bif inb d10 d7.length then
   b251w0 rf rb d1 d2 d3 d4 d5 d6 d7 d8 d9 d10 d11 d12 x1
   else
   none
   ) (
   bif inb d10 d7.length then
   agN 1 (
   b251w0 rf rb d1 d2 d3 d4 d5 d6 d7 d8 d9 d10 d11 d12 x1
   )
   else
   none
   )
   )
   ) (
   agree (
   agree (
   bif inb d10 d7.length then
   b251w0 rf rb d1 d2 d3 d4 d5 d6 d7 d8 d9 d10 d11 d12 x1
   else
   none
   ) (
   bif inb d10 d7.length then
   agN 1 (
   b251w0 rf rb d1 d2 d3 d4 d5 d6 d7 d8 d9 d10 d11 d12 x1
   )
   else
   none
   )
   ) (
   bif inb d10 d7.length then
   agree (
   agN 1 (
   b251w0 rf rb d1 d2 d3 d4 d5 d6 d7 d8 d9 d10 d11 d12 x1
   )
   ) (
   b251w0 rf rb d1 d2 d3 d4 d5 d6 d7 d8 d9 d10 d11 d12 x1
   )
   else
   none
   )
   )
  else
   none
 else
  some (d1,d2,d3,d4,d5,d6,d7,d8,d9)
def b251 (rf:T.RF) (rb:T.RB) (d1:XN) (d2:List Int) (d3:List UInt8) (d4:Int) (d5:XL) (d6:List Int) (d7:List Bool) (d8:List Int) (d9:List Unit) (d10 d11 d12:Int):Option (XN × List Int × List UInt8 × Int × XL × List Int × List Bool × List Int × List Unit) :=
 bif decide (d12 < d11) then
  bif inb d12 d2.length then
   (nth d2 d12.toNat).bind fun x1 =>
   bif inb d10 d7.length then
   (nth d7 d10.toNat).bind fun x2 =>
   bif x2 then
   bif inb x1 d7.length then
   bif Nat.blt x1.toNat d7.length then
   k251 rb d1 d2 d3 d4 d5 d6 (setNth d7 x1.toNat true) d8 d9 d10 d11 (IntKind.i64.wrap (d12 + 1))
   else
   none
   else
   none
   else
   bif d1.1 == 21 then
   bif inb x1 d7.length then
   bif Nat.blt x1.toNat d7.length then
   k251 rb d1 d2 d3 d4 d5 d6 (setNth d7 x1.toNat true) d8 d9 d10 d11 (IntKind.i64.wrap (d12 + 1))
   else
   none
   else
   none
   else
   bif inb x1 d7.length then
   bif Nat.blt x1.toNat d7.length then
   k251 rb d1 d2 d3 d4 d5 d6 (setNth d7 x1.toNat (d1.1 == 24)) d8 d9 d10 d11 (IntKind.i64.wrap (d12 + 1))
   else
   none
   else
   none
   else
   none
  else
   none
 else
  some (d1,d2,d3,d4,d5,d6,d7,d8,d9)
theorem eb251:EqB 251 (W12 b251q):=fun _ _ _ => by kernel_rfl
theorem sb251 (rf rb d1 d2 d3 d4 d5 d6 d7 d8 d9 d10 d11 d12):b251q rf rb d1 d2 d3 d4 d5 d6 d7 d8 d9 d10 d11 d12 = b251 rf rb d1 d2 d3 d4 d5 d6 d7 d8 d9 d10 d11 d12:=by
 unfold b251q b251 b251w0; simp only [agN_eq,agree_self,agree_swap]
theorem ob251 {d1 d2 d3 d4 d5 d6 d7 d8 d9 d10 d11 d12 y} (h:b251 T.rf T.rb d1 d2 d3 d4 d5 d6 d7 d8 d9 d10 d11 d12 = some y):k251 T.rb d1 d2 d3 d4 d5 d6 d7 d8 d9 d10 d11 d12 = some y:=eb251.o ((sb251 _ _ _ _ _ _ _ _ _ _ _ _ _ _).trans h)
def b252q (rf:T.RF) (rb:T.RB) (d1 d2:List Int) (d3:Bool) (d4:Int) (d5:List Unit) (d6:List (List UInt8 × Int)) (d7:List Int) (d8 d9:Int):Option (List Int × List Int × Bool × Int × List Unit × List (List UInt8 × Int) × List Int) :=
 bif decide (d9 < d8) then
  bif inb d9 d2.length then
   (nth d2 d9.toNat).bind fun x1 =>
   bif inb x1 d1.length then
   (nth d1 x1.toNat).bind fun x2 =>
   agree (
   agree (
   agN 1 (
   bif (Nat.ble (d7.length + 1) most) && true then
   k252 rb d1 d2 d3 d4 d5 d6 (d7 ++ [x2]) d8 (IntKind.i64.wrap (d9 + 1))
   else
   none
   )
   ) (
   bif (Nat.ble (d7.length + 1) most) && true then
   k252 rb d1 d2 d3 d4 d5 d6 (d7 ++ [x2]) d8 (IntKind.i64.wrap (d9 + 1))
   else
   none
   )
   ) (
   agree (
   agree (
   agN 1 (
   bif (Nat.ble (d7.length + 1) most) && true then
   k252 rb d1 d2 d3 d4 d5 d6 (d7 ++ [x2]) d8 (IntKind.i64.wrap (d9 + 1))
   else
   none
   )
   ) (
   agN 1 (
   agN 2 (
   bif (Nat.ble (d7.length + 1) most) && true then
   k252 rb d1 d2 d3 d4 d5 d6 (d7 ++ [x2]) d8 (IntKind.i64.wrap (d9 + 1))
   else
   none
   )
   )
   )
   ) (
   agN 3 (
   bif (Nat.ble (d7.length + 1) most) && true then
   k252 rb d1 d2 d3 d4 d5 d6 (d7 ++ [x2]) d8 (IntKind.i64.wrap (d9 + 1))
   else
   none
   )
   )
   )
   else
   none
  else
   none
 else
  some (d1,d2,d3,d4,d5,d6,d7)
def b252 (rf:T.RF) (rb:T.RB) (d1 d2:List Int) (d3:Bool) (d4:Int) (d5:List Unit) (d6:List (List UInt8 × Int)) (d7:List Int) (d8 d9:Int):Option (List Int × List Int × Bool × Int × List Unit × List (List UInt8 × Int) × List Int) :=
 bif decide (d9 < d8) then
  bif inb d9 d2.length then
   (nth d2 d9.toNat).bind fun x1 =>
   bif inb x1 d1.length then
   (nth d1 x1.toNat).bind fun x2 =>
   bif (Nat.ble (d7.length + 1) most) && true then
   k252 rb d1 d2 d3 d4 d5 d6 (d7 ++ [x2]) d8 (IntKind.i64.wrap (d9 + 1))
   else
   none
   else
   none
  else
   none
 else
  some (d1,d2,d3,d4,d5,d6,d7)
theorem eb252:EqB 252 (W9 b252q):=fun _ _ _ => by kernel_rfl
theorem sb252 (rf rb d1 d2 d3 d4 d5 d6 d7 d8 d9):b252q rf rb d1 d2 d3 d4 d5 d6 d7 d8 d9 = b252 rf rb d1 d2 d3 d4 d5 d6 d7 d8 d9:=by
 unfold b252q b252; simp only [agN_eq,agree_self,agree_swap]
theorem ob252 {d1 d2 d3 d4 d5 d6 d7 d8 d9 y} (h:b252 T.rf T.rb d1 d2 d3 d4 d5 d6 d7 d8 d9 = some y):k252 T.rb d1 d2 d3 d4 d5 d6 d7 d8 d9 = some y:=eb252.o ((sb252 _ _ _ _ _ _ _ _ _ _ _).trans h)
def r46 (rf:T.RF) (rb:T.RB) (d1:List XS):Option (Int ⊕ (Bool × Int × List Unit × List (List UInt8 × Int) × List Int × Int)) :=
 bif decide ((d1.length:Int) > 4000) then
  some (.inl 1)
 else
  (k244 rb 0 true 0 [] [] [] d1 (d1.length:Int) 0).bind fun z1 =>
  match z1 with
  | .inl u2 =>
    some (.inl u2.1)
  | .inr w3 =>
    (k245 rb w3.1 [] [] w3.2.1 w3.2.2.1 w3.2.2.2.1 w3.2.2.2.2.1 w3.2.2.2.2.2 d1 (d1.length:Int) 0).bind fun z4 =>
    match z4 with
    | .inl u5 =>
      some (.inl u5.1)
    | .inr w6 =>
      (c57 rf w6.2.2.2.2.2.1).bind fun y7 =>
      (k252 rb w6.2.2.2.2.2.2.1 y7.1 w6.2.1 w6.2.2.1 w6.2.2.2.2.2.2.2 w6.2.2.2.1 w6.2.2.2.2.1 (y7.1.length:Int) 0).bind fun z8 =>
      some (.inr (z8.2.2.1,z8.2.2.2.1,z8.2.2.2.2.1,z8.2.2.2.2.2.1,z8.2.2.2.2.2.2,y7.2))
theorem er46:EqF 46 fun a b => r46 a b:=fun _ _ _ => by kernel_rfl
theorem or46:IF1 r46 c46:=fun h => er46.o h
def r45 (rf:T.RF) (rb:T.RB) (d1:List XS):Option (List (List Int) × Int) :=
 (c46 rf d1).bind fun y1 =>
 match y1 with
 | .inl u2 =>
   bif u2 != 0 then
    some ([],u2)
   else
    some ([],0)
 | .inr w3 =>
   bif w3.2.2.2.2.2 != 0 then
    some ([],w3.2.2.2.2.2)
   else
    some ([],0)
theorem er45:EqF 45 fun a b => r45 a b:=fun _ _ _ => by kernel_rfl
theorem or45:IF1 r45 c45:=fun h => er45.o h
def r79 (rf:T.RF) (rb:T.RB) (d1:XN):Option Bool :=
 bif d1.1 == 22 then
  bif d1.1 == 22 then
   some true
  else
   some false
 else
 bif d1.1 == 23 then
  bif d1.1 == 23 then
   some true
  else
   some false
 else
 bif d1.1 == 24 then
  bif d1.1 == 24 then
   some true
  else
   some false
 else
 bif d1.1 == 25 then
  bif d1.1 == 25 then
   some true
  else
   some false
 else
 bif d1.1 == 20 then
  some true
 else
  some false
theorem er79:EqF 79 fun a b => r79 a b:=fun _ _ _ => by kernel_rfl
theorem or79:IF1 r79 c79:=fun h => er79.o h
def b254 (rf:T.RF) (rb:T.RB) (d1:XL) (d2 d3:Int):Option (Int ⊕ Unit) :=
 bif decide (d3 < d2) then
  bif inb d3 d1.length then
   (nth d1 d3.toNat).bind fun x1 =>
   (c79 rf x1).bind fun y2 =>
   bif y2 then
   some (.inl d3)
   else
   k254 rb d1 d2 (IntKind.i64.wrap (d3 + 1))
  else
   none
 else
  some (.inr ())
theorem eb254:EqB 254 (W3 b254):=fun _ _ _ => by kernel_rfl
theorem ob254:IB3 b254 k254:=fun h => eb254.o h
def r78 (rf:T.RF) (rb:T.RB) (d1:XL):Option Int :=
 (k254 rb d1 (d1.length:Int) 0).bind fun z1 =>
 match z1 with
 | .inl u2 =>
   some u2
 | .inr w3 =>
   some (-1)
theorem er78:EqF 78 fun a b => r78 a b:=fun _ _ _ => by kernel_rfl
theorem or78:IF1 r78 c78:=fun h => er78.o h
def r77 (rf:T.RF) (rb:T.RB) (d1:XL):Option Bool :=
 (c78 rf d1).bind fun y1 =>
 some (decide (y1 ≥ 0))
theorem er77:EqF 77 fun a b => r77 a b:=fun _ _ _ => by kernel_rfl
theorem or77:IF1 r77 c77:=fun h => er77.o h
def r76 (rf:T.RF) (rb:T.RB) (d1:XL):Option Bool :=
 (c77 rf d1).bind fun y1 =>
 some y1
theorem er76:EqF 76 fun a b => r76 a b:=fun _ _ _ => by kernel_rfl
theorem or76:IF1 r76 c76:=fun h => er76.o h
def r75 (rf:T.RF) (rb:T.RB) (d1:XS):Option Bool :=
 (c76 rf d1.2.2).bind fun y1 =>
 some y1
theorem er75:EqF 75 fun a b => r75 a b:=fun _ _ _ => by kernel_rfl
theorem or75:IF1 r75 c75:=fun h => er75.o h
def b253 (rf:T.RF) (rb:T.RB) (d1:List XS) (d2 d3:Int):Option (Int ⊕ Unit) :=
 bif decide (d3 < d2) then
  bif inb d3 d1.length then
   (nth d1 d3.toNat).bind fun x1 =>
   (c75 rf x1).bind fun y2 =>
   bif y2 then
   some (.inl d3)
   else
   k253 rb d1 d2 (IntKind.i64.wrap (d3 + 1))
  else
   none
 else
  some (.inr ())
theorem eb253:EqB 253 (W3 b253):=fun _ _ _ => by kernel_rfl
theorem ob253:IB3 b253 k253:=fun h => eb253.o h
def r74 (rf:T.RF) (rb:T.RB) (d1:List XS):Option Int :=
 (k253 rb d1 (d1.length:Int) 0).bind fun z1 =>
 match z1 with
 | .inl u2 =>
   some u2
 | .inr w3 =>
   some (-1)
theorem er74:EqF 74 fun a b => r74 a b:=fun _ _ _ => by kernel_rfl
theorem or74:IF1 r74 c74:=fun h => er74.o h
def r73 (rf:T.RF) (rb:T.RB) (d1:List XS):Option Bool :=
 (c74 rf d1).bind fun y1 =>
 some (decide (y1 ≥ 0))
theorem er73:EqF 73 fun a b => r73 a b:=fun _ _ _ => by kernel_rfl
theorem or73:IF1 r73 c73:=fun h => er73.o h
def r80q (rf:T.RF) (rb:T.RB) (d1:List (List Int)) (d2:List XL) (d3:List (List UInt8 × Int)) (d4 d5:Int):Option (List (List Int) × List XL × List (List UInt8 × Int) × Int) :=
 bif inb d4 d2.length then
  (nth d2 d4.toNat).bind fun x1 =>
  bif decide ((x1.length:Int) > 0) then
   bif inb d5 x1.length then
   (nth x1 d5.toNat).bind fun x2 =>
   bif x2.1 == 3 then
   bif inb d5 x1.length then
   (nth x1 d5.toNat).bind fun x3 =>
   agN 1 (
   bif inb (assocGet (CT.eqK .str) 0 d3 x3.2.2.2.2.2) d1.length then
   (nth d1 (assocGet (CT.eqK .str) 0 d3 x3.2.2.2.2.2).toNat).bind fun x4 =>
   (c80 rf d1 d2 d3 (assocGet (CT.eqK .str) 0 d3 x3.2.2.2.2.2) (IntKind.i64.wrap ((x4.length:Int) - 1))).bind fun y5 =>
   some y5
   else
   none
   )
   else
   none
   else
   bif inb d4 d1.length then
   (nth d1 d4.toNat).bind fun x6 =>
   bif inb d5 x6.length then
   (nth x6 d5.toNat).bind fun x7 =>
   some (d1,d2,d3,x7)
   else
   none
   else
   none
   else
   none
  else
  bif inb d4 d1.length then
   (nth d1 d4.toNat).bind fun x8 =>
   bif inb d5 x8.length then
   (nth x8 d5.toNat).bind fun x9 =>
   some (d1,d2,d3,x9)
   else
   none
  else
   none
 else
  none
def r80 (rf:T.RF) (rb:T.RB) (d1:List (List Int)) (d2:List XL) (d3:List (List UInt8 × Int)) (d4 d5:Int):Option (List (List Int) × List XL × List (List UInt8 × Int) × Int) :=
 bif inb d4 d2.length then
  (nth d2 d4.toNat).bind fun x1 =>
  bif decide ((x1.length:Int) > 0) then
   bif inb d5 x1.length then
   (nth x1 d5.toNat).bind fun x2 =>
   bif x2.1 == 3 then
   bif inb d5 x1.length then
   (nth x1 d5.toNat).bind fun x3 =>
   bif inb (assocGet (CT.eqK .str) 0 d3 x3.2.2.2.2.2) d1.length then
   (nth d1 (assocGet (CT.eqK .str) 0 d3 x3.2.2.2.2.2).toNat).bind fun x4 =>
   (c80 rf d1 d2 d3 (assocGet (CT.eqK .str) 0 d3 x3.2.2.2.2.2) (IntKind.i64.wrap ((x4.length:Int) - 1))).bind fun y5 =>
   some y5
   else
   none
   else
   none
   else
   bif inb d4 d1.length then
   (nth d1 d4.toNat).bind fun x6 =>
   bif inb d5 x6.length then
   (nth x6 d5.toNat).bind fun x7 =>
   some (d1,d2,d3,x7)
   else
   none
   else
   none
   else
   none
  else
  bif inb d4 d1.length then
   (nth d1 d4.toNat).bind fun x8 =>
   bif inb d5 x8.length then
   (nth x8 d5.toNat).bind fun x9 =>
   some (d1,d2,d3,x9)
   else
   none
  else
   none
 else
  none
theorem er80:EqF 80 (W5 r80q):=fun _ _ _ => by kernel_rfl
theorem sr80 (rf rb d1 d2 d3 d4 d5):r80q rf rb d1 d2 d3 d4 d5 = r80 rf rb d1 d2 d3 d4 d5:=by
 unfold r80q r80; simp only [agN_eq,agree_self,agree_swap]
theorem or80 {d1 d2 d3 d4 d5 y} (h:r80 T.rf T.rb d1 d2 d3 d4 d5 = some y):c80 T.rf d1 d2 d3 d4 d5 = some y:=er80.o ((sr80 _ _ _ _ _ _ _).trans h)
def b362 (rf:T.RF) (rb:T.RB) (d1:List XO) (d2 d3:List Int) (d4:List (List UInt8 × Int)) (d5:List (List Int)) (d6:List XS) (d7 d8:Int):Option (List Int × List (List UInt8 × Int) × List (List Int) × List XO × List Int) :=
 bif decide (d8 < d7) then
  bif inb d8 d6.length then
   (nth d6 d8.toNat).bind fun x1 =>
   bif (x1.2.2.length:Int) == 0 then
   bif inb d8 d5.length then
   bif (Nat.blt d8.toNat d5.length) && true then
   bif (Nat.ble (d1.length + 1) most) && true then
   bif (Nat.ble (d3.length + 1) most) && true then
   k362 rb (d1 ++ [(3,(-1),(-1),(-1),((d3.length:Nat):Int))]) d2 (d3 ++ [x1.2.1]) (assocSet (CT.eqK .str) d4 x1.1 d8) (setNth d5 d8.toNat [((d1.length:Nat):Int)]) d6 d7 (IntKind.i64.wrap (d8 + 1))
   else
   none
   else
   none
   else
   none
   else
   none
   else
   k362 rb d1 d2 d3 (assocSet (CT.eqK .str) d4 x1.1 d8) d5 d6 d7 (IntKind.i64.wrap (d8 + 1))
  else
   none
 else
  some (d2,d4,d5,d1,d3)
theorem eb362:EqB 362 (W8 b362):=fun _ _ _ => by kernel_rfl
theorem ob362:IB8 b362 k362:=fun h => eb362.o h
def b363q (rf:T.RF) (rb:T.RB) (d1:List XL) (d2:List (List Int)) (d3:Int) (d4:List XS) (d5 d6:Int):Option (List XL × List (List Int)) :=
 bif decide (d6 < d5) then
  bif inb d6 d4.length then
   (nth d4 d6.toNat).bind fun x1 =>
   agN 1 (
   (c59 rf x1.2.2 (IntKind.i64.wrap ((x1.2.2.length:Int) - 1))).bind fun y2 =>
   bif inb d6 d1.length then
   bif Nat.blt d6.toNat d1.length then
   (k364 rb (setNth d1 d6.toNat y2) d2 d3 d6).bind fun z3 =>
   k363 rb z3.1 z3.2.1 z3.2.2 d4 d5 (IntKind.i64.wrap (d6 + 1))
   else
   none
   else
   none
   )
  else
   none
 else
  some (d1,d2)
def b363 (rf:T.RF) (rb:T.RB) (d1:List XL) (d2:List (List Int)) (d3:Int) (d4:List XS) (d5 d6:Int):Option (List XL × List (List Int)) :=
 bif decide (d6 < d5) then
  bif inb d6 d4.length then
   (nth d4 d6.toNat).bind fun x1 =>
   (c59 rf x1.2.2 (IntKind.i64.wrap ((x1.2.2.length:Int) - 1))).bind fun y2 =>
   bif inb d6 d1.length then
   bif Nat.blt d6.toNat d1.length then
   (k364 rb (setNth d1 d6.toNat y2) d2 d3 d6).bind fun z3 =>
   k363 rb z3.1 z3.2.1 z3.2.2 d4 d5 (IntKind.i64.wrap (d6 + 1))
   else
   none
   else
   none
  else
   none
 else
  some (d1,d2)
theorem eb363:EqB 363 (W6 b363q):=fun _ _ _ => by kernel_rfl
theorem sb363 (rf rb d1 d2 d3 d4 d5 d6):b363q rf rb d1 d2 d3 d4 d5 d6 = b363 rf rb d1 d2 d3 d4 d5 d6:=by
 unfold b363q b363; simp only [agN_eq,agree_self,agree_swap]
theorem ob363 {d1 d2 d3 d4 d5 d6 y} (h:b363 T.rf T.rb d1 d2 d3 d4 d5 d6 = some y):k363 T.rb d1 d2 d3 d4 d5 d6 = some y:=eb363.o ((sb363 _ _ _ _ _ _ _ _).trans h)
def b364 (rf:T.RF) (rb:T.RB) (d1:List XL) (d2:List (List Int)) (d3 d4:Int):Option (List XL × List (List Int) × Int) :=
 bif inb d4 d1.length then
  (nth d1 d4.toNat).bind fun x1 =>
  (k365 rb d2 d3 d4 x1 (x1.length:Int) 0).bind fun z2 =>
  some (d1,z2)
 else
  none
theorem eb364:EqB 364 (W4 b364):=fun _ _ _ => by kernel_rfl
theorem ob364:IB4 b364 k364:=fun h => eb364.o h
def b365w0 (rf:T.RF) (rb:T.RB) (d1:List (List Int)) (d2 d3:Int) (d4:XL) (d5 d6:Int) (w1:List Int) (w2:XN):Option (List (List Int) × Int) :=
 bif (Nat.ble (w1.length + 1) most) && true then
  bif inb d3 d1.length then
   bif Nat.beq d3.toNat d3.toNat && ((Nat.blt d3.toNat d1.length) && true) then
   (k366 rb w2 d2).bind fun q3 =>
   k365 rb (setNth d1 d3.toNat (w1 ++ [d2])) q3.2 d3 d4 d5 (IntKind.i64.wrap (d6 + 1))
   else
   none
  else
   none
 else
  none
def b365q (rf:T.RF) (rb:T.RB) (d1:List (List Int)) (d2 d3:Int) (d4:XL) (d5 d6:Int):Option (List (List Int) × Int) :=
 bif decide (d6 < d5) then
  bif inb d6 d4.length then
   (nth d4 d6.toNat).bind fun x1 =>
   agree (
   agree (
   bif inb d3 d1.length then
   agN 1 (
   (nth d1 d3.toNat).bind fun x2 =>
   b365w0 rf rb d1 d2 d3 d4 d5 d6 x2 x1
   )
   else
   none
   ) (
   bif inb d3 d1.length then
   (nth d1 d3.toNat).bind fun x2 =>
   b365w0 rf rb d1 d2 d3 d4 d5 d6 x2 x1
   else
   none
   )
   ) (
   agree (
   bif inb d3 d1.length then
   agree (
   agN 1 (
   (nth d1 d3.toNat).bind fun x2 =>
   b365w0 rf rb d1 d2 d3 d4 d5 d6 x2 x1
   )
   ) (
   agree (
   (nth d1 d3.toNat).bind fun x2 =>
   agN 2 (
   b365w0 rf rb d1 d2 d3 d4 d5 d6 x2 x1
   )
   ) (
   agree (
   (nth d1 d3.toNat).bind fun x2 =>
   b365w0 rf rb d1 d2 d3 d4 d5 d6 x2 x1
   ) (
   (nth d1 d3.toNat).bind fun x2 =>
   agN 1 (
   b365w0 rf rb d1 d2 d3 d4 d5 d6 x2 x1
   )
   )
   )
   )
   else
   none
   ) (
   agree (
   bif inb d3 d1.length then
   (nth d1 d3.toNat).bind fun x2 =>
   b365w0 rf rb d1 d2 d3 d4 d5 d6 x2 x1
   else
   none
   ) (
   bif inb d3 d1.length then
   agree (
   (nth d1 d3.toNat).bind fun x2 =>
   b365w0 rf rb d1 d2 d3 d4 d5 d6 x2 x1
   ) (
   (nth d1 d3.toNat).bind fun x2 =>
   agN 1 (
   b365w0 rf rb d1 d2 d3 d4 d5 d6 x2 x1
   )
   )
   else
   none
   )
   )
   )
  else
   none
 else
  some (d1,d2)
def b365 (rf:T.RF) (rb:T.RB) (d1:List (List Int)) (d2 d3:Int) (d4:XL) (d5 d6:Int):Option (List (List Int) × Int) :=
 bif decide (d6 < d5) then
  bif inb d6 d4.length then
   (nth d4 d6.toNat).bind fun x1 =>
   bif inb d3 d1.length then
   (nth d1 d3.toNat).bind fun x2 =>
   bif (Nat.ble (x2.length + 1) most) && true then
   bif inb d3 d1.length then
   bif Nat.beq d3.toNat d3.toNat && ((Nat.blt d3.toNat d1.length) && true) then
   (k366 rb x1 d2).bind fun z3 =>
   k365 rb (setNth d1 d3.toNat (x2 ++ [d2])) z3.2 d3 d4 d5 (IntKind.i64.wrap (d6 + 1))
   else
   none
   else
   none
   else
   none
   else
   none
  else
   none
 else
  some (d1,d2)
theorem eb365:EqB 365 (W6 b365q):=fun _ _ _ => by kernel_rfl
theorem sb365 (rf rb d1 d2 d3 d4 d5 d6):b365q rf rb d1 d2 d3 d4 d5 d6 = b365 rf rb d1 d2 d3 d4 d5 d6:=by
 unfold b365q b365 b365w0; simp only [agN_eq,agree_self,agree_swap]
theorem ob365 {d1 d2 d3 d4 d5 d6 y} (h:b365 T.rf T.rb d1 d2 d3 d4 d5 d6 = some y):k365 T.rb d1 d2 d3 d4 d5 d6 = some y:=eb365.o ((sb365 _ _ _ _ _ _ _ _).trans h)
def b366 (rf:T.RF) (rb:T.RB) (d1:XN) (d2:Int):Option (XN × Int) :=
 bif d1.1 != 3 then
  some (d1,IntKind.i64.wrap (d2 + 1))
 else
  some (d1,d2)
theorem eb366:EqB 366 (W2 b366):=fun _ _ _ => by kernel_rfl
theorem ob366:IB2 b366 k366:=fun h => eb366.o h
def b367w0 (rf:T.RF) (rb:T.RB) (d1:List (List Int)) (d2:List XL) (d3:List XO) (d4 d5:List Int) (d6:List (List UInt8 × Int)) (d7 d8:Int) (w1:List (List Int) × List XL × List (List UInt8 × Int) × Int) (w2:XL):Option (List (List Int) × List XL × List Int × List (List UInt8 × Int) × List XO × List Int) :=
 bif (Nat.ble (d4.length + 1) most) && true then
  (k368 rb d3 (d4 ++ [w1.2.2.2]) d5 w1.1 w1.2.1 w1.2.2.1 d8 w2).bind fun q3 =>
  k367 rb q3.2.2.1 q3.2.2.2.1 q3.2.2.2.2.2 q3.1 q3.2.1 q3.2.2.2.2.1 d7 (IntKind.i64.wrap (d8 + 1))
 else
  none
def b367q (rf:T.RF) (rb:T.RB) (d1:List (List Int)) (d2:List XL) (d3:List XO) (d4 d5:List Int) (d6:List (List UInt8 × Int)) (d7 d8:Int):Option (List (List Int) × List XL × List Int × List (List UInt8 × Int) × List XO × List Int) :=
 bif decide (d8 < d7) then
  bif inb d8 d2.length then
   (nth d2 d8.toNat).bind fun x1 =>
   agree (
   agN 1 (
   bif inb d8 d1.length then
   (nth d1 d8.toNat).bind fun x2 =>
   (c80 rf d1 d2 d6 d8 (IntKind.i64.wrap ((x2.length:Int) - 1))).bind fun y3 =>
   b367w0 rf rb d1 d2 d3 d4 d5 d6 d7 d8 y3 x1
   else
   none
   )
   ) (
   agree (
   agree (
   bif inb d8 d1.length then
   (nth d1 d8.toNat).bind fun x2 =>
   (c80 rf d1 d2 d6 d8 (IntKind.i64.wrap ((x2.length:Int) - 1))).bind fun y3 =>
   b367w0 rf rb d1 d2 d3 d4 d5 d6 d7 d8 y3 x1
   else
   none
   ) (
   bif inb d8 d1.length then
   (nth d1 d8.toNat).bind fun x2 =>
   agree (
   (c80 rf d1 d2 d6 d8 (IntKind.i64.wrap ((x2.length:Int) - 1))).bind fun y3 =>
   b367w0 rf rb d1 d2 d3 d4 d5 d6 d7 d8 y3 x1
   ) (
   (c80 rf d1 d2 d6 d8 (IntKind.i64.wrap ((x2.length:Int) - 1))).bind fun y3 =>
   agN 1 (
   b367w0 rf rb d1 d2 d3 d4 d5 d6 d7 d8 y3 x1
   )
   )
   else
   none
   )
   ) (
   bif inb d8 d1.length then
   (nth d1 d8.toNat).bind fun x2 =>
   agree (
   (c80 rf d1 d2 d6 d8 (IntKind.i64.wrap ((x2.length:Int) - 1))).bind fun y3 =>
   b367w0 rf rb d1 d2 d3 d4 d5 d6 d7 d8 y3 x1
   ) (
   agree (
   (c80 rf d1 d2 d6 d8 (IntKind.i64.wrap ((x2.length:Int) - 1))).bind fun y3 =>
   b367w0 rf rb d1 d2 d3 d4 d5 d6 d7 d8 y3 x1
   ) (
   (c80 rf d1 d2 d6 d8 (IntKind.i64.wrap ((x2.length:Int) - 1))).bind fun y3 =>
   agN 1 (
   b367w0 rf rb d1 d2 d3 d4 d5 d6 d7 d8 y3 x1
   )
   )
   )
   else
   none
   )
   )
  else
   none
 else
  some (d1,d2,d5,d6,d3,d4)
def b367 (rf:T.RF) (rb:T.RB) (d1:List (List Int)) (d2:List XL) (d3:List XO) (d4 d5:List Int) (d6:List (List UInt8 × Int)) (d7 d8:Int):Option (List (List Int) × List XL × List Int × List (List UInt8 × Int) × List XO × List Int) :=
 bif decide (d8 < d7) then
  bif inb d8 d2.length then
   (nth d2 d8.toNat).bind fun x1 =>
   bif inb d8 d1.length then
   (nth d1 d8.toNat).bind fun x2 =>
   (c80 rf d1 d2 d6 d8 (IntKind.i64.wrap ((x2.length:Int) - 1))).bind fun y3 =>
   bif (Nat.ble (d4.length + 1) most) && true then
   (k368 rb d3 (d4 ++ [y3.2.2.2]) d5 y3.1 y3.2.1 y3.2.2.1 d8 x1).bind fun z4 =>
   k367 rb z4.2.2.1 z4.2.2.2.1 z4.2.2.2.2.2 z4.1 z4.2.1 z4.2.2.2.2.1 d7 (IntKind.i64.wrap (d8 + 1))
   else
   none
   else
   none
  else
   none
 else
  some (d1,d2,d5,d6,d3,d4)
theorem eb367:EqB 367 (W8 b367q):=fun _ _ _ => by kernel_rfl
theorem sb367 (rf rb d1 d2 d3 d4 d5 d6 d7 d8):b367q rf rb d1 d2 d3 d4 d5 d6 d7 d8 = b367 rf rb d1 d2 d3 d4 d5 d6 d7 d8:=by
 unfold b367q b367 b367w0; simp only [agN_eq,agree_self,agree_swap]
theorem ob367 {d1 d2 d3 d4 d5 d6 d7 d8 y} (h:b367 T.rf T.rb d1 d2 d3 d4 d5 d6 d7 d8 = some y):k367 T.rb d1 d2 d3 d4 d5 d6 d7 d8 = some y:=eb367.o ((sb367 _ _ _ _ _ _ _ _ _ _).trans h)
def b368 (rf:T.RF) (rb:T.RB) (d1:List XO) (d2 d3:List Int) (d4:List (List Int)) (d5:List XL) (d6:List (List UInt8 × Int)) (d7:Int) (d8:XL):Option (List Int × List Int × List (List Int) × List XL × List (List UInt8 × Int) × List XO) :=
 (k369 rb d1 d2 d3 d4 d5 d6 d7 d8 (d8.length:Int) 0).bind fun z1 =>
 some z1
theorem eb368:EqB 368 (W8 b368):=fun _ _ _ => by kernel_rfl
theorem ob368:IB8 b368 k368:=fun h => eb368.o h
def b369 (rf:T.RF) (rb:T.RB) (d1:List XO) (d2 d3:List Int) (d4:List (List Int)) (d5:List XL) (d6:List (List UInt8 × Int)) (d7:Int) (d8:XL) (d9 d10:Int):Option (List Int × List Int × List (List Int) × List XL × List (List UInt8 × Int) × List XO) :=
 bif decide (d10 < d9) then
  bif inb d10 d8.length then
   (nth d8 d10.toNat).bind fun x1 =>
   bif x1.1 == 3 then
   k369 rb d1 d2 d3 d4 d5 d6 d7 d8 d9 (IntKind.i64.wrap (d10 + 1))
   else
   (c49 rf x1).bind fun y2 =>
   (k370 rb y2 d4 (x1.1,(-1),(-1),(-1),x1.2.2.2.2.1) d5 d6 d7 (y2.length:Int) 0).bind fun z3 =>
   bif (Nat.ble (d1.length + 1) most) && true then
   k369 rb (d1 ++ [z3.2.2.1]) d2 d3 z3.2.1 z3.2.2.2.1 z3.2.2.2.2 d7 d8 d9 (IntKind.i64.wrap (d10 + 1))
   else
   none
  else
   none
 else
  some (d2,d3,d4,d5,d6,d1)
theorem eb369:EqB 369 (W10 b369):=fun _ _ _ => by kernel_rfl
theorem ob369:IB10 b369 k369:=fun h => eb369.o h
def b370q (rf:T.RF) (rb:T.RB) (d1:List Int) (d2:List (List Int)) (d3:XO) (d4:List XL) (d5:List (List UInt8 × Int)) (d6 d7 d8:Int):Option (List Int × List (List Int) × XO × List XL × List (List UInt8 × Int)) :=
 bif decide (d8 < d7) then
  bif inb d8 d1.length then
   (nth d1 d8.toNat).bind fun x1 =>
   bif inb d8 3 then
   bif Nat.beq d8.toNat 2 then
   agN 2 (
   (c80 rf d2 d4 d5 d6 x1).bind fun y2 =>
   k370 rb d1 y2.1 (d3.1,d3.2.1,d3.2.2.1,y2.2.2.2,d3.2.2.2.2) y2.2.1 y2.2.2.1 d6 d7 (IntKind.i64.wrap (d8 + 1))
   )
   else
   bif Nat.beq d8.toNat 1 then
   agN 2 (
   (c80 rf d2 d4 d5 d6 x1).bind fun y3 =>
   k370 rb d1 y3.1 (d3.1,d3.2.1,y3.2.2.2,d3.2.2.2) y3.2.1 y3.2.2.1 d6 d7 (IntKind.i64.wrap (d8 + 1))
   )
   else
   bif Nat.beq d8.toNat 0 then
   agN 2 (
   (c80 rf d2 d4 d5 d6 x1).bind fun y4 =>
   k370 rb d1 y4.1 (d3.1,y4.2.2.2,d3.2.2) y4.2.1 y4.2.2.1 d6 d7 (IntKind.i64.wrap (d8 + 1))
   )
   else
   none
   else
   none
  else
   none
 else
  some (d1,d2,d3,d4,d5)
def b370 (rf:T.RF) (rb:T.RB) (d1:List Int) (d2:List (List Int)) (d3:XO) (d4:List XL) (d5:List (List UInt8 × Int)) (d6 d7 d8:Int):Option (List Int × List (List Int) × XO × List XL × List (List UInt8 × Int)) :=
 bif decide (d8 < d7) then
  bif inb d8 d1.length then
   (nth d1 d8.toNat).bind fun x1 =>
   bif inb d8 3 then
   bif Nat.beq d8.toNat 2 then
   (c80 rf d2 d4 d5 d6 x1).bind fun y2 =>
   k370 rb d1 y2.1 (d3.1,d3.2.1,d3.2.2.1,y2.2.2.2,d3.2.2.2.2) y2.2.1 y2.2.2.1 d6 d7 (IntKind.i64.wrap (d8 + 1))
   else
   bif Nat.beq d8.toNat 1 then
   (c80 rf d2 d4 d5 d6 x1).bind fun y3 =>
   k370 rb d1 y3.1 (d3.1,d3.2.1,y3.2.2.2,d3.2.2.2) y3.2.1 y3.2.2.1 d6 d7 (IntKind.i64.wrap (d8 + 1))
   else
   bif Nat.beq d8.toNat 0 then
   (c80 rf d2 d4 d5 d6 x1).bind fun y4 =>
   k370 rb d1 y4.1 (d3.1,y4.2.2.2,d3.2.2) y4.2.1 y4.2.2.1 d6 d7 (IntKind.i64.wrap (d8 + 1))
   else
   none
   else
   none
  else
   none
 else
  some (d1,d2,d3,d4,d5)
theorem eb370:EqB 370 (W8 b370q):=fun _ _ _ => by kernel_rfl
theorem sb370 (rf rb d1 d2 d3 d4 d5 d6 d7 d8):b370q rf rb d1 d2 d3 d4 d5 d6 d7 d8 = b370 rf rb d1 d2 d3 d4 d5 d6 d7 d8:=by
 unfold b370q b370; simp only [agN_eq,agree_self,agree_swap]
theorem ob370 {d1 d2 d3 d4 d5 d6 d7 d8 y} (h:b370 T.rf T.rb d1 d2 d3 d4 d5 d6 d7 d8 = some y):k370 T.rb d1 d2 d3 d4 d5 d6 d7 d8 = some y:=eb370.o ((sb370 _ _ _ _ _ _ _ _ _ _).trans h)
def r44 (rf:T.RF) (rb:T.RB) (d1:List XS):Option (XT × Int) :=
 (c45 rf d1).bind fun y1 =>
 bif y1.2 == 1 then
  some (([],[],[]),1)
 else
  (c73 rf d1).bind fun y2 =>
  bif y2 then
   some (([],[],[]),1)
  else
  bif y1.2 != 0 then
   some (([],[],[]),y1.2)
  else
  bif inb' (d1.length:Int) most then
   bif inb' (d1.length:Int) d1.length then
   bif inb' (d1.length:Int) most then
   bif inb' (d1.length:Int) d1.length then
   (k362 rb [] [] [] [] (List.replicate d1.length []) d1 (d1.length:Int) 0).bind fun z3 =>
   (k363 rb (List.replicate d1.length []) z3.2.2.1 (z3.2.2.2.1.length:Int) d1 (d1.length:Int) 0).bind fun z4 =>
   (k367 rb z4.2 z4.1 z3.2.2.2.1 z3.1 z3.2.2.2.2 z3.2.1 (z4.1.length:Int) 0).bind fun z5 =>
   some ((z5.2.2.2.2.1,z5.2.2.2.2.2,z5.2.2.1),0)
   else
   none
   else
   none
   else
   none
  else
   none
theorem er44:EqF 44 fun a b => r44 a b:=fun _ _ _ => by kernel_rfl
theorem or44:IF1 r44 c44:=fun h => er44.o h
def b372 (rf:T.RF) (rb:T.RB) (d1 d2 d3 d4:List Int) (d5 d6:List XO) (d7:Int):Option (List Int × List Int × List Int × List Int × List XO × List XO) :=
 bif decide (d7 < (d5.length:Int)) then
  bif inb d7 d5.length then
   (nth d5 d7.toNat).bind fun x1 =>
   bif (Nat.ble (d6.length + 1) most) && true then
   k372 rb d1 d2 d3 d4 d5 (d6 ++ [x1]) (IntKind.i64.wrap (d7 + 1))
   else
   none
  else
   none
 else
  some (d1,d2,d3,d4,d5,d6)
theorem eb372:EqB 372 (W7 b372):=fun _ _ _ => by kernel_rfl
def r81 (rf:T.RF) (rb:T.RB) (d1:List XO) (d2 d3:List Int):Option (List XO × XT) :=
 (k372 rb d2 d3 d2 d3 d1 [] 0).bind fun z1 =>
 some (z1.2.2.2.2.1,z1.2.2.2.2.2,z1.2.2.1,z1.2.2.2.1)
theorem er81:EqF 81 (W3 r81):=fun _ _ _ => by kernel_rfl
def r89 (rf:T.RF) (rb:T.RB) (d1:Int):Option Int :=
 bif d1 == 4 then
  some 1
 else
 bif d1 == 5 then
  some 1
 else
 bif decide (d1 ≥ 6) then
  bif decide (d1 ≤ 18) then
   some 2
  else
  bif d1 == 26 then
   some 3
  else
   some (-1)
 else
 bif d1 == 26 then
  some 3
 else
  some (-1)
theorem er89:EqF 89 fun a b => r89 a b:=fun _ _ _ => by kernel_rfl
def r88 (rf:T.RF) (rb:T.RB) (d1:Int):Option Int :=
 bif d1 == 3 then
  bif d1 == 3 then
   some 0
  else
  bif d1 == 21 then
   some 1
  else
  bif d1 == 19 then
   some 2
  else
   (c89 rf d1).bind fun y1 =>
   some y1
 else
 bif d1 == 1 then
  bif d1 == 1 then
   some 0
  else
  bif d1 == 21 then
   some 1
  else
  bif d1 == 19 then
   some 2
  else
   (c89 rf d1).bind fun y2 =>
   some y2
 else
 bif d1 == 2 then
  some 0
 else
 bif d1 == 21 then
  some 1
 else
 bif d1 == 19 then
  some 2
 else
  (c89 rf d1).bind fun y3 =>
  some y3
theorem er88:EqF 88 fun a b => r88 a b:=fun _ _ _ => by kernel_rfl
def r87 (rf:T.RF) (rb:T.RB) (d1:XO):Option (List Int × List Int) :=
 (c88 rf d1.1).bind fun y1 =>
 bif inb' (if 0 > y1 then 0 else y1) 3 then
  bif inb' (if 0 > y1 then 0 else y1) 3 then
   some (sub [d1.2.1,d1.2.2.1,d1.2.2.2.1] (some (0,((if 0 > y1 then 0 else y1).toNat - 0))),sub [d1.2.1,d1.2.2.1,d1.2.2.2.1] (some ((if 0 > y1 then 0 else y1).toNat,(3 - (if 0 > y1 then 0 else y1).toNat))))
  else
   none
 else
  none
theorem er87:EqF 87 fun a b => r87 a b:=fun _ _ _ => by kernel_rfl
def r90 (rf:T.RF) (rb:T.RB) (d1:XT) (d2:Int):Option (XT × Bool) :=
 bif decide (d2 ≥ 0) then
  some (d1,decide (d2 < (d1.1.length:Int)))
 else
  some (d1,false)
theorem er90:EqF 90 (W2 r90):=fun _ _ _ => by kernel_rfl
def r93 (rf:T.RF) (rb:T.RB) (d1:Int):Option Bool :=
 some (d1 != (-1))
theorem er93:EqF 93 fun a b => r93 a b:=fun _ _ _ => by kernel_rfl
def b375 (rf:T.RF) (rb:T.RB) (d1:List Int) (d2 d3:Int):Option (Int ⊕ Unit) :=
 bif decide (d3 < d2) then
  bif inb d3 d1.length then
   (nth d1 d3.toNat).bind fun x1 =>
   (c93 rf x1).bind fun y2 =>
   bif y2 then
   some (.inl d3)
   else
   k375 rb d1 d2 (IntKind.i64.wrap (d3 + 1))
  else
   none
 else
  some (.inr ())
theorem eb375:EqB 375 (W3 b375):=fun _ _ _ => by kernel_rfl
def r92 (rf:T.RF) (rb:T.RB) (d1:List Int):Option Int :=
 (k375 rb d1 (d1.length:Int) 0).bind fun z1 =>
 match z1 with
 | .inl u2 =>
   some u2
 | .inr w3 =>
   some (-1)
theorem er92:EqF 92 fun a b => r92 a b:=fun _ _ _ => by kernel_rfl
def r91 (rf:T.RF) (rb:T.RB) (d1:List Int):Option Bool :=
 (c92 rf d1).bind fun y1 =>
 some (decide (y1 ≥ 0))
theorem er91:EqF 91 fun a b => r91 a b:=fun _ _ _ => by kernel_rfl
def r94 (rf:T.RF) (rb:T.RB) (d1:Int):Option Bool :=
 some ((IntKind.i64.wrap (IntKind.i32.wrap d1)) == d1)
theorem er94:EqF 94 fun a b => r94 a b:=fun _ _ _ => by kernel_rfl
def b374 (rf:T.RF) (rb:T.RB) (d1:XT) (d2:List Int) (d3 d4:Int):Option ((XT × Bool) ⊕ XT) :=
 bif decide (d4 < d3) then
  bif inb d4 d2.length then
   (nth d2 d4.toNat).bind fun x1 =>
   (c90 rf d1 x1).bind fun y2 =>
   bif !y2.2 then
   some (.inl (y2.1,false))
   else
   k374 rb y2.1 d2 d3 (IntKind.i64.wrap (d4 + 1))
  else
   none
 else
  some (.inr d1)
theorem eb374:EqB 374 (W4 b374):=fun _ _ _ => by kernel_rfl
def r86 (rf:T.RF) (rb:T.RB) (d1:XT) (d2:XO):Option Bool :=
 (c87 rf d2).bind fun y1 =>
 (k374 rb d1 y1.1 (y1.1.length:Int) 0).bind fun z2 =>
 match z2 with
 | .inl u3 =>
   some u3.2
 | .inr w4 =>
   (c88 rf d2.1).bind fun y5 =>
   bif decide (y5 < 0) then
    some false
   else
    (c91 rf y1.2).bind fun y6 =>
    bif y6 then
     some false
    else
    bif d2.1 == 3 then
     bif decide (d2.2.2.2.2 ≥ 0) then
      some (decide (d2.2.2.2.2 < (w4.2.2.length:Int)))
     else
      some false
    else
    bif d2.1 == 1 then
     (c94 rf d2.2.2.2.2).bind fun y7 =>
     some y7
    else
    bif d2.1 == 2 then
     bif d2.2.2.2.2 == 0 then
      some true
     else
      some (d2.2.2.2.2 == 1)
    else
     some (d2.2.2.2.2 == 0)
theorem er86:EqF 86 (W2 r86):=fun _ _ _ => by kernel_rfl
def r85 (rf:T.RF) (rb:T.RB) (d1:XT) (d2:XO):Option (XT × Bool) :=
 (c86 rf d1 d2).bind fun y1 =>
 some (d1,!y1)
theorem er85:EqF 85 (W2 r85):=fun _ _ _ => by kernel_rfl
def b373 (rf:T.RF) (rb:T.RB) (d1:XT) (d2:List XO) (d3 d4:Int):Option ((XT × Int) ⊕ XT) :=
 bif decide (d4 < d3) then
  bif inb d4 d2.length then
   (nth d2 d4.toNat).bind fun x1 =>
   (c85 rf d1 x1).bind fun y2 =>
   bif y2.2 then
   some (.inl (y2.1,d4))
   else
   k373 rb y2.1 d2 d3 (IntKind.i64.wrap (d4 + 1))
  else
   none
 else
  some (.inr d1)
theorem eb373:EqB 373 (W4 b373):=fun _ _ _ => by kernel_rfl
def r84 (rf:T.RF) (rb:T.RB) (d1:XT) (d2:List XO):Option (XT × Int) :=
 (k373 rb d1 d2 (d2.length:Int) 0).bind fun z1 =>
 match z1 with
 | .inl u2 =>
   some u2
 | .inr w3 =>
   some (w3,(-1))
theorem er84:EqF 84 (W2 r84):=fun _ _ _ => by kernel_rfl
def r83 (rf:T.RF) (rb:T.RB) (d1:XT) (d2:List XO):Option (XT × Bool) :=
 (c84 rf d1 d2).bind fun y1 =>
 some (y1.1,decide (y1.2 ≥ 0))
theorem er83:EqF 83 (W2 r83):=fun _ _ _ => by kernel_rfl
def r97 (rf:T.RF) (rb:T.RB) (d1:XT) (d2:Int):Option (XT × Bool) :=
 bif decide (d2 < 0) then
  some (d1,true)
 else
  some (d1,decide (d2 ≥ (d1.1.length:Int)))
theorem er97:EqF 97 (W2 r97):=fun _ _ _ => by kernel_rfl
def b376 (rf:T.RF) (rb:T.RB) (d1:XT) (d2:List Int) (d3 d4:Int):Option ((XT × Int) ⊕ XT) :=
 bif decide (d4 < d3) then
  bif inb d4 d2.length then
   (nth d2 d4.toNat).bind fun x1 =>
   (c97 rf d1 x1).bind fun y2 =>
   bif y2.2 then
   some (.inl (y2.1,d4))
   else
   k376 rb y2.1 d2 d3 (IntKind.i64.wrap (d4 + 1))
  else
   none
 else
  some (.inr d1)
theorem eb376:EqB 376 (W4 b376):=fun _ _ _ => by kernel_rfl
def r96 (rf:T.RF) (rb:T.RB) (d1:XT) (d2:List Int):Option (XT × Int) :=
 (k376 rb d1 d2 (d2.length:Int) 0).bind fun z1 =>
 match z1 with
 | .inl u2 =>
   some u2
 | .inr w3 =>
   some (w3,(-1))
theorem er96:EqF 96 (W2 r96):=fun _ _ _ => by kernel_rfl
def r95 (rf:T.RF) (rb:T.RB) (d1:XT) (d2:List Int):Option (XT × Bool) :=
 (c96 rf d1 d2).bind fun y1 =>
 some (y1.1,decide (y1.2 ≥ 0))
theorem er95:EqF 95 (W2 r95):=fun _ _ _ => by kernel_rfl
def b382 (rf:T.RF) (rb:T.RB) (d1:XT) (d2:List Int) (d3 d4:Int):Option ((XT × List Int × Bool) ⊕ (XT × List Int)) :=
 bif decide (d4 < d3) then
  (k383 rb d1 d2 [d4]).bind fun z1 =>
  match z1 with
  | .inl u2 =>
    some (.inl u2)
  | .inr w3 =>
    k382 rb w3.1 w3.2 d3 (IntKind.i64.wrap (d4 + 1))
 else
  some (.inr (d1,d2))
theorem eb382:EqB 382 (W4 b382):=fun _ _ _ => by kernel_rfl
def b383 (rf:T.RF) (rb:T.RB) (d1:XT) (d2 d3:List Int):Option ((XT × List Int × Bool) ⊕ (XT × List Int)) :=
 bif decide ((d3.length:Int) > 0) then
  bif inb (IntKind.i64.wrap ((d3.length:Int) - 1)) d3.length then
   (nth d3 (IntKind.i64.wrap ((d3.length:Int) - 1)).toNat).bind fun x1 =>
   bif inb x1 d2.length then
    (nth d2 x1.toNat).bind fun x2 =>
    bif x2 != 0 then
     bif inb x1 d2.length then
      bif Nat.blt x1.toNat d2.length then
       bif inb' (IntKind.i64.wrap ((d3.length:Int) - 1)) d3.length then
        k383 rb d1 (setNth d2 x1.toNat 2) (sub d3 (some (0,((IntKind.i64.wrap ((d3.length:Int) - 1)).toNat - 0))))
       else
        none
      else
       none
     else
      none
    else
    bif inb x1 d2.length then
     bif Nat.blt x1.toNat d2.length then
      bif inb x1 d1.1.length then
       (nth d1.1 x1.toNat).bind fun x3 =>
       bif x3.1 == 21 then
        k383 rb d1 (setNth d2 x1.toNat 1) d3
       else
       bif inb x1 d1.1.length then
        (nth d1.1 x1.toNat).bind fun x4 =>
        (c87 rf x4).bind fun y5 =>
        (k384 rb (setNth d2 x1.toNat 1) d3 y5.1 (y5.1.length:Int) 0).bind fun z6 =>
        match z6 with
        | .inl u7 =>
          some (.inl (d1,u7))
        | .inr w8 =>
          k383 rb d1 w8.1 w8.2
       else
        none
      else
       none
     else
      none
    else
     none
   else
    none
  else
   none
 else
  some (.inr (d1,d2))
theorem eb383:EqB 383 (W3 b383):=fun _ _ _ => by kernel_rfl
def b384 (rf:T.RF) (rb:T.RB) (d1 d2 d3:List Int) (d4 d5:Int):Option ((List Int × Bool) ⊕ (List Int × List Int)) :=
 bif decide (d5 < d4) then
  bif inb d5 d3.length then
   (nth d3 d5.toNat).bind fun x1 =>
   bif inb x1 d1.length then
   (nth d1 x1.toNat).bind fun x2 =>
   bif x2 == 1 then
   some (.inl (d1,true))
   else
   bif x2 == 0 then
   bif (Nat.ble (d2.length + 1) most) && true then
   k384 rb d1 (d2 ++ [x1]) d3 d4 (IntKind.i64.wrap (d5 + 1))
   else
   none
   else
   k384 rb d1 d2 d3 d4 (IntKind.i64.wrap (d5 + 1))
   else
   none
  else
   none
 else
  some (.inr (d1,d2))
theorem eb384:EqB 384 (W5 b384):=fun _ _ _ => by kernel_rfl
def r98 (rf:T.RF) (rb:T.RB) (d1:XT):Option Bool :=
 bif inb' (d1.1.length:Int) most then
  bif inb' (d1.1.length:Int) d1.1.length then
   (k382 rb d1 (List.replicate d1.1.length (0:Int)) (d1.1.length:Int) 0).bind fun z1 =>
   match z1 with
   | .inl u2 =>
     some u2.2.2
   | .inr w3 =>
     some false
  else
   none
 else
  none
theorem er98:EqF 98 fun a b => r98 a b:=fun _ _ _ => by kernel_rfl
def r82 (rf:T.RF) (rb:T.RB) (d1:XT):Option Int :=
 bif decide ((d1.1.length:Int) > 100000) then
  some 1
 else
  (c83 rf d1 d1.1).bind fun y1 =>
  bif y1.2 then
   some 1
  else
   (c95 rf y1.1 y1.1.2.1).bind fun y2 =>
   bif y2.2 then
   some 1
   else
   (c98 rf y2.1).bind fun y3 =>
   bif y3 then
   some 12
   else
   some 0
theorem er82:EqF 82 fun a b => r82 a b:=fun _ _ _ => by kernel_rfl
def b386 (rf:T.RF) (rb:T.RB) (d1:XT) (d2 d3:List Int) (d4:List XO) (d5:Int):Option (XT × List Int × List Int × List XO) :=
 bif decide (d5 < (d1.1.length:Int)) then
  bif inb d5 d1.1.length then
   (nth d1.1 d5.toNat).bind fun x1 =>
   bif (Nat.ble (d4.length + 1) most) && true then
   k386 rb d1 d2 d3 (d4 ++ [x1]) (IntKind.i64.wrap (d5 + 1))
   else
   none
  else
   none
 else
  some (d1,d2,d3,d4)
theorem eb386:EqB 386 (W5 b386):=fun _ _ _ => by kernel_rfl
theorem ob386:IB5 b386 k386:=fun h => eb386.o h
def r99 (rf:T.RF) (rb:T.RB) (d1:XT):Option XT :=
 (k386 rb d1 d1.2.1 d1.2.2 [] 0).bind fun z1 =>
 some (z1.2.2.2,z1.2.1,z1.2.2.1)
theorem er99:EqF 99 fun a b => r99 a b:=fun _ _ _ => by kernel_rfl
theorem or99:IF1 r99 c99:=fun h => er99.o h
def b387 (rf:T.RF) (rb:T.RB) (d1 d2:List Int) (d3:Int):Option (Bool ⊕ Unit) :=
 bif decide (d3 < (d1.length:Int)) then
  bif inb d3 d1.length then
   (nth d1 d3.toNat).bind fun x1 =>
   bif inb d3 d2.length then
   (nth d2 d3.toNat).bind fun x2 =>
   bif x1 != x2 then
   some (.inl false)
   else
   k387 rb d1 d2 (IntKind.i64.wrap (d3 + 1))
   else
   none
  else
   none
 else
  some (.inr ())
theorem eb387:EqB 387 (W3 b387):=fun _ _ _ => by kernel_rfl
theorem ob387:IB3 b387 k387:=fun h => eb387.o h
def r101 (rf:T.RF) (rb:T.RB) (d1 d2:List Int):Option Bool :=
 bif (d1.length:Int) != (d2.length:Int) then
  some false
 else
  (k387 rb d1 d2 0).bind fun z1 =>
  match z1 with
  | .inl u2 =>
    some u2
  | .inr w3 =>
    some true
theorem er101:EqF 101 (W2 r101):=fun _ _ _ => by kernel_rfl
theorem or101:IF2 r101 c101:=fun h => er101.o h
def b388 (rf:T.RF) (rb:T.RB) (d1 d2:XT) (d3:Int):Option ((XT × XT × Bool) ⊕ (XT × XT)) :=
 bif decide (d3 < (d1.1.length:Int)) then
  bif inb d3 d1.1.length then
   (nth d1.1 d3.toNat).bind fun x1 =>
   bif inb d3 d2.1.length then
   (nth d2.1 d3.toNat).bind fun x2 =>
   bif !((x1.1 == x2.1) && ((x1.2.1 == x2.2.1) && ((x1.2.2.1 == x2.2.2.1) && ((x1.2.2.2.1 == x2.2.2.2.1) && (x1.2.2.2.2 == x2.2.2.2.2))))) then
   some (.inl (d1,d2,false))
   else
   k388 rb d1 d2 (IntKind.i64.wrap (d3 + 1))
   else
   none
  else
   none
 else
  some (.inr (d1,d2))
theorem eb388:EqB 388 (W3 b388):=fun _ _ _ => by kernel_rfl
theorem ob388:IB3 b388 k388:=fun h => eb388.o h
def r100 (rf:T.RF) (rb:T.RB) (d1 d2:XT):Option Bool :=
 bif (d1.1.length:Int) != (d2.1.length:Int) then
  some false
 else
  (c101 rf d1.2.1 d2.2.1).bind fun y1 =>
  bif !y1 then
   some false
  else
   (c101 rf d1.2.2 d2.2.2).bind fun y2 =>
   bif !y2 then
    some false
   else
    (k388 rb d1 d2 0).bind fun z3 =>
    match z3 with
    | .inl u4 =>
      some u4.2.2
    | .inr w5 =>
      some true
theorem er100:EqF 100 (W2 r100):=fun _ _ _ => by kernel_rfl
theorem or100:IF2 r100 c100:=fun h => er100.o h
def r2 (rf:T.RF) (rb:T.RB):Option Bool :=
 (c3 rf ([97,32,43,32,49]:List UInt8)).bind fun y1 =>
 (c3 rf ([120]:List UInt8)).bind fun y2 =>
 (c44 rf [(([97]:List UInt8),2,[]),(([120]:List UInt8),2,y1.1),(([121]:List UInt8),2,y2.1)]).bind fun y3 =>
 (c44 rf [(([120]:List UInt8),2,y2.1)]).bind fun y4 =>
 (c81 rf [(3,(-1),(-1),(-1),0),(1,(-1),(-1),(-1),1),(14,0,2,(-1),0)] [0,2,2] [2]).bind fun y5 =>
 (c82 rf y5.2).bind fun y6 =>
 bif inb 2 y5.1.length then
  (nth y5.1 2).bind fun x7 =>
  bif y3.2 == 0 then
   (c99 rf y3.1).bind fun y8 =>
   (c100 rf y8 (setNth y5.1 2 (x7.1,x7.2.1,1,x7.2.2.2),[0,2,2],[2])).bind fun y9 =>
   bif y9 then
   bif y4.2 == 12 then
   bif y6 == 12 then
   (c82 rf ([],[0],[])).bind fun y10 =>
   some (y10 == 1)
   else
   some false
   else
   some false
   else
   some false
  else
   some false
 else
  none
theorem er2:EqF 2 (W0 r2):=fun _ _ _ => by kernel_rfl
def b390 (rf:T.RF) (rb:T.RB) (d1:List XS) (d2:List UInt8) (d3:Int):Option (Int ⊕ Unit) :=
 bif decide (d3 < (d1.length:Int)) then
  bif inb d3 d1.length then
   (nth d1 d3.toNat).bind fun x1 =>
   bif x1.1 == d2 then
   some (.inl d3)
   else
   k390 rb d1 d2 (IntKind.i64.wrap (d3 + 1))
  else
   none
 else
  some (.inr ())
theorem eb390:EqB 390 (W3 b390):=fun _ _ _ => by kernel_rfl
theorem ob390:IB3 b390 k390:=fun h => eb390.o h
def r104 (rf:T.RF) (rb:T.RB) (d1:List XS) (d2:List UInt8):Option Int :=
 (k390 rb d1 d2 0).bind fun z1 =>
 match z1 with
 | .inl u2 =>
   some u2
 | .inr w3 =>
   some (-1)
theorem er104:EqF 104 (W2 r104):=fun _ _ _ => by kernel_rfl
theorem or104:IF2 r104 c104:=fun h => er104.o h
def r107 (rf:T.RF) (rb:T.RB) (d1:XN):Option Bool :=
 (c30 rf d1).bind fun y1 =>
 bif d1.1 == 27 then
  bif d1.2.2.1 == (-1) then
   some (d1.2.2.2.1 == (-1))
  else
   some false
 else
 bif d1.1 == 28 then
  some (d1.2.2.2.1 == (-1))
 else
 bif decide ((y1.length:Int) > 0) then
  bif decide ((y1.length:Int) > 1) then
   bif decide ((y1.length:Int) > 2) then
   some true
   else
   some (d1.2.2.2.1 == (-1))
  else
  bif d1.2.2.1 == (-1) then
   bif decide ((y1.length:Int) > 2) then
   some true
   else
   some (d1.2.2.2.1 == (-1))
  else
   some false
 else
 bif d1.2.1 == (-1) then
  bif decide ((y1.length:Int) > 1) then
   bif decide ((y1.length:Int) > 2) then
   some true
   else
   some (d1.2.2.2.1 == (-1))
  else
  bif d1.2.2.1 == (-1) then
   bif decide ((y1.length:Int) > 2) then
   some true
   else
   some (d1.2.2.2.1 == (-1))
  else
   some false
 else
  some false
theorem er107:EqF 107 fun a b => r107 a b:=fun _ _ _ => by kernel_rfl
theorem or107:IF1 r107 c107:=fun h => er107.o h
def r108 (rf:T.RF) (rb:T.RB) (d1:XN):Option Bool :=
 bif d1.1 == 3 then
  bif !((!(d1.2.2.2.2.2 == ([]:List UInt8))) == true) then
   some false
  else
  bif d1.1 == 1 then
   bif decide (d1.2.2.2.2.1 ≥ 0) then
   some (decide (d1.2.2.2.2.1 ≤ 2147483647))
   else
   some false
  else
  bif d1.1 == 2 then
   bif d1.2.2.2.2.1 == 0 then
   some true
   else
   some (d1.2.2.2.2.1 == 1)
  else
  bif d1.1 == 25 then
   bif decide (d1.2.2.2.2.1 ≥ 0) then
   some (decide (d1.2.2.2.2.1 ≤ 1000))
   else
   some false
  else
   some (d1.2.2.2.2.1 == 0)
 else
 bif !((!(d1.2.2.2.2.2 == ([]:List UInt8))) == (d1.1 == 27)) then
  some false
 else
 bif d1.1 == 1 then
  bif decide (d1.2.2.2.2.1 ≥ 0) then
   some (decide (d1.2.2.2.2.1 ≤ 2147483647))
  else
   some false
 else
 bif d1.1 == 2 then
  bif d1.2.2.2.2.1 == 0 then
   some true
  else
   some (d1.2.2.2.2.1 == 1)
 else
 bif d1.1 == 25 then
  bif decide (d1.2.2.2.2.1 ≥ 0) then
   some (decide (d1.2.2.2.2.1 ≤ 1000))
  else
   some false
 else
  some (d1.2.2.2.2.1 == 0)
theorem er108:EqF 108 fun a b => r108 a b:=fun _ _ _ => by kernel_rfl
theorem or108:IF1 r108 c108:=fun h => er108.o h
def b393 (rf:T.RF) (rb:T.RB) (d1:XN) (d2:List Int) (d3:XL) (d4:Int):Option ((XN × List Int × Bool) ⊕ (XN × List Int)) :=
 bif decide (d4 < (d2.length:Int)) then
  bif inb d4 d2.length then
   (nth d2 d4.toNat).bind fun x1 =>
   bif inb x1 d3.length then
   (nth d3 x1.toNat).bind fun x2 =>
   bif d1.1 == 27 then
   bif !((x2.1 == 28) == true) then
   some (.inl (d1,d2,false))
   else
   k393 rb d1 d2 d3 (IntKind.i64.wrap (d4 + 1))
   else
   bif d1.1 == 28 then
   bif (d2.length:Int) == 2 then
   bif !((x2.1 == 28) == (d4 == 0)) then
   some (.inl (d1,d2,false))
   else
   k393 rb d1 d2 d3 (IntKind.i64.wrap (d4 + 1))
   else
   bif !((x2.1 == 28) == false) then
   some (.inl (d1,d2,false))
   else
   k393 rb d1 d2 d3 (IntKind.i64.wrap (d4 + 1))
   else
   bif !((x2.1 == 28) == false) then
   some (.inl (d1,d2,false))
   else
   k393 rb d1 d2 d3 (IntKind.i64.wrap (d4 + 1))
   else
   none
  else
   none
 else
  some (.inr (d1,d2))
theorem eb393:EqB 393 (W4 b393):=fun _ _ _ => by kernel_rfl
theorem ob393:IB4 b393 k393:=fun h => eb393.o h
def r109 (rf:T.RF) (rb:T.RB) (d1:XL) (d2:Int):Option Bool :=
 bif inb d2 d1.length then
  (nth d1 d2.toNat).bind fun x1 =>
  (c30 rf x1).bind fun y2 =>
  (k393 rb x1 y2 d1 0).bind fun z3 =>
  match z3 with
  | .inl u4 =>
    some u4.2.2
  | .inr w5 =>
    some true
 else
  none
theorem er109:EqF 109 (W2 r109):=fun _ _ _ => by kernel_rfl
theorem or109:IF2 r109 c109:=fun h => er109.o h
def b391 (rf:T.RF) (rb:T.RB) (d1:List Int) (d2:XL) (d3:Int):Option ((List Int × Bool) ⊕ (List Int)) :=
 bif decide (d3 < (d2.length:Int)) then
  bif inb d3 d2.length then
   (nth d2 d3.toNat).bind fun x1 =>
   bif decide (x1.1 < 1) then
    some (.inl (d1,false))
   else
   bif inb d3 d2.length then
    (nth d2 d3.toNat).bind fun x2 =>
    bif decide (x2.1 > 28) then
     some (.inl (d1,false))
    else
    bif inb d3 d2.length then
     (nth d2 d3.toNat).bind fun x3 =>
     (c107 rf x3).bind fun y4 =>
     bif !y4 then
      some (.inl (d1,false))
     else
     bif inb d3 d2.length then
      (nth d2 d3.toNat).bind fun x5 =>
      (c108 rf x5).bind fun y6 =>
      bif !y6 then
       some (.inl (d1,false))
      else
      bif inb d3 d2.length then
       (nth d2 d3.toNat).bind fun x7 =>
       (c30 rf x7).bind fun y8 =>
       (k392 rb d1 y8 d3 0).bind fun z9 =>
       match z9 with
       | .inl u10 =>
         some (.inl (u10.1,u10.2.2))
       | .inr w11 =>
         (c109 rf d2 d3).bind fun y12 =>
         bif !y12 then
          some (.inl (w11.1,false))
         else
          k391 rb w11.1 d2 (IntKind.i64.wrap (d3 + 1))
      else
       none
     else
      none
    else
     none
   else
    none
  else
   none
 else
  some (.inr d1)
theorem eb391:EqB 391 (W3 b391):=fun _ _ _ => by kernel_rfl
theorem ob391:IB3 b391 k391:=fun h => eb391.o h
def b392 (rf:T.RF) (rb:T.RB) (d1 d2:List Int) (d3 d4:Int):Option ((List Int × List Int × Bool) ⊕ (List Int × List Int)) :=
 bif decide (d4 < (d2.length:Int)) then
  bif inb d4 d2.length then
   (nth d2 d4.toNat).bind fun x1 =>
   bif decide (x1 < 0) then
   some (.inl (d1,d2,false))
   else
   bif inb d4 d2.length then
   (nth d2 d4.toNat).bind fun x2 =>
   bif decide (x2 ≥ d3) then
   some (.inl (d1,d2,false))
   else
   bif inb d4 d2.length then
   (nth d2 d4.toNat).bind fun x3 =>
   bif inb x3 d1.length then
   (nth d1 x3.toNat).bind fun x4 =>
   bif inb x3 d1.length then
   bif Nat.blt x3.toNat d1.length then
   k392 rb (setNth d1 x3.toNat (IntKind.i64.wrap (x4 + 1))) d2 d3 (IntKind.i64.wrap (d4 + 1))
   else
   none
   else
   none
   else
   none
   else
   none
   else
   none
  else
   none
 else
  some (.inr (d1,d2))
theorem eb392:EqB 392 (W4 b392):=fun _ _ _ => by kernel_rfl
theorem ob392:IB4 b392 k392:=fun h => eb392.o h
def b394 (rf:T.RF) (rb:T.RB) (d1:List Int) (d2:XL) (d3:Int):Option ((List Int × Bool) ⊕ (List Int)) :=
 bif decide (d3 < (IntKind.i64.wrap ((d2.length:Int) - 1))) then
  bif inb d3 d1.length then
   (nth d1 d3.toNat).bind fun x1 =>
   bif x1 != 1 then
   some (.inl (d1,false))
   else
   k394 rb d1 d2 (IntKind.i64.wrap (d3 + 1))
  else
   none
 else
  some (.inr d1)
theorem eb394:EqB 394 (W3 b394):=fun _ _ _ => by kernel_rfl
theorem ob394:IB3 b394 k394:=fun h => eb394.o h
def r106 (rf:T.RF) (rb:T.RB) (d1:XL):Option Bool :=
 bif decide ((d1.length:Int) < 1) then
  some false
 else
 bif decide ((d1.length:Int) > 5000) then
  some false
 else
 bif inb' (d1.length:Int) most then
  bif inb' (d1.length:Int) d1.length then
   (k391 rb (List.replicate d1.length (0:Int)) d1 0).bind fun z1 =>
   match z1 with
   | .inl u2 =>
     some u2.2
   | .inr w3 =>
     (k394 rb w3 d1 0).bind fun z4 =>
     match z4 with
     | .inl u5 =>
       some u5.2
     | .inr w6 =>
       bif inb (IntKind.i64.wrap ((d1.length:Int) - 1)) d1.length then
        (nth d1 (IntKind.i64.wrap ((d1.length:Int) - 1)).toNat).bind fun x7 =>
        bif x7.1 != 28 then
         (c43 rf d1).bind fun y8 =>
         some (decide (y8 ≤ 40))
        else
         some false
       else
        none
  else
   none
 else
  none
theorem er106:EqF 106 fun a b => r106 a b:=fun _ _ _ => by kernel_rfl
theorem or106:IF1 r106 c106:=fun h => er106.o h
def b395 (rf:T.RF) (rb:T.RB) (d1:List XS) (d2:XL) (d3:Int):Option (Bool ⊕ Unit) :=
 bif decide (d3 < (d2.length:Int)) then
  bif inb d3 d2.length then
   (nth d2 d3.toNat).bind fun x1 =>
   bif x1.1 == 27 then
   some (.inl false)
   else
   bif inb d3 d2.length then
   (nth d2 d3.toNat).bind fun x2 =>
   bif x2.1 == 3 then
   bif inb d3 d2.length then
   (nth d2 d3.toNat).bind fun x3 =>
   (c104 rf d1 x3.2.2.2.2.2).bind fun y4 =>
   bif decide (y4 < 0) then
   some (.inl false)
   else
   k395 rb d1 d2 (IntKind.i64.wrap (d3 + 1))
   else
   none
   else
   k395 rb d1 d2 (IntKind.i64.wrap (d3 + 1))
   else
   none
  else
   none
 else
  some (.inr ())
theorem eb395:EqB 395 (W3 b395):=fun _ _ _ => by kernel_rfl
theorem ob395:IB3 b395 k395:=fun h => eb395.o h
def r105 (rf:T.RF) (rb:T.RB) (d1:List XS) (d2:XL):Option Bool :=
 (c106 rf d2).bind fun y1 =>
 bif !y1 then
  some false
 else
  (k395 rb d1 d2 0).bind fun z2 =>
  match z2 with
  | .inl u3 =>
    some u3
  | .inr w4 =>
    some true
theorem er105:EqF 105 (W2 r105):=fun _ _ _ => by kernel_rfl
theorem or105:IF2 r105 c105:=fun h => er105.o h
def b400 (rf:T.RF) (rb:T.RB) (d1:XL) (d2 d3:List Int) (d4:XL) (d5:Int):Option (List Int × XL × List Int) :=
 bif decide (d5 < (d2.length:Int)) then
  bif inb d5 d2.length then
   (nth d2 d5.toNat).bind fun x1 =>
   (c114 rf d1 d4 x1).bind fun y2 =>
   bif (Nat.ble (d3.length + 1) most) && true then
   k400 rb y2 d2 (d3 ++ [IntKind.i64.wrap ((y2.length:Int) - 1)]) d4 (IntKind.i64.wrap (d5 + 1))
   else
   none
  else
   none
 else
  some (d2,d1,d3)
theorem eb400:EqB 400 (W5 b400):=fun _ _ _ => by kernel_rfl
theorem ob400:IB5 b400 k400:=fun h => eb400.o h
def r114 (rf:T.RF) (rb:T.RB) (d1 d2:XL) (d3:Int):Option XL :=
 bif inb d3 d2.length then
  (nth d2 d3.toNat).bind fun x1 =>
  (c30 rf x1).bind fun y2 =>
  (k400 rb d1 y2 [] d2 0).bind fun z3 =>
  bif inb d3 d2.length then
   (nth d2 d3.toNat).bind fun x4 =>
   (c33 rf x4 z3.2.2).bind fun y5 =>
   bif (Nat.ble (z3.2.1.length + 1) most) && true then
   some (z3.2.1 ++ [y5])
   else
   none
  else
   none
 else
  none
theorem er114:EqF 114 (W3 r114):=fun _ _ _ => by kernel_rfl
theorem or114:IF3 r114 c114:=fun h => er114.o h
def r113 (rf:T.RF) (rb:T.RB) (d1:XL) (d2:Int):Option XL :=
 (c106 rf d1).bind fun y1 =>
 bif !y1 then
  some []
 else
 bif decide (d2 < 0) then
  some []
 else
 bif decide (d2 ≥ (d1.length:Int)) then
  some []
 else
  (c114 rf [] d1 d2).bind fun y2 =>
  some y2
theorem er113:EqF 113 (W2 r113):=fun _ _ _ => by kernel_rfl
theorem or113:IF2 r113 c113:=fun h => er113.o h
def r112 (rf:T.RF) (rb:T.RB) (d1:XL):Option XL :=
 (c113 rf d1 (IntKind.i64.wrap ((d1.length:Int) - 1))).bind fun y1 =>
 some y1
theorem er112:EqF 112 fun a b => r112 a b:=fun _ _ _ => by kernel_rfl
theorem or112:IF1 r112 c112:=fun h => er112.o h
def b405 (rf:T.RF) (rb:T.RB) (d1:List Bool) (d2:XL) (d3:Int):Option (List Bool) :=
 bif decide (d3 ≥ 0) then
  bif inb d3 d2.length then
   (nth d2 d3.toNat).bind fun x1 =>
   (c30 rf x1).bind fun y2 =>
   (k406 rb d1 y2 d2 d3 0).bind fun z3 =>
   k405 rb z3.1 d2 (IntKind.i64.wrap (d3 - 1))
  else
   none
 else
  some d1
theorem eb405:EqB 405 (W3 b405):=fun _ _ _ => by kernel_rfl
theorem ob405:IB3 b405 k405:=fun h => eb405.o h
def b406 (rf:T.RF) (rb:T.RB) (d1:List Bool) (d2:List Int) (d3:XL) (d4 d5:Int):Option (List Bool × List Int) :=
 bif decide (d5 < (d2.length:Int)) then
  bif inb d5 d2.length then
   (nth d2 d5.toNat).bind fun x1 =>
   bif inb d4 d1.length then
   (nth d1 d4.toNat).bind fun x2 =>
   bif x2 then
   bif inb x1 d1.length then
   bif Nat.blt x1.toNat d1.length then
   k406 rb (setNth d1 x1.toNat true) d2 d3 d4 (IntKind.i64.wrap (d5 + 1))
   else
   none
   else
   none
   else
   bif inb d4 d3.length then
   (nth d3 d4.toNat).bind fun x3 =>
   bif x3.1 == 21 then
   bif inb x1 d1.length then
   bif Nat.blt x1.toNat d1.length then
   k406 rb (setNth d1 x1.toNat true) d2 d3 d4 (IntKind.i64.wrap (d5 + 1))
   else
   none
   else
   none
   else
   bif inb d4 d3.length then
   (nth d3 d4.toNat).bind fun x4 =>
   bif inb x1 d1.length then
   bif Nat.blt x1.toNat d1.length then
   k406 rb (setNth d1 x1.toNat (x4.1 == 24)) d2 d3 d4 (IntKind.i64.wrap (d5 + 1))
   else
   none
   else
   none
   else
   none
   else
   none
   else
   none
  else
   none
 else
  some (d1,d2)
theorem eb406:EqB 406 (W5 b406):=fun _ _ _ => by kernel_rfl
theorem ob406:IB5 b406 k406:=fun h => eb406.o h
def r115 (rf:T.RF) (rb:T.RB) (d1:XL):Option (List Bool) :=
 bif inb' (d1.length:Int) most then
  bif inb' (d1.length:Int) d1.length then
   (k405 rb (List.replicate d1.length false) d1 (IntKind.i64.wrap ((d1.length:Int) - 1))).bind fun z1 =>
   some z1
  else
   none
 else
  none
theorem er115:EqF 115 fun a b => r115 a b:=fun _ _ _ => by kernel_rfl
theorem or115:IF1 r115 c115:=fun h => er115.o h
def b408 (rf:T.RF) (rb:T.RB) (d1:List (List UInt8)) (d2:List UInt8) (d3:Int):Option ((List (List UInt8) × Bool) ⊕ (List (List UInt8))) :=
 bif decide (d3 < (d1.length:Int)) then
  bif inb d3 d1.length then
   (nth d1 d3.toNat).bind fun x1 =>
   bif x1 == d2 then
   some (.inl (d1,true))
   else
   k408 rb d1 d2 (IntKind.i64.wrap (d3 + 1))
  else
   none
 else
  some (.inr d1)
theorem eb408:EqB 408 (W3 b408):=fun _ _ _ => by kernel_rfl
theorem ob408:IB3 b408 k408:=fun h => eb408.o h
def r116 (rf:T.RF) (rb:T.RB) (d1:List (List UInt8)) (d2:List UInt8):Option (List (List UInt8) × Bool) :=
 (k408 rb d1 d2 0).bind fun z1 =>
 match z1 with
 | .inl u2 =>
   some u2
 | .inr w3 =>
   some (w3,false)
theorem er116:EqF 116 (W2 r116):=fun _ _ _ => by kernel_rfl
theorem or116:IF2 r116 c116:=fun h => er116.o h
def b409 (rf:T.RF) (rb:T.RB) (d1:List Bool) (d2:List (List UInt8)) (d3:XL) (d4:Int):Option (List Bool × List (List UInt8)) :=
 bif decide (d4 < (d3.length:Int)) then
  bif inb d4 d3.length then
   (nth d3 d4.toNat).bind fun x1 =>
   bif x1.1 == 3 then
   bif inb d4 d1.length then
   (nth d1 d4.toNat).bind fun x2 =>
   bif !x2 then
   bif inb d4 d3.length then
   (nth d3 d4.toNat).bind fun x3 =>
   (c116 rf d2 x3.2.2.2.2.2).bind fun y4 =>
   bif !y4.2 then
   bif inb d4 d3.length then
   (nth d3 d4.toNat).bind fun x5 =>
   bif (Nat.ble (y4.1.length + 1) most) && true then
   k409 rb d1 (y4.1 ++ [x5.2.2.2.2.2]) d3 (IntKind.i64.wrap (d4 + 1))
   else
   none
   else
   none
   else
   k409 rb d1 y4.1 d3 (IntKind.i64.wrap (d4 + 1))
   else
   none
   else
   k409 rb d1 d2 d3 (IntKind.i64.wrap (d4 + 1))
   else
   none
   else
   k409 rb d1 d2 d3 (IntKind.i64.wrap (d4 + 1))
  else
   none
 else
  some (d1,d2)
theorem eb409:EqB 409 (W4 b409):=fun _ _ _ => by kernel_rfl
theorem ob409:IB4 b409 k409:=fun h => eb409.o h
def r111 (rf:T.RF) (rb:T.RB) (d1:XL):Option (List (List UInt8)) :=
 (c112 rf d1).bind fun y1 =>
 (c115 rf y1).bind fun y2 =>
 (k409 rb y2 [] y1 0).bind fun z3 =>
 some z3.2
theorem er111:EqF 111 fun a b => r111 a b:=fun _ _ _ => by kernel_rfl
theorem or111:IF1 r111 c111:=fun h => er111.o h
def b414 (rf:T.RF) (rb:T.RB) (d1:List (List UInt8)) (d2:List UInt8) (d3:Int):Option (Bool ⊕ Unit) :=
 bif decide (d3 < (d1.length:Int)) then
  bif inb d3 d1.length then
   (nth d1 d3.toNat).bind fun x1 =>
   bif x1 == d2 then
   some (.inl true)
   else
   k414 rb d1 d2 (IntKind.i64.wrap (d3 + 1))
  else
   none
 else
  some (.inr ())
theorem eb414:EqB 414 (W3 b414):=fun _ _ _ => by kernel_rfl
theorem ob414:IB3 b414 k414:=fun h => eb414.o h
def r118 (rf:T.RF) (rb:T.RB) (d1:List (List UInt8)) (d2:List UInt8):Option Bool :=
 (k414 rb d1 d2 0).bind fun z1 =>
 match z1 with
 | .inl u2 =>
   some u2
 | .inr w3 =>
   some false
theorem er118:EqF 118 (W2 r118):=fun _ _ _ => by kernel_rfl
theorem or118:IF2 r118 c118:=fun h => er118.o h
def b413 (rf:T.RF) (rb:T.RB) (d1:List Bool) (d2:List (List UInt8 × XL)) (d3:List (List UInt8)) (d4:Int):Option ((List Bool × Bool) ⊕ (List Bool)) :=
 bif decide (d4 < (d2.length:Int)) then
  bif inb d4 d1.length then
   (nth d1 d4.toNat).bind fun x1 =>
   bif !x1 then
   bif inb d4 d2.length then
   (nth d2 d4.toNat).bind fun x2 =>
   (c118 rf d3 x2.1).bind fun y3 =>
   bif y3 then
   some (.inl (d1,true))
   else
   k413 rb d1 d2 d3 (IntKind.i64.wrap (d4 + 1))
   else
   none
   else
   k413 rb d1 d2 d3 (IntKind.i64.wrap (d4 + 1))
  else
   none
 else
  some (.inr d1)
theorem eb413:EqB 413 (W4 b413):=fun _ _ _ => by kernel_rfl
theorem ob413:IB4 b413 k413:=fun h => eb413.o h
def r117 (rf:T.RF) (rb:T.RB) (d1:List Bool) (d2:List (List UInt8 × XL)) (d3:List (List UInt8)):Option (List Bool × Bool) :=
 (k413 rb d1 d2 d3 0).bind fun z1 =>
 match z1 with
 | .inl u2 =>
   some u2
 | .inr w3 =>
   some (w3,false)
theorem er117:EqF 117 (W3 r117):=fun _ _ _ => by kernel_rfl
theorem or117:IF3 r117 c117:=fun h => er117.o h
def b415 (rf:T.RF) (rb:T.RB) (d1:List (List (List UInt8))) (d2:List (List UInt8 × XL)) (d3:Int):Option (List (List (List UInt8))) :=
 bif decide (d3 < (d2.length:Int)) then
  bif inb d3 d2.length then
   (nth d2 d3.toNat).bind fun x1 =>
   (c111 rf x1.2).bind fun y2 =>
   bif (Nat.ble (d1.length + 1) most) && true then
   k415 rb (d1 ++ [y2]) d2 (IntKind.i64.wrap (d3 + 1))
   else
   none
  else
   none
 else
  some d1
theorem eb415:EqB 415 (W3 b415):=fun _ _ _ => by kernel_rfl
theorem ob415:IB3 b415 k415:=fun h => eb415.o h
def b416 (rf:T.RF) (rb:T.RB) (d1:List (List (List UInt8))) (d2:List Bool) (d3:List Int) (d4:List (List UInt8 × XL)):Option ((List (List (List UInt8)) × List Bool × List Int × Int) ⊕ (List (List (List UInt8)) × List Bool × List Int)) :=
 bif decide ((d3.length:Int) < (d4.length:Int)) then
  (k417 rb d1 d2 d4 (-1) (IntKind.i64.wrap ((d4.length:Int) - 1))).bind fun z1 =>
  bif decide (z1.2.2 < 0) then
   some (.inl (z1.1,z1.2.1,[],12))
  else
  bif inb z1.2.2 z1.2.1.length then
   bif Nat.blt z1.2.2.toNat z1.2.1.length then
   bif (Nat.ble (d3.length + 1) most) && true then
   k416 rb z1.1 (setNth z1.2.1 z1.2.2.toNat true) (d3 ++ [z1.2.2]) d4
   else
   none
   else
   none
  else
   none
 else
  some (.inr (d1,d2,d3))
theorem eb416:EqB 416 (W4 b416):=fun _ _ _ => by kernel_rfl
theorem ob416:IB4 b416 k416:=fun h => eb416.o h
def b417 (rf:T.RF) (rb:T.RB) (d1:List (List (List UInt8))) (d2:List Bool) (d3:List (List UInt8 × XL)) (d4 d5:Int):Option (List (List (List UInt8)) × List Bool × Int) :=
 bif decide (d5 ≥ 0) then
  bif inb d5 d2.length then
   (nth d2 d5.toNat).bind fun x1 =>
   bif !x1 then
   bif inb d5 d1.length then
   (nth d1 d5.toNat).bind fun x2 =>
   (c117 rf d2 d3 x2).bind fun y3 =>
   bif !y3.2 then
   k417 rb d1 y3.1 d3 d5 (IntKind.i64.wrap (d5 - 1))
   else
   k417 rb d1 y3.1 d3 d4 (IntKind.i64.wrap (d5 - 1))
   else
   none
   else
   k417 rb d1 d2 d3 d4 (IntKind.i64.wrap (d5 - 1))
  else
   none
 else
  some (d1,d2,d4)
theorem eb417:EqB 417 (W5 b417):=fun _ _ _ => by kernel_rfl
theorem ob417:IB5 b417 k417:=fun h => eb417.o h
def r110 (rf:T.RF) (rb:T.RB) (d1:List (List UInt8 × XL)):Option (List Int × Int) :=
 bif decide ((d1.length:Int) > 4000) then
  some ([],7)
 else
  (k415 rb [] d1 0).bind fun z1 =>
  bif inb' (d1.length:Int) most then
   bif inb' (d1.length:Int) d1.length then
    (k416 rb z1 (List.replicate d1.length false) [] d1).bind fun z2 =>
    match z2 with
    | .inl u3 =>
      some u3.2.2
    | .inr w4 =>
      some (w4.2.2,0)
   else
    none
  else
   none
theorem er110:EqF 110 fun a b => r110 a b:=fun _ _ _ => by kernel_rfl
theorem or110:IF1 r110 c110:=fun h => er110.o h
def b397 (rf:T.RF) (rb:T.RB) (d1:List (List UInt8 × XL)) (d2:List XS) (d3:Int):Option (Int ⊕ (List (List UInt8 × XL))) :=
 bif decide (d3 < (d2.length:Int)) then
  bif inb d3 d2.length then
   (nth d2 d3.toNat).bind fun x1 =>
   (c104 rf d2 x1.1).bind fun y2 =>
   bif decide (y2 < d3) then
   some (.inl 1)
   else
   bif inb d3 d2.length then
   (nth d2 d3.toNat).bind fun x3 =>
   bif decide ((x3.2.2.length:Int) > 0) then
   bif inb d3 d2.length then
   (nth d2 d3.toNat).bind fun x4 =>
   (c105 rf d2 x4.2.2).bind fun y5 =>
   bif !y5 then
   some (.inl 1)
   else
   bif inb d3 d2.length then
   (nth d2 d3.toNat).bind fun x6 =>
   bif decide ((x6.2.2.length:Int) > 0) then
   bif inb d3 d2.length then
   (nth d2 d3.toNat).bind fun x7 =>
   bif inb d3 d2.length then
   (nth d2 d3.toNat).bind fun x8 =>
   bif (Nat.ble (d1.length + 1) most) && true then
   k397 rb (d1 ++ [(x7.1,x8.2.2)]) d2 (IntKind.i64.wrap (d3 + 1))
   else
   none
   else
   none
   else
   none
   else
   k397 rb d1 d2 (IntKind.i64.wrap (d3 + 1))
   else
   none
   else
   none
   else
   bif inb d3 d2.length then
   (nth d2 d3.toNat).bind fun x9 =>
   bif decide ((x9.2.2.length:Int) > 0) then
   bif inb d3 d2.length then
   (nth d2 d3.toNat).bind fun x10 =>
   bif inb d3 d2.length then
   (nth d2 d3.toNat).bind fun x11 =>
   bif (Nat.ble (d1.length + 1) most) && true then
   k397 rb (d1 ++ [(x10.1,x11.2.2)]) d2 (IntKind.i64.wrap (d3 + 1))
   else
   none
   else
   none
   else
   none
   else
   k397 rb d1 d2 (IntKind.i64.wrap (d3 + 1))
   else
   none
   else
   none
  else
   none
 else
  some (.inr d1)
theorem eb397:EqB 397 (W3 b397):=fun _ _ _ => by kernel_rfl
theorem ob397:IB3 b397 k397:=fun h => eb397.o h
def r103 (rf:T.RF) (rb:T.RB) (d1:List XS):Option Int :=
 bif decide ((d1.length:Int) > 4000) then
  some 1
 else
  (k397 rb [] d1 0).bind fun z1 =>
  match z1 with
  | .inl u2 =>
    some u2
  | .inr w3 =>
    (c110 rf w3).bind fun y4 =>
    some y4.2
theorem er103:EqF 103 fun a b => r103 a b:=fun _ _ _ => by kernel_rfl
theorem or103:IF1 r103 c103:=fun h => er103.o h
def r120 (rf:T.RF) (rb:T.RB) (d1:Int):Option Bool :=
 bif d1 == 22 then
  some true
 else
 bif d1 == 23 then
  some true
 else
 bif d1 == 24 then
  some true
 else
 bif d1 == 25 then
  some true
 else
  some (d1 == 20)
theorem er120:EqF 120 fun a b => r120 a b:=fun _ _ _ => by kernel_rfl
theorem or120:IF1 r120 c120:=fun h => er120.o h
def b419 (rf:T.RF) (rb:T.RB) (d1:XL) (d2:Int):Option (Bool ⊕ Unit) :=
 bif decide (d2 < (d1.length:Int)) then
  bif inb d2 d1.length then
   (nth d1 d2.toNat).bind fun x1 =>
   (c120 rf x1.1).bind fun y2 =>
   bif y2 then
   some (.inl true)
   else
   k419 rb d1 (IntKind.i64.wrap (d2 + 1))
  else
   none
 else
  some (.inr ())
theorem eb419:EqB 419 (W2 b419):=fun _ _ _ => by kernel_rfl
theorem ob419:IB2 b419 k419:=fun h => eb419.o h
def r119 (rf:T.RF) (rb:T.RB) (d1:XL):Option Bool :=
 (k419 rb d1 0).bind fun z1 =>
 match z1 with
 | .inl u2 =>
   some u2
 | .inr w3 =>
   some false
theorem er119:EqF 119 fun a b => r119 a b:=fun _ _ _ => by kernel_rfl
theorem or119:IF1 r119 c119:=fun h => er119.o h
def b432 (rf:T.RF) (rb:T.RB) (d1:List (List Int)) (d2:List XS) (d3 d4 d5:Int):Option (List (List Int)) :=
 bif decide (d5 < (d2.length:Int)) then
  bif inb d5 d2.length then
   (nth d2 d5.toNat).bind fun x1 =>
   bif (x1.2.2.length:Int) == 0 then
   bif (Nat.ble (d1.length + 1) most) && true then
   k432 rb (d1 ++ [[d4]]) d2 d3 (IntKind.i64.wrap (d4 + 1)) (IntKind.i64.wrap (d5 + 1))
   else
   none
   else
   bif inb d5 d2.length then
   (nth d2 d5.toNat).bind fun x2 =>
   (c112 rf x2.2.2).bind fun y3 =>
   (k433 rb y3 [] d3 0).bind fun z4 =>
   bif (Nat.ble (d1.length + 1) most) && true then
   k432 rb (d1 ++ [z4.2.1]) d2 z4.2.2 d4 (IntKind.i64.wrap (d5 + 1))
   else
   none
   else
   none
  else
   none
 else
  some d1
theorem eb432:EqB 432 (W5 b432):=fun _ _ _ => by kernel_rfl
theorem ob432:IB5 b432 k432:=fun h => eb432.o h
def b433 (rf:T.RF) (rb:T.RB) (d1:XL) (d2:List Int) (d3 d4:Int):Option (XL × List Int × Int) :=
 bif decide (d4 < (d1.length:Int)) then
  bif (Nat.ble (d2.length + 1) most) && true then
   bif inb d4 d1.length then
   (nth d1 d4.toNat).bind fun x1 =>
   bif x1.1 != 3 then
   k433 rb d1 (d2 ++ [d3]) (IntKind.i64.wrap (d3 + 1)) (IntKind.i64.wrap (d4 + 1))
   else
   k433 rb d1 (d2 ++ [d3]) d3 (IntKind.i64.wrap (d4 + 1))
   else
   none
  else
   none
 else
  some (d1,d2,d3)
theorem eb433:EqB 433 (W4 b433):=fun _ _ _ => by kernel_rfl
theorem ob433:IB4 b433 k433:=fun h => eb433.o h
def r121 (rf:T.RF) (rb:T.RB) (d1:List XS) (d2:Int):Option (List (List Int)) :=
 (k432 rb [] d1 d2 0 0).bind fun z1 =>
 some z1
theorem er121:EqF 121 (W2 r121):=fun _ _ _ => by kernel_rfl
theorem or121:IF2 r121 c121:=fun h => er121.o h
def r123 (rf:T.RF) (rb:T.RB) (d1:List XS) (d2:List (List Int)) (d3:XL) (d4 d5:Int):Option Int :=
 bif inb d5 d3.length then
  (nth d3 d5.toNat).bind fun x1 =>
  bif x1.1 == 3 then
   bif inb d5 d3.length then
   (nth d3 d5.toNat).bind fun x2 =>
   (c104 rf d1 x2.2.2.2.2.2).bind fun y3 =>
   (c122 rf d1 d2 y3).bind fun y4 =>
   some y4
   else
   none
  else
  bif inb d4 d2.length then
   (nth d2 d4.toNat).bind fun x5 =>
   bif inb d5 x5.length then
   (nth x5 d5.toNat).bind fun x6 =>
   some x6
   else
   none
  else
   none
 else
  none
theorem er123:EqF 123 (W5 r123):=fun _ _ _ => by kernel_rfl
theorem or123:IF5 r123 c123:=fun h => er123.o h
def r122 (rf:T.RF) (rb:T.RB) (d1:List XS) (d2:List (List Int)) (d3:Int):Option Int :=
 bif inb d3 d1.length then
  (nth d1 d3.toNat).bind fun x1 =>
  (c112 rf x1.2.2).bind fun y2 =>
  bif (y2.length:Int) == 0 then
   bif inb d3 d2.length then
   (nth d2 d3.toNat).bind fun x3 =>
   bif inb 0 x3.length then
   (nth x3 0).bind fun x4 =>
   some x4
   else
   none
   else
   none
  else
   (c123 rf d1 d2 y2 d3 (IntKind.i64.wrap ((y2.length:Int) - 1))).bind fun y5 =>
   some y5
 else
  none
theorem er122:EqF 122 (W3 r122):=fun _ _ _ => by kernel_rfl
theorem or122:IF3 r122 c122:=fun h => er122.o h
def b451 (rf:T.RF) (rb:T.RB) (d1:XO) (d2:List Int) (d3:List XS) (d4:List (List Int)) (d5:XL) (d6 d7:Int):Option (XO × List Int) :=
 bif decide (d7 < (d2.length:Int)) then
  bif inb d7 d2.length then
   (nth d2 d7.toNat).bind fun x1 =>
   (c123 rf d3 d4 d5 d6 x1).bind fun y2 =>
   bif d7 == 0 then
   k451 rb (d1.1,y2,d1.2.2) d2 d3 d4 d5 d6 (IntKind.i64.wrap (d7 + 1))
   else
   bif d7 == 1 then
   k451 rb (d1.1,d1.2.1,y2,d1.2.2.2) d2 d3 d4 d5 d6 (IntKind.i64.wrap (d7 + 1))
   else
   k451 rb (d1.1,d1.2.1,d1.2.2.1,y2,d1.2.2.2.2) d2 d3 d4 d5 d6 (IntKind.i64.wrap (d7 + 1))
  else
   none
 else
  some (d1,d2)
theorem eb451:EqB 451 (W7 b451):=fun _ _ _ => by kernel_rfl
theorem ob451:IB7 b451 k451:=fun h => eb451.o h
def r124 (rf:T.RF) (rb:T.RB) (d1:List XS) (d2:List (List Int)) (d3:XL) (d4 d5:Int):Option XO :=
 bif inb d5 d3.length then
  (nth d3 d5.toNat).bind fun x1 =>
  bif inb d5 d3.length then
   (nth d3 d5.toNat).bind fun x2 =>
   bif inb d5 d3.length then
   (nth d3 d5.toNat).bind fun x3 =>
   (c30 rf x3).bind fun y4 =>
   (k451 rb (x1.1,(-1),(-1),(-1),x2.2.2.2.2.1) y4 d1 d2 d3 d4 0).bind fun z5 =>
   some z5.1
   else
   none
  else
   none
 else
  none
theorem er124:EqF 124 (W5 r124):=fun _ _ _ => by kernel_rfl
theorem or124:IF5 r124 c124:=fun h => er124.o h
def b477 (rf:T.RF) (rb:T.RB) (d1:List XO) (d2 d3:List Int) (d4:List XS) (d5:Int):Option ((List XO × List Int × List Int × List XO × List Int × List Int × Int) ⊕ XT) :=
 bif decide (d5 < (d4.length:Int)) then
  bif inb d5 d4.length then
   (nth d4 d5.toNat).bind fun x1 =>
   (c119 rf x1.2.2).bind fun y2 =>
   bif y2 then
   some (.inl (d1,d2,d3,[],[],[],1))
   else
   k477 rb d1 d2 d3 d4 (IntKind.i64.wrap (d5 + 1))
  else
   none
 else
  some (.inr (d1,d2,d3))
theorem eb477:EqB 477 (W5 b477):=fun _ _ _ => by kernel_rfl
theorem ob477:IB5 b477 k477:=fun h => eb477.o h
def b478q (rf:T.RF) (rb:T.RB) (d1:List XO) (d2 d3:List Int) (d4:List XS) (d5:Int):Option (List Int × List XO × List Int) :=
 bif decide (d5 < (d4.length:Int)) then
  bif inb d5 d4.length then
   (nth d4 d5.toNat).bind fun x1 =>
   bif (x1.2.2.length:Int) == 0 then
   bif (Nat.ble (d1.length + 1) most) && true then
   bif inb d5 d4.length then
   (nth d4 d5.toNat).bind fun x2 =>
   agN 1 (
   bif (Nat.ble (d3.length + 1) most) && true then
   k478 rb (d1 ++ [(3,(-1),(-1),(-1),((d3.length:Nat):Int))]) d2 (d3 ++ [x2.2.1]) d4 (IntKind.i64.wrap (d5 + 1))
   else
   none
   )
   else
   none
   else
   none
   else
   k478 rb d1 d2 d3 d4 (IntKind.i64.wrap (d5 + 1))
  else
   none
 else
  some (d2,d1,d3)
def b478 (rf:T.RF) (rb:T.RB) (d1:List XO) (d2 d3:List Int) (d4:List XS) (d5:Int):Option (List Int × List XO × List Int) :=
 bif decide (d5 < (d4.length:Int)) then
  bif inb d5 d4.length then
   (nth d4 d5.toNat).bind fun x1 =>
   bif (x1.2.2.length:Int) == 0 then
   bif (Nat.ble (d1.length + 1) most) && true then
   bif inb d5 d4.length then
   (nth d4 d5.toNat).bind fun x2 =>
   bif (Nat.ble (d3.length + 1) most) && true then
   k478 rb (d1 ++ [(3,(-1),(-1),(-1),((d3.length:Nat):Int))]) d2 (d3 ++ [x2.2.1]) d4 (IntKind.i64.wrap (d5 + 1))
   else
   none
   else
   none
   else
   none
   else
   k478 rb d1 d2 d3 d4 (IntKind.i64.wrap (d5 + 1))
  else
   none
 else
  some (d2,d1,d3)
theorem eb478:EqB 478 (W5 b478q):=fun _ _ _ => by kernel_rfl
theorem sb478 (rf rb d1 d2 d3 d4 d5):b478q rf rb d1 d2 d3 d4 d5 = b478 rf rb d1 d2 d3 d4 d5:=by
 unfold b478q b478; simp only [agN_eq,agree_self,agree_swap]
theorem ob478 {d1 d2 d3 d4 d5 y} (h:b478 T.rf T.rb d1 d2 d3 d4 d5 = some y):k478 T.rb d1 d2 d3 d4 d5 = some y:=eb478.o ((sb478 _ _ _ _ _ _ _).trans h)
def b479q (rf:T.RF) (rb:T.RB) (d1:List XO) (d2 d3:List Int) (d4:List XS) (d5:List (List Int)) (d6:Int):Option (List Int × List XO × List Int) :=
 bif decide (d6 < (d4.length:Int)) then
  agree (
   (c122 rf d4 d5 d6).bind fun y1 =>
   bif (Nat.ble (d2.length + 1) most) && true then
   (k480 rb d1 (d2 ++ [y1]) d3 d4 d5 d6).bind fun z2 =>
   k479 rb z2.2.2 z2.1 z2.2.1 d4 d5 (IntKind.i64.wrap (d6 + 1))
   else
   none
  ) (
   (c122 rf d4 d5 d6).bind fun y1 =>
   agN 1 (
   bif (Nat.ble (d2.length + 1) most) && true then
   (k480 rb d1 (d2 ++ [y1]) d3 d4 d5 d6).bind fun z2 =>
   k479 rb z2.2.2 z2.1 z2.2.1 d4 d5 (IntKind.i64.wrap (d6 + 1))
   else
   none
   )
  )
 else
  some (d3,d1,d2)
def b479 (rf:T.RF) (rb:T.RB) (d1:List XO) (d2 d3:List Int) (d4:List XS) (d5:List (List Int)) (d6:Int):Option (List Int × List XO × List Int) :=
 bif decide (d6 < (d4.length:Int)) then
  (c122 rf d4 d5 d6).bind fun y1 =>
  bif (Nat.ble (d2.length + 1) most) && true then
   (k480 rb d1 (d2 ++ [y1]) d3 d4 d5 d6).bind fun z2 =>
   k479 rb z2.2.2 z2.1 z2.2.1 d4 d5 (IntKind.i64.wrap (d6 + 1))
  else
   none
 else
  some (d3,d1,d2)
theorem eb479:EqB 479 (W6 b479q):=fun _ _ _ => by kernel_rfl
theorem sb479 (rf rb d1 d2 d3 d4 d5 d6):b479q rf rb d1 d2 d3 d4 d5 d6 = b479 rf rb d1 d2 d3 d4 d5 d6:=by
 unfold b479q b479; simp only [agN_eq,agree_self,agree_swap]
theorem ob479 {d1 d2 d3 d4 d5 d6 y} (h:b479 T.rf T.rb d1 d2 d3 d4 d5 d6 = some y):k479 T.rb d1 d2 d3 d4 d5 d6 = some y:=eb479.o ((sb479 _ _ _ _ _ _ _ _).trans h)
def b480 (rf:T.RF) (rb:T.RB) (d1:List XO) (d2 d3:List Int) (d4:List XS) (d5:List (List Int)) (d6:Int):Option (List Int × List Int × List XO) :=
 bif inb d6 d4.length then
  (nth d4 d6.toNat).bind fun x1 =>
  (c112 rf x1.2.2).bind fun y2 =>
  (k481 rb d1 d2 d3 d4 d5 d6 y2 0).bind fun z3 =>
  some z3
 else
  none
theorem eb480:EqB 480 (W6 b480):=fun _ _ _ => by kernel_rfl
theorem ob480:IB6 b480 k480:=fun h => eb480.o h
def b481q (rf:T.RF) (rb:T.RB) (d1:List XO) (d2 d3:List Int) (d4:List XS) (d5:List (List Int)) (d6:Int) (d7:XL) (d8:Int):Option (List Int × List Int × List XO) :=
 bif decide (d8 < (d7.length:Int)) then
  bif inb d8 d7.length then
   (nth d7 d8.toNat).bind fun x1 =>
   bif x1.1 != 3 then
   agree (
   (c124 rf d4 d5 d7 d6 d8).bind fun y2 =>
   bif (Nat.ble (d1.length + 1) most) && true then
   k481 rb (d1 ++ [y2]) d2 d3 d4 d5 d6 d7 (IntKind.i64.wrap (d8 + 1))
   else
   none
   ) (
   (c124 rf d4 d5 d7 d6 d8).bind fun y2 =>
   agN 1 (
   bif (Nat.ble (d1.length + 1) most) && true then
   k481 rb (d1 ++ [y2]) d2 d3 d4 d5 d6 d7 (IntKind.i64.wrap (d8 + 1))
   else
   none
   )
   )
   else
   k481 rb d1 d2 d3 d4 d5 d6 d7 (IntKind.i64.wrap (d8 + 1))
  else
   none
 else
  some (d2,d3,d1)
def b481 (rf:T.RF) (rb:T.RB) (d1:List XO) (d2 d3:List Int) (d4:List XS) (d5:List (List Int)) (d6:Int) (d7:XL) (d8:Int):Option (List Int × List Int × List XO) :=
 bif decide (d8 < (d7.length:Int)) then
  bif inb d8 d7.length then
   (nth d7 d8.toNat).bind fun x1 =>
   bif x1.1 != 3 then
   (c124 rf d4 d5 d7 d6 d8).bind fun y2 =>
   bif (Nat.ble (d1.length + 1) most) && true then
   k481 rb (d1 ++ [y2]) d2 d3 d4 d5 d6 d7 (IntKind.i64.wrap (d8 + 1))
   else
   none
   else
   k481 rb d1 d2 d3 d4 d5 d6 d7 (IntKind.i64.wrap (d8 + 1))
  else
   none
 else
  some (d2,d3,d1)
theorem eb481:EqB 481 (W8 b481q):=fun _ _ _ => by kernel_rfl
theorem sb481 (rf rb d1 d2 d3 d4 d5 d6 d7 d8):b481q rf rb d1 d2 d3 d4 d5 d6 d7 d8 = b481 rf rb d1 d2 d3 d4 d5 d6 d7 d8:=by
 unfold b481q b481; simp only [agN_eq,agree_self,agree_swap]
theorem ob481 {d1 d2 d3 d4 d5 d6 d7 d8 y} (h:b481 T.rf T.rb d1 d2 d3 d4 d5 d6 d7 d8 = some y):k481 T.rb d1 d2 d3 d4 d5 d6 d7 d8 = some y:=eb481.o ((sb481 _ _ _ _ _ _ _ _ _ _).trans h)
def r102 (rf:T.RF) (rb:T.RB) (d1:List XS):Option (XT × Int) :=
 (c103 rf d1).bind fun y1 =>
 bif y1 == 1 then
  some (([],[],[]),y1)
 else
  (k477 rb [] [] [] d1 0).bind fun z2 =>
  match z2 with
  | .inl u3 =>
    some ((u3.2.2.2.1,u3.2.2.2.2.1,u3.2.2.2.2.2.1),u3.2.2.2.2.2.2)
  | .inr w4 =>
    bif y1 != 0 then
     some (([],[],[]),y1)
    else
     (k478 rb [] [] [] d1 0).bind fun z5 =>
     (c121 rf d1 (z5.2.2.length:Int)).bind fun y6 =>
     (k479 rb z5.2.1 z5.1 z5.2.2 d1 y6 0).bind fun z7 =>
     some ((z7.2.1,z7.2.2,z7.1),0)
theorem er102:EqF 102 fun a b => r102 a b:=fun _ _ _ => by kernel_rfl
theorem or102:IF1 r102 c102:=fun h => er102.o h
def r0 (rf:T.RF) (rb:T.RB) (d1:List XS):Option Bool :=
 (c1 rf d1 []).bind fun y1 =>
 bif !y1 then
  (c2 rf).bind fun y2 =>
  some y2
 else
  (c44 rf d1).bind fun y3 =>
  (c102 rf d1).bind fun y4 =>
  (c99 rf y3.1).bind fun y5 =>
  (c100 rf y5 y4.1).bind fun y6 =>
  bif y6 then
   bif y3.2 == y4.2 then
   (c2 rf).bind fun y7 =>
   some y7
   else
   some false
  else
   some false
theorem er0:EqF 0 fun a b => r0 a b:=fun _ _ _ => by kernel_rfl
theorem or0:IF1 r0 c0:=fun h => er0.o h
def r126 (rf:T.RF) (rb:T.RB) (d1:XT):Option Bool :=
 bif decide ((d1.1.length:Int) ≤ 300) then
  bif decide ((d1.2.1.length:Int) ≤ 60) then
   some (decide ((d1.2.2.length:Int) ≤ 60))
  else
   some false
 else
  some false
theorem er126:EqF 126 fun a b => r126 a b:=fun _ _ _ => by kernel_rfl
def b483 (rf:T.RF) (rb:T.RB) (d1:XT) (d2 d3:List Int) (d4:List XO) (d5:Int):Option (XT × List Int × List Int × List XO) :=
 bif decide (d5 < (d1.1.length:Int)) then
  bif inb d5 d1.1.length then
   (nth d1.1 d5.toNat).bind fun x1 =>
   bif (Nat.ble (d4.length + 1) most) && true then
   k483 rb d1 d2 d3 (d4 ++ [x1]) (IntKind.i64.wrap (d5 + 1))
   else
   none
  else
   none
 else
  some (d1,d2,d3,d4)
theorem eb483:EqB 483 (W5 b483):=fun _ _ _ => by kernel_rfl
def r127 (rf:T.RF) (rb:T.RB) (d1:XT):Option XT :=
 (k483 rb d1 d1.2.1 d1.2.2 [] 0).bind fun z1 =>
 some (z1.2.2.2,z1.2.1,z1.2.2.1)
theorem er127:EqF 127 fun a b => r127 a b:=fun _ _ _ => by kernel_rfl
def r131 (rf:T.RF) (rb:T.RB) (d1:Int):Option Int :=
 bif d1 == 4 then
  bif d1 == 4 then
   some 1
  else
  bif d1 == 26 then
   some 3
  else
  bif decide (d1 ≥ 6) then
   bif decide (d1 ≤ 18) then
   some 2
   else
   some (-1)
  else
   some (-1)
 else
 bif d1 == 5 then
  some 1
 else
 bif d1 == 26 then
  some 3
 else
 bif decide (d1 ≥ 6) then
  bif decide (d1 ≤ 18) then
   some 2
  else
   some (-1)
 else
  some (-1)
theorem er131:EqF 131 fun a b => r131 a b:=fun _ _ _ => by kernel_rfl
theorem or131:IF1 r131 c131:=fun h => er131.o h
def r130 (rf:T.RF) (rb:T.RB) (d1:Int):Option Int :=
 bif d1 == 3 then
  bif d1 == 3 then
   some 0
  else
  bif d1 == 21 then
   some 1
  else
  bif d1 == 19 then
   some 2
  else
   (c131 rf d1).bind fun y1 =>
   some y1
 else
 bif d1 == 1 then
  bif d1 == 1 then
   some 0
  else
  bif d1 == 21 then
   some 1
  else
  bif d1 == 19 then
   some 2
  else
   (c131 rf d1).bind fun y2 =>
   some y2
 else
 bif d1 == 2 then
  some 0
 else
 bif d1 == 21 then
  some 1
 else
 bif d1 == 19 then
  some 2
 else
  (c131 rf d1).bind fun y3 =>
  some y3
theorem er130:EqF 130 fun a b => r130 a b:=fun _ _ _ => by kernel_rfl
theorem or130:IF1 r130 c130:=fun h => er130.o h
def r133 (rf:T.RF) (rb:T.RB) (d1:Int):Option Bool :=
 bif decide (d1 ≥ (-2147483648)) then
  some (decide (d1 ≤ 2147483647))
 else
  some false
theorem er133:EqF 133 fun a b => r133 a b:=fun _ _ _ => by kernel_rfl
def r132 (rf:T.RF) (rb:T.RB) (d1:XT) (d2:XO):Option Bool :=
 bif d2.1 == 3 then
  bif decide (d2.2.2.2.2 ≥ 0) then
   some (decide (d2.2.2.2.2 < (d1.2.2.length:Int)))
  else
   some false
 else
 bif d2.1 == 1 then
  (c133 rf d2.2.2.2.2).bind fun y1 =>
  some y1
 else
 bif d2.1 == 2 then
  bif d2.2.2.2.2 == 0 then
   some true
  else
   some (d2.2.2.2.2 == 1)
 else
  some (d2.2.2.2.2 == 0)
theorem er132:EqF 132 (W2 r132):=fun _ _ _ => by kernel_rfl
def r134 (rf:T.RF) (rb:T.RB) (d1:XT) (d2 d3 d4:Int):Option Bool :=
 bif decide (d4 ≥ d3) then
  some (d2 == (-1))
 else
 bif decide (d2 ≥ 0) then
  some (decide (d2 < (d1.1.length:Int)))
 else
  some false
theorem er134:EqF 134 (W4 r134):=fun _ _ _ => by kernel_rfl
def b484 (rf:T.RF) (rb:T.RB) (d1:XT) (d2:Int):Option ((XT × Bool) ⊕ XT) :=
 bif decide (d2 < (d1.1.length:Int)) then
  bif inb d2 d1.1.length then
   (nth d1.1 d2.toNat).bind fun x1 =>
   (c130 rf x1.1).bind fun y2 =>
   bif decide (y2 < 0) then
   some (.inl (d1,false))
   else
   (c132 rf d1 x1).bind fun y3 =>
   bif !y3 then
   some (.inl (d1,false))
   else
   (c134 rf d1 x1.2.1 y2 0).bind fun y4 =>
   bif !y4 then
   some (.inl (d1,false))
   else
   (c134 rf d1 x1.2.2.1 y2 1).bind fun y5 =>
   bif !y5 then
   some (.inl (d1,false))
   else
   (c134 rf d1 x1.2.2.2.1 y2 2).bind fun y6 =>
   bif !y6 then
   some (.inl (d1,false))
   else
   k484 rb d1 (IntKind.i64.wrap (d2 + 1))
  else
   none
 else
  some (.inr d1)
theorem eb484:EqB 484 (W2 b484):=fun _ _ _ => by kernel_rfl
def b485 (rf:T.RF) (rb:T.RB) (d1:XT) (d2:Int):Option ((XT × Bool) ⊕ XT) :=
 bif decide (d2 < (d1.2.1.length:Int)) then
  bif inb d2 d1.2.1.length then
   (nth d1.2.1 d2.toNat).bind fun x1 =>
   bif decide (x1 < 0) then
   some (.inl (d1,false))
   else
   bif inb d2 d1.2.1.length then
   (nth d1.2.1 d2.toNat).bind fun x2 =>
   bif decide (x2 ≥ (d1.1.length:Int)) then
   some (.inl (d1,false))
   else
   k485 rb d1 (IntKind.i64.wrap (d2 + 1))
   else
   none
  else
   none
 else
  some (.inr d1)
theorem eb485:EqB 485 (W2 b485):=fun _ _ _ => by kernel_rfl
def r129 (rf:T.RF) (rb:T.RB) (d1:XT):Option Bool :=
 bif decide ((d1.1.length:Int) > 100000) then
  some false
 else
  (k484 rb d1 0).bind fun z1 =>
  match z1 with
  | .inl u2 =>
    some u2.2
  | .inr w3 =>
    (k485 rb w3 0).bind fun z4 =>
    match z4 with
    | .inl u5 =>
      some u5.2
    | .inr w6 =>
      some true
theorem er129:EqF 129 fun a b => r129 a b:=fun _ _ _ => by kernel_rfl
def r136 (rf:T.RF) (rb:T.RB) (d1:XO):Option (List Int) :=
 bif d1.1 == 21 then
  some []
 else
  (c130 rf d1.1).bind fun y1 =>
  bif inb' y1 3 then
   some (sub [d1.2.1,d1.2.2.1,d1.2.2.2.1] (some (0,(y1.toNat - 0))))
  else
   none
theorem er136:EqF 136 fun a b => r136 a b:=fun _ _ _ => by kernel_rfl
def b489 (rf:T.RF) (rb:T.RB) (d1:XT) (d2:List Bool) (d3:List Int):Option (XT × List Bool × List Int) :=
 (k490 rb d1 d2 (-1) (IntKind.i64.wrap ((d1.1.length:Int) - 1))).bind fun z1 =>
 bif decide (z1.2.2 < 0) then
  some (z1.1,z1.2.1,d3)
 else
 bif inb z1.2.2 z1.2.1.length then
  bif Nat.blt z1.2.2.toNat z1.2.1.length then
   bif (Nat.ble (d3.length + 1) most) && true then
   k489 rb z1.1 (setNth z1.2.1 z1.2.2.toNat true) (d3 ++ [z1.2.2])
   else
   none
  else
   none
 else
  none
theorem eb489:EqB 489 (W3 b489):=fun _ _ _ => by kernel_rfl
def b490 (rf:T.RF) (rb:T.RB) (d1:XT) (d2:List Bool) (d3 d4:Int):Option (XT × List Bool × Int) :=
 bif decide (d4 ≥ 0) then
  bif inb d4 d2.length then
   (nth d2 d4.toNat).bind fun x1 =>
   bif inb d4 d1.1.length then
   (nth d1.1 d4.toNat).bind fun x2 =>
   (c136 rf x2).bind fun y3 =>
   (k491 rb d2 y3 (!x1) 0).bind fun z4 =>
   bif z4.2.2 then
   k490 rb d1 z4.1 d4 (IntKind.i64.wrap (d4 - 1))
   else
   k490 rb d1 z4.1 d3 (IntKind.i64.wrap (d4 - 1))
   else
   none
  else
   none
 else
  some (d1,d2,d3)
theorem eb490:EqB 490 (W4 b490):=fun _ _ _ => by kernel_rfl
def b491 (rf:T.RF) (rb:T.RB) (d1:List Bool) (d2:List Int) (d3:Bool) (d4:Int):Option (List Bool × List Int × Bool) :=
 bif decide (d4 < (d2.length:Int)) then
  bif d3 then
   bif inb d4 d2.length then
   (nth d2 d4.toNat).bind fun x1 =>
   bif inb x1 d1.length then
   (nth d1 x1.toNat).bind fun x2 =>
   k491 rb d1 d2 x2 (IntKind.i64.wrap (d4 + 1))
   else
   none
   else
   none
  else
   k491 rb d1 d2 false (IntKind.i64.wrap (d4 + 1))
 else
  some (d1,d2,d3)
theorem eb491:EqB 491 (W4 b491):=fun _ _ _ => by kernel_rfl
def r135 (rf:T.RF) (rb:T.RB) (d1:XT):Option (List Int) :=
 bif inb' (d1.1.length:Int) most then
  bif inb' (d1.1.length:Int) d1.1.length then
   (k489 rb d1 (List.replicate d1.1.length false) []).bind fun z1 =>
   some z1.2.2
  else
   none
 else
  none
theorem er135:EqF 135 fun a b => r135 a b:=fun _ _ _ => by kernel_rfl
def r128 (rf:T.RF) (rb:T.RB) (d1:XT):Option Int :=
 (c129 rf d1).bind fun y1 =>
 bif !y1 then
  some 1
 else
  (c135 rf d1).bind fun y2 =>
  bif decide ((y2.length:Int) < (d1.1.length:Int)) then
   some 12
  else
   some 0
theorem er128:EqF 128 fun a b => r128 a b:=fun _ _ _ => by kernel_rfl
def r125 (rf:T.RF) (rb:T.RB) (d1:XT):Option Bool :=
 (c126 rf d1).bind fun y1 =>
 bif !y1 then
  (c2 rf).bind fun y2 =>
  some y2
 else
  (c127 rf d1).bind fun y3 =>
  (c82 rf y3).bind fun y4 =>
  (c128 rf d1).bind fun y5 =>
  bif y4 == y5 then
   (c2 rf).bind fun y6 =>
   some y6
  else
   some false
theorem er125:EqF 125 fun a b => r125 a b:=fun _ _ _ => by kernel_rfl
def b492 (rf:T.RF) (rb:T.RB) (d1:List XS) (d2 d3:Int):Option Int :=
 bif decide (d3 < (d1.length:Int)) then
  bif inb d3 d1.length then
   (nth d1 d3.toNat).bind fun x1 =>
   bif (x1.2.2.length:Int) == 0 then
   (k493 rb d1 (IntKind.i64.wrap (d2 + 1)) d3 0).bind fun z2 =>
   k492 rb d1 z2 (IntKind.i64.wrap (d3 + 1))
   else
   (k493 rb d1 d2 d3 0).bind fun z3 =>
   k492 rb d1 z3 (IntKind.i64.wrap (d3 + 1))
  else
   none
 else
  some d2
theorem eb492:EqB 492 (W3 b492):=fun _ _ _ => by kernel_rfl
theorem ob492:IB3 b492 k492:=fun h => eb492.o h
def b493 (rf:T.RF) (rb:T.RB) (d1:List XS) (d2 d3 d4:Int):Option Int :=
 bif inb d3 d1.length then
  (nth d1 d3.toNat).bind fun x1 =>
  bif decide (d4 < (x1.2.2.length:Int)) then
   bif inb d3 d1.length then
   (nth d1 d3.toNat).bind fun x2 =>
   bif inb d4 x2.2.2.length then
   (nth x2.2.2 d4.toNat).bind fun x3 =>
   bif x3.1 != 3 then
   k493 rb d1 (IntKind.i64.wrap (d2 + 1)) d3 (IntKind.i64.wrap (d4 + 1))
   else
   k493 rb d1 d2 d3 (IntKind.i64.wrap (d4 + 1))
   else
   none
   else
   none
  else
   some d2
 else
  none
theorem eb493:EqB 493 (W4 b493):=fun _ _ _ => by kernel_rfl
theorem ob493:IB4 b493 k493:=fun h => eb493.o h
def r137 (rf:T.RF) (rb:T.RB) (d1:List XS):Option Bool :=
 (c1 rf d1 []).bind fun y1 =>
 bif !y1 then
  (c2 rf).bind fun y2 =>
  some y2
 else
  (c44 rf d1).bind fun y3 =>
  bif y3.2 != 0 then
   (c2 rf).bind fun y4 =>
   some y4
  else
   (k492 rb d1 0 0).bind fun z5 =>
   bif (y3.1.1.length:Int) == z5 then
   bif (y3.1.2.1.length:Int) == (d1.length:Int) then
   (c2 rf).bind fun y6 =>
   some y6
   else
   some false
   else
   some false
theorem er137:EqF 137 fun a b => r137 a b:=fun _ _ _ => by kernel_rfl
theorem or137:IF1 r137 c137:=fun h => er137.o h
def b494 (rf:T.RF) (rb:T.RB) (d1:XT) (d2:Int):Option ((XT × Bool) ⊕ XT) :=
 bif decide (d2 < (d1.1.length:Int)) then
  bif inb d2 d1.1.length then
   (nth d1.1 d2.toNat).bind fun x1 =>
   (c130 rf x1.1).bind fun y2 =>
   bif decide (y2 < 0) then
   some (.inl (d1,false))
   else
   bif !((decide (x1.2.1 ≥ 0)) == (decide (y2 > 0))) then
   some (.inl (d1,false))
   else
   bif !((decide (x1.2.2.1 ≥ 0)) == (decide (y2 > 1))) then
   some (.inl (d1,false))
   else
   bif !((decide (x1.2.2.2.1 ≥ 0)) == (decide (y2 > 2))) then
   some (.inl (d1,false))
   else
   bif !((x1.1 == 3) == (decide (d2 < (d1.2.2.length:Int)))) then
   some (.inl (d1,false))
   else
   bif decide (d2 < (d1.2.2.length:Int)) then
   bif x1.2.2.2.2 != d2 then
   some (.inl (d1,false))
   else
   k494 rb d1 (IntKind.i64.wrap (d2 + 1))
   else
   k494 rb d1 (IntKind.i64.wrap (d2 + 1))
  else
   none
 else
  some (.inr d1)
theorem eb494:EqB 494 (W2 b494):=fun _ _ _ => by kernel_rfl
theorem ob494:IB2 b494 k494:=fun h => eb494.o h
def r138 (rf:T.RF) (rb:T.RB) (d1:List XS):Option Bool :=
 (c1 rf d1 []).bind fun y1 =>
 bif !y1 then
  (c2 rf).bind fun y2 =>
  some y2
 else
  (c44 rf d1).bind fun y3 =>
  bif y3.2 != 0 then
   (c2 rf).bind fun y4 =>
   some y4
  else
  bif decide ((y3.1.1.length:Int) < (y3.1.2.2.length:Int)) then
   some false
  else
   (k494 rb y3.1 0).bind fun z5 =>
   match z5 with
   | .inl u6 =>
     some u6.2
   | .inr w7 =>
     (c2 rf).bind fun y8 =>
     some y8
theorem er138:EqF 138 fun a b => r138 a b:=fun _ _ _ => by kernel_rfl
theorem or138:IF1 r138 c138:=fun h => er138.o h
def r139 (rf:T.RF) (rb:T.RB) (d1:XT) (d2:Int):Option Bool :=
 (c126 rf d1).bind fun y1 =>
 bif !y1 then
  (c2 rf).bind fun y2 =>
  some y2
 else
  (c127 rf d1).bind fun y3 =>
  (c82 rf y3).bind fun y4 =>
  bif Nat.ble d1.2.1.length most then
   bif (Nat.ble (d1.2.1.length + 1) most) && true then
   (c82 rf (y3.1,d1.2.1 ++ [d2],y3.2.2)).bind fun y5 =>
   (c82 rf (y3.1,[],y3.2.2)).bind fun y6 =>
   bif decide (d2 < 0) then
   bif y5 == 1 then
   bif y4 != 0 then
   (c2 rf).bind fun y7 =>
   some y7
   else
   bif y6 == 0 then
   (c2 rf).bind fun y8 =>
   some y8
   else
   some false
   else
   some false
   else
   bif decide (d2 ≥ (d1.1.length:Int)) then
   bif y5 == 1 then
   bif y4 != 0 then
   (c2 rf).bind fun y9 =>
   some y9
   else
   bif y6 == 0 then
   (c2 rf).bind fun y10 =>
   some y10
   else
   some false
   else
   some false
   else
   bif y5 == y4 then
   bif y4 != 0 then
   (c2 rf).bind fun y11 =>
   some y11
   else
   bif y6 == 0 then
   (c2 rf).bind fun y12 =>
   some y12
   else
   some false
   else
   some false
   else
   none
  else
   none
theorem er139:EqF 139 (W2 r139):=fun _ _ _ => by kernel_rfl
theorem place_len:tabs.placeL.length = 495:=rfl
end
end Go.Proofs.YtadonikkibahnaaGreat.R
