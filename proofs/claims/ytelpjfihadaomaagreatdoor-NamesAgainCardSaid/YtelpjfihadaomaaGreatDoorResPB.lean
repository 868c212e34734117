import Derived.Test.YtelpjfihadaomaaGreatDoorResPA
open Option (bind_some)
namespace Go.Proofs.YtelpjfihadaomaaGreatDoor.R
noncomputable section
open Go Go.Bm Go.Proofs
set_option linter.unusedVariables false
set_option linter.unusedSimpArgs false
set_option maxRecDepth 100000
def r17 (rf:T.RF) (rb:T.RB) (d1 d2 d3:Int) (d4:List XK) (d5:Int):Option (List XK × Int × Int × Int) :=
 bif decide (d5 ≥ 200) then
  (c18 rf d1 d2 d3 d4 7).bind fun y1 =>
  some y1
 else
  some (d4,d1,d2,d3)
theorem d9R:EqF 17 (W5 r17):=fun _ _ _ => by kernel_rfl
def r23 (rf:T.RF) (rb:T.RB) (d1:List XK × Int × Int × Int):Option ((List XK × Int × Int × Int) × Bool) :=
 some (d1,d1.2.2.1 == 0)
theorem d9X:EqF 23 fun a b => r23 a b:=fun _ _ _ => by kernel_rfl
def d2K (rf:T.RF) (rb:T.RB) (d1:List XK × Int × Int × Int) (d2:List UInt8):Option ((List XK × Int × Int × Int) × Bool) :=
 (c23 rf d1).bind fun y1 =>
 bif !y1.2 then
  agN 1 (
   some (y1.1,false)
  )
 else
  agN 1 (
   bif decide (y1.1.2.1 ≥ (y1.1.1.length:Int)) then
   some (y1.1,false)
   else
   bif inb y1.1.2.1 y1.1.1.length then
   (nth y1.1.1 y1.1.2.1.toNat).bind fun x2 =>
   bif x2.1 == 4 then
   some (y1.1,x2.2.1 == d2)
   else
   bif x2.1 == 3 then
   some (y1.1,x2.2.1 == d2)
   else
   some (y1.1,false)
   else
   none
  )
def r22 (rf:T.RF) (rb:T.RB) (d1:List XK × Int × Int × Int) (d2:List UInt8):Option ((List XK × Int × Int × Int) × Bool) :=
 (c23 rf d1).bind fun y1 =>
 bif !y1.2 then
  some (y1.1,false)
 else
 bif decide (y1.1.2.1 ≥ (y1.1.1.length:Int)) then
  some (y1.1,false)
 else
 bif inb y1.1.2.1 y1.1.1.length then
  (nth y1.1.1 y1.1.2.1.toNat).bind fun x2 =>
  bif x2.1 == 4 then
   some (y1.1,x2.2.1 == d2)
  else
  bif x2.1 == 3 then
   some (y1.1,x2.2.1 == d2)
  else
   some (y1.1,false)
 else
  none
theorem d9W:EqF 22 (W2 d2K):=fun _ _ _ => by kernel_rfl
theorem e3p (rf rb d1 d2):d2K rf rb d1 d2 = r22 rf rb d1 d2:=by
 unfold d2K r22; simp only [C9,l5,p9]
def r21 (rf:T.RF) (rb:T.RB) (d1:List XK × Int × Int × Int) (d2:List UInt8):Option ((List XK × Int × Int × Int) × Bool) :=
 (c22 rf d1 d2).bind fun y1 =>
 bif !y1.2 then
  some (y1.1,false)
 else
  some ((y1.1.1,IntKind.i64.wrap (y1.1.2.1 + 1),y1.1.2.2),true)
theorem d9V:EqF 21 (W2 r21):=fun _ _ _ => by kernel_rfl
def d2L (rf:T.RF) (rb:T.RB) (d1:List XK × Int × Int × Int):Option ((List XK × Int × Int × Int) × Bool) :=
 (c23 rf d1).bind fun y1 =>
 bif y1.2 then
  agN 1 (
   bif decide (y1.1.2.1 < (y1.1.1.length:Int)) then
   agN 1 (
   bif inb y1.1.2.1 y1.1.1.length then
   (nth y1.1.1 y1.1.2.1.toNat).bind fun x2 =>
   some (y1.1,x2.1 == 1)
   else
   none
   )
   else
   agN 1 (
   some (y1.1,false)
   )
  )
 else
  agN 1 (
   agN 1 (
   some (y1.1,false)
   )
  )
def r25 (rf:T.RF) (rb:T.RB) (d1:List XK × Int × Int × Int):Option ((List XK × Int × Int × Int) × Bool) :=
 (c23 rf d1).bind fun y1 =>
 bif y1.2 then
  bif decide (y1.1.2.1 < (y1.1.1.length:Int)) then
   bif inb y1.1.2.1 y1.1.1.length then
   (nth y1.1.1 y1.1.2.1.toNat).bind fun x2 =>
   some (y1.1,x2.1 == 1)
   else
   none
  else
   some (y1.1,false)
 else
  some (y1.1,false)
theorem d9Z:EqF 25 fun a b => d2L a b:=fun _ _ _ => by kernel_rfl
theorem e3q (rf rb d1):d2L rf rb d1 = r25 rf rb d1:=by
 unfold d2L r25; simp only [C9,l5,p9]
def d2M (rf:T.RF) (rb:T.RB) (d1:List XK × Int × Int × Int) (d2:Int):Option (List XK × Int × Int × Int) :=
 (c23 rf d1).bind fun y1 =>
 bif y1.2 then
  agN 1 (
   (c19 rf y1.1.1 y1.1.2.1).bind fun y2 =>
   some (y1.1.1,y1.1.2.1,d2,y2)
  )
 else
  some y1.1
def r26 (rf:T.RF) (rb:T.RB) (d1:List XK × Int × Int × Int) (d2:Int):Option (List XK × Int × Int × Int) :=
 (c23 rf d1).bind fun y1 =>
 bif y1.2 then
  (c19 rf y1.1.1 y1.1.2.1).bind fun y2 =>
  some (y1.1.1,y1.1.2.1,d2,y2)
 else
  some y1.1
theorem e0a:EqF 26 (W2 d2M):=fun _ _ _ => by kernel_rfl
theorem e3r (rf rb d1 d2):d2M rf rb d1 d2 = r26 rf rb d1 d2:=by
 unfold d2M r26; simp only [C9,l5,p9]
def r24 (rf:T.RF) (rb:T.RB) (d1:List XK × Int × Int × Int):Option ((List XK × Int × Int × Int) × List UInt8) :=
 (c25 rf d1).bind fun y1 =>
 bif !y1.2 then
  (c26 rf y1.1 5).bind fun y2 =>
  some (y2,([]:List UInt8))
 else
 bif inb (IntKind.i64.wrap ((IntKind.i64.wrap (y1.1.2.1 + 1)) - 1)) y1.1.1.length then
  (nth y1.1.1 (IntKind.i64.wrap ((IntKind.i64.wrap (y1.1.2.1 + 1)) - 1)).toNat).bind fun x3 =>
  some ((y1.1.1,IntKind.i64.wrap (y1.1.2.1 + 1),y1.1.2.2),x3.2.1)
 else
  none
theorem d9Y:EqF 24 fun a b => r24 a b:=fun _ _ _ => by kernel_rfl
def r28 (rf:T.RF) (rb:T.RB) (d1:List XK × Int × Int × Int) (d2:List UInt8):Option (List XK × Int × Int × Int) :=
 (c21 rf d1 d2).bind fun y1 =>
 bif !y1.2 then
  (c26 rf y1.1 5).bind fun y2 =>
  some y2
 else
  some y1.1
theorem e0c:EqF 28 (W2 r28):=fun _ _ _ => by kernel_rfl
def r29 (rf:T.RF) (rb:T.RB) (d1:List XK × Int × Int × Int) (d2:Int):Option (List XK × Int × Int × Int) :=
 bif decide (d2 ≥ 200) then
  (c26 rf d1 7).bind fun y1 =>
  some y1
 else
  some d1
theorem e0d:EqF 29 (W2 r29):=fun _ _ _ => by kernel_rfl
def r30 (rf:T.RF) (rb:T.RB) (d1:List XK × Int × Int × Int):Option ((List XK × Int × Int × Int) × XPm) :=
 (c24 rf d1).bind fun y1 =>
 (c28 rf y1.1 ([58]:List UInt8)).bind fun y2 =>
 (c21 rf y2 ([98,111,111,108]:List UInt8)).bind fun y3 =>
 bif y3.2 then
  some (y3.1,y1.2,1)
 else
  (c21 rf y3.1 ([105,110,116]:List UInt8)).bind fun y4 =>
  bif y4.2 then
   some (y4.1,y1.2,2)
  else
   (c26 rf y4.1 5).bind fun y5 =>
   some (y5,y1.2,0)
theorem e0e:EqF 30 fun a b => r30 a b:=fun _ _ _ => by kernel_rfl
def b17 (rf:T.RF) (rb:T.RB) (d1:List XK × Int × Int × Int) (d2:List XPm):Option (((List XK × Int × Int × Int) × List XPm) ⊕ (List XK × Int × Int × Int)) :=
 (c23 rf d1).bind fun y1 =>
 bif y1.2 then
  (c29 rf y1.1 (d2.length:Int)).bind fun y2 =>
  (c30 rf y2).bind fun y3 =>
  bif (Nat.ble (d2.length + 1) j8) && true then
   (c21 rf y3.1 ([41]:List UInt8)).bind fun y4 =>
   bif y4.2 then
   some (.inl (y4.1,d2 ++ [y3.2]))
   else
   (c28 rf y4.1 ([59]:List UInt8)).bind fun y5 =>
   k17 rb y5 (d2 ++ [y3.2])
  else
   none
 else
  some (.inr y1.1)
theorem d9x:EqB 17 (W2 b17):=fun _ _ _ => by kernel_rfl
def r27 (rf:T.RF) (rb:T.RB) (d1:List XK × Int × Int × Int):Option ((List XK × Int × Int × Int) × List XPm) :=
 (c28 rf d1 ([40]:List UInt8)).bind fun y1 =>
 (c21 rf y1 ([41]:List UInt8)).bind fun y2 =>
 bif y2.2 then
  some (y2.1,[])
 else
  (k17 rb y2.1 []).bind fun z3 =>
  match z3 with
  | .inl u4 =>
    some u4
  | .inr w5 =>
    some (w5,[])
theorem e0b:EqF 27 fun a b => r27 a b:=fun _ _ _ => by kernel_rfl
def r32 (rf:T.RF) (rb:T.RB) (d1:List XK × Int × Int × Int):Option ((List XK × Int × Int × Int) × Bool) :=
 (c22 rf d1 ([97,115,115,117,109,101]:List UInt8)).bind fun y1 =>
 bif y1.2 then
  some (y1.1,true)
 else
  (c22 rf y1.1 ([103,117,97,114,97,110,116,101,101]:List UInt8)).bind fun y2 =>
  bif y2.2 then
   some (y2.1,true)
  else
   (c22 rf y2.1 ([103,104,111,115,116]:List UInt8)).bind fun y3 =>
   bif y3.2 then
   some (y3.1,true)
   else
   (c22 rf y3.1 ([109,111,100,101]:List UInt8)).bind fun y4 =>
   bif y4.2 then
   some (y4.1,true)
   else
   (c22 rf y4.1 ([105,109,112,111,114,116]:List UInt8)).bind fun y5 =>
   some y5
theorem e0g:EqF 32 fun a b => r32 a b:=fun _ _ _ => by kernel_rfl
def d2O (rf:T.RF) (rb:T.RB) (d1:List XK × Int × Int × Int × Int) (d2:Int):Option ((List XK × Int × Int × Int × Int) × List XN) :=
 bif d1.2.2.2.1 == 0 then
  agN 1 (
   (c19 rf d1.1 d1.2.1).bind fun y1 =>
   some ((d1.1,d1.2.1,d1.2.2.1,d2,y1),[])
  )
 else
  some (d1,[])
def r45 (rf:T.RF) (rb:T.RB) (d1:List XK × Int × Int × Int × Int) (d2:Int):Option ((List XK × Int × Int × Int × Int) × List XN) :=
 bif d1.2.2.2.1 == 0 then
  (c19 rf d1.1 d1.2.1).bind fun y1 =>
  some ((d1.1,d1.2.1,d1.2.2.1,d2,y1),[])
 else
  some (d1,[])
theorem e0t:EqF 45 (W2 d2O):=fun _ _ _ => by kernel_rfl
theorem e3t (rf rb d1 d2):d2O rf rb d1 d2 = r45 rf rb d1 d2:=by
 unfold d2O r45; simp only [C9,l5,p9]
def r48 (rf:T.RF) (rb:T.RB) (d1 d2:Int) (d3:List UInt8):Option XN :=
 some (d1,(-1),(-1),(-1),d2,d3)
theorem d3T:EqF 48 (W3 r48):=fun _ _ _ => by kernel_rfl
theorem e2C:IF3 r48 c48:=fun h => d3T.o h
def r49 (rf:T.RF) (rb:T.RB) (d1:XN):Option (List Int) :=
 bif d1.1 == 4 then
  bif d1.1 == 4 then
   some [d1.2.1]
  else
  bif d1.1 == 26 then
   some [d1.2.1,d1.2.2.1,d1.2.2.2.1]
  else
  bif d1.1 == 27 then
   bif d1.2.1 != (-1) then
   some [d1.2.1]
   else
   some []
  else
  bif d1.1 == 28 then
   bif d1.2.2.1 != (-1) then
   some [d1.2.2.1,d1.2.1]
   else
   some [d1.2.1]
  else
  bif decide (d1.1 ≥ 6) then
   bif decide (d1.1 ≤ 20) then
   some [d1.2.1,d1.2.2.1]
   else
   some []
  else
   some []
 else
 bif d1.1 == 5 then
  bif d1.1 == 5 then
   some [d1.2.1]
  else
  bif d1.1 == 26 then
   some [d1.2.1,d1.2.2.1,d1.2.2.2.1]
  else
  bif d1.1 == 27 then
   bif d1.2.1 != (-1) then
   some [d1.2.1]
   else
   some []
  else
  bif d1.1 == 28 then
   bif d1.2.2.1 != (-1) then
   some [d1.2.2.1,d1.2.1]
   else
   some [d1.2.1]
  else
  bif decide (d1.1 ≥ 6) then
   bif decide (d1.1 ≤ 20) then
   some [d1.2.1,d1.2.2.1]
   else
   some []
  else
   some []
 else
 bif d1.1 == 21 then
  bif d1.1 == 21 then
   some [d1.2.1]
  else
  bif d1.1 == 26 then
   some [d1.2.1,d1.2.2.1,d1.2.2.2.1]
  else
  bif d1.1 == 27 then
   bif d1.2.1 != (-1) then
   some [d1.2.1]
   else
   some []
  else
  bif d1.1 == 28 then
   bif d1.2.2.1 != (-1) then
   some [d1.2.2.1,d1.2.1]
   else
   some [d1.2.1]
  else
  bif decide (d1.1 ≥ 6) then
   bif decide (d1.1 ≤ 20) then
   some [d1.2.1,d1.2.2.1]
   else
   some []
  else
   some []
 else
 bif d1.1 == 22 then
  bif d1.1 == 22 then
   some [d1.2.1]
  else
  bif d1.1 == 26 then
   some [d1.2.1,d1.2.2.1,d1.2.2.2.1]
  else
  bif d1.1 == 27 then
   bif d1.2.1 != (-1) then
   some [d1.2.1]
   else
   some []
  else
  bif d1.1 == 28 then
   bif d1.2.2.1 != (-1) then
   some [d1.2.2.1,d1.2.1]
   else
   some [d1.2.1]
  else
  bif decide (d1.1 ≥ 6) then
   bif decide (d1.1 ≤ 20) then
   some [d1.2.1,d1.2.2.1]
   else
   some []
  else
   some []
 else
 bif d1.1 == 23 then
  bif d1.1 == 23 then
   some [d1.2.1]
  else
  bif d1.1 == 26 then
   some [d1.2.1,d1.2.2.1,d1.2.2.2.1]
  else
  bif d1.1 == 27 then
   bif d1.2.1 != (-1) then
   some [d1.2.1]
   else
   some []
  else
  bif d1.1 == 28 then
   bif d1.2.2.1 != (-1) then
   some [d1.2.2.1,d1.2.1]
   else
   some [d1.2.1]
  else
  bif decide (d1.1 ≥ 6) then
   bif decide (d1.1 ≤ 20) then
   some [d1.2.1,d1.2.2.1]
   else
   some []
  else
   some []
 else
 bif d1.1 == 24 then
  bif d1.1 == 24 then
   some [d1.2.1]
  else
  bif d1.1 == 26 then
   some [d1.2.1,d1.2.2.1,d1.2.2.2.1]
  else
  bif d1.1 == 27 then
   bif d1.2.1 != (-1) then
   some [d1.2.1]
   else
   some []
  else
  bif d1.1 == 28 then
   bif d1.2.2.1 != (-1) then
   some [d1.2.2.1,d1.2.1]
   else
   some [d1.2.1]
  else
  bif decide (d1.1 ≥ 6) then
   bif decide (d1.1 ≤ 20) then
   some [d1.2.1,d1.2.2.1]
   else
   some []
  else
   some []
 else
 bif d1.1 == 25 then
  some [d1.2.1]
 else
 bif d1.1 == 26 then
  some [d1.2.1,d1.2.2.1,d1.2.2.2.1]
 else
 bif d1.1 == 27 then
  bif d1.2.1 != (-1) then
   some [d1.2.1]
  else
   some []
 else
 bif d1.1 == 28 then
  bif d1.2.2.1 != (-1) then
   some [d1.2.2.1,d1.2.1]
  else
   some [d1.2.1]
 else
 bif decide (d1.1 ≥ 6) then
  bif decide (d1.1 ≤ 20) then
   some [d1.2.1,d1.2.2.1]
  else
   some []
 else
  some []
theorem d3U:EqF 49 fun a b => r49 a b:=fun _ _ _ => by kernel_rfl
theorem e2D:IF1 r49 c49:=fun h => d3U.o h
def r51 (rf:T.RF) (rb:T.RB) (d1:XN) (d2:Int):Option XN :=
 bif decide (d1.2.1 ≥ 0) then
  bif decide (d1.2.2.1 ≥ 0) then
   bif decide (d1.2.2.2.1 ≥ 0) then
   some (d1.1,IntKind.i64.wrap (d1.2.1 + d2),IntKind.i64.wrap (d1.2.2.1 + d2),IntKind.i64.wrap (d1.2.2.2.1 + d2),d1.2.2.2.2)
   else
   some (d1.1,IntKind.i64.wrap (d1.2.1 + d2),IntKind.i64.wrap (d1.2.2.1 + d2),d1.2.2.2)
  else
  bif decide (d1.2.2.2.1 ≥ 0) then
   some (d1.1,IntKind.i64.wrap (d1.2.1 + d2),d1.2.2.1,IntKind.i64.wrap (d1.2.2.2.1 + d2),d1.2.2.2.2)
  else
   some (d1.1,IntKind.i64.wrap (d1.2.1 + d2),d1.2.2)
 else
 bif decide (d1.2.2.1 ≥ 0) then
  bif decide (d1.2.2.2.1 ≥ 0) then
   some (d1.1,d1.2.1,IntKind.i64.wrap (d1.2.2.1 + d2),IntKind.i64.wrap (d1.2.2.2.1 + d2),d1.2.2.2.2)
  else
   some (d1.1,d1.2.1,IntKind.i64.wrap (d1.2.2.1 + d2),d1.2.2.2)
 else
 bif decide (d1.2.2.2.1 ≥ 0) then
  some (d1.1,d1.2.1,d1.2.2.1,IntKind.i64.wrap (d1.2.2.2.1 + d2),d1.2.2.2.2)
 else
  some d1
theorem d3W:EqF 51 (W2 r51):=fun _ _ _ => by kernel_rfl
theorem e2F:IF2 r51 c51:=fun h => d3W.o h
def b22 (rf:T.RF) (rb:T.RB) (d1 d2:List XN) (d3 d4:Int):Option (List XN) :=
 bif decide (d4 < (d2.length:Int)) then
  bif inb d4 d2.length then
   (nth d2 d4.toNat).bind fun x1 =>
   (c51 rf x1 d3).bind fun y2 =>
   bif (Nat.ble (d1.length + 1) j8) && true then
   k22 rb (d1 ++ [y2]) d2 d3 (IntKind.i64.wrap (d4 + 1))
   else
   none
  else
   none
 else
  some d1
theorem d3t:EqB 22 (W4 b22):=fun _ _ _ => by kernel_rfl
theorem d6P:IB4 b22 k22:=fun h => d3t.o h
def r50 (rf:T.RF) (rb:T.RB) (d1 d2:List XN):Option (List XN) :=
 (k22 rb d1 d2 (d1.length:Int) 0).bind fun z1 =>
 some z1
theorem d3V:EqF 50 (W2 r50):=fun _ _ _ => by kernel_rfl
theorem e2E:IF2 r50 c50:=fun h => d3V.o h
def r52 (rf:T.RF) (rb:T.RB) (d1:XN) (d2:List Int):Option XN :=
 bif d1.1 == 28 then
  bif (d2.length:Int) == 2 then
   bif inb 0 d2.length then
   (nth d2 0).bind fun x1 =>
   bif inb 1 d2.length then
   (nth d2 1).bind fun x2 =>
   some (d1.1,x2,x1,d1.2.2.2)
   else
   none
   else
   none
  else
  bif decide ((d2.length:Int) > 0) then
   bif inb 0 d2.length then
   (nth d2 0).bind fun x3 =>
   bif decide ((d2.length:Int) > 1) then
   bif inb 1 d2.length then
   (nth d2 1).bind fun x4 =>
   bif decide ((d2.length:Int) > 2) then
   bif inb 2 d2.length then
   (nth d2 2).bind fun x5 =>
   some (d1.1,x3,x4,x5,d1.2.2.2.2)
   else
   none
   else
   some (d1.1,x3,x4,d1.2.2.2)
   else
   none
   else
   bif decide ((d2.length:Int) > 2) then
   bif inb 2 d2.length then
   (nth d2 2).bind fun x6 =>
   some (d1.1,x3,d1.2.2.1,x6,d1.2.2.2.2)
   else
   none
   else
   some (d1.1,x3,d1.2.2)
   else
   none
  else
  bif decide ((d2.length:Int) > 1) then
   bif inb 1 d2.length then
   (nth d2 1).bind fun x7 =>
   bif decide ((d2.length:Int) > 2) then
   bif inb 2 d2.length then
   (nth d2 2).bind fun x8 =>
   some (d1.1,d1.2.1,x7,x8,d1.2.2.2.2)
   else
   none
   else
   some (d1.1,d1.2.1,x7,d1.2.2.2)
   else
   none
  else
  bif decide ((d2.length:Int) > 2) then
   bif inb 2 d2.length then
   (nth d2 2).bind fun x9 =>
   some (d1.1,d1.2.1,d1.2.2.1,x9,d1.2.2.2.2)
   else
   none
  else
   some d1
 else
 bif decide ((d2.length:Int) > 0) then
  bif inb 0 d2.length then
   (nth d2 0).bind fun x10 =>
   bif decide ((d2.length:Int) > 1) then
   bif inb 1 d2.length then
   (nth d2 1).bind fun x11 =>
   bif decide ((d2.length:Int) > 2) then
   bif inb 2 d2.length then
   (nth d2 2).bind fun x12 =>
   some (d1.1,x10,x11,x12,d1.2.2.2.2)
   else
   none
   else
   some (d1.1,x10,x11,d1.2.2.2)
   else
   none
   else
   bif decide ((d2.length:Int) > 2) then
   bif inb 2 d2.length then
   (nth d2 2).bind fun x13 =>
   some (d1.1,x10,d1.2.2.1,x13,d1.2.2.2.2)
   else
   none
   else
   some (d1.1,x10,d1.2.2)
  else
   none
 else
 bif decide ((d2.length:Int) > 1) then
  bif inb 1 d2.length then
   (nth d2 1).bind fun x14 =>
   bif decide ((d2.length:Int) > 2) then
   bif inb 2 d2.length then
   (nth d2 2).bind fun x15 =>
   some (d1.1,d1.2.1,x14,x15,d1.2.2.2.2)
   else
   none
   else
   some (d1.1,d1.2.1,x14,d1.2.2.2)
  else
   none
 else
 bif decide ((d2.length:Int) > 2) then
  bif inb 2 d2.length then
   (nth d2 2).bind fun x16 =>
   some (d1.1,d1.2.1,d1.2.2.1,x16,d1.2.2.2.2)
  else
   none
 else
  some d1
theorem d3X:EqF 52 (W2 r52):=fun _ _ _ => by kernel_rfl
theorem e2G:IF2 r52 c52:=fun h => d3X.o h
def b23 (rf:T.RF) (rb:T.RB) (d1:List XN) (d2:List Int) (d3:Int) (d4:List (List XN)) (d5 d6:Int):Option ((List XN) ⊕ (List XN × List Int × Int)) :=
 bif decide (d6 < (d4.length:Int)) then
  bif inb d6 d4.length then
   (nth d4 d6.toNat).bind fun x1 =>
   bif (x1.length:Int) == 0 then
   some (.inl [])
   else
   bif inb d6 d4.length then
   (nth d4 d6.toNat).bind fun x2 =>
   (c50 rf d1 x2).bind fun y3 =>
   bif (Nat.ble (d2.length + 1) j8) && true then
   bif d3 == 27 then
   (c48 rf 28 0 ([]:List UInt8)).bind fun y4 =>
   bif (Nat.ble (y3.length + 1) j8) && true then
   k23 rb (y3 ++ [(y4.1,IntKind.i64.wrap ((y3.length:Int) - 1),d5,y4.2.2.2)]) (d2 ++ [IntKind.i64.wrap ((y3.length:Int) - 1)]) d3 d4 (y3.length:Int) (IntKind.i64.wrap (d6 + 1))
   else
   none
   else
   k23 rb y3 (d2 ++ [IntKind.i64.wrap ((y3.length:Int) - 1)]) d3 d4 d5 (IntKind.i64.wrap (d6 + 1))
   else
   none
   else
   none
  else
   none
 else
  some (.inr (d1,d2,d5))
theorem d3u:EqB 23 (W6 b23):=fun _ _ _ => by kernel_rfl
theorem d6Q:IB6 b23 k23:=fun h => d3u.o h
def r47 (rf:T.RF) (rb:T.RB) (d1 d2:Int) (d3:List UInt8) (d4:List (List XN)):Option (List XN) :=
 (c48 rf d1 d2 d3).bind fun y1 =>
 (c49 rf y1).bind fun y2 =>
 bif d1 == 28 then
  some []
 else
 bif d1 != 27 then
  bif (y2.length:Int) != (d4.length:Int) then
   some []
  else
   (k23 rb [] [] d1 d4 (-1) 0).bind fun z3 =>
   match z3 with
   | .inl u4 =>
     some u4
   | .inr w5 =>
     bif d1 == 27 then
      bif (Nat.ble (w5.1.length + 1) j8) && true then
       some (w5.1 ++ [(y1.1,w5.2.2,y1.2.2)])
      else
       none
     else
      (c52 rf y1 w5.2.1).bind fun y6 =>
      bif (Nat.ble (w5.1.length + 1) j8) && true then
       some (w5.1 ++ [y6])
      else
       none
 else
  (k23 rb [] [] d1 d4 (-1) 0).bind fun z7 =>
  match z7 with
  | .inl u8 =>
    some u8
  | .inr w9 =>
    bif d1 == 27 then
     bif (Nat.ble (w9.1.length + 1) j8) && true then
      some (w9.1 ++ [(y1.1,w9.2.2,y1.2.2)])
     else
      none
    else
     (c52 rf y1 w9.2.1).bind fun y10 =>
     bif (Nat.ble (w9.1.length + 1) j8) && true then
      some (w9.1 ++ [y10])
     else
      none
theorem d3S:EqF 47 (W4 r47):=fun _ _ _ => by kernel_rfl
theorem e2B:IF4 r47 c47:=fun h => d3S.o h
def r55 (rf:T.RF) (rb:T.RB) (d1:List XK × Int × Int × Int × Int) (d2:List UInt8):Option ((List XK × Int × Int × Int × Int) × Bool) :=
 bif d1.2.2.2.1 != 0 then
  some (d1,false)
 else
 bif decide (d1.2.1 ≥ (d1.1.length:Int)) then
  some (d1,false)
 else
 bif inb d1.2.1 d1.1.length then
  (nth d1.1 d1.2.1.toNat).bind fun x1 =>
  bif x1.1 == 4 then
   some (d1,x1.2.1 == d2)
  else
  bif x1.1 == 3 then
   some (d1,x1.2.1 == d2)
  else
   some (d1,false)
 else
  none
theorem e0x:EqF 55 (W2 r55):=fun _ _ _ => by kernel_rfl
def r54 (rf:T.RF) (rb:T.RB) (d1:List XK × Int × Int × Int × Int) (d2:List UInt8):Option ((List XK × Int × Int × Int × Int) × Bool) :=
 (c55 rf d1 d2).bind fun y1 =>
 bif !y1.2 then
  some (y1.1,false)
 else
  some ((y1.1.1,IntKind.i64.wrap (y1.1.2.1 + 1),y1.1.2.2),true)
theorem e0w:EqF 54 (W2 r54):=fun _ _ _ => by kernel_rfl
def r57 (rf:T.RF) (rb:T.RB) (d1:List XK × Int × Int × Int × Int) (d2:List UInt8):Option (List XK × Int × Int × Int × Int) :=
 (c54 rf d1 d2).bind fun y1 =>
 bif !y1.2 then
  (c45 rf y1.1 5).bind fun y2 =>
  some y2.1
 else
  some y1.1
theorem e0z:EqF 57 (W2 r57):=fun _ _ _ => by kernel_rfl
def b25 (rf:T.RF) (rb:T.RB) (d1:List XK × Int × Int × Int × Int) (d2:List (List XN)):Option (((List XK × Int × Int × Int × Int) × List (List XN)) ⊕ (List XK × Int × Int × Int × Int)) :=
 bif d1.2.2.2.1 == 0 then
  (c36 rf d1).bind fun y1 =>
  bif (Nat.ble (d2.length + 1) j8) && true then
   (c54 rf y1.1 ([41]:List UInt8)).bind fun y2 =>
   bif y2.2 then
   some (.inl (y2.1,d2 ++ [y1.2]))
   else
   (c57 rf y2.1 ([44]:List UInt8)).bind fun y3 =>
   k25 rb y3 (d2 ++ [y1.2])
  else
   none
 else
  some (.inr d1)
theorem d9y:EqB 25 (W2 b25):=fun _ _ _ => by kernel_rfl
def r56 (rf:T.RF) (rb:T.RB) (d1:List XK × Int × Int × Int × Int):Option ((List XK × Int × Int × Int × Int) × List (List XN)) :=
 (c54 rf d1 ([41]:List UInt8)).bind fun y1 =>
 bif y1.2 then
  some (y1.1,[])
 else
  (k25 rb y1.1 []).bind fun z2 =>
  match z2 with
  | .inl u3 =>
    some u3
  | .inr w4 =>
    some (w4,[])
theorem e0y:EqF 56 fun a b => r56 a b:=fun _ _ _ => by kernel_rfl
def r53 (rf:T.RF) (rb:T.RB) (d1:List XK × Int × Int × Int × Int) (d2:List UInt8):Option ((List XK × Int × Int × Int × Int) × List XN) :=
 (c54 rf (d1.1,IntKind.i64.wrap (d1.2.1 + 1),d1.2.2) ([40]:List UInt8)).bind fun y1 =>
 bif !y1.2 then
  (c47 rf 3 0 d2 []).bind fun y2 =>
  some (y1.1,y2)
 else
  (c56 rf y1.1).bind fun y3 =>
  bif y3.1.2.2.2.1 != 0 then
   some (y3.1,[])
  else
   (c47 rf 27 0 d2 y3.2).bind fun y4 =>
   some (y3.1,y4)
theorem e0v:EqF 53 (W2 r53):=fun _ _ _ => by kernel_rfl
def r58 (rf:T.RF) (rb:T.RB) (d1:List UInt8):Option Int :=
 bif d1 == ([110,111,116]:List UInt8) then
  some 4
 else
 bif d1 == ([45]:List UInt8) then
  some 5
 else
 bif d1 == ([112,114,101]:List UInt8) then
  some 21
 else
 bif d1 == ([111,110,99,101]:List UInt8) then
  some 22
 else
 bif d1 == ([104,105,115,116]:List UInt8) then
  some 23
 else
 bif d1 == ([112,114,101,118]:List UInt8) then
  some 24
 else
 bif d1 == ([119,105,116,104,105,110]:List UInt8) then
  some 25
 else
  some 0
theorem e0A:EqF 58 fun a b => r58 a b:=fun _ _ _ => by kernel_rfl
def r59 (rf:T.RF) (rb:T.RB) (d1:List XK × Int × Int × Int × Int):Option ((List XK × Int × Int × Int × Int) × List XN) :=
 bif decide ((IntKind.i64.wrap (d1.2.1 + 1)) ≥ (d1.1.length:Int)) then
  (c45 rf (d1.1,IntKind.i64.wrap (d1.2.1 + 1),d1.2.2) 5).bind fun y1 =>
  some y1
 else
 bif inb (IntKind.i64.wrap (d1.2.1 + 1)) d1.1.length then
  (nth d1.1 (IntKind.i64.wrap (d1.2.1 + 1)).toNat).bind fun x2 =>
  bif x2.1 != 2 then
   (c45 rf (d1.1,IntKind.i64.wrap (d1.2.1 + 1),d1.2.2) 5).bind fun y3 =>
   some y3
  else
  bif inb (IntKind.i64.wrap (d1.2.1 + 1)) d1.1.length then
   (nth d1.1 (IntKind.i64.wrap (d1.2.1 + 1)).toNat).bind fun x4 =>
   (c7 rf x4.2.1).bind fun y5 =>
   bif decide (y5 > 1000) then
   (c45 rf (d1.1,IntKind.i64.wrap (d1.2.1 + 1),d1.2.2) 5).bind fun y6 =>
   some y6
   else
   bif inb (IntKind.i64.wrap (d1.2.1 + 1)) d1.1.length then
   (nth d1.1 (IntKind.i64.wrap (d1.2.1 + 1)).toNat).bind fun x7 =>
   (c7 rf x7.2.1).bind fun y8 =>
   (c44 rf (d1.1,IntKind.i64.wrap ((IntKind.i64.wrap (d1.2.1 + 1)) + 1),d1.2.2)).bind fun y9 =>
   bif y9.1.2.2.2.1 != 0 then
   some (y9.1,[])
   else
   (c47 rf 25 y8 ([]:List UInt8) [y9.2]).bind fun y10 =>
   some (y9.1,y10)
   else
   none
  else
   none
 else
  none
theorem e0B:EqF 59 fun a b => r59 a b:=fun _ _ _ => by kernel_rfl
def r60 (rf:T.RF) (rb:T.RB) (d1:List XK × Int × Int × Int × Int):Option ((List XK × Int × Int × Int × Int) × List XN) :=
 (c36 rf d1).bind fun y1 =>
 (c57 rf y1.1 ([116,104,101,110]:List UInt8)).bind fun y2 =>
 (c36 rf y2).bind fun y3 =>
 (c57 rf y3.1 ([101,108,115,101]:List UInt8)).bind fun y4 =>
 (c36 rf y4).bind fun y5 =>
 bif y5.1.2.2.2.1 != 0 then
  some (y5.1,[])
 else
  (c47 rf 26 0 ([]:List UInt8) [y1.2,y3.2,y5.2]).bind fun y6 =>
  some (y5.1,y6)
theorem e0C:EqF 60 fun a b => r60 a b:=fun _ _ _ => by kernel_rfl
def r46 (rf:T.RF) (rb:T.RB) (d1:List XK × Int × Int × Int × Int) (d2:XK):Option ((List XK × Int × Int × Int × Int) × List XN) :=
 bif d2.1 == 2 then
  (c7 rf d2.2.1).bind fun y1 =>
  (c47 rf 1 y1 ([]:List UInt8) []).bind fun y2 =>
  some ((d1.1,IntKind.i64.wrap (d1.2.1 + 1),d1.2.2),y2)
 else
 bif d2.1 == 1 then
  (c53 rf d1 d2.2.1).bind fun y3 =>
  some y3
 else
 bif d2.1 != 4 then
  bif d2.1 != 3 then
   (c45 rf d1 5).bind fun y4 =>
   some y4
  else
   (c58 rf d2.2.1).bind fun y5 =>
   bif y5 == 25 then
   (c59 rf d1).bind fun y6 =>
   some y6
   else
   bif decide (y5 > 0) then
   (c44 rf (d1.1,IntKind.i64.wrap (d1.2.1 + 1),d1.2.2)).bind fun y7 =>
   bif y7.1.2.2.2.1 != 0 then
   some (y7.1,[])
   else
   (c47 rf y5 0 ([]:List UInt8) [y7.2]).bind fun y8 =>
   some (y7.1,y8)
   else
   (c54 rf d1 ([116,114,117,101]:List UInt8)).bind fun y9 =>
   bif y9.2 then
   (c47 rf 2 1 ([]:List UInt8) []).bind fun y10 =>
   some (y9.1,y10)
   else
   (c54 rf y9.1 ([102,97,108,115,101]:List UInt8)).bind fun y11 =>
   bif y11.2 then
   (c47 rf 2 0 ([]:List UInt8) []).bind fun y12 =>
   some (y11.1,y12)
   else
   (c54 rf y11.1 ([40]:List UInt8)).bind fun y13 =>
   bif y13.2 then
   (c36 rf y13.1).bind fun y14 =>
   (c57 rf y14.1 ([41]:List UInt8)).bind fun y15 =>
   some (y15,y14.2)
   else
   (c54 rf y13.1 ([105,102]:List UInt8)).bind fun y16 =>
   bif y16.2 then
   (c60 rf y16.1).bind fun y17 =>
   some y17
   else
   (c45 rf y16.1 5).bind fun y18 =>
   some y18
 else
  (c58 rf d2.2.1).bind fun y19 =>
  bif y19 == 25 then
   (c59 rf d1).bind fun y20 =>
   some y20
  else
  bif decide (y19 > 0) then
   (c44 rf (d1.1,IntKind.i64.wrap (d1.2.1 + 1),d1.2.2)).bind fun y21 =>
   bif y21.1.2.2.2.1 != 0 then
   some (y21.1,[])
   else
   (c47 rf y19 0 ([]:List UInt8) [y21.2]).bind fun y22 =>
   some (y21.1,y22)
  else
   (c54 rf d1 ([116,114,117,101]:List UInt8)).bind fun y23 =>
   bif y23.2 then
   (c47 rf 2 1 ([]:List UInt8) []).bind fun y24 =>
   some (y23.1,y24)
   else
   (c54 rf y23.1 ([102,97,108,115,101]:List UInt8)).bind fun y25 =>
   bif y25.2 then
   (c47 rf 2 0 ([]:List UInt8) []).bind fun y26 =>
   some (y25.1,y26)
   else
   (c54 rf y25.1 ([40]:List UInt8)).bind fun y27 =>
   bif y27.2 then
   (c36 rf y27.1).bind fun y28 =>
   (c57 rf y28.1 ([41]:List UInt8)).bind fun y29 =>
   some (y29,y28.2)
   else
   (c54 rf y27.1 ([105,102]:List UInt8)).bind fun y30 =>
   bif y30.2 then
   (c60 rf y30.1).bind fun y31 =>
   some y31
   else
   (c45 rf y30.1 5).bind fun y32 =>
   some y32
theorem e0u:EqF 46 (W2 r46):=fun _ _ _ => by kernel_rfl
def r44 (rf:T.RF) (rb:T.RB) (d1:List XK × Int × Int × Int × Int):Option ((List XK × Int × Int × Int × Int) × List XN) :=
 bif d1.2.2.2.1 != 0 then
  some (d1,[])
 else
 bif decide (d1.2.2.1 ≥ 200) then
  (c45 rf d1 6).bind fun y1 =>
  some y1
 else
 bif decide (d1.2.1 ≥ (d1.1.length:Int)) then
  (c45 rf d1 5).bind fun y2 =>
  some y2
 else
 bif inb d1.2.1 d1.1.length then
  (nth d1.1 d1.2.1.toNat).bind fun x3 =>
  (c46 rf (d1.1,d1.2.1,IntKind.i64.wrap (d1.2.2.1 + 1),d1.2.2.2) x3).bind fun y4 =>
  some ((y4.1.1,y4.1.2.1,IntKind.i64.wrap (y4.1.2.2.1 - 1),y4.1.2.2.2),y4.2)
 else
  none
theorem e0s:EqF 44 fun a b => r44 a b:=fun _ _ _ => by kernel_rfl
def r61 (rf:T.RF) (rb:T.RB) (d1:List XK × Int × Int × Int × Int) (d2:Int) (d3 d4:List XN):Option ((List XK × Int × Int × Int × Int) × List XN) :=
 bif d1.2.2.2.1 != 0 then
  some (d1,[])
 else
  (c47 rf d2 0 ([]:List UInt8) [d3,d4]).bind fun y1 =>
  some (d1,y1)
theorem e0D:EqF 61 (W4 r61):=fun _ _ _ => by kernel_rfl
def b27 (rf:T.RF) (rb:T.RB) (d1:List XK × Int × Int × Int × Int) (d2:List XN):Option ((List XK × Int × Int × Int × Int) × List XN) :=
 (c55 rf d1 ([42]:List UInt8)).bind fun y1 =>
 bif y1.2 then
  (c55 rf y1.1 ([100,105,118]:List UInt8)).bind fun y2 =>
  bif y2.2 then
   (c55 rf y2.1 ([109,111,100]:List UInt8)).bind fun y3 =>
   bif y3.2 then
   (c44 rf (y3.1.1,IntKind.i64.wrap (y3.1.2.1 + 1),y3.1.2.2)).bind fun y4 =>
   (c61 rf y4.1 18 d2 y4.2).bind fun y5 =>
   k27 rb y5.1 y5.2
   else
   (c44 rf (y3.1.1,IntKind.i64.wrap (y3.1.2.1 + 1),y3.1.2.2)).bind fun y6 =>
   (c61 rf y6.1 17 d2 y6.2).bind fun y7 =>
   k27 rb y7.1 y7.2
  else
   (c55 rf y2.1 ([109,111,100]:List UInt8)).bind fun y8 =>
   bif y8.2 then
   (c44 rf (y8.1.1,IntKind.i64.wrap (y8.1.2.1 + 1),y8.1.2.2)).bind fun y9 =>
   (c61 rf y9.1 18 d2 y9.2).bind fun y10 =>
   k27 rb y10.1 y10.2
   else
   (c44 rf (y8.1.1,IntKind.i64.wrap (y8.1.2.1 + 1),y8.1.2.2)).bind fun y11 =>
   (c61 rf y11.1 16 d2 y11.2).bind fun y12 =>
   k27 rb y12.1 y12.2
 else
  (c55 rf y1.1 ([100,105,118]:List UInt8)).bind fun y13 =>
  bif y13.2 then
   (c55 rf y13.1 ([100,105,118]:List UInt8)).bind fun y14 =>
   bif y14.2 then
   (c55 rf y14.1 ([109,111,100]:List UInt8)).bind fun y15 =>
   bif y15.2 then
   (c44 rf (y15.1.1,IntKind.i64.wrap (y15.1.2.1 + 1),y15.1.2.2)).bind fun y16 =>
   (c61 rf y16.1 18 d2 y16.2).bind fun y17 =>
   k27 rb y17.1 y17.2
   else
   (c44 rf (y15.1.1,IntKind.i64.wrap (y15.1.2.1 + 1),y15.1.2.2)).bind fun y18 =>
   (c61 rf y18.1 17 d2 y18.2).bind fun y19 =>
   k27 rb y19.1 y19.2
   else
   (c55 rf y14.1 ([109,111,100]:List UInt8)).bind fun y20 =>
   bif y20.2 then
   (c44 rf (y20.1.1,IntKind.i64.wrap (y20.1.2.1 + 1),y20.1.2.2)).bind fun y21 =>
   (c61 rf y21.1 18 d2 y21.2).bind fun y22 =>
   k27 rb y22.1 y22.2
   else
   (c44 rf (y20.1.1,IntKind.i64.wrap (y20.1.2.1 + 1),y20.1.2.2)).bind fun y23 =>
   (c61 rf y23.1 16 d2 y23.2).bind fun y24 =>
   k27 rb y24.1 y24.2
  else
   (c55 rf y13.1 ([109,111,100]:List UInt8)).bind fun y25 =>
   bif y25.2 then
   (c55 rf y25.1 ([100,105,118]:List UInt8)).bind fun y26 =>
   bif y26.2 then
   (c55 rf y26.1 ([109,111,100]:List UInt8)).bind fun y27 =>
   bif y27.2 then
   (c44 rf (y27.1.1,IntKind.i64.wrap (y27.1.2.1 + 1),y27.1.2.2)).bind fun y28 =>
   (c61 rf y28.1 18 d2 y28.2).bind fun y29 =>
   k27 rb y29.1 y29.2
   else
   (c44 rf (y27.1.1,IntKind.i64.wrap (y27.1.2.1 + 1),y27.1.2.2)).bind fun y30 =>
   (c61 rf y30.1 17 d2 y30.2).bind fun y31 =>
   k27 rb y31.1 y31.2
   else
   (c55 rf y26.1 ([109,111,100]:List UInt8)).bind fun y32 =>
   bif y32.2 then
   (c44 rf (y32.1.1,IntKind.i64.wrap (y32.1.2.1 + 1),y32.1.2.2)).bind fun y33 =>
   (c61 rf y33.1 18 d2 y33.2).bind fun y34 =>
   k27 rb y34.1 y34.2
   else
   (c44 rf (y32.1.1,IntKind.i64.wrap (y32.1.2.1 + 1),y32.1.2.2)).bind fun y35 =>
   (c61 rf y35.1 16 d2 y35.2).bind fun y36 =>
   k27 rb y36.1 y36.2
   else
   some (y25.1,d2)
theorem d9z:EqB 27 (W2 b27):=fun _ _ _ => by kernel_rfl
def r43 (rf:T.RF) (rb:T.RB) (d1:List XK × Int × Int × Int × Int):Option ((List XK × Int × Int × Int × Int) × List XN) :=
 (c44 rf d1).bind fun y1 =>
 (k27 rb y1.1 y1.2).bind fun z2 =>
 some z2
theorem e0r:EqF 43 fun a b => r43 a b:=fun _ _ _ => by kernel_rfl
def b29 (rf:T.RF) (rb:T.RB) (d1:List XK × Int × Int × Int × Int) (d2:List XN):Option ((List XK × Int × Int × Int × Int) × List XN) :=
 (c55 rf d1 ([43]:List UInt8)).bind fun y1 =>
 bif y1.2 then
  (c55 rf y1.1 ([45]:List UInt8)).bind fun y2 =>
  bif y2.2 then
   (c43 rf (y2.1.1,IntKind.i64.wrap (y2.1.2.1 + 1),y2.1.2.2)).bind fun y3 =>
   (c61 rf y3.1 15 d2 y3.2).bind fun y4 =>
   k29 rb y4.1 y4.2
  else
   (c43 rf (y2.1.1,IntKind.i64.wrap (y2.1.2.1 + 1),y2.1.2.2)).bind fun y5 =>
   (c61 rf y5.1 14 d2 y5.2).bind fun y6 =>
   k29 rb y6.1 y6.2
 else
  (c55 rf y1.1 ([45]:List UInt8)).bind fun y7 =>
  bif y7.2 then
   (c55 rf y7.1 ([45]:List UInt8)).bind fun y8 =>
   bif y8.2 then
   (c43 rf (y8.1.1,IntKind.i64.wrap (y8.1.2.1 + 1),y8.1.2.2)).bind fun y9 =>
   (c61 rf y9.1 15 d2 y9.2).bind fun y10 =>
   k29 rb y10.1 y10.2
   else
   (c43 rf (y8.1.1,IntKind.i64.wrap (y8.1.2.1 + 1),y8.1.2.2)).bind fun y11 =>
   (c61 rf y11.1 14 d2 y11.2).bind fun y12 =>
   k29 rb y12.1 y12.2
  else
   some (y7.1,d2)
theorem d9A:EqB 29 (W2 b29):=fun _ _ _ => by kernel_rfl
def r42 (rf:T.RF) (rb:T.RB) (d1:List XK × Int × Int × Int × Int):Option ((List XK × Int × Int × Int × Int) × List XN) :=
 (c43 rf d1).bind fun y1 =>
 (k29 rb y1.1 y1.2).bind fun z2 =>
 some z2
theorem e0q:EqF 42 fun a b => r42 a b:=fun _ _ _ => by kernel_rfl
def r41 (rf:T.RF) (rb:T.RB) (d1:List XK × Int × Int × Int × Int):Option ((List XK × Int × Int × Int × Int) × List XN) :=
 (c42 rf d1).bind fun y1 =>
 (c54 rf y1.1 ([61]:List UInt8)).bind fun y2 =>
 bif y2.2 then
  (c42 rf y2.1).bind fun y3 =>
  (c61 rf y3.1 10 y1.2 y3.2).bind fun y4 =>
  some y4
 else
  (c54 rf y2.1 ([60,62]:List UInt8)).bind fun y5 =>
  bif y5.2 then
   (c42 rf y5.1).bind fun y6 =>
   (c61 rf y6.1 11 y1.2 y6.2).bind fun y7 =>
   some y7
  else
   (c54 rf y5.1 ([60]:List UInt8)).bind fun y8 =>
   bif y8.2 then
   (c42 rf y8.1).bind fun y9 =>
   (c61 rf y9.1 12 y1.2 y9.2).bind fun y10 =>
   some y10
   else
   (c54 rf y8.1 ([60,61]:List UInt8)).bind fun y11 =>
   bif y11.2 then
   (c42 rf y11.1).bind fun y12 =>
   (c61 rf y12.1 13 y1.2 y12.2).bind fun y13 =>
   some y13
   else
   (c54 rf y11.1 ([62]:List UInt8)).bind fun y14 =>
   bif y14.2 then
   (c42 rf y14.1).bind fun y15 =>
   (c61 rf y15.1 12 y15.2 y1.2).bind fun y16 =>
   some y16
   else
   (c54 rf y14.1 ([62,61]:List UInt8)).bind fun y17 =>
   bif y17.2 then
   (c42 rf y17.1).bind fun y18 =>
   (c61 rf y18.1 13 y18.2 y1.2).bind fun y19 =>
   some y19
   else
   some (y17.1,y1.2)
theorem e0p:EqF 41 fun a b => r41 a b:=fun _ _ _ => by kernel_rfl
def b31 (rf:T.RF) (rb:T.RB) (d1:List XK × Int × Int × Int × Int) (d2:List XN):Option ((List XK × Int × Int × Int × Int) × List XN) :=
 (c54 rf d1 ([97,110,100]:List UInt8)).bind fun y1 =>
 bif y1.2 then
  (c41 rf y1.1).bind fun y2 =>
  (c61 rf y2.1 6 d2 y2.2).bind fun y3 =>
  k31 rb y3.1 y3.2
 else
  some (y1.1,d2)
theorem d9B:EqB 31 (W2 b31):=fun _ _ _ => by kernel_rfl
def r40 (rf:T.RF) (rb:T.RB) (d1:List XK × Int × Int × Int × Int):Option ((List XK × Int × Int × Int × Int) × List XN) :=
 (c41 rf d1).bind fun y1 =>
 (k31 rb y1.1 y1.2).bind fun z2 =>
 some z2
theorem e0o:EqF 40 fun a b => r40 a b:=fun _ _ _ => by kernel_rfl
def b33 (rf:T.RF) (rb:T.RB) (d1:List XK × Int × Int × Int × Int) (d2:List XN):Option ((List XK × Int × Int × Int × Int) × List XN) :=
 (c55 rf d1 ([111,114]:List UInt8)).bind fun y1 =>
 bif y1.2 then
  (c55 rf y1.1 ([120,111,114]:List UInt8)).bind fun y2 =>
  bif y2.2 then
   (c40 rf (y2.1.1,IntKind.i64.wrap (y2.1.2.1 + 1),y2.1.2.2)).bind fun y3 =>
   (c61 rf y3.1 8 d2 y3.2).bind fun y4 =>
   k33 rb y4.1 y4.2
  else
   (c40 rf (y2.1.1,IntKind.i64.wrap (y2.1.2.1 + 1),y2.1.2.2)).bind fun y5 =>
   (c61 rf y5.1 7 d2 y5.2).bind fun y6 =>
   k33 rb y6.1 y6.2
 else
  (c55 rf y1.1 ([120,111,114]:List UInt8)).bind fun y7 =>
  bif y7.2 then
   (c55 rf y7.1 ([120,111,114]:List UInt8)).bind fun y8 =>
   bif y8.2 then
   (c40 rf (y8.1.1,IntKind.i64.wrap (y8.1.2.1 + 1),y8.1.2.2)).bind fun y9 =>
   (c61 rf y9.1 8 d2 y9.2).bind fun y10 =>
   k33 rb y10.1 y10.2
   else
   (c40 rf (y8.1.1,IntKind.i64.wrap (y8.1.2.1 + 1),y8.1.2.2)).bind fun y11 =>
   (c61 rf y11.1 7 d2 y11.2).bind fun y12 =>
   k33 rb y12.1 y12.2
  else
   some (y7.1,d2)
theorem d9C:EqB 33 (W2 b33):=fun _ _ _ => by kernel_rfl
def r39 (rf:T.RF) (rb:T.RB) (d1:List XK × Int × Int × Int × Int):Option ((List XK × Int × Int × Int × Int) × List XN) :=
 (c40 rf d1).bind fun y1 =>
 (k33 rb y1.1 y1.2).bind fun z2 =>
 some z2
theorem e0n:EqF 39 fun a b => r39 a b:=fun _ _ _ => by kernel_rfl
def b35 (rf:T.RF) (rb:T.RB) (d1:List XK × Int × Int × Int × Int) (d2:List XN):Option ((List XK × Int × Int × Int × Int) × List XN) :=
 (c54 rf d1 ([115,105,110,99,101]:List UInt8)).bind fun y1 =>
 bif y1.2 then
  (c39 rf y1.1).bind fun y2 =>
  (c61 rf y2.1 20 d2 y2.2).bind fun y3 =>
  k35 rb y3.1 y3.2
 else
  some (y1.1,d2)
theorem d9D:EqB 35 (W2 b35):=fun _ _ _ => by kernel_rfl
def r38 (rf:T.RF) (rb:T.RB) (d1:List XK × Int × Int × Int × Int):Option ((List XK × Int × Int × Int × Int) × List XN) :=
 (c39 rf d1).bind fun y1 =>
 (k35 rb y1.1 y1.2).bind fun z2 =>
 some z2
theorem e0m:EqF 38 fun a b => r38 a b:=fun _ _ _ => by kernel_rfl
def r37 (rf:T.RF) (rb:T.RB) (d1:List XK × Int × Int × Int × Int):Option ((List XK × Int × Int × Int × Int) × List XN) :=
 (c38 rf d1).bind fun y1 =>
 (c54 rf y1.1 ([61,62]:List UInt8)).bind fun y2 =>
 bif y2.2 then
  (c37 rf y2.1).bind fun y3 =>
  (c61 rf y3.1 9 y1.2 y3.2).bind fun y4 =>
  some y4
 else
  some (y2.1,y1.2)
theorem e0l:EqF 37 fun a b => r37 a b:=fun _ _ _ => by kernel_rfl
def r36 (rf:T.RF) (rb:T.RB) (d1:List XK × Int × Int × Int × Int):Option ((List XK × Int × Int × Int × Int) × List XN) :=
 (c37 rf d1).bind fun y1 =>
 (c54 rf y1.1 ([45,62]:List UInt8)).bind fun y2 =>
 bif y2.2 then
  (c36 rf y2.1).bind fun y3 =>
  (c61 rf y3.1 19 y1.2 y3.2).bind fun y4 =>
  some y4
 else
  some (y2.1,y1.2)
theorem e0k:EqF 36 fun a b => r36 a b:=fun _ _ _ => by kernel_rfl
def b43 (rf:T.RF) (rb:T.RB) (d1:List Int) (d2:List XN) (d3:Int):Option (List Int) :=
 bif decide (d3 < (d2.length:Int)) then
  bif inb d3 d1.length then
   bif Nat.blt d3.toNat d1.length then
   bif inb d3 d2.length then
   (nth d2 d3.toNat).bind fun x1 =>
   (c49 rf x1).bind fun y2 =>
   (k44 rb (l9 d1 d3.toNat 1) y2 d3 0).bind fun z3 =>
   k43 rb z3.1 d2 (IntKind.i64.wrap (d3 + 1))
   else
   none
   else
   none
  else
   none
 else
  some d1
theorem d3v:EqB 43 (W3 b43):=fun _ _ _ => by kernel_rfl
theorem d6T:IB3 b43 k43:=fun h => d3v.o h
def d1i (rf:T.RF) (rb:T.RB) (d1 d2:List Int) (d3 d4:Int):Option (List Int × List Int) :=
 bif decide (d4 < (d2.length:Int)) then
  bif inb d4 d2.length then
   (nth d2 d4.toNat).bind fun x1 =>
   bif decide (x1 ≥ 0) then
   bif inb d4 d2.length then
   (nth d2 d4.toNat).bind fun x2 =>
   bif decide (x2 < d3) then
   bif inb d3 d1.length then
   bif inb d4 d2.length then
   (nth d2 d4.toNat).bind fun x3 =>
   bif inb x3 d1.length then
   l0 (
   (nth d1 d3.toNat).bind fun x4 =>
   (nth d1 x3.toNat).bind fun x5 =>
   bif inb d3 d1.length then
   bif Nat.blt d3.toNat d1.length then
   k44 rb (l9 d1 d3.toNat (if (IntKind.i64.wrap (x5 + 1)) > x4 then (IntKind.i64.wrap (x5 + 1)) else x4)) d2 d3 (IntKind.i64.wrap (d4 + 1))
   else
   none
   else
   none
   ) (
   (nth d1 x3.toNat).bind fun x4 =>
   (nth d1 d3.toNat).bind fun x5 =>
   bif inb d3 d1.length then
   bif Nat.blt d3.toNat d1.length then
   k44 rb (l9 d1 d3.toNat (if (IntKind.i64.wrap (x4 + 1)) > x5 then (IntKind.i64.wrap (x4 + 1)) else x5)) d2 d3 (IntKind.i64.wrap (d4 + 1))
   else
   none
   else
   none
   )
   else
   none
   else
   none
   else
   none
   else
   k44 rb d1 d2 d3 (IntKind.i64.wrap (d4 + 1))
   else
   none
   else
   k44 rb d1 d2 d3 (IntKind.i64.wrap (d4 + 1))
  else
   none
 else
  some (d1,d2)
def b44 (rf:T.RF) (rb:T.RB) (d1 d2:List Int) (d3 d4:Int):Option (List Int × List Int) :=
 bif decide (d4 < (d2.length:Int)) then
  bif inb d4 d2.length then
   (nth d2 d4.toNat).bind fun x1 =>
   bif decide (x1 ≥ 0) then
   bif inb d4 d2.length then
   (nth d2 d4.toNat).bind fun x2 =>
   bif decide (x2 < d3) then
   bif inb d3 d1.length then
   bif inb d4 d2.length then
   (nth d2 d4.toNat).bind fun x3 =>
   bif inb x3 d1.length then
   (nth d1 d3.toNat).bind fun x4 =>
   (nth d1 x3.toNat).bind fun x5 =>
   bif inb d3 d1.length then
   bif Nat.blt d3.toNat d1.length then
   k44 rb (l9 d1 d3.toNat (if (IntKind.i64.wrap (x5 + 1)) > x4 then (IntKind.i64.wrap (x5 + 1)) else x4)) d2 d3 (IntKind.i64.wrap (d4 + 1))
   else
   none
   else
   none
   else
   none
   else
   none
   else
   none
   else
   k44 rb d1 d2 d3 (IntKind.i64.wrap (d4 + 1))
   else
   none
   else
   k44 rb d1 d2 d3 (IntKind.i64.wrap (d4 + 1))
  else
   none
 else
  some (d1,d2)
theorem d3w:EqB 44 (W4 d1i):=fun _ _ _ => by kernel_rfl
theorem d9l (rf rb d1 d2 d3 d4):d1i rf rb d1 d2 d3 d4 = b44 rf rb d1 d2 d3 d4:=by
 unfold d1i b44; simp only [C9,l5,p9]
theorem d6U {d1 d2 d3 d4 y} (h:b44 T.rf T.rb d1 d2 d3 d4 = some y):k44 T.rb d1 d2 d3 d4 = some y:=d3w.o ((d9l _ _ _ _ _ _).trans h)
def r62 (rf:T.RF) (rb:T.RB) (d1:List XN):Option Int :=
 bif E3 (d1.length:Int) j8 then
  bif E3 (d1.length:Int) d1.length then
   (k43 rb (List.replicate d1.length (0:Int)) d1 0).bind fun z1 =>
   bif (d1.length:Int) == 0 then
   some 0
   else
   bif inb (IntKind.i64.wrap ((d1.length:Int) - 1)) z1.length then
   (nth z1 (IntKind.i64.wrap ((d1.length:Int) - 1)).toNat).bind fun x2 =>
   some x2
   else
   none
  else
   none
 else
  none
theorem d3Y:EqF 62 fun a b => r62 a b:=fun _ _ _ => by kernel_rfl
theorem e2H:IF1 r62 c62:=fun h => d3Y.o h
def b46 (rf:T.RF) (rb:T.RB) (d1:Int × Int) (d2:List XK) (d3:Int):Option (((Int × Int) × List XN × Int) ⊕ ((Int × Int) × List XN × Int)) :=
 (c36 rf (d2,d3,0,0,0)).bind fun y1 =>
 bif y1.1.2.2.2.1 != 0 then
  some (.inl (y1.1.2.2.2,[],0))
 else
 bif decide ((y1.2.length:Int) > 5000) then
  (c19 rf d2 d3).bind fun y2 =>
  some (.inl ((7,y2),[],0))
 else
  (c62 rf y1.2).bind fun y3 =>
  bif decide (y3 > 40) then
   (c19 rf d2 d3).bind fun y4 =>
   some (.inl ((6,y4),[],0))
  else
   some (.inr ((0,0),y1.2,y1.1.2.1))
theorem d9E:EqB 46 (W3 b46):=fun _ _ _ => by kernel_rfl
def r35 (rf:T.RF) (rb:T.RB) (d1:List XK) (d2:Int):Option (List XN × Int × Int × Int) :=
 bif decide (d2 < 0) then
  (k46 rb (0,0) d1 (d1.length:Int)).bind fun z1 =>
  match z1 with
  | .inl u2 =>
    some (u2.2.1,u2.2.2,u2.1)
  | .inr w3 =>
    some (w3.2.1,w3.2.2,w3.1)
 else
 bif decide (d2 > (d1.length:Int)) then
  (k46 rb (0,0) d1 (d1.length:Int)).bind fun z4 =>
  match z4 with
  | .inl u5 =>
    some (u5.2.1,u5.2.2,u5.1)
  | .inr w6 =>
    some (w6.2.1,w6.2.2,w6.1)
 else
  (k46 rb (0,0) d1 d2).bind fun z7 =>
  match z7 with
  | .inl u8 =>
    some (u8.2.1,u8.2.2,u8.1)
  | .inr w9 =>
    some (w9.2.1,w9.2.2,w9.1)
theorem e0j:EqF 35 (W2 r35):=fun _ _ _ => by kernel_rfl
def b47 (rf:T.RF) (rb:T.RB) (d1:List XK × Int × Int × Int) (d2:Int × Int) (d3:List XN) (d4:Int):Option ((List XK × Int × Int × Int) × (Int × Int) × List XN) :=
 bif d2.1 != 0 then
  some ((d1.1,d1.2.1,d2),d2,[])
 else
  some ((d1.1,d4,d1.2.2),d2,d3)
theorem d9F:EqB 47 (W4 b47):=fun _ _ _ => by kernel_rfl
def d2N (rf:T.RF) (rb:T.RB) (d1:List XK × Int × Int × Int):Option ((List XK × Int × Int × Int) × List XN) :=
 (c23 rf d1).bind fun y1 =>
 bif !y1.2 then
  some (y1.1,[])
 else
  agN 1 (
   (c35 rf y1.1.1 y1.1.2.1).bind fun y2 =>
   (k47 rb y1.1 y2.2.2 y2.1 y2.2.1).bind fun z3 =>
   some (z3.1,z3.2.2)
  )
def r34 (rf:T.RF) (rb:T.RB) (d1:List XK × Int × Int × Int):Option ((List XK × Int × Int × Int) × List XN) :=
 (c23 rf d1).bind fun y1 =>
 bif !y1.2 then
  some (y1.1,[])
 else
  (c35 rf y1.1.1 y1.1.2.1).bind fun y2 =>
  (k47 rb y1.1 y2.2.2 y2.1 y2.2.1).bind fun z3 =>
  some (z3.1,z3.2.2)
theorem e0i:EqF 34 fun a b => d2N a b:=fun _ _ _ => by kernel_rfl
theorem e3s (rf rb d1):d2N rf rb d1 = r34 rf rb d1:=by
 unfold d2N r34; simp only [C9,l5,p9]
def b49 (rf:T.RF) (rb:T.RB) (d1:List XK × Int × Int × Int) (d2:List (List XN)):Option (((List XK × Int × Int × Int) × List (List XN)) ⊕ (List XK × Int × Int × Int)) :=
 (c23 rf d1).bind fun y1 =>
 bif y1.2 then
  (c29 rf y1.1 (d2.length:Int)).bind fun y2 =>
  (c34 rf y2).bind fun y3 =>
  bif (Nat.ble (d2.length + 1) j8) && true then
   (c21 rf y3.1 ([41]:List UInt8)).bind fun y4 =>
   bif y4.2 then
   some (.inl (y4.1,d2 ++ [y3.2]))
   else
   (c28 rf y4.1 ([44]:List UInt8)).bind fun y5 =>
   k49 rb y5 (d2 ++ [y3.2])
  else
   none
 else
  some (.inr y1.1)
theorem d9G:EqB 49 (W2 b49):=fun _ _ _ => by kernel_rfl
def r63 (rf:T.RF) (rb:T.RB) (d1:List XK × Int × Int × Int):Option ((List XK × Int × Int × Int) × List (List XN)) :=
 (c28 rf d1 ([40]:List UInt8)).bind fun y1 =>
 (c21 rf y1 ([41]:List UInt8)).bind fun y2 =>
 bif y2.2 then
  some (y2.1,[])
 else
  (k49 rb y2.1 []).bind fun z3 =>
  match z3 with
  | .inl u4 =>
    some u4
  | .inr w5 =>
    some (w5,[])
theorem e0E:EqF 63 fun a b => r63 a b:=fun _ _ _ => by kernel_rfl
def r33 (rf:T.RF) (rb:T.RB) (d1:List XK × Int × Int × Int):Option ((List XK × Int × Int × Int) × XIt × Bool) :=
 (c21 rf d1 ([97,115,115,117,109,101]:List UInt8)).bind fun y1 =>
 bif y1.2 then
  (c34 rf y1.1).bind fun y2 =>
  (c28 rf y2.1 ([59]:List UInt8)).bind fun y3 =>
  some (y3,(1,([]:List UInt8),0,y2.2,[],[]),true)
 else
  (c21 rf y1.1 ([103,117,97,114,97,110,116,101,101]:List UInt8)).bind fun y4 =>
  bif y4.2 then
   (c34 rf y4.1).bind fun y5 =>
   (c28 rf y5.1 ([59]:List UInt8)).bind fun y6 =>
   some (y6,(2,([]:List UInt8),0,y5.2,[],[]),true)
  else
   (c21 rf y4.1 ([103,104,111,115,116]:List UInt8)).bind fun y7 =>
   bif y7.2 then
   (c30 rf y7.1).bind fun y8 =>
   (c28 rf y8.1 ([61]:List UInt8)).bind fun y9 =>
   (c34 rf y9).bind fun y10 =>
   (c28 rf y10.1 ([59]:List UInt8)).bind fun y11 =>
   some (y11,(3,y8.2.1,y8.2.2,y10.2,[],[]),true)
   else
   (c21 rf y7.1 ([109,111,100,101]:List UInt8)).bind fun y12 =>
   bif y12.2 then
   (c24 rf y12.1).bind fun y13 =>
   (c28 rf y13.1 ([114,101,113,117,105,114,101]:List UInt8)).bind fun y14 =>
   (c34 rf y14).bind fun y15 =>
   (c28 rf y15.1 ([101,110,115,117,114,101]:List UInt8)).bind fun y16 =>
   (c34 rf y16).bind fun y17 =>
   (c28 rf y17.1 ([59]:List UInt8)).bind fun y18 =>
   some (y18,(4,y13.2,0,y15.2,y17.2,[]),true)
   else
   (c21 rf y12.1 ([105,109,112,111,114,116]:List UInt8)).bind fun y19 =>
   bif y19.2 then
   (c24 rf y19.1).bind fun y20 =>
   (c63 rf y20.1).bind fun y21 =>
   (c28 rf y21.1 ([59]:List UInt8)).bind fun y22 =>
   some (y22,(5,y20.2,0,[],[],y21.2),true)
   else
   some (y19.1,(0,([]:List UInt8),0,[],[],[]),false)
theorem e0h:EqF 33 fun a b => r33 a b:=fun _ _ _ => by kernel_rfl
def b50 (rf:T.RF) (rb:T.RB) (d1:List XK × Int × Int × Int) (d2:List XIt):Option ((List XK × Int × Int × Int) × List XIt) :=
 (c32 rf d1).bind fun y1 =>
 bif y1.2 then
  (c29 rf y1.1 (d2.length:Int)).bind fun y2 =>
  (c33 rf y2).bind fun y3 =>
  bif y3.2.2 then
   bif (Nat.ble (d2.length + 1) j8) && true then
   k50 rb y3.1 (d2 ++ [y3.2.1])
   else
   none
  else
   k50 rb y3.1 d2
 else
  some (y1.1,d2)
theorem d9H:EqB 50 (W2 b50):=fun _ _ _ => by kernel_rfl
def r31 (rf:T.RF) (rb:T.RB) (d1:List XK × Int × Int × Int):Option ((List XK × Int × Int × Int) × List XIt) :=
 (k50 rb d1 []).bind fun z1 =>
 (c28 rf z1.1 ([101,110,100]:List UInt8)).bind fun y2 =>
 some (y2,z1.2)
theorem e0f:EqF 31 fun a b => r31 a b:=fun _ _ _ => by kernel_rfl
def b52 (rf:T.RF) (rb:T.RB) (d1:List XK × Int × Int × Int) (d2:List XPm):Option (((List XK × Int × Int × Int) × List XPm) ⊕ (List XK × Int × Int × Int)) :=
 (c23 rf d1).bind fun y1 =>
 bif y1.2 then
  (c29 rf y1.1 (d2.length:Int)).bind fun y2 =>
  (c30 rf y2).bind fun y3 =>
  bif (Nat.ble (d2.length + 1) j8) && true then
   (c28 rf y3.1 ([59]:List UInt8)).bind fun y4 =>
   (c25 rf y4).bind fun y5 =>
   bif !y5.2 then
   some (.inl (y5.1,d2 ++ [y3.2]))
   else
   k52 rb y5.1 (d2 ++ [y3.2])
  else
   none
 else
  some (.inr y1.1)
theorem d9I:EqB 52 (W2 b52):=fun _ _ _ => by kernel_rfl
def r64 (rf:T.RF) (rb:T.RB) (d1:List XK × Int × Int × Int):Option ((List XK × Int × Int × Int) × List XPm) :=
 (k52 rb d1 []).bind fun z1 =>
 match z1 with
 | .inl u2 =>
   some u2
 | .inr w3 =>
   some (w3,[])
theorem e0F:EqF 64 fun a b => r64 a b:=fun _ _ _ => by kernel_rfl
def b54 (rf:T.RF) (rb:T.RB) (d1:List XK × Int × Int × Int) (d2:List XEq):Option ((List XK × Int × Int × Int) × List XEq) :=
 (c25 rf d1).bind fun y1 =>
 bif y1.2 then
  (c29 rf y1.1 (d2.length:Int)).bind fun y2 =>
  (c24 rf y2).bind fun y3 =>
  (c28 rf y3.1 ([61]:List UInt8)).bind fun y4 =>
  (c34 rf y4).bind fun y5 =>
  (c28 rf y5.1 ([59]:List UInt8)).bind fun y6 =>
  bif (Nat.ble (d2.length + 1) j8) && true then
   k54 rb y6 (d2 ++ [(y3.2,y5.2)])
  else
   none
 else
  some (y1.1,d2)
theorem d9J:EqB 54 (W2 b54):=fun _ _ _ => by kernel_rfl
def r65 (rf:T.RF) (rb:T.RB) (d1:List XK × Int × Int × Int):Option ((List XK × Int × Int × Int) × List XEq) :=
 (k54 rb d1 []).bind fun z1 =>
 (c28 rf z1.1 ([116,101,108]:List UInt8)).bind fun y2 =>
 some (y2,z1.2)
theorem e0G:EqF 65 fun a b => r65 a b:=fun _ _ _ => by kernel_rfl
def r20 (rf:T.RF) (rb:T.RB) (d1:List XK × Int × Int × Int):Option ((List XK × Int × Int × Int) × XUn) :=
 (c21 rf d1 ([99,111,110,116,114,97,99,116]:List UInt8)).bind fun y1 =>
 bif y1.2 then
  (c24 rf y1.1).bind fun y2 =>
  (c27 rf y2.1).bind fun y3 =>
  (c31 rf y3.1).bind fun y4 =>
  some (y4.1,true,y2.2,y3.2,([]:List UInt8),0,[],[],y4.2)
 else
  (c28 rf y1.1 ([110,111,100,101]:List UInt8)).bind fun y5 =>
  (c24 rf y5).bind fun y6 =>
  (c27 rf y6.1).bind fun y7 =>
  (c28 rf y7.1 ([114,101,116,117,114,110,115]:List UInt8)).bind fun y8 =>
  (c28 rf y8 ([40]:List UInt8)).bind fun y9 =>
  (c30 rf y9).bind fun y10 =>
  (c28 rf y10.1 ([41]:List UInt8)).bind fun y11 =>
  (c21 rf y11 ([99,111,110,116,114,97,99,116]:List UInt8)).bind fun y12 =>
  bif y12.2 then
   (c31 rf y12.1).bind fun y13 =>
   (c21 rf y13.1 ([118,97,114]:List UInt8)).bind fun y14 =>
   bif y14.2 then
   (c64 rf y14.1).bind fun y15 =>
   (c28 rf y15.1 ([108,101,116]:List UInt8)).bind fun y16 =>
   (c65 rf y16).bind fun y17 =>
   some (y17.1,false,y6.2,y7.2,y10.2.1,y10.2.2,y15.2,y17.2,y13.2)
   else
   (c28 rf y14.1 ([108,101,116]:List UInt8)).bind fun y18 =>
   (c65 rf y18).bind fun y19 =>
   some (y19.1,false,y6.2,y7.2,y10.2.1,y10.2.2,[],y19.2,y13.2)
  else
   (c21 rf y12.1 ([118,97,114]:List UInt8)).bind fun y20 =>
   bif y20.2 then
   (c64 rf y20.1).bind fun y21 =>
   (c28 rf y21.1 ([108,101,116]:List UInt8)).bind fun y22 =>
   (c65 rf y22).bind fun y23 =>
   some (y23.1,false,y6.2,y7.2,y10.2.1,y10.2.2,y21.2,y23.2,[])
   else
   (c28 rf y20.1 ([108,101,116]:List UInt8)).bind fun y24 =>
   (c65 rf y24).bind fun y25 =>
   some (y25.1,false,y6.2,y7.2,y10.2.1,y10.2.2,[],y25.2,[])
theorem d9U:EqF 20 fun a b => r20 a b:=fun _ _ _ => by kernel_rfl
def d1j (rf:T.RF) (rb:T.RB) (d1:List XK × Int × Int × Int) (d2 d3:List UInt8) (d4:List XUn):Option ((List XK × Int × Int × Int) × List UInt8 × List UInt8 × List XUn) :=
 (c22 rf d1 ([110,111,100,101]:List UInt8)).bind fun y1 =>
 bif y1.2 then
  (c29 rf y1.1 (d4.length:Int)).bind fun y2 =>
  l0 (
   (c20 rf y2).bind fun y3 =>
   bif (Nat.ble (d4.length + 1) j8) && true then
   k69 rb y3.1 d2 d3 (d4 ++ [y3.2])
   else
   none
  ) (
   (c20 rf y2).bind fun y3 =>
   agN 1 (
   bif (Nat.ble (d4.length + 1) j8) && true then
   k69 rb y3.1 d2 d3 (d4 ++ [y3.2])
   else
   none
   )
  )
 else
  (c22 rf y1.1 ([99,111,110,116,114,97,99,116]:List UInt8)).bind fun y4 =>
  bif y4.2 then
   (c29 rf y4.1 (d4.length:Int)).bind fun y5 =>
   l0 (
   (c20 rf y5).bind fun y6 =>
   bif (Nat.ble (d4.length + 1) j8) && true then
   k69 rb y6.1 d2 d3 (d4 ++ [y6.2])
   else
   none
   ) (
   (c20 rf y5).bind fun y6 =>
   agN 1 (
   bif (Nat.ble (d4.length + 1) j8) && true then
   k69 rb y6.1 d2 d3 (d4 ++ [y6.2])
   else
   none
   )
   )
  else
   some (y4.1,d2,d3,d4)
def b69 (rf:T.RF) (rb:T.RB) (d1:List XK × Int × Int × Int) (d2 d3:List UInt8) (d4:List XUn):Option ((List XK × Int × Int × Int) × List UInt8 × List UInt8 × List XUn) :=
 (c22 rf d1 ([110,111,100,101]:List UInt8)).bind fun y1 =>
 bif y1.2 then
  (c29 rf y1.1 (d4.length:Int)).bind fun y2 =>
  (c20 rf y2).bind fun y3 =>
  bif (Nat.ble (d4.length + 1) j8) && true then
   k69 rb y3.1 d2 d3 (d4 ++ [y3.2])
  else
   none
 else
  (c22 rf y1.1 ([99,111,110,116,114,97,99,116]:List UInt8)).bind fun y4 =>
  bif y4.2 then
   (c29 rf y4.1 (d4.length:Int)).bind fun y5 =>
   (c20 rf y5).bind fun y6 =>
   bif (Nat.ble (d4.length + 1) j8) && true then
   k69 rb y6.1 d2 d3 (d4 ++ [y6.2])
   else
   none
  else
   some (y4.1,d2,d3,d4)
theorem d9K:EqB 69 (W4 d1j):=fun _ _ _ => by kernel_rfl
theorem e3l (rf rb d1 d2 d3 d4):d1j rf rb d1 d2 d3 d4 = b69 rf rb d1 d2 d3 d4:=by
 unfold d1j b69; simp only [C9,l5,p9]
def d1k (rf:T.RF) (rb:T.RB) (d1 d2:List UInt8) (d3:Int × Int) (d4:List XK × Int × Int × Int) (d5 d6:List UInt8) (d7 d8:List XUn):Option ((List UInt8 × List UInt8 × (Int × Int) × (List XK × Int × Int × Int) × List UInt8 × List UInt8 × List XUn × List XUn × List XUn) ⊕ (List UInt8 × List UInt8 × (Int × Int) × (List XK × Int × Int × Int) × List UInt8 × List UInt8 × List XUn × List XUn)) :=
 (c23 rf d4).bind fun y1 =>
 bif y1.2 then
  agN 1 (
   bif decide (y1.1.2.1 < (y1.1.1.length:Int)) then
   (c26 rf y1.1 5).bind fun y2 =>
   (c23 rf y2).bind fun y3 =>
   bif !y3.2 then
   some (.inl (([]:List UInt8),([]:List UInt8),y3.1.2.2,y3.1,d5,d6,d7,d8,[]))
   else
   some (.inr (d5,d6,(0,0),y3.1,d5,d6,d7,d8))
   else
   (c23 rf y1.1).bind fun y4 =>
   bif !y4.2 then
   some (.inl (([]:List UInt8),([]:List UInt8),y4.1.2.2,y4.1,d5,d6,d7,d8,[]))
   else
   some (.inr (d5,d6,(0,0),y4.1,d5,d6,d7,d8))
  )
 else
  agN 1 (
   (c23 rf y1.1).bind fun y5 =>
   bif !y5.2 then
   some (.inl (([]:List UInt8),([]:List UInt8),y5.1.2.2,y5.1,d5,d6,d7,d8,[]))
   else
   some (.inr (d5,d6,(0,0),y5.1,d5,d6,d7,d8))
  )
def b70 (rf:T.RF) (rb:T.RB) (d1 d2:List UInt8) (d3:Int × Int) (d4:List XK × Int × Int × Int) (d5 d6:List UInt8) (d7 d8:List XUn):Option ((List UInt8 × List UInt8 × (Int × Int) × (List XK × Int × Int × Int) × List UInt8 × List UInt8 × List XUn × List XUn × List XUn) ⊕ (List UInt8 × List UInt8 × (Int × Int) × (List XK × Int × Int × Int) × List UInt8 × List UInt8 × List XUn × List XUn)) :=
 (c23 rf d4).bind fun y1 =>
 bif y1.2 then
  bif decide (y1.1.2.1 < (y1.1.1.length:Int)) then
   (c26 rf y1.1 5).bind fun y2 =>
   (c23 rf y2).bind fun y3 =>
   bif !y3.2 then
   some (.inl (([]:List UInt8),([]:List UInt8),y3.1.2.2,y3.1,d5,d6,d7,d8,[]))
   else
   some (.inr (d5,d6,(0,0),y3.1,d5,d6,d7,d8))
  else
   (c23 rf y1.1).bind fun y4 =>
   bif !y4.2 then
   some (.inl (([]:List UInt8),([]:List UInt8),y4.1.2.2,y4.1,d5,d6,d7,d8,[]))
   else
   some (.inr (d5,d6,(0,0),y4.1,d5,d6,d7,d8))
 else
  (c23 rf y1.1).bind fun y5 =>
  bif !y5.2 then
   some (.inl (([]:List UInt8),([]:List UInt8),y5.1.2.2,y5.1,d5,d6,d7,d8,[]))
  else
   some (.inr (d5,d6,(0,0),y5.1,d5,d6,d7,d8))
theorem d9L:EqB 70 (W8 d1k):=fun _ _ _ => by kernel_rfl
theorem e3m (rf rb d1 d2 d3 d4 d5 d6 d7 d8):d1k rf rb d1 d2 d3 d4 d5 d6 d7 d8 = b70 rf rb d1 d2 d3 d4 d5 d6 d7 d8:=by
 unfold d1k b70; simp only [C9,l5,p9]
def r3 (rf:T.RF) (rb:T.RB) (d1:List UInt8):Option (XPg × Int × Int) :=
 (c4 rf d1).bind fun y1 =>
 bif y1.2.1 != 0 then
  some (([],([]:List UInt8),([]:List UInt8)),y1.2)
 else
  (k69 rb (y1.1,0,0,0) ([]:List UInt8) ([]:List UInt8) []).bind fun z2 =>
  (c28 rf z2.1 ([109,97,105,110]:List UInt8)).bind fun y3 =>
  (c24 rf y3).bind fun y4 =>
  (c28 rf y4.1 ([59]:List UInt8)).bind fun y5 =>
  (c21 rf y5 ([102,97,108,108,98,97,99,107]:List UInt8)).bind fun y6 =>
  bif y6.2 then
   (c24 rf y6.1).bind fun y7 =>
   (c28 rf y7.1 ([59]:List UInt8)).bind fun y8 =>
   (k70 rb ([]:List UInt8) ([]:List UInt8) (0,0) y8 y4.2 y7.2 [] z2.2.2.2).bind fun z9 =>
   match z9 with
   | .inl u10 =>
     some ((u10.2.2.2.2.2.2.2.2,u10.1,u10.2.1),u10.2.2.1)
   | .inr w11 =>
     some ((w11.2.2.2.2.2.2.2,w11.1,w11.2.1),w11.2.2.1)
  else
   (k70 rb ([]:List UInt8) ([]:List UInt8) (0,0) y6.1 y4.2 z2.2.2.1 [] z2.2.2.2).bind fun z12 =>
   match z12 with
   | .inl u13 =>
     some ((u13.2.2.2.2.2.2.2.2,u13.1,u13.2.1),u13.2.2.1)
   | .inr w14 =>
     some ((w14.2.2.2.2.2.2.2,w14.1,w14.2.1),w14.2.2.1)
theorem er3:EqF 3 fun a b => r3 a b:=fun _ _ _ => by kernel_rfl
def r67 (rf:T.RF) (rb:T.RB):Option Unit :=
 none
theorem e0H:EqF 67 (W0 r67):=fun _ _ _ => by kernel_rfl
def r70 (rf:T.RF) (rb:T.RB) (d1:List UInt8):Option (List UInt8) :=
 some (a2B d1)
theorem d4c:EqF 70 fun a b => r70 a b:=fun _ _ _ => by kernel_rfl
theorem e2L:IF1 r70 c70:=fun h => d4c.o h
def r71 (rf:T.RF) (rb:T.RB) (d1:Int):Option Bool :=
 bif decide (d1 ≥ 48) then
  some (decide (d1 ≤ 57))
 else
  some false
theorem d4d:EqF 71 fun a b => r71 a b:=fun _ _ _ => by kernel_rfl
theorem e2M:IF1 r71 c71:=fun h => d4d.o h
def r75 (rf:T.RF) (rb:T.RB) (d1:List UInt8):Option Bool :=
 some (!(d1 == d1))
theorem d4h:EqF 75 fun a b => r75 a b:=fun _ _ _ => by kernel_rfl
theorem e2P:IF1 r75 c75:=fun h => d4h.o h
def r74 (rf:T.RF) (rb:T.RB) (d1 d2:List UInt8):Option Bool :=
 (c75 rf d1).bind fun y1 =>
 bif y1 then
  (c75 rf d2).bind fun y2 =>
  bif !y2 then
   some true
  else
   some (ltB d1 d2)
 else
  some (ltB d1 d2)
theorem d4g:EqF 74 (W2 r74):=fun _ _ _ => by kernel_rfl
theorem e2O:IF2 r74 c74:=fun h => d4g.o h
def r76 (rf:T.RF) (rb:T.RB) (d1:List UInt8):Option Bool :=
 some (!(d1 == d1))
theorem d4i:EqF 76 fun a b => r76 a b:=fun _ _ _ => by kernel_rfl
theorem e2Q:IF1 r76 c76:=fun h => d4i.o h
def b71 (rf:T.RF) (rb:T.RB) (d1:List (List UInt8)) (d2:List UInt8) (d3 d4:Int):Option Int :=
 bif decide (d3 < d4) then
  bif inb (IntKind.i64.wrap (b2p IntKind.u64 (IntKind.u64.wrap (IntKind.i64.wrap (d3 + d4))) 1)) d1.length then
   (nth d1 (IntKind.i64.wrap (b2p IntKind.u64 (IntKind.u64.wrap (IntKind.i64.wrap (d3 + d4))) 1)).toNat).bind fun x1 =>
   (c74 rf x1 d2).bind fun y2 =>
   bif y2 then
   k71 rb d1 d2 (IntKind.i64.wrap ((IntKind.i64.wrap (b2p IntKind.u64 (IntKind.u64.wrap (IntKind.i64.wrap (d3 + d4))) 1)) + 1)) d4
   else
   k71 rb d1 d2 d3 (IntKind.i64.wrap (b2p IntKind.u64 (IntKind.u64.wrap (IntKind.i64.wrap (d3 + d4))) 1))
  else
   none
 else
  some d3
theorem d3x:EqB 71 (W4 b71):=fun _ _ _ => by kernel_rfl
theorem c4A:IB4 b71 k71:=fun h => d3x.o h
def r73 (rf:T.RF) (rb:T.RB) (d1:List (List UInt8)) (d2:List UInt8):Option (Int × Bool) :=
 (k71 rb d1 d2 0 (d1.length:Int)).bind fun z1 =>
 bif decide (z1 < (d1.length:Int)) then
  bif inb z1 d1.length then
   (nth d1 z1.toNat).bind fun x2 =>
   bif x2 == d2 then
   some (z1,true)
   else
   bif inb z1 d1.length then
   (nth d1 z1.toNat).bind fun x3 =>
   (c76 rf x3).bind fun y4 =>
   bif y4 then
   (c76 rf d2).bind fun y5 =>
   some (z1,y5)
   else
   some (z1,false)
   else
   none
  else
   none
 else
  some (z1,false)
theorem d4f:EqF 73 (W2 r73):=fun _ _ _ => by kernel_rfl
theorem d8z:IF2 r73 c73:=fun h => d4f.o h
def r72 (rf:T.RF) (rb:T.RB) (d1:List UInt8):Option Bool :=
 (c73 rf s6 d1).bind fun y1 =>
 some y1.2
theorem d4e:EqF 72 fun a b => r72 a b:=fun _ _ _ => by kernel_rfl
theorem e2N:IF1 r72 c72:=fun h => d4e.o h
def r69 (rf:T.RF) (rb:T.RB) (d1:List UInt8):Option Bool :=
 bif !(d1 == ([]:List UInt8)) then
  bif decide ((d1.length:Int) ≤ 40) then
   (c70 rf d1).bind fun y1 =>
   bif y1 == d1 then
   bif inb 0 d1.length then
   (nth d1 0).bind fun b2 =>
   (c71 rf (IntKind.i32.wrap (((b2.toNat:Nat):Int)))).bind fun y3 =>
   bif !y3 then
   (c72 rf d1).bind fun y4 =>
   some (!y4)
   else
   some false
   else
   none
   else
   some false
  else
   some false
 else
  some false
theorem d4b:EqF 69 fun a b => r69 a b:=fun _ _ _ => by kernel_rfl
theorem e2K:IF1 r69 c69:=fun h => d4b.o h
def r86 (rf:T.RF) (rb:T.RB) (d1:XPm):Option Bool :=
 (c69 rf d1.1).bind fun y1 =>
 bif y1 then
  bif d1.2 == 1 then
   some true
  else
   some (d1.2 == 2)
 else
  some false
theorem d4s:EqF 86 fun a b => r86 a b:=fun _ _ _ => by kernel_rfl
theorem e2Y:IF1 r86 c86:=fun h => d4s.o h
def r85 (rf:T.RF) (rb:T.RB) (d1:XPm):Option Bool :=
 (c86 rf d1).bind fun y1 =>
 some (!y1)
theorem d4r:EqF 85 fun a b => r85 a b:=fun _ _ _ => by kernel_rfl
theorem e2X:IF1 r85 c85:=fun h => d4r.o h
def b73 (rf:T.RF) (rb:T.RB) (d1:List XPm) (d2 d3:Int):Option (Int ⊕ Unit) :=
 bif decide (d3 < d2) then
  bif inb d3 d1.length then
   (nth d1 d3.toNat).bind fun x1 =>
   (c85 rf x1).bind fun y2 =>
   bif y2 then
   some (.inl d3)
   else
   k73 rb d1 d2 (IntKind.i64.wrap (d3 + 1))
  else
   none
 else
  some (.inr ())
theorem d3z:EqB 73 (W3 b73):=fun _ _ _ => by kernel_rfl
theorem d2g:IB3 b73 k73:=fun h => d3z.o h
def r84 (rf:T.RF) (rb:T.RB) (d1:List XPm):Option Int :=
 (k73 rb d1 (d1.length:Int) 0).bind fun z1 =>
 match z1 with
 | .inl u2 =>
   some u2
 | .inr w3 =>
   some (-1)
theorem d4q:EqF 84 fun a b => r84 a b:=fun _ _ _ => by kernel_rfl
theorem d8B:IF1 r84 c84:=fun h => d4q.o h
def r83 (rf:T.RF) (rb:T.RB) (d1:List XPm):Option Bool :=
 (c84 rf d1).bind fun y1 =>
 some (decide (y1 ≥ 0))
theorem d4p:EqF 83 fun a b => r83 a b:=fun _ _ _ => by kernel_rfl
theorem e2W:IF1 r83 c83:=fun h => d4p.o h
def r82 (rf:T.RF) (rb:T.RB) (d1:List XPm):Option Bool :=
 bif decide ((d1.length:Int) ≤ 200) then
  (c83 rf d1).bind fun y1 =>
  some (!y1)
 else
  some false
theorem d4o:EqF 82 fun a b => r82 a b:=fun _ _ _ => by kernel_rfl
theorem e2V:IF1 r82 c82:=fun h => d4o.o h
def r95 (rf:T.RF) (rb:T.RB) (d1:XN):Option (List Int) :=
 bif d1.1 == 26 then
  some [d1.2.1,d1.2.2.1,d1.2.2.2.1]
 else
 bif d1.1 == 28 then
  bif d1.2.2.1 != (-1) then
   some [d1.2.2.1,d1.2.1]
  else
  bif d1.1 == 27 then
   bif d1.2.1 == (-1) then
   some []
   else
   bif decide (d1.1 ≥ 6) then
   bif decide (d1.1 ≤ 20) then
   some [d1.2.1,d1.2.2.1]
   else
   bif d1.1 == 4 then
   some [d1.2.1]
   else
   bif d1.1 == 5 then
   some [d1.2.1]
   else
   bif decide (d1.1 ≥ 21) then
   bif decide (d1.1 ≤ 28) then
   some [d1.2.1]
   else
   some []
   else
   some []
   else
   bif d1.1 == 4 then
   some [d1.2.1]
   else
   bif d1.1 == 5 then
   some [d1.2.1]
   else
   bif decide (d1.1 ≥ 21) then
   bif decide (d1.1 ≤ 28) then
   some [d1.2.1]
   else
   some []
   else
   some []
  else
  bif decide (d1.1 ≥ 6) then
   bif decide (d1.1 ≤ 20) then
   some [d1.2.1,d1.2.2.1]
   else
   bif d1.1 == 4 then
   some [d1.2.1]
   else
   bif d1.1 == 5 then
   some [d1.2.1]
   else
   bif decide (d1.1 ≥ 21) then
   bif decide (d1.1 ≤ 28) then
   some [d1.2.1]
   else
   some []
   else
   some []
  else
  bif d1.1 == 4 then
   some [d1.2.1]
  else
  bif d1.1 == 5 then
   some [d1.2.1]
  else
  bif decide (d1.1 ≥ 21) then
   bif decide (d1.1 ≤ 28) then
   some [d1.2.1]
   else
   some []
  else
   some []
 else
 bif d1.1 == 27 then
  bif d1.2.1 == (-1) then
   some []
  else
  bif decide (d1.1 ≥ 6) then
   bif decide (d1.1 ≤ 20) then
   some [d1.2.1,d1.2.2.1]
   else
   bif d1.1 == 4 then
   some [d1.2.1]
   else
   bif d1.1 == 5 then
   some [d1.2.1]
   else
   bif decide (d1.1 ≥ 21) then
   bif decide (d1.1 ≤ 28) then
   some [d1.2.1]
   else
   some []
   else
   some []
  else
  bif d1.1 == 4 then
   some [d1.2.1]
  else
  bif d1.1 == 5 then
   some [d1.2.1]
  else
  bif decide (d1.1 ≥ 21) then
   bif decide (d1.1 ≤ 28) then
   some [d1.2.1]
   else
   some []
  else
   some []
 else
 bif decide (d1.1 ≥ 6) then
  bif decide (d1.1 ≤ 20) then
   some [d1.2.1,d1.2.2.1]
  else
  bif d1.1 == 4 then
   some [d1.2.1]
  else
  bif d1.1 == 5 then
   some [d1.2.1]
  else
  bif decide (d1.1 ≥ 21) then
   bif decide (d1.1 ≤ 28) then
   some [d1.2.1]
   else
   some []
  else
   some []
 else
 bif d1.1 == 4 then
  some [d1.2.1]
 else
 bif d1.1 == 5 then
  some [d1.2.1]
 else
 bif decide (d1.1 ≥ 21) then
  bif decide (d1.1 ≤ 28) then
   some [d1.2.1]
  else
   some []
 else
  some []
theorem d4B:EqF 95 fun a b => r95 a b:=fun _ _ _ => by kernel_rfl
theorem e3g:IF1 r95 c95:=fun h => d4B.o h
def r96 (rf:T.RF) (rb:T.RB) (d1:XN) (d2:List Int):Option XN :=
 bif d1.1 == 28 then
  bif (d2.length:Int) == 2 then
   bif inb 0 d2.length then
   (nth d2 0).bind fun x1 =>
   bif inb 1 d2.length then
   (nth d2 1).bind fun x2 =>
   some (d1.1,x2,x1,d1.2.2.2)
   else
   none
   else
   none
  else
  bif decide (0 < (d2.length:Int)) then
   bif inb 0 d2.length then
   (nth d2 0).bind fun x3 =>
   bif decide (1 < (d2.length:Int)) then
   bif inb 1 d2.length then
   (nth d2 1).bind fun x4 =>
   bif decide (2 < (d2.length:Int)) then
   bif inb 2 d2.length then
   (nth d2 2).bind fun x5 =>
   some (d1.1,x3,x4,x5,d1.2.2.2.2)
   else
   none
   else
   some (d1.1,x3,x4,d1.2.2.2)
   else
   none
   else
   bif decide (2 < (d2.length:Int)) then
   bif inb 2 d2.length then
   (nth d2 2).bind fun x6 =>
   some (d1.1,x3,d1.2.2.1,x6,d1.2.2.2.2)
   else
   none
   else
   some (d1.1,x3,d1.2.2)
   else
   none
  else
  bif decide (1 < (d2.length:Int)) then
   bif inb 1 d2.length then
   (nth d2 1).bind fun x7 =>
   bif decide (2 < (d2.length:Int)) then
   bif inb 2 d2.length then
   (nth d2 2).bind fun x8 =>
   some (d1.1,d1.2.1,x7,x8,d1.2.2.2.2)
   else
   none
   else
   some (d1.1,d1.2.1,x7,d1.2.2.2)
   else
   none
  else
  bif decide (2 < (d2.length:Int)) then
   bif inb 2 d2.length then
   (nth d2 2).bind fun x9 =>
   some (d1.1,d1.2.1,d1.2.2.1,x9,d1.2.2.2.2)
   else
   none
  else
   some d1
 else
 bif decide (0 < (d2.length:Int)) then
  bif inb 0 d2.length then
   (nth d2 0).bind fun x10 =>
   bif decide (1 < (d2.length:Int)) then
   bif inb 1 d2.length then
   (nth d2 1).bind fun x11 =>
   bif decide (2 < (d2.length:Int)) then
   bif inb 2 d2.length then
   (nth d2 2).bind fun x12 =>
   some (d1.1,x10,x11,x12,d1.2.2.2.2)
   else
   none
   else
   some (d1.1,x10,x11,d1.2.2.2)
   else
   none
   else
   bif decide (2 < (d2.length:Int)) then
   bif inb 2 d2.length then
   (nth d2 2).bind fun x13 =>
   some (d1.1,x10,d1.2.2.1,x13,d1.2.2.2.2)
   else
   none
   else
   some (d1.1,x10,d1.2.2)
  else
   none
 else
 bif decide (1 < (d2.length:Int)) then
  bif inb 1 d2.length then
   (nth d2 1).bind fun x14 =>
   bif decide (2 < (d2.length:Int)) then
   bif inb 2 d2.length then
   (nth d2 2).bind fun x15 =>
   some (d1.1,d1.2.1,x14,x15,d1.2.2.2.2)
   else
   none
   else
   some (d1.1,d1.2.1,x14,d1.2.2.2)
  else
   none
 else
 bif decide (2 < (d2.length:Int)) then
  bif inb 2 d2.length then
   (nth d2 2).bind fun x16 =>
   some (d1.1,d1.2.1,d1.2.2.1,x16,d1.2.2.2.2)
  else
   none
 else
  some d1
theorem d4C:EqF 96 (W2 r96):=fun _ _ _ => by kernel_rfl
theorem e3h:IF2 r96 c96:=fun h => d4C.o h
def d1l (rf:T.RF) (rb:T.RB) (d1:XN) (d2:Int):Option (XN × Bool) :=
 l0 (
  (c95 rf d1).bind fun y1 =>
  agN 1 (
   (c96 rf (d1.1,(-1),(-1),(-1),d1.2.2.2.2) y1).bind fun y2 =>
   (k77 rb d1 y2 d2).bind fun z3 =>
   some (z3.1,z3.2.2)
  )
 ) (
  (c95 rf d1).bind fun y1 =>
  (c96 rf (d1.1,(-1),(-1),(-1),d1.2.2.2.2) y1).bind fun y2 =>
  (k77 rb d1 y2 d2).bind fun z3 =>
  some (z3.1,z3.2.2)
 )
def b76 (rf:T.RF) (rb:T.RB) (d1:XN) (d2:Int):Option (XN × Bool) :=
 (c95 rf d1).bind fun y1 =>
 (c96 rf (d1.1,(-1),(-1),(-1),d1.2.2.2.2) y1).bind fun y2 =>
 (k77 rb d1 y2 d2).bind fun z3 =>
 some (z3.1,z3.2.2)
theorem d3C:EqB 76 (W2 d1l):=fun _ _ _ => by kernel_rfl
theorem d9m (rf rb d1 d2):d1l rf rb d1 d2 = b76 rf rb d1 d2:=by
 unfold d1l b76; simp only [C9,l5,p9]
theorem e2v {d1 d2 y} (h:b76 T.rf T.rb d1 d2 = some y):k76 T.rb d1 d2 = some y:=d3C.o ((d9m _ _ _ _).trans h)
def b77 (rf:T.RF) (rb:T.RB) (d1 d2:XN) (d3:Int):Option (XN × XN × Bool) :=
 bif d1.1 == 3 then
  bif decide (d1.1 ≥ 1) then
   bif decide (d1.1 ≤ 28) then
   bif (d1.1 == d2.1) && ((d1.2.1 == d2.2.1) && ((d1.2.2.1 == d2.2.2.1) && ((d1.2.2.2.1 == d2.2.2.2.1) && ((d1.2.2.2.2.1 == d2.2.2.2.2.1) && (d1.2.2.2.2.2 == d2.2.2.2.2.2))))) then
   bif decide (d1.2.2.2.2.1 ≥ 0) then
   bif decide (d1.2.2.2.2.1 ≤ d3) then
   some (d1,d2,(!(d1.2.2.2.2.2 == ([]:List UInt8))) == true)
   else
   some (d1,d2,false)
   else
   some (d1,d2,false)
   else
   some (d1,d2,false)
   else
   some (d1,d2,false)
  else
   some (d1,d2,false)
 else
 bif decide (d1.1 ≥ 1) then
  bif decide (d1.1 ≤ 28) then
   bif (d1.1 == d2.1) && ((d1.2.1 == d2.2.1) && ((d1.2.2.1 == d2.2.2.1) && ((d1.2.2.2.1 == d2.2.2.2.1) && ((d1.2.2.2.2.1 == d2.2.2.2.2.1) && (d1.2.2.2.2.2 == d2.2.2.2.2.2))))) then
   bif decide (d1.2.2.2.2.1 ≥ 0) then
   bif decide (d1.2.2.2.2.1 ≤ d3) then
   some (d1,d2,(!(d1.2.2.2.2.2 == ([]:List UInt8))) == (d1.1 == 27))
   else
   some (d1,d2,false)
   else
   some (d1,d2,false)
   else
   some (d1,d2,false)
  else
   some (d1,d2,false)
 else
  some (d1,d2,false)
theorem d3D:EqB 77 (W3 b77):=fun _ _ _ => by kernel_rfl
theorem e2w:IB3 b77 k77:=fun h => d3D.o h
def r94 (rf:T.RF) (rb:T.RB) (d1:XN):Option Bool :=
 bif d1.1 == 1 then
  (k76 rb d1 2147483647).bind fun z1 =>
  some z1.2
 else
 bif d1.1 == 2 then
  (k76 rb d1 1).bind fun z2 =>
  some z2.2
 else
 bif d1.1 == 25 then
  (k76 rb d1 1000).bind fun z3 =>
  some z3.2
 else
  (k76 rb d1 0).bind fun z4 =>
  some z4.2
theorem d4A:EqF 94 fun a b => r94 a b:=fun _ _ _ => by kernel_rfl
theorem e3f:IF1 r94 c94:=fun h => d4A.o h
def b79 (rf:T.RF) (rb:T.RB) (d1:List Bool) (d2:Bool) (d3 d4:Int):Option (Int ⊕ Unit) :=
 bif decide (d4 < d3) then
  bif inb d4 d1.length then
   (nth d1 d4.toNat).bind fun x1 =>
   bif d2 == x1 then
   some (.inl d4)
   else
   k79 rb d1 d2 d3 (IntKind.i64.wrap (d4 + 1))
  else
   none
 else
  some (.inr ())
theorem d3F:EqB 79 (W4 b79):=fun _ _ _ => by kernel_rfl
theorem d2i:IB4 b79 k79:=fun h => d3F.o h
def r98 (rf:T.RF) (rb:T.RB) (d1:List Bool) (d2:Bool):Option Int :=
 (k79 rb d1 d2 (d1.length:Int) 0).bind fun z1 =>
 match z1 with
 | .inl u2 =>
   some u2
 | .inr w3 =>
   some (-1)
theorem d4E:EqF 98 (W2 r98):=fun _ _ _ => by kernel_rfl
theorem e3j:IF2 r98 c98:=fun h => d4E.o h
def r97 (rf:T.RF) (rb:T.RB) (d1:List Bool) (d2:Bool):Option Bool :=
 (c98 rf d1 d2).bind fun y1 =>
 some (decide (y1 ≥ 0))
theorem d4D:EqF 97 (W2 r97):=fun _ _ _ => by kernel_rfl
theorem e3i:IF2 r97 c97:=fun h => d4D.o h
def b86 (rf:T.RF) (rb:T.RB) (d1:List Int) (d2:List XN) (d3 d4:Int):Option (List Int) :=
 bif decide (d4 < d3) then
  bif inb d4 d2.length then
   (nth d2 d4.toNat).bind fun x1 =>
   (c95 rf x1).bind fun y2 =>
   (k87 rb d1 y2 d4 (y2.length:Int) 0).bind fun z3 =>
   bif inb d4 z3.1.length then
   (nth z3.1 d4.toNat).bind fun x4 =>
   bif inb d4 z3.1.length then
   bif Nat.blt d4.toNat z3.1.length then
   k86 rb (l9 z3.1 d4.toNat (IntKind.i64.wrap (x4 + 1))) d2 d3 (IntKind.i64.wrap (d4 + 1))
   else
   none
   else
   none
   else
   none
  else
   none
 else
  some d1
theorem d3G:EqB 86 (W4 b86):=fun _ _ _ => by kernel_rfl
theorem d6V:IB4 b86 k86:=fun h => d3G.o h
def d1m (rf:T.RF) (rb:T.RB) (d1 d2:List Int) (d3 d4 d5:Int):Option (List Int × List Int) :=
 bif decide (d5 < d4) then
  bif inb d5 d2.length then
   (nth d2 d5.toNat).bind fun x1 =>
   bif decide (x1 ≥ 0) then
   bif decide (x1 < d3) then
   bif inb d3 d1.length then
   bif inb x1 d1.length then
   l0 (
   (nth d1 d3.toNat).bind fun x2 =>
   (nth d1 x1.toNat).bind fun x3 =>
   bif inb d3 d1.length then
   bif Nat.blt d3.toNat d1.length then
   k87 rb (l9 d1 d3.toNat (if x3 > x2 then x3 else x2)) d2 d3 d4 (IntKind.i64.wrap (d5 + 1))
   else
   none
   else
   none
   ) (
   (nth d1 x1.toNat).bind fun x2 =>
   (nth d1 d3.toNat).bind fun x3 =>
   bif inb d3 d1.length then
   bif Nat.blt d3.toNat d1.length then
   k87 rb (l9 d1 d3.toNat (if x2 > x3 then x2 else x3)) d2 d3 d4 (IntKind.i64.wrap (d5 + 1))
   else
   none
   else
   none
   )
   else
   none
   else
   none
   else
   k87 rb d1 d2 d3 d4 (IntKind.i64.wrap (d5 + 1))
   else
   k87 rb d1 d2 d3 d4 (IntKind.i64.wrap (d5 + 1))
  else
   none
 else
  some (d1,d2)
def b87 (rf:T.RF) (rb:T.RB) (d1 d2:List Int) (d3 d4 d5:Int):Option (List Int × List Int) :=
 bif decide (d5 < d4) then
  bif inb d5 d2.length then
   (nth d2 d5.toNat).bind fun x1 =>
   bif decide (x1 ≥ 0) then
   bif decide (x1 < d3) then
   bif inb d3 d1.length then
   bif inb x1 d1.length then
   (nth d1 d3.toNat).bind fun x2 =>
   (nth d1 x1.toNat).bind fun x3 =>
   bif inb d3 d1.length then
   bif Nat.blt d3.toNat d1.length then
   k87 rb (l9 d1 d3.toNat (if x3 > x2 then x3 else x2)) d2 d3 d4 (IntKind.i64.wrap (d5 + 1))
   else
   none
   else
   none
   else
   none
   else
   none
   else
   k87 rb d1 d2 d3 d4 (IntKind.i64.wrap (d5 + 1))
   else
   k87 rb d1 d2 d3 d4 (IntKind.i64.wrap (d5 + 1))
  else
   none
 else
  some (d1,d2)
theorem d3H:EqB 87 (W5 d1m):=fun _ _ _ => by kernel_rfl
theorem d9n (rf rb d1 d2 d3 d4 d5):d1m rf rb d1 d2 d3 d4 d5 = b87 rf rb d1 d2 d3 d4 d5:=by
 unfold d1m b87; simp only [C9,l5,p9]
theorem d6W {d1 d2 d3 d4 d5 y} (h:b87 T.rf T.rb d1 d2 d3 d4 d5 = some y):k87 T.rb d1 d2 d3 d4 d5 = some y:=d3H.o ((d9n _ _ _ _ _ _ _).trans h)
def c4H (rf:T.RF) (rb:T.RB) (d1:List XN):Option (List Int) :=
 bif E3 (d1.length:Int) j8 then
  bif E3 (d1.length:Int) d1.length then
   (k86 rb (List.replicate d1.length (0:Int)) d1 (d1.length:Int) 0).bind fun z1 =>
   some z1
  else
   none
 else
  none
theorem c7A:EqF 100 fun a b => c4H a b:=fun _ _ _ => by kernel_rfl
theorem d6X:IF1 c4H d1n:=fun h => c7A.o h
def r99 (rf:T.RF) (rb:T.RB) (d1:List XN):Option Int :=
 bif (d1.length:Int) == 0 then
  some 0
 else
  (d1n rf d1).bind fun y1 =>
  bif inb (IntKind.i64.wrap ((d1.length:Int) - 1)) y1.length then
   (nth y1 (IntKind.i64.wrap ((d1.length:Int) - 1)).toNat).bind fun x2 =>
   some x2
  else
   none
theorem d4F:EqF 99 fun a b => r99 a b:=fun _ _ _ => by kernel_rfl
theorem e3k:IF1 r99 c99:=fun h => d4F.o h
def b75 (rf:T.RF) (rb:T.RB) (d1:List Bool) (d2 d3:List XN) (d4 d5:Int):Option ((List Bool × Bool) ⊕ (List Bool)) :=
 bif decide (d5 < d4) then
  bif inb d5 d3.length then
   (nth d3 d5.toNat).bind fun x1 =>
   (c94 rf x1).bind fun y2 =>
   bif !y2 then
    some (.inl (d1,false))
   else
    (c95 rf x1).bind fun y3 =>
    (k78 rb d1 x1 y3 d2 d5 (y3.length:Int) 0).bind fun z4 =>
    match z4 with
    | .inl u5 =>
      some (.inl (u5.1,u5.2.2.2))
    | .inr w6 =>
      k75 rb w6.1 d2 d3 d4 (IntKind.i64.wrap (d5 + 1))
  else
   none
 else
  some (.inr d1)
theorem d3B:EqB 75 (W5 b75):=fun _ _ _ => by kernel_rfl
theorem c1k:IB5 b75 k75:=fun h => d3B.o h
def b78 (rf:T.RF) (rb:T.RB) (d1:List Bool) (d2:XN) (d3:List Int) (d4:List XN) (d5 d6 d7:Int):Option ((List Bool × XN × List Int × Bool) ⊕ (List Bool × XN × List Int)) :=
 bif decide (d7 < d6) then
  bif inb d7 d3.length then
   (nth d3 d7.toNat).bind fun x1 =>
   bif decide (x1 < 0) then
   some (.inl (d1,d2,d3,false))
   else
   bif decide (x1 ≥ d5) then
   some (.inl (d1,d2,d3,false))
   else
   bif inb x1 d1.length then
   (nth d1 x1.toNat).bind fun x2 =>
   bif x2 then
   some (.inl (d1,d2,d3,false))
   else
   bif inb x1 d1.length then
   bif Nat.blt x1.toNat d1.length then
   bif d2.1 == 27 then
   bif inb x1 d4.length then
   (nth d4 x1.toNat).bind fun x3 =>
   bif !((x3.1 == 28) == true) then
   some (.inl (l9 d1 x1.toNat true,d2,d3,false))
   else
   k78 rb (l9 d1 x1.toNat true) d2 d3 d4 d5 d6 (IntKind.i64.wrap (d7 + 1))
   else
   none
   else
   bif d2.1 == 28 then
   bif d2.2.2.1 != (-1) then
   bif inb x1 d4.length then
   (nth d4 x1.toNat).bind fun x4 =>
   bif !((x4.1 == 28) == (d7 == 0)) then
   some (.inl (l9 d1 x1.toNat true,d2,d3,false))
   else
   k78 rb (l9 d1 x1.toNat true) d2 d3 d4 d5 d6 (IntKind.i64.wrap (d7 + 1))
   else
   none
   else
   bif inb x1 d4.length then
   (nth d4 x1.toNat).bind fun x5 =>
   bif !((x5.1 == 28) == false) then
   some (.inl (l9 d1 x1.toNat true,d2,d3,false))
   else
   k78 rb (l9 d1 x1.toNat true) d2 d3 d4 d5 d6 (IntKind.i64.wrap (d7 + 1))
   else
   none
   else
   bif inb x1 d4.length then
   (nth d4 x1.toNat).bind fun x6 =>
   bif !((x6.1 == 28) == false) then
   some (.inl (l9 d1 x1.toNat true,d2,d3,false))
   else
   k78 rb (l9 d1 x1.toNat true) d2 d3 d4 d5 d6 (IntKind.i64.wrap (d7 + 1))
   else
   none
   else
   none
   else
   none
   else
   none
  else
   none
 else
  some (.inr (d1,d2,d3))
theorem d3E:EqB 78 (W7 b78):=fun _ _ _ => by kernel_rfl
theorem c4B:IB7 b78 k78:=fun h => d3E.o h
def r93 (rf:T.RF) (rb:T.RB) (d1:List XN):Option Bool :=
 bif (d1.length:Int) == 0 then
  some false
 else
 bif decide ((d1.length:Int) > 5000) then
  some false
 else
 bif inb (IntKind.i64.wrap ((d1.length:Int) - 1)) d1.length then
  (nth d1 (IntKind.i64.wrap ((d1.length:Int) - 1)).toNat).bind fun x1 =>
  bif x1.1 == 28 then
   some false
  else
  bif E3 (d1.length:Int) j8 then
   bif E3 (d1.length:Int) d1.length then
    (k75 rb (List.replicate d1.length false) d1 d1 (d1.length:Int) 0).bind fun z2 =>
    match z2 with
    | .inl u3 =>
      some u3.2
    | .inr w4 =>
      bif E3 (IntKind.i64.wrap ((d1.length:Int) - 1)) w4.length then
       (c97 rf (sub w4 (some (0,((IntKind.i64.wrap ((d1.length:Int) - 1)).toNat - 0)))) false).bind fun y5 =>
       bif !y5 then
        (c99 rf d1).bind fun y6 =>
        some (decide (y6 ≤ 40))
       else
        some false
      else
       none
   else
    none
  else
   none
 else
  none
theorem d4z:EqF 93 fun a b => r93 a b:=fun _ _ _ => by kernel_rfl
theorem e3e:IF1 r93 c93:=fun h => d4z.o h
def c4I (rf:T.RF) (rb:T.RB) (d1:XN):Option Bool :=
 bif !(d1.2.2.2.2.2 == ([]:List UInt8)) then
  (c69 rf d1.2.2.2.2.2).bind fun y1 =>
  some (!y1)
 else
  some false
theorem c7D:EqF 103 fun a b => c4I a b:=fun _ _ _ => by kernel_rfl
theorem d6Z:IF1 c4I d1p:=fun h => c7D.o h
def b88 (rf:T.RF) (rb:T.RB) (d1:List XN) (d2 d3:Int):Option (Int ⊕ Unit) :=
 bif decide (d3 < d2) then
  bif inb d3 d1.length then
   (nth d1 d3.toNat).bind fun x1 =>
   (d1p rf x1).bind fun y2 =>
   bif y2 then
   some (.inl d3)
   else
   k88 rb d1 d2 (IntKind.i64.wrap (d3 + 1))
  else
   none
 else
  some (.inr ())
theorem d3I:EqB 88 (W3 b88):=fun _ _ _ => by kernel_rfl
theorem d2j:IB3 b88 k88:=fun h => d3I.o h
def c1K (rf:T.RF) (rb:T.RB) (d1:List XN):Option Int :=
 (k88 rb d1 (d1.length:Int) 0).bind fun z1 =>
 match z1 with
 | .inl u2 =>
   some u2
 | .inr w3 =>
   some (-1)
theorem c7C:EqF 102 fun a b => c1K a b:=fun _ _ _ => by kernel_rfl
theorem d0u:IF1 c1K c3e:=fun h => c7C.o h
def c1J (rf:T.RF) (rb:T.RB) (d1:List XN):Option Bool :=
 (c3e rf d1).bind fun y1 =>
 some (decide (y1 ≥ 0))
theorem c7B:EqF 101 fun a b => c1J a b:=fun _ _ _ => by kernel_rfl
theorem d6Y:IF1 c1J d1o:=fun h => c7B.o h
def r92 (rf:T.RF) (rb:T.RB) (d1:List XN):Option Bool :=
 (c93 rf d1).bind fun y1 =>
 bif y1 then
  (d1o rf d1).bind fun y2 =>
  some (!y2)
 else
  some false
theorem d4y:EqF 92 fun a b => r92 a b:=fun _ _ _ => by kernel_rfl
theorem e3d:IF1 r92 c92:=fun h => d4y.o h
def r91 (rf:T.RF) (rb:T.RB) (d1:XEq):Option Bool :=
 (c69 rf d1.1).bind fun y1 =>
 bif y1 then
  (c92 rf d1.2).bind fun y2 =>
  some y2
 else
  some false
theorem d4x:EqF 91 fun a b => r91 a b:=fun _ _ _ => by kernel_rfl
theorem e3c:IF1 r91 c91:=fun h => d4x.o h
def r90 (rf:T.RF) (rb:T.RB) (d1:XEq):Option Bool :=
 (c91 rf d1).bind fun y1 =>
 some (!y1)
theorem d4w:EqF 90 fun a b => r90 a b:=fun _ _ _ => by kernel_rfl
theorem e3b:IF1 r90 c90:=fun h => d4w.o h
def b74 (rf:T.RF) (rb:T.RB) (d1:List XEq) (d2 d3:Int):Option (Int ⊕ Unit) :=
 bif decide (d3 < d2) then
  bif inb d3 d1.length then
   (nth d1 d3.toNat).bind fun x1 =>
   (c90 rf x1).bind fun y2 =>
   bif y2 then
   some (.inl d3)
   else
   k74 rb d1 d2 (IntKind.i64.wrap (d3 + 1))
  else
   none
 else
  some (.inr ())
theorem d3A:EqB 74 (W3 b74):=fun _ _ _ => by kernel_rfl
theorem d2h:IB3 b74 k74:=fun h => d3A.o h
def r89 (rf:T.RF) (rb:T.RB) (d1:List XEq):Option Int :=
 (k74 rb d1 (d1.length:Int) 0).bind fun z1 =>
 match z1 with
 | .inl u2 =>
   some u2
 | .inr w3 =>
   some (-1)
theorem d4v:EqF 89 fun a b => r89 a b:=fun _ _ _ => by kernel_rfl
theorem d8C:IF1 r89 c89:=fun h => d4v.o h
def r88 (rf:T.RF) (rb:T.RB) (d1:List XEq):Option Bool :=
 (c89 rf d1).bind fun y1 =>
 some (decide (y1 ≥ 0))
theorem d4u:EqF 88 fun a b => r88 a b:=fun _ _ _ => by kernel_rfl
theorem e3a:IF1 r88 c88:=fun h => d4u.o h
def r87 (rf:T.RF) (rb:T.RB) (d1:List XEq):Option Bool :=
 bif decide ((d1.length:Int) ≤ 200) then
  (c88 rf d1).bind fun y1 =>
  some (!y1)
 else
  some false
theorem d4t:EqF 87 fun a b => r87 a b:=fun _ _ _ => by kernel_rfl
theorem e2Z:IF1 r87 c87:=fun h => d4t.o h
def c4L (rf:T.RF) (rb:T.RB) (d1:List XN):Option Bool :=
 (c92 rf d1).bind fun y1 =>
 some (!y1)
theorem c7M:EqF 112 fun a b => c4L a b:=fun _ _ _ => by kernel_rfl
theorem d7g:IF1 c4L d1u:=fun h => c7M.o h
def b90 (rf:T.RF) (rb:T.RB) (d1:List (List XN)) (d2 d3:Int):Option (Int ⊕ Unit) :=
 bif decide (d3 < d2) then
  bif inb d3 d1.length then
   (nth d1 d3.toNat).bind fun x1 =>
   (d1u rf x1).bind fun y2 =>
   bif y2 then
   some (.inl d3)
   else
   k90 rb d1 d2 (IntKind.i64.wrap (d3 + 1))
  else
   none
 else
  some (.inr ())
theorem d3K:EqB 90 (W3 b90):=fun _ _ _ => by kernel_rfl
theorem d2l:IB3 b90 k90:=fun h => d3K.o h
def c1Q (rf:T.RF) (rb:T.RB) (d1:List (List XN)):Option Int :=
 (k90 rb d1 (d1.length:Int) 0).bind fun z1 =>
 match z1 with
 | .inl u2 =>
   some u2
 | .inr w3 =>
   some (-1)
theorem c7L:EqF 111 fun a b => c1Q a b:=fun _ _ _ => by kernel_rfl
theorem d0w:IF1 c1Q c3g:=fun h => c7L.o h
def c1P (rf:T.RF) (rb:T.RB) (d1:List (List XN)):Option Bool :=
 (c3g rf d1).bind fun y1 =>
 some (decide (y1 ≥ 0))
theorem c7K:EqF 110 fun a b => c1P a b:=fun _ _ _ => by kernel_rfl
theorem d7f:IF1 c1P d1t:=fun h => c7K.o h
def c1O (rf:T.RF) (rb:T.RB) (d1:List (List XN)):Option Bool :=
 bif decide ((d1.length:Int) ≤ 200) then
  (d1t rf d1).bind fun y1 =>
  some (!y1)
 else
  some false
theorem c7J:EqF 109 fun a b => c1O a b:=fun _ _ _ => by kernel_rfl
theorem d7e:IF1 c1O b7r:=fun h => c7J.o h
def c4K (rf:T.RF) (rb:T.RB) (d1:XIt):Option Bool :=
 (c69 rf d1.2.1).bind fun y1 =>
 bif d1.2.2.1 == 1 then
  bif d1.1 == 1 then
   bif d1.1 == 1 then
   bif d1.2.1 == ([]:List UInt8) then
   bif d1.2.2.1 == 0 then
   (c92 rf d1.2.2.2.1).bind fun y2 =>
   bif y2 then
   some ((IntKind.i64.wrap ((d1.2.2.2.2.1.length:Int) + (d1.2.2.2.2.2.length:Int))) == 0)
   else
   some false
   else
   some false
   else
   some false
   else
   bif d1.1 == 3 then
   bif y1 then
   (c92 rf d1.2.2.2.1).bind fun y3 =>
   bif y3 then
   some ((IntKind.i64.wrap ((d1.2.2.2.2.1.length:Int) + (d1.2.2.2.2.2.length:Int))) == 0)
   else
   some false
   else
   some false
   else
   bif d1.1 == 4 then
   bif y1 then
   bif d1.2.2.1 == 0 then
   (c92 rf d1.2.2.2.1).bind fun y4 =>
   bif y4 then
   (c92 rf d1.2.2.2.2.1).bind fun y5 =>
   bif y5 then
   some ((d1.2.2.2.2.2.length:Int) == 0)
   else
   some false
   else
   some false
   else
   some false
   else
   some false
   else
   bif d1.1 == 5 then
   bif y1 then
   bif d1.2.2.1 == 0 then
   bif (IntKind.i64.wrap ((d1.2.2.2.1.length:Int) + (d1.2.2.2.2.1.length:Int))) == 0 then
   (b7r rf d1.2.2.2.2.2).bind fun y6 =>
   some y6
   else
   some false
   else
   some false
   else
   some false
   else
   some false
  else
  bif d1.1 == 2 then
   bif d1.2.1 == ([]:List UInt8) then
   bif d1.2.2.1 == 0 then
   (c92 rf d1.2.2.2.1).bind fun y7 =>
   bif y7 then
   some ((IntKind.i64.wrap ((d1.2.2.2.2.1.length:Int) + (d1.2.2.2.2.2.length:Int))) == 0)
   else
   some false
   else
   some false
   else
   some false
  else
  bif d1.1 == 3 then
   bif y1 then
   (c92 rf d1.2.2.2.1).bind fun y8 =>
   bif y8 then
   some ((IntKind.i64.wrap ((d1.2.2.2.2.1.length:Int) + (d1.2.2.2.2.2.length:Int))) == 0)
   else
   some false
   else
   some false
  else
  bif d1.1 == 4 then
   bif y1 then
   bif d1.2.2.1 == 0 then
   (c92 rf d1.2.2.2.1).bind fun y9 =>
   bif y9 then
   (c92 rf d1.2.2.2.2.1).bind fun y10 =>
   bif y10 then
   some ((d1.2.2.2.2.2.length:Int) == 0)
   else
   some false
   else
   some false
   else
   some false
   else
   some false
  else
  bif d1.1 == 5 then
   bif y1 then
   bif d1.2.2.1 == 0 then
   bif (IntKind.i64.wrap ((d1.2.2.2.1.length:Int) + (d1.2.2.2.2.1.length:Int))) == 0 then
   (b7r rf d1.2.2.2.2.2).bind fun y11 =>
   some y11
   else
   some false
   else
   some false
   else
   some false
  else
   some false
 else
 bif d1.1 == 1 then
  bif d1.1 == 1 then
   bif d1.2.1 == ([]:List UInt8) then
   bif d1.2.2.1 == 0 then
   (c92 rf d1.2.2.2.1).bind fun y12 =>
   bif y12 then
   some ((IntKind.i64.wrap ((d1.2.2.2.2.1.length:Int) + (d1.2.2.2.2.2.length:Int))) == 0)
   else
   some false
   else
   some false
   else
   some false
  else
  bif d1.1 == 3 then
   bif y1 then
   bif d1.2.2.1 == 2 then
   (c92 rf d1.2.2.2.1).bind fun y13 =>
   bif y13 then
   some ((IntKind.i64.wrap ((d1.2.2.2.2.1.length:Int) + (d1.2.2.2.2.2.length:Int))) == 0)
   else
   some false
   else
   some false
   else
   some false
  else
  bif d1.1 == 4 then
   bif y1 then
   bif d1.2.2.1 == 0 then
   (c92 rf d1.2.2.2.1).bind fun y14 =>
   bif y14 then
   (c92 rf d1.2.2.2.2.1).bind fun y15 =>
   bif y15 then
   some ((d1.2.2.2.2.2.length:Int) == 0)
   else
   some false
   else
   some false
   else
   some false
   else
   some false
  else
  bif d1.1 == 5 then
   bif y1 then
   bif d1.2.2.1 == 0 then
   bif (IntKind.i64.wrap ((d1.2.2.2.1.length:Int) + (d1.2.2.2.2.1.length:Int))) == 0 then
   (b7r rf d1.2.2.2.2.2).bind fun y16 =>
   some y16
   else
   some false
   else
   some false
   else
   some false
  else
   some false
 else
 bif d1.1 == 2 then
  bif d1.2.1 == ([]:List UInt8) then
   bif d1.2.2.1 == 0 then
   (c92 rf d1.2.2.2.1).bind fun y17 =>
   bif y17 then
   some ((IntKind.i64.wrap ((d1.2.2.2.2.1.length:Int) + (d1.2.2.2.2.2.length:Int))) == 0)
   else
   some false
   else
   some false
  else
   some false
 else
 bif d1.1 == 3 then
  bif y1 then
   bif d1.2.2.1 == 2 then
   (c92 rf d1.2.2.2.1).bind fun y18 =>
   bif y18 then
   some ((IntKind.i64.wrap ((d1.2.2.2.2.1.length:Int) + (d1.2.2.2.2.2.length:Int))) == 0)
   else
   some false
   else
   some false
  else
   some false
 else
 bif d1.1 == 4 then
  bif y1 then
   bif d1.2.2.1 == 0 then
   (c92 rf d1.2.2.2.1).bind fun y19 =>
   bif y19 then
   (c92 rf d1.2.2.2.2.1).bind fun y20 =>
   bif y20 then
   some ((d1.2.2.2.2.2.length:Int) == 0)
   else
   some false
   else
   some false
   else
   some false
  else
   some false
 else
 bif d1.1 == 5 then
  bif y1 then
   bif d1.2.2.1 == 0 then
   bif (IntKind.i64.wrap ((d1.2.2.2.1.length:Int) + (d1.2.2.2.2.1.length:Int))) == 0 then
   (b7r rf d1.2.2.2.2.2).bind fun y21 =>
   some y21
   else
   some false
   else
   some false
  else
   some false
 else
  some false
theorem c7I:EqF 108 fun a b => c4K a b:=fun _ _ _ => by kernel_rfl
theorem d7d:IF1 c4K b9S:=fun h => c7I.o h
def c4J (rf:T.RF) (rb:T.RB) (d1:XIt):Option Bool :=
 (b9S rf d1).bind fun y1 =>
 some (!y1)
theorem c7H:EqF 107 fun a b => c4J a b:=fun _ _ _ => by kernel_rfl
theorem d7c:IF1 c4J d1s:=fun h => c7H.o h
def b89 (rf:T.RF) (rb:T.RB) (d1:List XIt) (d2 d3:Int):Option (Int ⊕ Unit) :=
 bif decide (d3 < d2) then
  bif inb d3 d1.length then
   (nth d1 d3.toNat).bind fun x1 =>
   (d1s rf x1).bind fun y2 =>
   bif y2 then
   some (.inl d3)
   else
   k89 rb d1 d2 (IntKind.i64.wrap (d3 + 1))
  else
   none
 else
  some (.inr ())
theorem d3J:EqB 89 (W3 b89):=fun _ _ _ => by kernel_rfl
theorem d2k:IB3 b89 k89:=fun h => d3J.o h
def c1N (rf:T.RF) (rb:T.RB) (d1:List XIt):Option Int :=
 (k89 rb d1 (d1.length:Int) 0).bind fun z1 =>
 match z1 with
 | .inl u2 =>
   some u2
 | .inr w3 =>
   some (-1)
theorem c7G:EqF 106 fun a b => c1N a b:=fun _ _ _ => by kernel_rfl
theorem d0v:IF1 c1N c3f:=fun h => c7G.o h
def c1M (rf:T.RF) (rb:T.RB) (d1:List XIt):Option Bool :=
 (c3f rf d1).bind fun y1 =>
 some (decide (y1 ≥ 0))
theorem c7F:EqF 105 fun a b => c1M a b:=fun _ _ _ => by kernel_rfl
theorem d7b:IF1 c1M d1r:=fun h => c7F.o h
def c1L (rf:T.RF) (rb:T.RB) (d1:List XIt):Option Bool :=
 bif decide ((d1.length:Int) ≤ 200) then
  (d1r rf d1).bind fun y1 =>
  some (!y1)
 else
  some false
theorem c7E:EqF 104 fun a b => c1L a b:=fun _ _ _ => by kernel_rfl
theorem d7a:IF1 c1L d1q:=fun h => c7E.o h
def r81 (rf:T.RF) (rb:T.RB) (d1:XUn):Option Bool :=
 (c69 rf d1.2.1).bind fun y1 =>
 bif !y1 then
  some false
 else
  (c82 rf d1.2.2.1).bind fun y2 =>
  bif !y2 then
   some false
  else
   (c82 rf d1.2.2.2.2.2.1).bind fun y3 =>
   bif !y3 then
   some false
   else
   (c87 rf d1.2.2.2.2.2.2.1).bind fun y4 =>
   bif !y4 then
   some false
   else
   (d1q rf d1.2.2.2.2.2.2.2).bind fun y5 =>
   bif !y5 then
   some false
   else
   bif d1.1 then
   bif (d1.2.2.2.1 == ([]:List UInt8)) && (d1.2.2.2.2.1 == 0) then
   some ((IntKind.i64.wrap ((d1.2.2.2.2.2.1.length:Int) + (d1.2.2.2.2.2.2.1.length:Int))) == 0)
   else
   some false
   else
   (c86 rf (d1.2.2.2.1,d1.2.2.2.2.1)).bind fun y6 =>
   some y6
theorem d4n:EqF 81 fun a b => r81 a b:=fun _ _ _ => by kernel_rfl
theorem e2U:IF1 r81 c81:=fun h => d4n.o h
def r80 (rf:T.RF) (rb:T.RB) (d1:XUn):Option Bool :=
 (c81 rf d1).bind fun y1 =>
 some (!y1)
theorem d4m:EqF 80 fun a b => r80 a b:=fun _ _ _ => by kernel_rfl
theorem e2T:IF1 r80 c80:=fun h => d4m.o h
def b72 (rf:T.RF) (rb:T.RB) (d1:List XUn) (d2 d3:Int):Option (Int ⊕ Unit) :=
 bif decide (d3 < d2) then
  bif inb d3 d1.length then
   (nth d1 d3.toNat).bind fun x1 =>
   (c80 rf x1).bind fun y2 =>
   bif y2 then
   some (.inl d3)
   else
   k72 rb d1 d2 (IntKind.i64.wrap (d3 + 1))
  else
   none
 else
  some (.inr ())
theorem d3y:EqB 72 (W3 b72):=fun _ _ _ => by kernel_rfl
theorem d2f:IB3 b72 k72:=fun h => d3y.o h
def r79 (rf:T.RF) (rb:T.RB) (d1:List XUn):Option Int :=
 (k72 rb d1 (d1.length:Int) 0).bind fun z1 =>
 match z1 with
 | .inl u2 =>
   some u2
 | .inr w3 =>
   some (-1)
theorem d4l:EqF 79 fun a b => r79 a b:=fun _ _ _ => by kernel_rfl
theorem d8A:IF1 r79 c79:=fun h => d4l.o h
def r78 (rf:T.RF) (rb:T.RB) (d1:List XUn):Option Bool :=
 (c79 rf d1).bind fun y1 =>
 some (decide (y1 ≥ 0))
theorem d4k:EqF 78 fun a b => r78 a b:=fun _ _ _ => by kernel_rfl
theorem e2S:IF1 r78 c78:=fun h => d4k.o h
def r77 (rf:T.RF) (rb:T.RB) (d1:List XUn):Option Bool :=
 bif decide ((d1.length:Int) ≤ 200) then
  (c78 rf d1).bind fun y1 =>
  some (!y1)
 else
  some false
theorem d4j:EqF 77 fun a b => r77 a b:=fun _ _ _ => by kernel_rfl
theorem e2R:IF1 r77 c77:=fun h => d4j.o h
def r68 (rf:T.RF) (rb:T.RB) (d1:XPg):Option Bool :=
 (c69 rf d1.2.1).bind fun y1 =>
 bif y1 then
  bif d1.2.2 == ([]:List UInt8) then
   (c77 rf d1.1).bind fun y2 =>
   some y2
  else
   (c69 rf d1.2.2).bind fun y3 =>
   bif y3 then
   (c77 rf d1.1).bind fun y4 =>
   some y4
   else
   some false
 else
  some false
theorem d4a:EqF 68 fun a b => r68 a b:=fun _ _ _ => by kernel_rfl
theorem e2J:IF1 r68 c68:=fun h => d4a.o h
def c1S (rf:T.RF) (rb:T.RB) (d1:List XUn):Option (List XUn) :=
 bif d1.isEmpty then
  l0 (
   some []
  ) (
   bif (Nat.ble (0 + d1.length) j8) && true then
   some ([] ++ d1)
   else
   none
  )
 else
 bif (Nat.ble (0 + d1.length) j8) && true then
  some ([] ++ d1)
 else
  none
def c1R (rf:T.RF) (rb:T.RB) (d1:List XUn):Option (List XUn) :=
 bif (Nat.ble (0 + d1.length) j8) && true then
  some ([] ++ d1)
 else
  none
theorem c7O:EqF 114 fun a b => c1S a b:=fun _ _ _ => by kernel_rfl
theorem d0V (rf rb d1):c1S rf rb d1 = c1R rf rb d1:=by
 unfold c1S c1R; cases d1 <;> first | exact l5 _ | rfl
theorem d7i {d1 y} (h:c1R T.rf T.rb d1 = some y):d1w T.rf d1 = some y:=c7O.o ((d0V _ _ _).trans h)
def c1U (rf:T.RF) (rb:T.RB) (d1:List XPm):Option (List XPm) :=
 bif d1.isEmpty then
  l0 (
   some []
  ) (
   bif (Nat.ble (0 + d1.length) j8) && true then
   some ([] ++ d1)
   else
   none
  )
 else
 bif (Nat.ble (0 + d1.length) j8) && true then
  some ([] ++ d1)
 else
  none
def c1T (rf:T.RF) (rb:T.RB) (d1:List XPm):Option (List XPm) :=
 bif (Nat.ble (0 + d1.length) j8) && true then
  some ([] ++ d1)
 else
  none
theorem c7P:EqF 115 fun a b => c1U a b:=fun _ _ _ => by kernel_rfl
theorem d0W (rf rb d1):c1U rf rb d1 = c1T rf rb d1:=by
 unfold c1U c1T; cases d1 <;> first | exact l5 _ | rfl
theorem d7j {d1 y} (h:c1T T.rf T.rb d1 = some y):N1 T.rf d1 = some y:=c7P.o ((d0W _ _ _).trans h)
def c1W (rf:T.RF) (rb:T.RB) (d1:List XEq):Option (List XEq) :=
 bif d1.isEmpty then
  l0 (
   some []
  ) (
   bif (Nat.ble (0 + d1.length) j8) && true then
   some ([] ++ d1)
   else
   none
  )
 else
 bif (Nat.ble (0 + d1.length) j8) && true then
  some ([] ++ d1)
 else
  none
def c1V (rf:T.RF) (rb:T.RB) (d1:List XEq):Option (List XEq) :=
 bif (Nat.ble (0 + d1.length) j8) && true then
  some ([] ++ d1)
 else
  none
theorem c7Q:EqF 116 fun a b => c1W a b:=fun _ _ _ => by kernel_rfl
theorem d0X (rf rb d1):c1W rf rb d1 = c1V rf rb d1:=by
 unfold c1W c1V; cases d1 <;> first | exact l5 _ | rfl
theorem d7k {d1 y} (h:c1V T.rf T.rb d1 = some y):a7M T.rf d1 = some y:=c7Q.o ((d0X _ _ _).trans h)
def c1Y (rf:T.RF) (rb:T.RB) (d1:List XIt):Option (List XIt) :=
 bif d1.isEmpty then
  l0 (
   some []
  ) (
   bif (Nat.ble (0 + d1.length) j8) && true then
   some ([] ++ d1)
   else
   none
  )
 else
 bif (Nat.ble (0 + d1.length) j8) && true then
  some ([] ++ d1)
 else
  none
def c1X (rf:T.RF) (rb:T.RB) (d1:List XIt):Option (List XIt) :=
 bif (Nat.ble (0 + d1.length) j8) && true then
  some ([] ++ d1)
 else
  none
theorem c7R:EqF 117 fun a b => c1Y a b:=fun _ _ _ => by kernel_rfl
theorem d0Y (rf rb d1):c1Y rf rb d1 = c1X rf rb d1:=by
 unfold c1Y c1X; cases d1 <;> first | exact l5 _ | rfl
theorem d7l {d1 y} (h:c1X T.rf T.rb d1 = some y):c3h T.rf d1 = some y:=c7R.o ((d0Y _ _ _).trans h)
def b8R (rf:T.RF) (rb:T.RB) (d1:List XN) (d2:List Int) (d3:List XN) (d4 d5:Int):Option (List Int × List XN) :=
 bif decide (d5 < d4) then
  bif inb d5 d2.length then
   (nth d2 d5.toNat).bind fun x1 =>
   (c3i rf d1 d3 x1).bind fun y2 =>
   bif inb d5 d2.length then
   bif Nat.blt d5.toNat d2.length then
   c3O rb y2 (l9 d2 d5.toNat (IntKind.i64.wrap ((y2.length:Int) - 1))) d3 d4 (IntKind.i64.wrap (d5 + 1))
   else
   none
   else
   none
  else
   none
 else
  some (d2,d1)
theorem c6c:EqB 100 (W5 b8R):=fun _ _ _ => by kernel_rfl
theorem c9m:IB5 b8R c3O:=fun h => c6c.o h
def c4P (rf:T.RF) (rb:T.RB) (d1 d2:List XN) (d3:Int):Option (List XN) :=
 bif inb d3 d2.length then
  (nth d2 d3.toNat).bind fun x1 =>
  (c95 rf x1).bind fun y2 =>
  (c3O rb d1 y2 d2 (y2.length:Int) 0).bind fun z3 =>
  bif inb d3 d2.length then
   (nth d2 d3.toNat).bind fun x4 =>
   (c96 rf x4 z3.1).bind fun y5 =>
   bif (Nat.ble (z3.2.length + 1) j8) && true then
   some (z3.2 ++ [y5])
   else
   none
  else
   none
 else
  none
theorem c7U:EqF 120 (W3 c4P):=fun _ _ _ => by kernel_rfl
theorem d7o:IF3 c4P c3i:=fun h => c7U.o h
def c4O (rf:T.RF) (rb:T.RB) (d1:List XN) (d2:Int):Option (List XN) :=
 bif decide (d2 < 0) then
  some []
 else
 bif decide (d2 ≥ (d1.length:Int)) then
  some []
 else
  (c93 rf d1).bind fun y1 =>
  bif !y1 then
   some []
  else
   (c3i rf [] d1 d2).bind fun y2 =>
   some y2
theorem c7T:EqF 119 (W2 c4O):=fun _ _ _ => by kernel_rfl
theorem d7n:IF2 c4O b9T:=fun h => c7T.o h
def c4N (rf:T.RF) (rb:T.RB) (d1:List XN):Option (List XN) :=
 (b9T rf d1 (IntKind.i64.wrap ((d1.length:Int) - 1))).bind fun y1 =>
 some y1
theorem c7S:EqF 118 fun a b => c4N a b:=fun _ _ _ => by kernel_rfl
theorem d7m:IF1 c4N N2:=fun h => c7S.o h
def c2a (rf:T.RF) (rb:T.RB) (d1:List (List XN)):Option (List (List XN)) :=
 bif d1.isEmpty then
  l0 (
   some []
  ) (
   bif (Nat.ble (0 + d1.length) j8) && true then
   some ([] ++ d1)
   else
   none
  )
 else
 bif (Nat.ble (0 + d1.length) j8) && true then
  some ([] ++ d1)
 else
  none
def c1Z (rf:T.RF) (rb:T.RB) (d1:List (List XN)):Option (List (List XN)) :=
 bif (Nat.ble (0 + d1.length) j8) && true then
  some ([] ++ d1)
 else
  none
theorem c7V:EqF 121 fun a b => c2a a b:=fun _ _ _ => by kernel_rfl
theorem d0Z (rf rb d1):c2a rf rb d1 = c1Z rf rb d1:=by
 unfold c2a c1Z; cases d1 <;> first | exact l5 _ | rfl
theorem d7p {d1 y} (h:c1Z T.rf T.rb d1 = some y):b7s T.rf d1 = some y:=c7V.o ((d0Z _ _ _).trans h)
def a0W (rf:T.RF) (rb:T.RB) (d1 d2:List UInt8) (d3:List XUn) (d4 d5:Int) (w1:XUn) (w2 w3:List XPm) (w4:List XEq):Option (List UInt8 × List UInt8 × List XUn) :=
 (c3h rf w1.2.2.2.2.2.2.2).bind fun q5 =>
 (nth d3 d5.toNat).bind fun q6 =>
 bif Nat.beq d5.toNat (d3.take d5.toNat).length && true then
  bif Nat.beq d5.toNat (d3.take d5.toNat).length && true then
   bif Nat.beq d5.toNat (d3.take d5.toNat).length && true then
   (c3P rb (d3.take d5.toNat) q6.1 q6.2.1 q6.2.2.2.1 q6.2.2.2.2.1 (d3.drop (d5.toNat + 1)) w2 w3 w4 q5 (((d5.toNat:Nat):Int))).bind fun q7 =>
   c0y rb d1 d2 (q7.1 ++ (q7.2.1,q7.2.2.1,q7.2.2.2.2.2.2.1,q7.2.2.2.1,q7.2.2.2.2.1,q7.2.2.2.2.2.2.2) :: q7.2.2.2.2.2.1) d4 (IntKind.i64.wrap (d5 + 1))
   else
   none
  else
   none
 else
  none
def a5n (rf:T.RF) (rb:T.RB) (d1 d2:List UInt8) (d3:List XUn) (d4 d5:Int) (w1 w2:XUn) (w3:List XPm):Option (List UInt8 × List UInt8 × List XUn) :=
 l0 (
  (N1 rf w1.2.2.2.2.2.1).bind fun q4 =>
  l0 (
   (a7M rf w2.2.2.2.2.2.2.1).bind fun q5 =>
   (nth d3 d5.toNat).bind fun q6 =>
   a0W rf rb d1 d2 d3 d4 d5 q6 w3 q4 q5
  ) (
   (nth d3 d5.toNat).bind fun q5 =>
   (a7M rf w2.2.2.2.2.2.2.1).bind fun q6 =>
   a0W rf rb d1 d2 d3 d4 d5 q5 w3 q4 q6
  )
 ) (
  (nth d3 d5.toNat).bind fun q4 =>
  (N1 rf w1.2.2.2.2.2.1).bind fun q5 =>
  (a7M rf w2.2.2.2.2.2.2.1).bind fun q6 =>
  a0W rf rb d1 d2 d3 d4 d5 q4 w3 q5 q6
 )
def G9 (rf:T.RF) (rb:T.RB) (d1 d2:List UInt8) (d3:List XUn) (d4 d5:Int) (w1 w2 w3:XUn) (w4:List XPm):Option (List UInt8 × List UInt8 × List XUn) :=
 (N1 rf w1.2.2.2.2.2.1).bind fun q5 =>
 (a7M rf w2.2.2.2.2.2.2.1).bind fun q6 =>
 a0W rf rb d1 d2 d3 d4 d5 w3 w4 q5 q6
def a5o (rf:T.RF) (rb:T.RB) (d1 d2:List UInt8) (d3:List XUn) (d4 d5:Int) (w1 w2:XUn) (w3:List XPm):Option (List UInt8 × List UInt8 × List XUn) :=
 l0 (
  (N1 rf w1.2.2.2.2.2.1).bind fun q4 =>
  (nth d3 d5.toNat).bind fun q5 =>
  (a7M rf q5.2.2.2.2.2.2.1).bind fun q6 =>
  a0W rf rb d1 d2 d3 d4 d5 w2 w3 q4 q6
 ) (
  (nth d3 d5.toNat).bind fun q4 =>
  G9 rf rb d1 d2 d3 d4 d5 w1 q4 w2 w3
 )
def b1v (rf:T.RF) (rb:T.RB) (d1 d2:List UInt8) (d3:List XUn) (d4 d5:Int) (w1:XUn) (w2:List XPm):Option (List UInt8 × List UInt8 × List XUn) :=
 l0 (
  (N1 rf w1.2.2.2.2.2.1).bind fun q3 =>
  l0 (
   (nth d3 d5.toNat).bind fun q4 =>
   l0 (
   (a7M rf q4.2.2.2.2.2.2.1).bind fun q5 =>
   (nth d3 d5.toNat).bind fun q6 =>
   a0W rf rb d1 d2 d3 d4 d5 q6 w2 q3 q5
   ) (
   (nth d3 d5.toNat).bind fun q5 =>
   (a7M rf q4.2.2.2.2.2.2.1).bind fun q6 =>
   a0W rf rb d1 d2 d3 d4 d5 q5 w2 q3 q6
   )
  ) (
   (nth d3 d5.toNat).bind fun q4 =>
   (nth d3 d5.toNat).bind fun q5 =>
   (a7M rf q5.2.2.2.2.2.2.1).bind fun q6 =>
   a0W rf rb d1 d2 d3 d4 d5 q4 w2 q3 q6
  )
 ) (
  l0 (
   (nth d3 d5.toNat).bind fun q3 =>
   a5n rf rb d1 d2 d3 d4 d5 w1 q3 w2
  ) (
   (nth d3 d5.toNat).bind fun q3 =>
   a5o rf rb d1 d2 d3 d4 d5 w1 q3 w2
  )
 )
def a3H (rf:T.RF) (rb:T.RB) (d1 d2:List UInt8) (d3:List XUn) (d4 d5:Int) (w1 w2 w3:XUn):Option (List UInt8 × List UInt8 × List XUn) :=
 l0 (
  (N1 rf w1.2.2.1).bind fun q4 =>
  (nth d3 d5.toNat).bind fun q5 =>
  G9 rf rb d1 d2 d3 d4 d5 q5 w2 w3 q4
 ) (
  (nth d3 d5.toNat).bind fun q4 =>
  (N1 rf w1.2.2.1).bind fun q5 =>
  G9 rf rb d1 d2 d3 d4 d5 q4 w2 w3 q5
 )
def a3I (rf:T.RF) (rb:T.RB) (d1 d2:List UInt8) (d3:List XUn) (d4 d5:Int) (w1 w2 w3:XUn):Option (List UInt8 × List UInt8 × List XUn) :=
 l0 (
  (N1 rf w1.2.2.1).bind fun q4 =>
  a5n rf rb d1 d2 d3 d4 d5 w2 w3 q4
 ) (
  (nth d3 d5.toNat).bind fun q4 =>
  (N1 rf w1.2.2.1).bind fun q5 =>
  G9 rf rb d1 d2 d3 d4 d5 w2 w3 q4 q5
 )
def a3J (rf:T.RF) (rb:T.RB) (d1 d2:List UInt8) (d3:List XUn) (d4 d5:Int) (w1 w2 w3:XUn):Option (List UInt8 × List UInt8 × List XUn) :=
 l0 (
  (N1 rf w1.2.2.1).bind fun q4 =>
  a5o rf rb d1 d2 d3 d4 d5 w2 w3 q4
 ) (
  (nth d3 d5.toNat).bind fun q4 =>
  (N1 rf w1.2.2.1).bind fun q5 =>
  G9 rf rb d1 d2 d3 d4 d5 w2 q4 w3 q5
 )
def b8S (rf:T.RF) (rb:T.RB) (d1 d2:List UInt8) (d3:List XUn) (d4 d5:Int):Option (List UInt8 × List UInt8 × List XUn) :=
 bif decide (d5 < d4) then
  bif inb d5 d3.length then
   l0 (
   (nth d3 d5.toNat).bind fun x1 =>
   l0 (
   (N1 rf x1.2.2.1).bind fun y2 =>
   l0 (
   (nth d3 d5.toNat).bind fun x3 =>
   b1v rf rb d1 d2 d3 d4 d5 x3 y2
   ) (
   l0 (
   (nth d3 d5.toNat).bind fun x3 =>
   l0 (
   (nth d3 d5.toNat).bind fun x4 =>
   a5n rf rb d1 d2 d3 d4 d5 x4 x3 y2
   ) (
   (nth d3 d5.toNat).bind fun x4 =>
   (nth d3 d5.toNat).bind fun x5 =>
   G9 rf rb d1 d2 d3 d4 d5 x5 x3 x4 y2
   )
   ) (
   (nth d3 d5.toNat).bind fun x3 =>
   l0 (
   (nth d3 d5.toNat).bind fun x4 =>
   a5o rf rb d1 d2 d3 d4 d5 x4 x3 y2
   ) (
   (nth d3 d5.toNat).bind fun x4 =>
   (nth d3 d5.toNat).bind fun x5 =>
   G9 rf rb d1 d2 d3 d4 d5 x5 x4 x3 y2
   )
   )
   )
   ) (
   l0 (
   (nth d3 d5.toNat).bind fun x2 =>
   l0 (
   (N1 rf x1.2.2.1).bind fun y3 =>
   b1v rf rb d1 d2 d3 d4 d5 x2 y3
   ) (
   l0 (
   (nth d3 d5.toNat).bind fun x3 =>
   a3I rf rb d1 d2 d3 d4 d5 x1 x2 x3
   ) (
   (nth d3 d5.toNat).bind fun x3 =>
   a3J rf rb d1 d2 d3 d4 d5 x1 x2 x3
   )
   )
   ) (
   l0 (
   (nth d3 d5.toNat).bind fun x2 =>
   l0 (
   (N1 rf x1.2.2.1).bind fun y3 =>
   l0 (
   (nth d3 d5.toNat).bind fun x4 =>
   a5n rf rb d1 d2 d3 d4 d5 x4 x2 y3
   ) (
   (nth d3 d5.toNat).bind fun x4 =>
   (nth d3 d5.toNat).bind fun x5 =>
   G9 rf rb d1 d2 d3 d4 d5 x5 x2 x4 y3
   )
   ) (
   l0 (
   (nth d3 d5.toNat).bind fun x3 =>
   a3I rf rb d1 d2 d3 d4 d5 x1 x3 x2
   ) (
   (nth d3 d5.toNat).bind fun x3 =>
   a3H rf rb d1 d2 d3 d4 d5 x1 x2 x3
   )
   )
   ) (
   (nth d3 d5.toNat).bind fun x2 =>
   l0 (
   (N1 rf x1.2.2.1).bind fun y3 =>
   l0 (
   (nth d3 d5.toNat).bind fun x4 =>
   a5o rf rb d1 d2 d3 d4 d5 x4 x2 y3
   ) (
   (nth d3 d5.toNat).bind fun x4 =>
   (nth d3 d5.toNat).bind fun x5 =>
   G9 rf rb d1 d2 d3 d4 d5 x5 x4 x2 y3
   )
   ) (
   l0 (
   (nth d3 d5.toNat).bind fun x3 =>
   a3J rf rb d1 d2 d3 d4 d5 x1 x3 x2
   ) (
   (nth d3 d5.toNat).bind fun x3 =>
   a3H rf rb d1 d2 d3 d4 d5 x1 x3 x2
   )
   )
   )
   )
   )
   ) (
   l0 (
   (nth d3 d5.toNat).bind fun x1 =>
   l0 (
   (nth d3 d5.toNat).bind fun x2 =>
   l0 (
   (N1 rf x2.2.2.1).bind fun y3 =>
   b1v rf rb d1 d2 d3 d4 d5 x1 y3
   ) (
   l0 (
   (nth d3 d5.toNat).bind fun x3 =>
   a3I rf rb d1 d2 d3 d4 d5 x2 x1 x3
   ) (
   (nth d3 d5.toNat).bind fun x3 =>
   a3J rf rb d1 d2 d3 d4 d5 x2 x1 x3
   )
   )
   ) (
   l0 (
   (nth d3 d5.toNat).bind fun x2 =>
   l0 (
   (nth d3 d5.toNat).bind fun x3 =>
   a3I rf rb d1 d2 d3 d4 d5 x3 x1 x2
   ) (
   (nth d3 d5.toNat).bind fun x3 =>
   (nth d3 d5.toNat).bind fun x4 =>
   (N1 rf x4.2.2.1).bind fun y5 =>
   G9 rf rb d1 d2 d3 d4 d5 x1 x2 x3 y5
   )
   ) (
   (nth d3 d5.toNat).bind fun x2 =>
   l0 (
   (nth d3 d5.toNat).bind fun x3 =>
   a3J rf rb d1 d2 d3 d4 d5 x3 x1 x2
   ) (
   (nth d3 d5.toNat).bind fun x3 =>
   (nth d3 d5.toNat).bind fun x4 =>
   (N1 rf x4.2.2.1).bind fun y5 =>
   G9 rf rb d1 d2 d3 d4 d5 x1 x3 x2 y5
   )
   )
   )
   ) (
   l0 (
   (nth d3 d5.toNat).bind fun x1 =>
   l0 (
   (nth d3 d5.toNat).bind fun x2 =>
   l0 (
   (N1 rf x2.2.2.1).bind fun y3 =>
   l0 (
   (nth d3 d5.toNat).bind fun x4 =>
   a5n rf rb d1 d2 d3 d4 d5 x4 x1 y3
   ) (
   (nth d3 d5.toNat).bind fun x4 =>
   (nth d3 d5.toNat).bind fun x5 =>
   G9 rf rb d1 d2 d3 d4 d5 x5 x1 x4 y3
   )
   ) (
   l0 (
   (nth d3 d5.toNat).bind fun x3 =>
   a3I rf rb d1 d2 d3 d4 d5 x2 x3 x1
   ) (
   (nth d3 d5.toNat).bind fun x3 =>
   a3H rf rb d1 d2 d3 d4 d5 x2 x1 x3
   )
   )
   ) (
   l0 (
   (nth d3 d5.toNat).bind fun x2 =>
   l0 (
   (nth d3 d5.toNat).bind fun x3 =>
   a3I rf rb d1 d2 d3 d4 d5 x3 x2 x1
   ) (
   (nth d3 d5.toNat).bind fun x3 =>
   (nth d3 d5.toNat).bind fun x4 =>
   (N1 rf x4.2.2.1).bind fun y5 =>
   G9 rf rb d1 d2 d3 d4 d5 x2 x1 x3 y5
   )
   ) (
   (nth d3 d5.toNat).bind fun x2 =>
   l0 (
   (nth d3 d5.toNat).bind fun x3 =>
   a3H rf rb d1 d2 d3 d4 d5 x3 x1 x2
   ) (
   (nth d3 d5.toNat).bind fun x3 =>
   (nth d3 d5.toNat).bind fun x4 =>
   (N1 rf x4.2.2.1).bind fun y5 =>
   G9 rf rb d1 d2 d3 d4 d5 x3 x1 x2 y5
   )
   )
   )
   ) (
   (nth d3 d5.toNat).bind fun x1 =>
   l0 (
   (nth d3 d5.toNat).bind fun x2 =>
   l0 (
   (N1 rf x2.2.2.1).bind fun y3 =>
   l0 (
   (nth d3 d5.toNat).bind fun x4 =>
   a5o rf rb d1 d2 d3 d4 d5 x4 x1 y3
   ) (
   (nth d3 d5.toNat).bind fun x4 =>
   (nth d3 d5.toNat).bind fun x5 =>
   G9 rf rb d1 d2 d3 d4 d5 x5 x4 x1 y3
   )
   ) (
   l0 (
   (nth d3 d5.toNat).bind fun x3 =>
   a3J rf rb d1 d2 d3 d4 d5 x2 x3 x1
   ) (
   (nth d3 d5.toNat).bind fun x3 =>
   a3H rf rb d1 d2 d3 d4 d5 x2 x3 x1
   )
   )
   ) (
   l0 (
   (nth d3 d5.toNat).bind fun x2 =>
   l0 (
   (nth d3 d5.toNat).bind fun x3 =>
   a3J rf rb d1 d2 d3 d4 d5 x3 x2 x1
   ) (
   (nth d3 d5.toNat).bind fun x3 =>
   (nth d3 d5.toNat).bind fun x4 =>
   (N1 rf x4.2.2.1).bind fun y5 =>
   G9 rf rb d1 d2 d3 d4 d5 x2 x3 x1 y5
   )
   ) (
   (nth d3 d5.toNat).bind fun x2 =>
   l0 (
   (nth d3 d5.toNat).bind fun x3 =>
   a3H rf rb d1 d2 d3 d4 d5 x3 x2 x1
   ) (
   (nth d3 d5.toNat).bind fun x3 =>
   (nth d3 d5.toNat).bind fun x4 =>
   (N1 rf x4.2.2.1).bind fun y5 =>
   G9 rf rb d1 d2 d3 d4 d5 x3 x2 x1 y5
   )
   )
   )
   )
   )
   )
  else
   none
 else
  some (d1,d2,d3)
def b6U (rf:T.RF) (rb:T.RB) (d1 d2:List UInt8) (d3:List XUn) (d4 d5:Int):Option (List UInt8 × List UInt8 × List XUn) :=
 bif decide (d5 < d4) then
  bif inb d5 d3.length then
   (nth d3 d5.toNat).bind fun f1 =>
   bif Nat.beq d5.toNat (d3.take d5.toNat).length && true then
   (N1 rf f1.2.2.1).bind fun q1 =>
   (N1 rf f1.2.2.2.2.2.1).bind fun q2 =>
   (a7M rf f1.2.2.2.2.2.2.1).bind fun q3 =>
   (c3h rf f1.2.2.2.2.2.2.2).bind fun q4 =>
   (c3P rb (d3.take d5.toNat) f1.1 f1.2.1 f1.2.2.2.1 f1.2.2.2.2.1 (d3.drop (d5.toNat + 1)) q1 q2 q3 q4 (((d5.toNat:Nat):Int))).bind fun q5 =>
   c0y rb d1 d2 (q5.1 ++ (q5.2.1,q5.2.2.1,q5.2.2.2.2.2.2.1,q5.2.2.2.1,q5.2.2.2.2.1,q5.2.2.2.2.2.2.2) :: q5.2.2.2.2.2.1) d4 (IntKind.i64.wrap (d5 + 1))
   else
   none
  else
   none
 else
  some (d1,d2,d3)
theorem c6d:EqB 150 (W5 b8S):=fun _ _ _ => by kernel_rfl
theorem d0L (rf rb d1 d2 d3 d4 d5):b8S rf rb d1 d2 d3 d4 d5 = b6U rf rb d1 d2 d3 d4 d5:=by
 unfold b8S b6U a3J a3I a3H b1v a5o G9 a5n a0W; cases hh0:nth d3 d5.toNat <;> cases hh1:Nat.beq d5.toNat (d3.take d5.toNat).length && true <;> simp only [hh0,hh1,bind_some,Option.bind_none,Option.bind_fun_none,cond_true,cond_false,C9,l5]
theorem c9n {d1 d2 d3 d4 d5 y} (h:b6U T.rf T.rb d1 d2 d3 d4 d5 = some y):c0y T.rb d1 d2 d3 d4 d5 = some y:=c6d.o ((d0L _ _ _ _ _ _ _).trans h)
def c3a (rf:T.RF) (rb:T.RB) (d1:List XUn) (d2:Bool) (d3 d4:List UInt8) (d5:Int) (d6:List XUn) (d7 d8:List XPm) (d9:List XEq) (d10:List XIt) (d11:Int):Option (List XUn × Bool × List UInt8 × List UInt8 × Int × List XUn × List XPm × List XPm × List XEq × List XIt) :=
 bif Nat.beq d11.toNat d1.length then
  (c0z rb d1 d2 d3 d4 d5 d6 d7 d8 d9 d10 (((d11.toNat:Nat):Int)) (d9.length:Int) 0).bind fun z1 =>
  bif Nat.beq d11.toNat z1.1.length then
   (c0A rb z1.1 z1.2.1 z1.2.2.1 z1.2.2.2.1 z1.2.2.2.2.1 z1.2.2.2.2.2.1 z1.2.2.2.2.2.2.1 z1.2.2.2.2.2.2.2.1 z1.2.2.2.2.2.2.2.2.1 z1.2.2.2.2.2.2.2.2.2 (((d11.toNat:Nat):Int)) (z1.2.2.2.2.2.2.2.2.2.length:Int) 0).bind fun z2 =>
   some z2
  else
   none
 else
  none
theorem c6e:EqB 151 (W11 c3a):=fun _ _ _ => by kernel_rfl
theorem d6M:d2V c3a c3P:=fun h => c6e.o h
def a7G (rf:T.RF) (rb:T.RB) (d1:List XUn) (d2:Bool) (d3 d4:List UInt8) (d5:Int) (d6:List XUn) (d7 d8:List XPm) (d9:List XEq) (d10:List XIt) (d11 d12 d13:Int) (w1:List XN):Option (List XUn × Bool × List UInt8 × List UInt8 × Int × List XUn × List XPm × List XPm × List XEq × List XIt) :=
 bif inb d13 d9.length then
  (nth d9 d13.toNat).bind fun q2 =>
  c0z rb d1 d2 d3 d4 d5 d6 d7 d8 ((d9.take d13.toNat) ++ (q2.1,w1) :: (d9.drop (d13.toNat + 1))) d10 (((d11.toNat:Nat):Int)) d12 (IntKind.i64.wrap (d13 + 1))
 else
  none
def b8T (rf:T.RF) (rb:T.RB) (d1:List XUn) (d2:Bool) (d3 d4:List UInt8) (d5:Int) (d6:List XUn) (d7 d8:List XPm) (d9:List XEq) (d10:List XIt) (d11 d12 d13:Int):Option (List XUn × Bool × List UInt8 × List UInt8 × Int × List XUn × List XPm × List XPm × List XEq × List XIt) :=
 bif decide (d13 < d12) then
  l0 (
   bif Nat.beq d11.toNat d1.length then
   bif Nat.beq d11.toNat d1.length then
   bif inb d13 d9.length then
   (nth d9 d13.toNat).bind fun x1 =>
   (N2 rf x1.2).bind fun y2 =>
   a7G rf rb d1 d2 d3 d4 d5 d6 d7 d8 d9 d10 d11 d12 d13 y2
   else
   none
   else
   none
   else
   none
  ) (
   bif Nat.beq d11.toNat d1.length then
   bif inb d13 d9.length then
   l0 (
   bif Nat.beq d11.toNat d1.length then
   (nth d9 d13.toNat).bind fun x1 =>
   (N2 rf x1.2).bind fun y2 =>
   a7G rf rb d1 d2 d3 d4 d5 d6 d7 d8 d9 d10 d11 d12 d13 y2
   else
   none
   ) (
   (nth d9 d13.toNat).bind fun x1 =>
   l0 (
   bif Nat.beq d11.toNat d1.length then
   (N2 rf x1.2).bind fun y2 =>
   a7G rf rb d1 d2 d3 d4 d5 d6 d7 d8 d9 d10 d11 d12 d13 y2
   else
   none
   ) (
   (N2 rf x1.2).bind fun y2 =>
   bif Nat.beq d11.toNat d1.length then
   a7G rf rb d1 d2 d3 d4 d5 d6 d7 d8 d9 d10 d11 d12 d13 y2
   else
   none
   )
   )
   else
   none
   else
   none
  )
 else
  some (d1,d2,d3,d4,d5,d6,d7,d8,d9,d10)
def b6V (rf:T.RF) (rb:T.RB) (d1:List XUn) (d2:Bool) (d3 d4:List UInt8) (d5:Int) (d6:List XUn) (d7 d8:List XPm) (d9:List XEq) (d10:List XIt) (d11 d12 d13:Int):Option (List XUn × Bool × List UInt8 × List UInt8 × Int × List XUn × List XPm × List XPm × List XEq × List XIt) :=
 bif decide (d13 < d12) then
  bif Nat.beq d11.toNat d1.length then
   bif inb d13 d9.length then
   (nth d9 d13.toNat).bind fun f1 =>
   (N2 rf f1.2).bind fun q1 =>
   c0z rb d1 d2 d3 d4 d5 d6 d7 d8 ((d9.take d13.toNat) ++ (f1.1,q1) :: (d9.drop (d13.toNat + 1))) d10 (((d11.toNat:Nat):Int)) d12 (IntKind.i64.wrap (d13 + 1))
   else
   none
  else
   none
 else
  some (d1,d2,d3,d4,d5,d6,d7,d8,d9,d10)
theorem c6f:EqB 152 (W13 b8T):=fun _ _ _ => by kernel_rfl
theorem d0M (rf rb d1 d2 d3 d4 d5 d6 d7 d8 d9 d10 d11 d12 d13):b8T rf rb d1 d2 d3 d4 d5 d6 d7 d8 d9 d10 d11 d12 d13 = b6V rf rb d1 d2 d3 d4 d5 d6 d7 d8 d9 d10 d11 d12 d13:=by
 unfold b8T b6V a7G; cases hh0:Nat.beq d11.toNat d1.length <;> cases hh1:inb d13 d9.length <;> cases hh2:nth d9 d13.toNat <;> simp only [hh0,hh1,hh2,bind_some,Option.bind_none,Option.bind_fun_none,cond_true,cond_false,C9,l5]
theorem c9o {d1 d2 d3 d4 d5 d6 d7 d8 d9 d10 d11 d12 d13 y} (h:b6V T.rf T.rb d1 d2 d3 d4 d5 d6 d7 d8 d9 d10 d11 d12 d13 = some y):c0z T.rb d1 d2 d3 d4 d5 d6 d7 d8 d9 d10 d11 d12 d13 = some y:=c6f.o ((d0M _ _ _ _ _ _ _ _ _ _ _ _ _ _ _).trans h)
def a7H (rf:T.RF) (rb:T.RB) (d1:List XUn) (d2:Bool) (d3 d4:List UInt8) (d5:Int) (d6:List XUn) (d7 d8:List XPm) (d9:List XEq) (d10:List XIt) (d11 d12 d13:Int) (w1:XIt) (w2 w3:List XN):Option (List XUn × Bool × List UInt8 × List UInt8 × Int × List XUn × List XPm × List XPm × List XEq × List XIt) :=
 (b7s rf w1.2.2.2.2.2).bind fun q4 =>
 (nth d10 d13.toNat).bind fun q5 =>
 bif Nat.beq d13.toNat (d10.take d13.toNat).length && true then
  bif Nat.beq d13.toNat (d10.take d13.toNat).length && true then
   (c3Q rb (d10.take d13.toNat) q5.1 q5.2.1 q5.2.2.1 (d10.drop (d13.toNat + 1)) w2 w3 q4 (((d13.toNat:Nat):Int))).bind fun q6 =>
   c0A rb d1 d2 d3 d4 d5 d6 d7 d8 d9 (q6.1 ++ (q6.2.1,q6.2.2.1,q6.2.2.2.1,q6.2.2.2.2.2) :: q6.2.2.2.2.1) (((d11.toNat:Nat):Int)) d12 (IntKind.i64.wrap (d13 + 1))
  else
   none
 else
  none
def P3 (rf:T.RF) (rb:T.RB) (d1:List XUn) (d2:Bool) (d3 d4:List UInt8) (d5:Int) (d6:List XUn) (d7 d8:List XPm) (d9:List XEq) (d10:List XIt) (d11 d12 d13:Int) (w1 w2:XIt) (w3:List XN):Option (List XUn × Bool × List UInt8 × List UInt8 × Int × List XUn × List XPm × List XPm × List XEq × List XIt) :=
 (N2 rf w1.2.2.2.2.1).bind fun q4 =>
 a7H rf rb d1 d2 d3 d4 d5 d6 d7 d8 d9 d10 d11 d12 d13 w2 w3 q4
def b8U (rf:T.RF) (rb:T.RB) (d1:List XUn) (d2:Bool) (d3 d4:List UInt8) (d5:Int) (d6:List XUn) (d7 d8:List XPm) (d9:List XEq) (d10:List XIt) (d11 d12 d13:Int):Option (List XUn × Bool × List UInt8 × List UInt8 × Int × List XUn × List XPm × List XPm × List XEq × List XIt) :=
 bif decide (d13 < d12) then
  bif Nat.beq d11.toNat d1.length then
   bif inb d13 d10.length then
   l0 (
   (nth d10 d13.toNat).bind fun x1 =>
   l0 (
   (N2 rf x1.2.2.2.1).bind fun y2 =>
   l0 (
   (nth d10 d13.toNat).bind fun x3 =>
   l0 (
   (N2 rf x3.2.2.2.2.1).bind fun y4 =>
   (nth d10 d13.toNat).bind fun x5 =>
   a7H rf rb d1 d2 d3 d4 d5 d6 d7 d8 d9 d10 d11 d12 d13 x5 y2 y4
   ) (
   (nth d10 d13.toNat).bind fun x4 =>
   P3 rf rb d1 d2 d3 d4 d5 d6 d7 d8 d9 d10 d11 d12 d13 x3 x4 y2
   )
   ) (
   (nth d10 d13.toNat).bind fun x3 =>
   (nth d10 d13.toNat).bind fun x4 =>
   P3 rf rb d1 d2 d3 d4 d5 d6 d7 d8 d9 d10 d11 d12 d13 x4 x3 y2
   )
   ) (
   l0 (
   (nth d10 d13.toNat).bind fun x2 =>
   l0 (
   (N2 rf x1.2.2.2.1).bind fun y3 =>
   l0 (
   (N2 rf x2.2.2.2.2.1).bind fun y4 =>
   (nth d10 d13.toNat).bind fun x5 =>
   a7H rf rb d1 d2 d3 d4 d5 d6 d7 d8 d9 d10 d11 d12 d13 x5 y3 y4
   ) (
   (nth d10 d13.toNat).bind fun x4 =>
   P3 rf rb d1 d2 d3 d4 d5 d6 d7 d8 d9 d10 d11 d12 d13 x2 x4 y3
   )
   ) (
   (nth d10 d13.toNat).bind fun x3 =>
   (N2 rf x1.2.2.2.1).bind fun y4 =>
   P3 rf rb d1 d2 d3 d4 d5 d6 d7 d8 d9 d10 d11 d12 d13 x2 x3 y4
   )
   ) (
   (nth d10 d13.toNat).bind fun x2 =>
   l0 (
   (N2 rf x1.2.2.2.1).bind fun y3 =>
   (nth d10 d13.toNat).bind fun x4 =>
   P3 rf rb d1 d2 d3 d4 d5 d6 d7 d8 d9 d10 d11 d12 d13 x4 x2 y3
   ) (
   (nth d10 d13.toNat).bind fun x3 =>
   (N2 rf x1.2.2.2.1).bind fun y4 =>
   P3 rf rb d1 d2 d3 d4 d5 d6 d7 d8 d9 d10 d11 d12 d13 x3 x2 y4
   )
   )
   )
   ) (
   l0 (
   (nth d10 d13.toNat).bind fun x1 =>
   l0 (
   (nth d10 d13.toNat).bind fun x2 =>
   l0 (
   (N2 rf x2.2.2.2.1).bind fun y3 =>
   l0 (
   (N2 rf x1.2.2.2.2.1).bind fun y4 =>
   (nth d10 d13.toNat).bind fun x5 =>
   a7H rf rb d1 d2 d3 d4 d5 d6 d7 d8 d9 d10 d11 d12 d13 x5 y3 y4
   ) (
   (nth d10 d13.toNat).bind fun x4 =>
   P3 rf rb d1 d2 d3 d4 d5 d6 d7 d8 d9 d10 d11 d12 d13 x1 x4 y3
   )
   ) (
   (nth d10 d13.toNat).bind fun x3 =>
   (N2 rf x2.2.2.2.1).bind fun y4 =>
   P3 rf rb d1 d2 d3 d4 d5 d6 d7 d8 d9 d10 d11 d12 d13 x1 x3 y4
   )
   ) (
   (nth d10 d13.toNat).bind fun x2 =>
   (nth d10 d13.toNat).bind fun x3 =>
   (N2 rf x3.2.2.2.1).bind fun y4 =>
   P3 rf rb d1 d2 d3 d4 d5 d6 d7 d8 d9 d10 d11 d12 d13 x1 x2 y4
   )
   ) (
   (nth d10 d13.toNat).bind fun x1 =>
   l0 (
   (nth d10 d13.toNat).bind fun x2 =>
   l0 (
   (N2 rf x2.2.2.2.1).bind fun y3 =>
   (nth d10 d13.toNat).bind fun x4 =>
   P3 rf rb d1 d2 d3 d4 d5 d6 d7 d8 d9 d10 d11 d12 d13 x4 x1 y3
   ) (
   (nth d10 d13.toNat).bind fun x3 =>
   (N2 rf x2.2.2.2.1).bind fun y4 =>
   P3 rf rb d1 d2 d3 d4 d5 d6 d7 d8 d9 d10 d11 d12 d13 x3 x1 y4
   )
   ) (
   (nth d10 d13.toNat).bind fun x2 =>
   (nth d10 d13.toNat).bind fun x3 =>
   (N2 rf x3.2.2.2.1).bind fun y4 =>
   P3 rf rb d1 d2 d3 d4 d5 d6 d7 d8 d9 d10 d11 d12 d13 x2 x1 y4
   )
   )
   )
   else
   none
  else
   none
 else
  some (d1,d2,d3,d4,d5,d6,d7,d8,d9,d10)
def b6W (rf:T.RF) (rb:T.RB) (d1:List XUn) (d2:Bool) (d3 d4:List UInt8) (d5:Int) (d6:List XUn) (d7 d8:List XPm) (d9:List XEq) (d10:List XIt) (d11 d12 d13:Int):Option (List XUn × Bool × List UInt8 × List UInt8 × Int × List XUn × List XPm × List XPm × List XEq × List XIt) :=
 bif decide (d13 < d12) then
  bif Nat.beq d11.toNat d1.length then
   bif inb d13 d10.length then
   (nth d10 d13.toNat).bind fun f1 =>
   bif Nat.beq d13.toNat (d10.take d13.toNat).length && true then
   (N2 rf f1.2.2.2.1).bind fun q1 =>
   (N2 rf f1.2.2.2.2.1).bind fun q2 =>
   (b7s rf f1.2.2.2.2.2).bind fun q3 =>
   (c3Q rb (d10.take d13.toNat) f1.1 f1.2.1 f1.2.2.1 (d10.drop (d13.toNat + 1)) q1 q2 q3 (((d13.toNat:Nat):Int))).bind fun q4 =>
   c0A rb d1 d2 d3 d4 d5 d6 d7 d8 d9 (q4.1 ++ (q4.2.1,q4.2.2.1,q4.2.2.2.1,q4.2.2.2.2.2) :: q4.2.2.2.2.1) (((d11.toNat:Nat):Int)) d12 (IntKind.i64.wrap (d13 + 1))
   else
   none
   else
   none
  else
   none
 else
  some (d1,d2,d3,d4,d5,d6,d7,d8,d9,d10)
theorem c6g:EqB 153 (W13 b8U):=fun _ _ _ => by kernel_rfl
theorem d0N (rf rb d1 d2 d3 d4 d5 d6 d7 d8 d9 d10 d11 d12 d13):b8U rf rb d1 d2 d3 d4 d5 d6 d7 d8 d9 d10 d11 d12 d13 = b6W rf rb d1 d2 d3 d4 d5 d6 d7 d8 d9 d10 d11 d12 d13:=by
 unfold b8U b6W P3 a7H; cases hh0:nth d10 d13.toNat <;> cases hh1:Nat.beq d13.toNat (d10.take d13.toNat).length && true <;> simp only [hh0,hh1,bind_some,Option.bind_none,Option.bind_fun_none,cond_true,cond_false,C9,l5]
theorem c9p {d1 d2 d3 d4 d5 d6 d7 d8 d9 d10 d11 d12 d13 y} (h:b6W T.rf T.rb d1 d2 d3 d4 d5 d6 d7 d8 d9 d10 d11 d12 d13 = some y):c0A T.rb d1 d2 d3 d4 d5 d6 d7 d8 d9 d10 d11 d12 d13 = some y:=c6g.o ((d0N _ _ _ _ _ _ _ _ _ _ _ _ _ _ _).trans h)
def c3b (rf:T.RF) (rb:T.RB) (d1:List XIt) (d2:Int) (d3:List UInt8) (d4:Int) (d5:List XIt) (d6 d7:List XN) (d8:List (List XN)) (d9:Int):Option (List XIt × Int × List UInt8 × Int × List XIt × List XN × List XN × List (List XN)) :=
 bif Nat.beq d9.toNat d1.length then
  (b3h rb d1 d2 d3 d4 d5 d6 d7 d8 (((d9.toNat:Nat):Int)) (d8.length:Int) 0).bind fun z1 =>
  some z1
 else
  none
theorem c6h:EqB 154 (W9 c3b):=fun _ _ _ => by kernel_rfl
theorem d6N:IB9 c3b c3Q:=fun h => c6h.o h
def b8V (rf:T.RF) (rb:T.RB) (d1:List XIt) (d2:Int) (d3:List UInt8) (d4:Int) (d5:List XIt) (d6 d7:List XN) (d8:List (List XN)) (d9 d10 d11:Int):Option (List XIt × Int × List UInt8 × Int × List XIt × List XN × List XN × List (List XN)) :=
 bif decide (d11 < d10) then
  l0 (
   bif Nat.beq d9.toNat d1.length then
   bif Nat.beq d9.toNat d1.length then
   bif inb d11 d8.length then
   (nth d8 d11.toNat).bind fun x1 =>
   (N2 rf x1).bind fun y2 =>
   bif inb d11 d8.length then
   bif Nat.blt d11.toNat d8.length then
   b3h rb d1 d2 d3 d4 d5 d6 d7 (l9 d8 d11.toNat y2) (((d9.toNat:Nat):Int)) d10 (IntKind.i64.wrap (d11 + 1))
   else
   none
   else
   none
   else
   none
   else
   none
   else
   none
  ) (
   bif Nat.beq d9.toNat d1.length then
   bif inb d11 d8.length then
   l0 (
   bif Nat.beq d9.toNat d1.length then
   (nth d8 d11.toNat).bind fun x1 =>
   (N2 rf x1).bind fun y2 =>
   bif inb d11 d8.length then
   bif Nat.blt d11.toNat d8.length then
   b3h rb d1 d2 d3 d4 d5 d6 d7 (l9 d8 d11.toNat y2) (((d9.toNat:Nat):Int)) d10 (IntKind.i64.wrap (d11 + 1))
   else
   none
   else
   none
   else
   none
   ) (
   (nth d8 d11.toNat).bind fun x1 =>
   l0 (
   bif Nat.beq d9.toNat d1.length then
   (N2 rf x1).bind fun y2 =>
   bif inb d11 d8.length then
   bif Nat.blt d11.toNat d8.length then
   b3h rb d1 d2 d3 d4 d5 d6 d7 (l9 d8 d11.toNat y2) (((d9.toNat:Nat):Int)) d10 (IntKind.i64.wrap (d11 + 1))
   else
   none
   else
   none
   else
   none
   ) (
   (N2 rf x1).bind fun y2 =>
   bif Nat.beq d9.toNat d1.length then
   bif inb d11 d8.length then
   bif Nat.blt d11.toNat d8.length then
   b3h rb d1 d2 d3 d4 d5 d6 d7 (l9 d8 d11.toNat y2) (((d9.toNat:Nat):Int)) d10 (IntKind.i64.wrap (d11 + 1))
   else
   none
   else
   none
   else
   none
   )
   )
   else
   none
   else
   none
  )
 else
  some (d1,d2,d3,d4,d5,d6,d7,d8)
def b6X (rf:T.RF) (rb:T.RB) (d1:List XIt) (d2:Int) (d3:List UInt8) (d4:Int) (d5:List XIt) (d6 d7:List XN) (d8:List (List XN)) (d9 d10 d11:Int):Option (List XIt × Int × List UInt8 × Int × List XIt × List XN × List XN × List (List XN)) :=
 bif decide (d11 < d10) then
  bif Nat.beq d9.toNat d1.length then
   bif inb d11 d8.length then
   (nth d8 d11.toNat).bind fun f1 =>
   bif Nat.blt d11.toNat d8.length then
   (N2 rf f1).bind fun q1 =>
   b3h rb d1 d2 d3 d4 d5 d6 d7 (l9 d8 d11.toNat q1) (((d9.toNat:Nat):Int)) d10 (IntKind.i64.wrap (d11 + 1))
   else
   none
   else
   none
  else
   none
 else
  some (d1,d2,d3,d4,d5,d6,d7,d8)
theorem c6i:EqB 155 (W11 b8V):=fun _ _ _ => by kernel_rfl
theorem d0O (rf rb d1 d2 d3 d4 d5 d6 d7 d8 d9 d10 d11):b8V rf rb d1 d2 d3 d4 d5 d6 d7 d8 d9 d10 d11 = b6X rf rb d1 d2 d3 d4 d5 d6 d7 d8 d9 d10 d11:=by
 unfold b8V b6X; cases hh0:Nat.beq d9.toNat d1.length <;> cases hh1:inb d11 d8.length <;> cases hh2:nth d8 d11.toNat <;> cases hh3:Nat.blt d11.toNat d8.length <;> simp only [hh0,hh1,hh2,hh3,bind_some,Option.bind_none,Option.bind_fun_none,cond_true,cond_false,C9,l5]
theorem c9q {d1 d2 d3 d4 d5 d6 d7 d8 d9 d10 d11 y} (h:b6X T.rf T.rb d1 d2 d3 d4 d5 d6 d7 d8 d9 d10 d11 = some y):b3h T.rb d1 d2 d3 d4 d5 d6 d7 d8 d9 d10 d11 = some y:=c6i.o ((d0O _ _ _ _ _ _ _ _ _ _ _ _ _).trans h)
def c4M (rf:T.RF) (rb:T.RB) (d1:XPg):Option XPg :=
 (d1w rf d1.1).bind fun y1 =>
 (c0y rb d1.2.1 d1.2.2 y1 (y1.length:Int) 0).bind fun z2 =>
 some (z2.2.2,z2.1,z2.2.1)
theorem c7N:EqF 113 fun a b => c4M a b:=fun _ _ _ => by kernel_rfl
theorem d7h:IF1 c4M d1v:=fun h => c7N.o h
def c4Q (rf:T.RF) (rb:T.RB) (d1:Bool) (d2:Int):Option (Int ⊕ Unit) :=
 bif !d1 then
  some (.inl d2)
 else
  some (.inr ())
theorem c7X:EqF 123 (W2 c4Q):=fun _ _ _ => by kernel_rfl
theorem d7r:IF2 c4Q C5:=fun h => c7X.o h
def b8W (rf:T.RF) (rb:T.RB) (d1:List (List UInt8 × XUn)) (d2 d3:List (List UInt8 × Bool)) (d4:List XIt) (d5:List XN) (d6 d7:Int):Option ((List (List UInt8 × XUn) × List (List UInt8 × Bool) × List (List UInt8 × Bool) × List XIt × Int) ⊕ (List (List UInt8 × XUn) × List (List UInt8 × Bool) × List (List UInt8 × Bool) × List XIt)) :=
 bif decide (d7 < d6) then
  bif inb d7 d5.length then
   (nth d5 d7.toNat).bind fun x1 =>
   bif x1.1 != 3 then
    (C5 rf true 8).bind fun y2 =>
    match y2 with
    | .inl u3 =>
      some (.inl (d1,d2,d3,d4,u3))
    | .inr w4 =>
      (C5 rf (x1.1 != 27) 14).bind fun y5 =>
      match y5 with
      | .inl u6 =>
        some (.inl (d1,d2,d3,d4,u6))
      | .inr w7 =>
        b7M rb d1 d2 d3 d4 d5 d6 (IntKind.i64.wrap (d7 + 1))
   else
   bif j4 (CT.eqK .str) false d2 x1.2.2.2.2.2 then
    (C5 rf true 8).bind fun y8 =>
    match y8 with
    | .inl u9 =>
      some (.inl (d1,d2,d3,d4,u9))
    | .inr w10 =>
      (C5 rf (x1.1 != 27) 14).bind fun y11 =>
      match y11 with
      | .inl u12 =>
        some (.inl (d1,d2,d3,d4,u12))
      | .inr w13 =>
        b7M rb d1 d2 d3 d4 d5 d6 (IntKind.i64.wrap (d7 + 1))
   else
    (C5 rf (j4 (CT.eqK .str) false d3 x1.2.2.2.2.2) 8).bind fun y14 =>
    match y14 with
    | .inl u15 =>
      some (.inl (d1,d2,d3,d4,u15))
    | .inr w16 =>
      (C5 rf (x1.1 != 27) 14).bind fun y17 =>
      match y17 with
      | .inl u18 =>
        some (.inl (d1,d2,d3,d4,u18))
      | .inr w19 =>
        b7M rb d1 d2 d3 d4 d5 d6 (IntKind.i64.wrap (d7 + 1))
  else
   none
 else
  some (.inr (d1,d2,d3,d4))
theorem c6j:EqB 162 (W7 b8W):=fun _ _ _ => by kernel_rfl
theorem c9r:IB7 b8W b7M:=fun h => c6j.o h
def c4R (rf:T.RF) (rb:T.RB) (d1:List (List UInt8 × XUn)) (d2 d3:List (List UInt8 × Bool)) (d4:List XIt) (d5:List XN):Option ((List (List UInt8 × XUn) × List (List UInt8 × Bool) × List (List UInt8 × Bool) × List XIt × Int) ⊕ (List (List UInt8 × XUn) × List (List UInt8 × Bool) × List (List UInt8 × Bool) × List XIt)) :=
 (b7M rb d1 d2 d3 d4 d5 (d5.length:Int) 0).bind fun z1 =>
 match z1 with
 | .inl u2 =>
   some (.inl u2)
 | .inr w3 =>
   some (.inr w3)
theorem c7Y:EqF 124 (W5 c4R):=fun _ _ _ => by kernel_rfl
theorem d7s:IF5 c4R b9V:=fun h => c7Y.o h
def b8X (rf:T.RF) (rb:T.RB) (d1:List XN) (d2:Int) (d3:List XN) (d4 d5:Int):Option (List XN) :=
 bif decide (d5 < d4) then
  bif inb d5 d3.length then
   (nth d3 d5.toNat).bind fun x1 =>
   bif decide (x1.2.1 ≥ 0) then
   bif decide (x1.2.2.1 ≥ 0) then
   bif decide (x1.2.2.2.1 ≥ 0) then
   bif (Nat.ble (d1.length + 1) j8) && true then
   a8n rb (d1 ++ [(x1.1,IntKind.i64.wrap (x1.2.1 + d2),IntKind.i64.wrap (x1.2.2.1 + d2),IntKind.i64.wrap (x1.2.2.2.1 + d2),x1.2.2.2.2)]) d2 d3 d4 (IntKind.i64.wrap (d5 + 1))
   else
   none
   else
   bif (Nat.ble (d1.length + 1) j8) && true then
   a8n rb (d1 ++ [(x1.1,IntKind.i64.wrap (x1.2.1 + d2),IntKind.i64.wrap (x1.2.2.1 + d2),x1.2.2.2)]) d2 d3 d4 (IntKind.i64.wrap (d5 + 1))
   else
   none
   else
   bif decide (x1.2.2.2.1 ≥ 0) then
   bif (Nat.ble (d1.length + 1) j8) && true then
   a8n rb (d1 ++ [(x1.1,IntKind.i64.wrap (x1.2.1 + d2),x1.2.2.1,IntKind.i64.wrap (x1.2.2.2.1 + d2),x1.2.2.2.2)]) d2 d3 d4 (IntKind.i64.wrap (d5 + 1))
   else
   none
   else
   bif (Nat.ble (d1.length + 1) j8) && true then
   a8n rb (d1 ++ [(x1.1,IntKind.i64.wrap (x1.2.1 + d2),x1.2.2)]) d2 d3 d4 (IntKind.i64.wrap (d5 + 1))
   else
   none
   else
   bif decide (x1.2.2.1 ≥ 0) then
   bif decide (x1.2.2.2.1 ≥ 0) then
   bif (Nat.ble (d1.length + 1) j8) && true then
   a8n rb (d1 ++ [(x1.1,x1.2.1,IntKind.i64.wrap (x1.2.2.1 + d2),IntKind.i64.wrap (x1.2.2.2.1 + d2),x1.2.2.2.2)]) d2 d3 d4 (IntKind.i64.wrap (d5 + 1))
   else
   none
   else
   bif (Nat.ble (d1.length + 1) j8) && true then
   a8n rb (d1 ++ [(x1.1,x1.2.1,IntKind.i64.wrap (x1.2.2.1 + d2),x1.2.2.2)]) d2 d3 d4 (IntKind.i64.wrap (d5 + 1))
   else
   none
   else
   bif decide (x1.2.2.2.1 ≥ 0) then
   bif (Nat.ble (d1.length + 1) j8) && true then
   a8n rb (d1 ++ [(x1.1,x1.2.1,x1.2.2.1,IntKind.i64.wrap (x1.2.2.2.1 + d2),x1.2.2.2.2)]) d2 d3 d4 (IntKind.i64.wrap (d5 + 1))
   else
   none
   else
   bif (Nat.ble (d1.length + 1) j8) && true then
   a8n rb (d1 ++ [x1]) d2 d3 d4 (IntKind.i64.wrap (d5 + 1))
   else
   none
  else
   none
 else
  some d1
theorem c6k:EqB 169 (W5 b8X):=fun _ _ _ => by kernel_rfl
theorem c9s:IB5 b8X a8n:=fun h => c6k.o h
def c4T (rf:T.RF) (rb:T.RB) (d1 d2:List XN):Option (List XN) :=
 (a8n rb d1 (d1.length:Int) d2 (d2.length:Int) 0).bind fun z1 =>
 some z1
theorem c8b:EqF 127 (W2 c4T):=fun _ _ _ => by kernel_rfl
theorem d7v:IF2 c4T c3k:=fun h => c8b.o h
def b8Y (rf:T.RF) (rb:T.RB) (d1:List XN) (d2:List Int) (d3:Int) (d4:List (List XN)) (d5 d6:Int):Option ((List XN) ⊕ (List XN × List Int)) :=
 bif decide (d6 < d5) then
  bif inb d6 d4.length then
   (nth d4 d6.toNat).bind fun x1 =>
   bif (x1.length:Int) == 0 then
   some (.inl [])
   else
   (c3k rf d1 x1).bind fun y2 =>
   bif d3 == 27 then
   bif decide ((d2.length:Int) > 0) then
   bif inb 0 d2.length then
   (nth d2 0).bind fun x3 =>
   bif (Nat.ble (y2.length + 1) j8) && true then
   bif E3 0 d2.length then
   bif (Nat.ble ((sub d2 (some (0,0))).length + 1) j8) && true then
   b3i rb (y2 ++ [(28,IntKind.i64.wrap ((y2.length:Int) - 1),x3,(-1),0,([]:List UInt8))]) ((sub d2 (some (0,0))) ++ [IntKind.i64.wrap (((((y2 ++ [(28,IntKind.i64.wrap ((y2.length:Int) - 1),x3,(-1),0,([]:List UInt8))]).length:Nat):Int)) - 1)]) d3 d4 d5 (IntKind.i64.wrap (d6 + 1))
   else
   none
   else
   none
   else
   none
   else
   none
   else
   bif (Nat.ble (y2.length + 1) j8) && true then
   bif E3 0 d2.length then
   bif (Nat.ble ((sub d2 (some (0,0))).length + 1) j8) && true then
   b3i rb (y2 ++ [(28,IntKind.i64.wrap ((y2.length:Int) - 1),(-1),(-1),0,([]:List UInt8))]) ((sub d2 (some (0,0))) ++ [IntKind.i64.wrap (((((y2 ++ [(28,IntKind.i64.wrap ((y2.length:Int) - 1),(-1),(-1),0,([]:List UInt8))]).length:Nat):Int)) - 1)]) d3 d4 d5 (IntKind.i64.wrap (d6 + 1))
   else
   none
   else
   none
   else
   none
   else
   bif (Nat.ble (d2.length + 1) j8) && true then
   b3i rb y2 (d2 ++ [IntKind.i64.wrap ((y2.length:Int) - 1)]) d3 d4 d5 (IntKind.i64.wrap (d6 + 1))
   else
   none
  else
   none
 else
  some (.inr (d1,d2))
theorem c6l:EqB 170 (W6 b8Y):=fun _ _ _ => by kernel_rfl
theorem c9t:IB6 b8Y b3i:=fun h => c6l.o h
def c4S (rf:T.RF) (rb:T.RB) (d1 d2:Int) (d3:List UInt8) (d4:List (List XN)):Option (List XN) :=
 bif d1 == 28 then
  some []
 else
 bif d1 != 27 then
  (c95 rf (d1,(-1),(-1),(-1),d2,d3)).bind fun y1 =>
  bif (y1.length:Int) != (d4.length:Int) then
   some []
  else
   (b3i rb [] [] d1 d4 (d4.length:Int) 0).bind fun z2 =>
   match z2 with
   | .inl u3 =>
     some u3
   | .inr w4 =>
     (c96 rf (d1,(-1),(-1),(-1),d2,d3) w4.2).bind fun y5 =>
     bif (Nat.ble (w4.1.length + 1) j8) && true then
      some (w4.1 ++ [y5])
     else
      none
 else
  (b3i rb [] [] d1 d4 (d4.length:Int) 0).bind fun z6 =>
  match z6 with
  | .inl u7 =>
    some u7
  | .inr w8 =>
    (c96 rf (d1,(-1),(-1),(-1),d2,d3) w8.2).bind fun y9 =>
    bif (Nat.ble (w8.1.length + 1) j8) && true then
     some (w8.1 ++ [y9])
    else
     none
theorem c8a:EqF 126 (W4 c4S):=fun _ _ _ => by kernel_rfl
theorem d7u:IF4 c4S b7t:=fun h => c8a.o h
def c4X (rf:T.RF) (rb:T.RB) (d1:List XN):Option Bool :=
 (c93 rf d1).bind fun y1 =>
 some (!y1)
theorem c8f:EqF 132 fun a b => c4X a b:=fun _ _ _ => by kernel_rfl
theorem d7z:IF1 c4X d1z:=fun h => c8f.o h
def b6Y (rf:T.RF) (rb:T.RB) (d1:List (List XN)) (d2 d3:Int):Option (Int ⊕ Unit) :=
 bif decide (d3 < d2) then
  bif inb d3 d1.length then
   (nth d1 d3.toNat).bind fun x1 =>
   (d1z rf x1).bind fun y2 =>
   bif y2 then
   some (.inl d3)
   else
   c0B rb d1 d2 (IntKind.i64.wrap (d3 + 1))
  else
   none
 else
  some (.inr ())
theorem c6m:EqB 178 (W3 b6Y):=fun _ _ _ => by kernel_rfl
theorem c1e:IB3 b6Y c0B:=fun h => c6m.o h
def c4W (rf:T.RF) (rb:T.RB) (d1:List (List XN)):Option Int :=
 (c0B rb d1 (d1.length:Int) 0).bind fun z1 =>
 match z1 with
 | .inl u2 =>
   some u2
 | .inr w3 =>
   some (-1)
theorem c8e:EqF 131 fun a b => c4W a b:=fun _ _ _ => by kernel_rfl
theorem d7y:IF1 c4W d1y:=fun h => c8e.o h
def c4V (rf:T.RF) (rb:T.RB) (d1:List (List XN)):Option Bool :=
 (d1y rf d1).bind fun y1 =>
 some (decide (y1 ≥ 0))
theorem c8d:EqF 130 fun a b => c4V a b:=fun _ _ _ => by kernel_rfl
theorem d7x:IF1 c4V d1x:=fun h => c8d.o h
def b8Z (rf:T.RF) (rb:T.RB) (d1:List (List UInt8)) (d2:List UInt8) (d3 d4:Int):Option (Int ⊕ Unit) :=
 bif decide (d4 < d3) then
  bif inb d4 d1.length then
   (nth d1 d4.toNat).bind fun x1 =>
   bif d2 == x1 then
   some (.inl d4)
   else
   c3R rb d1 d2 d3 (IntKind.i64.wrap (d4 + 1))
  else
   none
 else
  some (.inr ())
theorem c6n:EqB 180 (W4 b8Z):=fun _ _ _ => by kernel_rfl
theorem c9u:IB4 b8Z c3R:=fun h => c6n.o h
def c4Y (rf:T.RF) (rb:T.RB) (d1:List (List UInt8)) (d2:List UInt8):Option Int :=
 (c3R rb d1 d2 (d1.length:Int) 0).bind fun z1 =>
 match z1 with
 | .inl u2 =>
   some u2
 | .inr w3 =>
   some (-1)
theorem c8g:EqF 133 (W2 c4Y):=fun _ _ _ => by kernel_rfl
theorem d7A:IF2 c4Y d1A:=fun h => c8g.o h
def b2H (rf:T.RF) (rb:T.RB) (d1:List XN) (d2:List Int) (d3:List XN) (d4:List (List UInt8)) (d5:List (List XN)) (d6 d7:Int):Option (List XN × List XN) :=
 bif decide (d7 < d6) then
  bif inb d7 d3.length then
   (nth d3 d7.toNat).bind fun x1 =>
   (d1A rf d4 x1.2.2.2.2.2).bind fun y2 =>
   bif x1.1 == 3 then
   bif decide (y2 ≥ 0) then
   bif inb y2 d5.length then
   (nth d5 y2.toNat).bind fun x3 =>
   bif inb y2 d5.length then
   (nth d5 y2.toNat).bind fun x4 =>
   (b9T rf x3 (IntKind.i64.wrap ((x4.length:Int) - 1))).bind fun y5 =>
   (c3k rf d1 y5).bind fun y6 =>
   bif (Nat.ble (d2.length + 1) j8) && true then
   b4T rb y6 (d2 ++ [IntKind.i64.wrap ((y6.length:Int) - 1)]) d3 d4 d5 d6 (IntKind.i64.wrap (d7 + 1))
   else
   none
   else
   none
   else
   none
   else
   (c95 rf x1).bind fun y7 =>
   (c0C rb d2 y7 (y7.length:Int) 0).bind fun z8 =>
   (c96 rf x1 z8.2).bind fun y9 =>
   bif (Nat.ble (d1.length + 1) j8) && true then
   bif (Nat.ble (z8.1.length + 1) j8) && true then
   b4T rb (d1 ++ [y9]) (z8.1 ++ [IntKind.i64.wrap (((((d1 ++ [y9]).length:Nat):Int)) - 1)]) d3 d4 d5 d6 (IntKind.i64.wrap (d7 + 1))
   else
   none
   else
   none
   else
   (c95 rf x1).bind fun y10 =>
   (c0C rb d2 y10 (y10.length:Int) 0).bind fun z11 =>
   (c96 rf x1 z11.2).bind fun y12 =>
   bif (Nat.ble (d1.length + 1) j8) && true then
   bif (Nat.ble (z11.1.length + 1) j8) && true then
   b4T rb (d1 ++ [y12]) (z11.1 ++ [IntKind.i64.wrap (((((d1 ++ [y12]).length:Nat):Int)) - 1)]) d3 d4 d5 d6 (IntKind.i64.wrap (d7 + 1))
   else
   none
   else
   none
  else
   none
 else
  some (d3,d1)
theorem c6o:EqB 182 (W7 b2H):=fun _ _ _ => by kernel_rfl
theorem c1f:IB7 b2H b4T:=fun h => c6o.o h
def b9a (rf:T.RF) (rb:T.RB) (d1 d2:List Int) (d3 d4:Int):Option (List Int × List Int) :=
 bif decide (d4 < d3) then
  bif inb d4 d2.length then
   (nth d2 d4.toNat).bind fun x1 =>
   bif inb x1 d1.length then
   (nth d1 x1.toNat).bind fun x2 =>
   bif inb d4 d2.length then
   bif Nat.blt d4.toNat d2.length then
   c0C rb d1 (l9 d2 d4.toNat x2) d3 (IntKind.i64.wrap (d4 + 1))
   else
   none
   else
   none
   else
   none
  else
   none
 else
  some (d1,d2)
theorem c6p:EqB 183 (W4 b9a):=fun _ _ _ => by kernel_rfl
theorem c9v:IB4 b9a c0C:=fun h => c6p.o h
def c4U (rf:T.RF) (rb:T.RB) (d1:List XN) (d2:List (List UInt8)) (d3:List (List XN)):Option (List XN) :=
 (c93 rf d1).bind fun y1 =>
 bif !y1 then
  some []
 else
 bif (d2.length:Int) != (d3.length:Int) then
  some []
 else
  (d1x rf d3).bind fun y2 =>
  bif y2 then
   some []
  else
   (b9T rf d1 (IntKind.i64.wrap ((d1.length:Int) - 1))).bind fun y3 =>
   (b4T rb [] [] y3 d2 d3 (y3.length:Int) 0).bind fun z4 =>
   some z4.2
theorem c8c:EqF 129 (W3 c4U):=fun _ _ _ => by kernel_rfl
theorem d7w:IF3 c4U b9W:=fun h => c8c.o h
def d9e (rf:T.RF) (rb:T.RB) (d1:List (List UInt8)) (d2:List (List XN)) (d3:List XN):Option ((List (List UInt8) × List (List XN) × List XN × Bool) ⊕ (List (List UInt8) × List (List XN) × List XN × Bool)) :=
 bif (d3.length:Int) == 0 then
  some (.inl (d1,d2,[],true))
 else
  (b9W rf d3 d1 d2).bind fun y1 =>
  (c93 rf y1).bind fun y2 =>
  some (.inr (d1,d2,y1,y2))
theorem d3Q:EqF 128 (W3 d9e):=fun _ _ _ => by kernel_rfl
def c2e (rf:T.RF) (rb:T.RB) (d1:List (List UInt8 × XUn)) (d2 d3:List (List UInt8 × Bool)) (d4:List XIt) (d5:XIt):Option ((List (List UInt8 × XUn) × List (List UInt8 × Bool) × List (List UInt8 × Bool) × List XIt × Int) ⊕ (List (List UInt8 × XUn) × List (List UInt8 × Bool) × List (List UInt8 × Bool) × List XIt)) :=
 bif d5.1 == 3 then
  bif !(j4 (CT.eqK .str) false d2 d5.2.1) then
   (C5 rf (!(j4 (CT.eqK .str) false d3 d5.2.1)) 9).bind fun y1 =>
   match y1 with
   | .inl u2 =>
     some (.inl (d1,d2,d3,d4,u2))
   | .inr w3 =>
     (C5 rf (decide ((d4.length:Int) < 200)) 7).bind fun y4 =>
     match y4 with
     | .inl u5 =>
       some (.inl (d1,d2,d3,d4,u5))
     | .inr w6 =>
       bif d5.1 == 3 then
        agN 1 (
         bif (Nat.ble (d4.length + 1) j8) && true then
          some (.inr (d1,d2,o4 (CT.eqK .str) d3 d5.2.1 true,d4 ++ [d5]))
         else
          none
        )
       else
        agN 1 (
         bif (Nat.ble (d4.length + 1) j8) && true then
          some (.inr (d1,d2,d3,d4 ++ [d5]))
         else
          none
        )
  else
   (C5 rf false 9).bind fun y7 =>
   match y7 with
   | .inl u8 =>
     some (.inl (d1,d2,d3,d4,u8))
   | .inr w9 =>
     (C5 rf (decide ((d4.length:Int) < 200)) 7).bind fun y10 =>
     match y10 with
     | .inl u11 =>
       some (.inl (d1,d2,d3,d4,u11))
     | .inr w12 =>
       bif d5.1 == 3 then
        agN 1 (
         bif (Nat.ble (d4.length + 1) j8) && true then
          some (.inr (d1,d2,o4 (CT.eqK .str) d3 d5.2.1 true,d4 ++ [d5]))
         else
          none
        )
       else
        agN 1 (
         bif (Nat.ble (d4.length + 1) j8) && true then
          some (.inr (d1,d2,d3,d4 ++ [d5]))
         else
          none
        )
 else
  (C5 rf (decide ((d4.length:Int) < 200)) 7).bind fun y13 =>
  match y13 with
  | .inl u14 =>
    some (.inl (d1,d2,d3,d4,u14))
  | .inr w15 =>
    bif d5.1 == 3 then
     agN 1 (
      bif (Nat.ble (d4.length + 1) j8) && true then
       some (.inr (d1,d2,o4 (CT.eqK .str) d3 d5.2.1 true,d4 ++ [d5]))
      else
       none
     )
    else
     agN 1 (
      bif (Nat.ble (d4.length + 1) j8) && true then
       some (.inr (d1,d2,d3,d4 ++ [d5]))
      else
       none
     )
def c2d (rf:T.RF) (rb:T.RB) (d1:List (List UInt8 × XUn)) (d2 d3:List (List UInt8 × Bool)) (d4:List XIt) (d5:XIt):Option ((List (List UInt8 × XUn) × List (List UInt8 × Bool) × List (List UInt8 × Bool) × List XIt × Int) ⊕ (List (List UInt8 × XUn) × List (List UInt8 × Bool) × List (List UInt8 × Bool) × List XIt)) :=
 bif d5.1 == 3 then
  bif !(j4 (CT.eqK .str) false d2 d5.2.1) then
   (C5 rf (!(j4 (CT.eqK .str) false d3 d5.2.1)) 9).bind fun y1 =>
   match y1 with
   | .inl u2 =>
     some (.inl (d1,d2,d3,d4,u2))
   | .inr w3 =>
     (C5 rf (decide ((d4.length:Int) < 200)) 7).bind fun y4 =>
     match y4 with
     | .inl u5 =>
       some (.inl (d1,d2,d3,d4,u5))
     | .inr w6 =>
       bif d5.1 == 3 then
        bif (Nat.ble (d4.length + 1) j8) && true then
         some (.inr (d1,d2,o4 (CT.eqK .str) d3 d5.2.1 true,d4 ++ [d5]))
        else
         none
       else
       bif (Nat.ble (d4.length + 1) j8) && true then
        some (.inr (d1,d2,d3,d4 ++ [d5]))
       else
        none
  else
   (C5 rf false 9).bind fun y7 =>
   match y7 with
   | .inl u8 =>
     some (.inl (d1,d2,d3,d4,u8))
   | .inr w9 =>
     (C5 rf (decide ((d4.length:Int) < 200)) 7).bind fun y10 =>
     match y10 with
     | .inl u11 =>
       some (.inl (d1,d2,d3,d4,u11))
     | .inr w12 =>
       bif d5.1 == 3 then
        bif (Nat.ble (d4.length + 1) j8) && true then
         some (.inr (d1,d2,o4 (CT.eqK .str) d3 d5.2.1 true,d4 ++ [d5]))
        else
         none
       else
       bif (Nat.ble (d4.length + 1) j8) && true then
        some (.inr (d1,d2,d3,d4 ++ [d5]))
       else
        none
 else
  (C5 rf (decide ((d4.length:Int) < 200)) 7).bind fun y13 =>
  match y13 with
  | .inl u14 =>
    some (.inl (d1,d2,d3,d4,u14))
  | .inr w15 =>
    bif d5.1 == 3 then
     bif (Nat.ble (d4.length + 1) j8) && true then
      some (.inr (d1,d2,o4 (CT.eqK .str) d3 d5.2.1 true,d4 ++ [d5]))
     else
      none
    else
    bif (Nat.ble (d4.length + 1) j8) && true then
     some (.inr (d1,d2,d3,d4 ++ [d5]))
    else
     none
theorem c8h:EqF 134 (W5 c2e):=fun _ _ _ => by kernel_rfl
theorem d1a (rf rb d1 d2 d3 d4 d5):c2e rf rb d1 d2 d3 d4 d5 = c2d rf rb d1 d2 d3 d4 d5:=by
 unfold c2e c2d; simp only [C9,l5,p9]
theorem d7B {d1 d2 d3 d4 d5 y} (h:c2d T.rf T.rb d1 d2 d3 d4 d5 = some y):b2M T.rf d1 d2 d3 d4 d5 = some y:=c8h.o ((d1a _ _ _ _ _ _ _).trans h)
def d9f (rf:T.RF) (rb:T.RB) (d1:List (List UInt8)) (d2:List (List XN)) (d3:List XN):Option ((List (List UInt8) × List (List XN) × List XN × Bool) ⊕ (List (List UInt8) × List (List XN) × List XN × Bool)) :=
 bif (d3.length:Int) == 0 then
  some (.inl (d1,d2,[],true))
 else
  (b9W rf d3 d1 d2).bind fun y1 =>
  (c93 rf y1).bind fun y2 =>
  some (.inr (d1,d2,y1,y2))
theorem d3R:EqF 135 (W3 d9f):=fun _ _ _ => by kernel_rfl
def c4Z (rf:T.RF) (rb:T.RB) (d1:List (List UInt8)) (d2:List (List XN)) (d3:List XN):Option (List (List UInt8) × List (List XN) × List XN × Bool) :=
 bif (d3.length:Int) == 0 then
  some (d1,d2,[],true)
 else
  (b9W rf d3 d1 d2).bind fun y1 =>
  (c93 rf y1).bind fun y2 =>
  some (d1,d2,y1,y2)
theorem c8i:EqF 136 (W3 c4Z):=fun _ _ _ => by kernel_rfl
theorem d7C:IF3 c4Z c3l:=fun h => c8i.o h
def b9b (rf:T.RF) (rb:T.RB) (d1:List (List UInt8)) (d2:List XPm) (d3 d4:Int):Option (List (List UInt8)) :=
 bif decide (d4 < d3) then
  bif inb d4 d2.length then
   (nth d2 d4.toNat).bind fun x1 =>
   bif (Nat.ble (d1.length + 1) j8) && true then
   c0D rb (d1 ++ [x1.1]) d2 d3 (IntKind.i64.wrap (d4 + 1))
   else
   none
  else
   none
 else
  some d1
theorem c6q:EqB 190 (W4 b9b):=fun _ _ _ => by kernel_rfl
theorem c9w:IB4 b9b c0D:=fun h => c6q.o h
def b9c (rf:T.RF) (rb:T.RB) (d1:XIt) (d2:List (List UInt8)) (d3:List (List XN)) (d4:List XIt) (d5 d6:Int):Option (XIt × List (List UInt8) × List (List XN)) :=
 bif decide (d6 < d5) then
  bif inb d6 d4.length then
   (nth d4 d6.toNat).bind fun x1 =>
   bif x1.1 == 3 then
   bif (Nat.ble (d2.length + 1) j8) && true then
   bif Nat.ble (d1.2.1.length + 1) j8 then
   bif Nat.ble ((d1.2.1 ++ ([95]:List UInt8)).length + x1.2.1.length) j8 then
   l0 (
   (b7t rf 3 0 ((d1.2.1 ++ ([95]:List UInt8)) ++ x1.2.1) []).bind fun y2 =>
   bif (Nat.ble (d3.length + 1) j8) && true then
   b1J rb d1 (d2 ++ [x1.2.1]) (d3 ++ [y2]) d4 d5 (IntKind.i64.wrap (d6 + 1))
   else
   none
   ) (
   (b7t rf 3 0 ((d1.2.1 ++ ([95]:List UInt8)) ++ x1.2.1) []).bind fun y2 =>
   agN 1 (
   bif (Nat.ble (d3.length + 1) j8) && true then
   b1J rb d1 (d2 ++ [x1.2.1]) (d3 ++ [y2]) d4 d5 (IntKind.i64.wrap (d6 + 1))
   else
   none
   )
   )
   else
   none
   else
   none
   else
   none
   else
   b1J rb d1 d2 d3 d4 d5 (IntKind.i64.wrap (d6 + 1))
  else
   none
 else
  some (d1,d2,d3)
def b6Z (rf:T.RF) (rb:T.RB) (d1:XIt) (d2:List (List UInt8)) (d3:List (List XN)) (d4:List XIt) (d5 d6:Int):Option (XIt × List (List UInt8) × List (List XN)) :=
 bif decide (d6 < d5) then
  bif inb d6 d4.length then
   (nth d4 d6.toNat).bind fun x1 =>
   bif x1.1 == 3 then
   bif (Nat.ble (d2.length + 1) j8) && true then
   bif Nat.ble (d1.2.1.length + 1) j8 then
   bif Nat.ble ((d1.2.1 ++ ([95]:List UInt8)).length + x1.2.1.length) j8 then
   (b7t rf 3 0 ((d1.2.1 ++ ([95]:List UInt8)) ++ x1.2.1) []).bind fun y2 =>
   bif (Nat.ble (d3.length + 1) j8) && true then
   b1J rb d1 (d2 ++ [x1.2.1]) (d3 ++ [y2]) d4 d5 (IntKind.i64.wrap (d6 + 1))
   else
   none
   else
   none
   else
   none
   else
   none
   else
   b1J rb d1 d2 d3 d4 d5 (IntKind.i64.wrap (d6 + 1))
  else
   none
 else
  some (d1,d2,d3)
theorem c6r:EqB 191 (W6 b9c):=fun _ _ _ => by kernel_rfl
theorem d0P (rf rb d1 d2 d3 d4 d5 d6):b9c rf rb d1 d2 d3 d4 d5 d6 = b6Z rf rb d1 d2 d3 d4 d5 d6:=by
 unfold b9c b6Z; simp only [C9,l5,p9]
theorem c9x {d1 d2 d3 d4 d5 d6 y} (h:b6Z T.rf T.rb d1 d2 d3 d4 d5 d6 = some y):b1J T.rb d1 d2 d3 d4 d5 d6 = some y:=c6r.o ((d0P _ _ _ _ _ _ _ _).trans h)
def b7a (rf:T.RF) (rb:T.RB) (d1:XIt) (d2:List (List UInt8)) (d3:List (List XN)) (d4:List (List UInt8 × XUn)) (d5 d6:List (List UInt8 × Bool)) (d7 d8:List XIt) (d9 d10:Int):Option ((XIt × List (List UInt8) × List (List XN) × List (List UInt8 × XUn) × List (List UInt8 × Bool) × List (List UInt8 × Bool) × List XIt × Int) ⊕ (XIt × List (List UInt8) × List (List XN) × List (List UInt8 × XUn) × List (List UInt8 × Bool) × List (List UInt8 × Bool) × List XIt)) :=
 bif decide (d10 < d9) then
  bif inb d10 d8.length then
   (nth d8 d10.toNat).bind fun x1 =>
   (c3l rf d2 d3 x1.2.2.2.1).bind fun y2 =>
   (c3l rf y2.1 y2.2.1 x1.2.2.2.2.1).bind fun y3 =>
   bif !(x1.2.1 == ([]:List UInt8)) then
    bif Nat.ble (d1.2.1.length + 1) j8 then
     bif Nat.ble ((d1.2.1 ++ ([95]:List UInt8)).length + x1.2.1.length) j8 then
      (c69 rf ((d1.2.1 ++ ([95]:List UInt8)) ++ x1.2.1)).bind fun y4 =>
      (C5 rf y4 8).bind fun y5 =>
      match y5 with
      | .inl u6 =>
        some (.inl (d1,y3.1,y3.2.1,d4,d5,d6,d7,u6))
      | .inr w7 =>
        bif y2.2.2.2 then
         (C5 rf y3.2.2.2 7).bind fun y8 =>
         match y8 with
         | .inl u9 =>
           some (.inl (d1,y3.1,y3.2.1,d4,d5,d6,d7,u9))
         | .inr w10 =>
           (b2M rf d4 d5 d6 d7 (x1.1,(d1.2.1 ++ ([95]:List UInt8)) ++ x1.2.1,x1.2.2.1,y2.2.2.1,y3.2.2.1,x1.2.2.2.2.2)).bind fun y11 =>
           match y11 with
           | .inl u12 =>
             some (.inl (d1,y3.1,y3.2.1,u12))
           | .inr w13 =>
             a8o rb d1 y3.1 y3.2.1 w13.1 w13.2.1 w13.2.2.1 w13.2.2.2 d8 d9 (IntKind.i64.wrap (d10 + 1))
        else
         (C5 rf false 7).bind fun y14 =>
         match y14 with
         | .inl u15 =>
           some (.inl (d1,y3.1,y3.2.1,d4,d5,d6,d7,u15))
         | .inr w16 =>
           (b2M rf d4 d5 d6 d7 (x1.1,(d1.2.1 ++ ([95]:List UInt8)) ++ x1.2.1,x1.2.2.1,y2.2.2.1,y3.2.2.1,x1.2.2.2.2.2)).bind fun y17 =>
           match y17 with
           | .inl u18 =>
             some (.inl (d1,y3.1,y3.2.1,u18))
           | .inr w19 =>
             a8o rb d1 y3.1 y3.2.1 w19.1 w19.2.1 w19.2.2.1 w19.2.2.2 d8 d9 (IntKind.i64.wrap (d10 + 1))
     else
      none
    else
     none
   else
   bif y2.2.2.2 then
    (C5 rf y3.2.2.2 7).bind fun y20 =>
    match y20 with
    | .inl u21 =>
      some (.inl (d1,y3.1,y3.2.1,d4,d5,d6,d7,u21))
    | .inr w22 =>
      (b2M rf d4 d5 d6 d7 (x1.1,x1.2.1,x1.2.2.1,y2.2.2.1,y3.2.2.1,x1.2.2.2.2.2)).bind fun y23 =>
      match y23 with
      | .inl u24 =>
        some (.inl (d1,y3.1,y3.2.1,u24))
      | .inr w25 =>
        a8o rb d1 y3.1 y3.2.1 w25.1 w25.2.1 w25.2.2.1 w25.2.2.2 d8 d9 (IntKind.i64.wrap (d10 + 1))
   else
    (C5 rf false 7).bind fun y26 =>
    match y26 with
    | .inl u27 =>
      some (.inl (d1,y3.1,y3.2.1,d4,d5,d6,d7,u27))
    | .inr w28 =>
      (b2M rf d4 d5 d6 d7 (x1.1,x1.2.1,x1.2.2.1,y2.2.2.1,y3.2.2.1,x1.2.2.2.2.2)).bind fun y29 =>
      match y29 with
      | .inl u30 =>
        some (.inl (d1,y3.1,y3.2.1,u30))
      | .inr w31 =>
        a8o rb d1 y3.1 y3.2.1 w31.1 w31.2.1 w31.2.2.1 w31.2.2.2 d8 d9 (IntKind.i64.wrap (d10 + 1))
  else
   none
 else
  some (.inr (d1,d2,d3,d4,d5,d6,d7))
theorem c6s:EqB 192 (W10 b7a):=fun _ _ _ => by kernel_rfl
theorem c9y:d2U b7a a8o:=fun h => c6s.o h
def c2c (rf:T.RF) (rb:T.RB) (d1:List (List UInt8 × XUn)) (d2 d3:List (List UInt8 × Bool)) (d4:List XIt) (d5:XIt):Option ((List (List UInt8 × XUn) × List (List UInt8 × Bool) × List (List UInt8 × Bool) × List XIt × Int) ⊕ (List (List UInt8 × XUn) × List (List UInt8 × Bool) × List (List UInt8 × Bool) × List XIt × Int) ⊕ (List (List UInt8 × XUn) × List (List UInt8 × Bool) × List (List UInt8 × Bool) × List XIt)) :=
 bif D0 (CT.eqK .str) d1 d5.2.1 then
  (C5 rf (j4 (CT.eqK .str) (false,([]:List UInt8),[],([]:List UInt8),0,[],[],[]) d1 d5.2.1).1 8).bind fun y1 =>
  match y1 with
  | .inl u2 =>
    some (.inl (d1,d2,d3,d4,u2))
  | .inr w3 =>
    (C5 rf (((((j4 (CT.eqK .str) (false,([]:List UInt8),[],([]:List UInt8),0,[],[],[]) d1 d5.2.1).2.2.1.length:Nat):Int)) == (d5.2.2.2.2.2.length:Int)) 14).bind fun y4 =>
    match y4 with
    | .inl u5 =>
      some (.inl (d1,d2,d3,d4,u5))
    | .inr w6 =>
      (b7s rf d5.2.2.2.2.2).bind fun y7 =>
      (c0D rb [] (j4 (CT.eqK .str) (false,([]:List UInt8),[],([]:List UInt8),0,[],[],[]) d1 d5.2.1).2.2.1 ((((j4 (CT.eqK .str) (false,([]:List UInt8),[],([]:List UInt8),0,[],[],[]) d1 d5.2.1).2.2.1.length:Nat):Int)) 0).bind fun z8 =>
      (b1J rb d5 z8 y7 (j4 (CT.eqK .str) (false,([]:List UInt8),[],([]:List UInt8),0,[],[],[]) d1 d5.2.1).2.2.2.2.2.2.2 ((((j4 (CT.eqK .str) (false,([]:List UInt8),[],([]:List UInt8),0,[],[],[]) d1 d5.2.1).2.2.2.2.2.2.2.length:Nat):Int)) 0).bind fun z9 =>
      (a8o rb z9.1 z9.2.1 z9.2.2 d1 d2 d3 d4 (j4 (CT.eqK .str) (false,([]:List UInt8),[],([]:List UInt8),0,[],[],[]) d1 d5.2.1).2.2.2.2.2.2.2 ((((j4 (CT.eqK .str) (false,([]:List UInt8),[],([]:List UInt8),0,[],[],[]) d1 d5.2.1).2.2.2.2.2.2.2.length:Nat):Int)) 0).bind fun z10 =>
      match z10 with
      | .inl u11 =>
        some (.inr (.inl u11.2.2.2))
      | .inr w12 =>
        some (.inr (.inr w12.2.2.2))
 else
  (C5 rf false 8).bind fun y13 =>
  match y13 with
  | .inl u14 =>
    some (.inl (d1,d2,d3,d4,u14))
  | .inr w15 =>
    (C5 rf (((((j4 (CT.eqK .str) (false,([]:List UInt8),[],([]:List UInt8),0,[],[],[]) d1 d5.2.1).2.2.1.length:Nat):Int)) == (d5.2.2.2.2.2.length:Int)) 14).bind fun y16 =>
    match y16 with
    | .inl u17 =>
      some (.inl (d1,d2,d3,d4,u17))
    | .inr w18 =>
      (b7s rf d5.2.2.2.2.2).bind fun y19 =>
      (c0D rb [] (j4 (CT.eqK .str) (false,([]:List UInt8),[],([]:List UInt8),0,[],[],[]) d1 d5.2.1).2.2.1 ((((j4 (CT.eqK .str) (false,([]:List UInt8),[],([]:List UInt8),0,[],[],[]) d1 d5.2.1).2.2.1.length:Nat):Int)) 0).bind fun z20 =>
      (b1J rb d5 z20 y19 (j4 (CT.eqK .str) (false,([]:List UInt8),[],([]:List UInt8),0,[],[],[]) d1 d5.2.1).2.2.2.2.2.2.2 ((((j4 (CT.eqK .str) (false,([]:List UInt8),[],([]:List UInt8),0,[],[],[]) d1 d5.2.1).2.2.2.2.2.2.2.length:Nat):Int)) 0).bind fun z21 =>
      (a8o rb z21.1 z21.2.1 z21.2.2 d1 d2 d3 d4 (j4 (CT.eqK .str) (false,([]:List UInt8),[],([]:List UInt8),0,[],[],[]) d1 d5.2.1).2.2.2.2.2.2.2 ((((j4 (CT.eqK .str) (false,([]:List UInt8),[],([]:List UInt8),0,[],[],[]) d1 d5.2.1).2.2.2.2.2.2.2.length:Nat):Int)) 0).bind fun z22 =>
      match z22 with
      | .inl u23 =>
        some (.inr (.inl u23.2.2.2))
      | .inr w24 =>
        some (.inr (.inr w24.2.2.2))
theorem c7Z:EqF 125 (W5 c2c):=fun _ _ _ => by kernel_rfl
theorem d7t:IF5 c2c c3j:=fun h => c7Z.o h
def d2G (rf:T.RF) (rb:T.RB) (d1:List (List UInt8 × Bool)):Option (List (List UInt8 × Bool) × List (List UInt8 × Bool)) :=
 some (d1,d1)
theorem c8j:EqF 137 fun a b => d2G a b:=fun _ _ _ => by kernel_rfl
theorem d7D:IF1 d2G d1B:=fun h => c8j.o h
def b7e (rf:T.RF) (rb:T.RB) (d1:List XN) (d2 d3:Int):Option Int :=
 bif decide (d3 ≥ 0) then
  bif inb d3 d1.length then
   (nth d1 d3.toNat).bind fun x1 =>
   c3T rb d1 (IntKind.i64.wrap (d2 + 1)) x1.2.2.1
  else
   none
 else
  some d2
theorem c6z:EqB 199 (W3 b7e):=fun _ _ _ => by kernel_rfl
theorem c9E:IB3 b7e c3T:=fun h => c6z.o h
def c5b (rf:T.RF) (rb:T.RB) (d1:List XN) (d2:XN):Option Int :=
 (c3T rb d1 0 d2.2.1).bind fun z1 =>
 some z1
theorem c8l:EqF 139 (W2 c5b):=fun _ _ _ => by kernel_rfl
theorem d7F:IF2 c5b d1D:=fun h => c8l.o h
def b9f (rf:T.RF) (rb:T.RB) (d1:List (List UInt8 × XUn)) (d2 d3:List (List UInt8 × Bool)) (d4:List XIt) (d5 d6:List XN) (d7 d8:Int):Option ((List (List UInt8 × XUn) × List (List UInt8 × Bool) × List (List UInt8 × Bool) × List XIt × Int) ⊕ (List (List UInt8 × XUn) × List (List UInt8 × Bool) × List (List UInt8 × Bool) × List XIt)) :=
 bif decide (d8 < d7) then
  bif inb d8 d6.length then
   (nth d6 d8.toNat).bind fun x1 =>
   bif x1.1 == 3 then
    (C5 rf (!(j4 (CT.eqK .str) false d3 x1.2.2.2.2.2)) 13).bind fun y2 =>
    match y2 with
    | .inl u3 =>
      some (.inl (d1,d2,d3,d4,u3))
    | .inr w4 =>
      (C5 rf (j4 (CT.eqK .str) false d2 x1.2.2.2.2.2) 8).bind fun y5 =>
      match y5 with
      | .inl u6 =>
        some (.inl (d1,d2,d3,d4,u6))
      | .inr w7 =>
        b3j rb d1 d2 d3 d4 d5 d6 d7 (IntKind.i64.wrap (d8 + 1))
   else
   bif x1.1 == 27 then
    bif D0 (CT.eqK .str) d1 x1.2.2.2.2.2 then
     bif !(j4 (CT.eqK .str) (false,([]:List UInt8),[],([]:List UInt8),0,[],[],[]) d1 x1.2.2.2.2.2).1 then
      (d1D rf d5 x1).bind fun y8 =>
      (C5 rf (((((j4 (CT.eqK .str) (false,([]:List UInt8),[],([]:List UInt8),0,[],[],[]) d1 x1.2.2.2.2.2).2.2.1.length:Nat):Int)) == y8) 14).bind fun y9 =>
      match y9 with
      | .inl u10 =>
        some (.inl (d1,d2,d3,d4,u10))
      | .inr w11 =>
        b3j rb d1 d2 d3 d4 d5 d6 d7 (IntKind.i64.wrap (d8 + 1))
     else
      (C5 rf false 14).bind fun y12 =>
      match y12 with
      | .inl u13 =>
        some (.inl (d1,d2,d3,d4,u13))
      | .inr w14 =>
        b3j rb d1 d2 d3 d4 d5 d6 d7 (IntKind.i64.wrap (d8 + 1))
    else
     (C5 rf false 14).bind fun y15 =>
     match y15 with
     | .inl u16 =>
       some (.inl (d1,d2,d3,d4,u16))
     | .inr w17 =>
       b3j rb d1 d2 d3 d4 d5 d6 d7 (IntKind.i64.wrap (d8 + 1))
   else
    b3j rb d1 d2 d3 d4 d5 d6 d7 (IntKind.i64.wrap (d8 + 1))
  else
   none
 else
  some (.inr (d1,d2,d3,d4))
theorem c6y:EqB 198 (W8 b9f):=fun _ _ _ => by kernel_rfl
theorem c9D:IB8 b9f b3j:=fun h => c6y.o h
def c5a (rf:T.RF) (rb:T.RB) (d1:List (List UInt8 × XUn)) (d2 d3:List (List UInt8 × Bool)) (d4:List XIt) (d5:List XN):Option ((List (List UInt8 × XUn) × List (List UInt8 × Bool) × List (List UInt8 × Bool) × List XIt × Int) ⊕ (List (List UInt8 × XUn) × List (List UInt8 × Bool) × List (List UInt8 × Bool) × List XIt)) :=
 (b3j rb d1 d2 d3 d4 d5 d5 (d5.length:Int) 0).bind fun z1 =>
 match z1 with
 | .inl u2 =>
   some (.inl u2)
 | .inr w3 =>
   some (.inr w3)
theorem c8k:EqF 138 (W5 c5a):=fun _ _ _ => by kernel_rfl
theorem d7E:IF5 c5a d1C:=fun h => c8k.o h
def b9d (rf:T.RF) (rb:T.RB) (d1:XUn) (d2:Bool) (d3:List UInt8) (d4:List XPm) (d5:List UInt8) (d6:Int) (d7:List XPm) (d8:List (List UInt8 × Bool)) (d9:List XPm) (d10:List (List UInt8 × XUn)) (d11 d12:List (List UInt8 × Bool)) (d13:List XIt) (d14:List XEq) (d15:List XIt):Option ((XUn × Bool × List UInt8 × List XPm × List UInt8 × Int × List XPm × List (List UInt8 × Bool) × List XPm × List (List UInt8 × XUn) × List (List UInt8 × Bool) × List (List UInt8 × Bool) × List XIt × List XEq × List XIt × Int) ⊕ (XUn × Bool × List UInt8 × List XPm × List UInt8 × Int × List XPm × List (List UInt8 × Bool) × List XPm × List (List UInt8 × XUn) × List (List UInt8 × Bool) × List (List UInt8 × Bool) × List XEq × List XIt × List XIt × Int) ⊕ (Bool × List UInt8 × List XPm × List UInt8 × Int × List XPm × List XEq × Bool × List UInt8 × List XPm × List UInt8 × Int × List XPm × List (List UInt8 × Bool) × List XPm × List (List UInt8 × XUn) × List (List UInt8 × Bool) × List (List UInt8 × Bool) × List XEq × List XIt × List XIt × Int) ⊕ (Bool × List UInt8 × List XPm × List UInt8 × Int × List XPm × List XEq × Bool × List UInt8 × List XPm × List UInt8 × Int × List XPm × List XEq × List (List UInt8 × Bool) × List XPm × List (List UInt8 × XUn) × List (List UInt8 × Bool) × List (List UInt8 × Bool) × List XEq × List XIt × List XIt)) :=
 (b7N rb d1 d8 d9 d10 d11 d12 d13 (d9.length:Int) 0).bind fun z1 =>
 match z1 with
 | .inl u2 =>
   some (.inl (u2.1,d2,d3,d4,d5,d6,d7,u2.2.1,u2.2.2.1,u2.2.2.2.1,u2.2.2.2.2.1,u2.2.2.2.2.2.1,u2.2.2.2.2.2.2.1,d14,d15,u2.2.2.2.2.2.2.2))
 | .inr w3 =>
   (b4U rb w3.2.2.2.1 w3.2.2.2.2.1 w3.2.2.2.2.2.1 w3.2.2.2.2.2.2 w3.1.2.2.2.2.2.2.2 (w3.1.2.2.2.2.2.2.2.length:Int) 0).bind fun z4 =>
   match z4 with
   | .inl u5 =>
     some (.inr (.inl (w3.1,d2,d3,d4,d5,d6,d7,w3.2.1,w3.2.2.1,u5.1,u5.2.1,u5.2.2.1,d14,d15,u5.2.2.2)))
   | .inr w6 =>
     (d1B rf w3.2.1).bind fun y7 =>
     (c0F rb y7.1 y7.2 w6.1 w6.2.1 w6.2.2.1 w6.2.2.2 w3.1.2.2.2.2.2.2.1 (w3.1.2.2.2.2.2.2.1.length:Int) 0).bind fun z8 =>
     match z8 with
     | .inl u9 =>
       some (.inr (.inr (.inl (w3.1.1,w3.1.2.1,w3.1.2.2.1,w3.1.2.2.2.1,w3.1.2.2.2.2.1,w3.1.2.2.2.2.2.1,w3.1.2.2.2.2.2.2.1,d2,d3,d4,d5,d6,d7,u9.1,w3.2.2.1,u9.2.2.1,u9.2.2.2.1,u9.2.2.2.2.1,d14,d15,u9.2.2.2.2.2))))
     | .inr w10 =>
       (C5 rf ((w10.1.length:Int) == 0) 8).bind fun y11 =>
       match y11 with
       | .inl u12 =>
         some (.inr (.inr (.inl (w3.1.1,w3.1.2.1,w3.1.2.2.1,w3.1.2.2.2.1,w3.1.2.2.2.2.1,w3.1.2.2.2.2.2.1,w3.1.2.2.2.2.2.2.1,d2,d3,d4,d5,d6,d7,w10.1,w3.2.2.1,w10.2.2.1,w10.2.2.2.1,w10.2.2.2.2.1,d14,d15,w10.2.2.2.2.2,u12))))
       | .inr w13 =>
         some (.inr (.inr (.inr (w3.1.1,w3.1.2.1,w3.1.2.2.1,w3.1.2.2.2.1,w3.1.2.2.2.2.1,w3.1.2.2.2.2.2.1,w3.1.2.2.2.2.2.2.1,w3.1.1,w3.1.2.1,w3.1.2.2.1,w3.1.2.2.2.1,w3.1.2.2.2.2.1,w3.1.2.2.2.2.2.1,w3.1.2.2.2.2.2.2.1,w10.1,w3.2.2.1,w10.2.2.1,w10.2.2.2.1,w10.2.2.2.2.1,d14,d15,w10.2.2.2.2.2))))
theorem c6t:EqB 193 (W15 b9d):=fun _ _ _ => by kernel_rfl
theorem d6O:d9r b9d c0E:=fun h => c6t.o h
def b7b (rf:T.RF) (rb:T.RB) (d1:XUn) (d2:List (List UInt8 × Bool)) (d3:List XPm) (d4:List (List UInt8 × XUn)) (d5 d6:List (List UInt8 × Bool)) (d7:List XIt) (d8 d9:Int):Option ((XUn × List (List UInt8 × Bool) × List XPm × List (List UInt8 × XUn) × List (List UInt8 × Bool) × List (List UInt8 × Bool) × List XIt × Int) ⊕ (XUn × List (List UInt8 × Bool) × List XPm × List (List UInt8 × XUn) × List (List UInt8 × Bool) × List (List UInt8 × Bool) × List XIt)) :=
 bif decide (d9 < d8) then
  bif inb d9 d3.length then
   (nth d3 d9.toNat).bind fun x1 =>
   (C5 rf (!(j4 (CT.eqK .str) false d5 x1.1)) 9).bind fun y2 =>
   match y2 with
   | .inl u3 =>
     some (.inl (d1,d2,d3,d4,d5,d6,d7,u3))
   | .inr w4 =>
     bif decide (d9 ≥ (d1.2.2.1.length:Int)) then
      b7N rb d1 (o4 (CT.eqK .str) d2 x1.1 true) d3 d4 (o4 (CT.eqK .str) d5 x1.1 true) d6 d7 d8 (IntKind.i64.wrap (d9 + 1))
     else
      b7N rb d1 d2 d3 d4 (o4 (CT.eqK .str) d5 x1.1 true) d6 d7 d8 (IntKind.i64.wrap (d9 + 1))
  else
   none
 else
  some (.inr (d1,d2,d3,d4,d5,d6,d7))
theorem c6u:EqB 194 (W9 b7b):=fun _ _ _ => by kernel_rfl
theorem c9z:IB9 b7b b7N:=fun h => c6u.o h
def b7c (rf:T.RF) (rb:T.RB) (d1:List (List UInt8 × XUn)) (d2 d3:List (List UInt8 × Bool)) (d4 d5:List XIt) (d6 d7:Int):Option ((List (List UInt8 × XUn) × List (List UInt8 × Bool) × List (List UInt8 × Bool) × List XIt × Int) ⊕ (List (List UInt8 × XUn) × List (List UInt8 × Bool) × List (List UInt8 × Bool) × List XIt)) :=
 bif decide (d7 < d6) then
  bif inb d7 d5.length then
   (nth d5 d7.toNat).bind fun x1 =>
   (b9V rf d1 d2 d3 d4 x1.2.2.2.1).bind fun y2 =>
   match y2 with
   | .inl u3 =>
     some (.inl u3)
   | .inr w4 =>
     (b9V rf w4.1 w4.2.1 w4.2.2.1 w4.2.2.2 x1.2.2.2.2.1).bind fun y5 =>
     match y5 with
     | .inl u6 =>
       some (.inl u6)
     | .inr w7 =>
       (c3S rb w7.1 w7.2.1 w7.2.2.1 w7.2.2.2 x1.2.2.2.2.2 (x1.2.2.2.2.2.length:Int) 0).bind fun z8 =>
       match z8 with
       | .inl u9 =>
         some (.inl u9)
       | .inr w10 =>
         bif x1.1 == 5 then
          (c3j rf w10.1 w10.2.1 w10.2.2.1 w10.2.2.2 x1).bind fun y11 =>
          match y11 with
          | .inl u12 =>
            some (.inl u12)
          | .inr w13 =>
            match w13 with
            | .inl u14 =>
              some (.inl u14)
            | .inr w15 =>
              b4U rb w15.1 w15.2.1 w15.2.2.1 w15.2.2.2 d5 d6 (IntKind.i64.wrap (d7 + 1))
         else
          (b2M rf w10.1 w10.2.1 w10.2.2.1 w10.2.2.2 x1).bind fun y16 =>
          match y16 with
          | .inl u17 =>
            some (.inl u17)
          | .inr w18 =>
            b4U rb w18.1 w18.2.1 w18.2.2.1 w18.2.2.2 d5 d6 (IntKind.i64.wrap (d7 + 1))
  else
   none
 else
  some (.inr (d1,d2,d3,d4))
theorem c6v:EqB 195 (W7 b7c):=fun _ _ _ => by kernel_rfl
theorem c9A:IB7 b7c b4U:=fun h => c6v.o h
def b9e (rf:T.RF) (rb:T.RB) (d1:List (List UInt8 × XUn)) (d2 d3:List (List UInt8 × Bool)) (d4:List XIt) (d5:List (List XN)) (d6 d7:Int):Option ((List (List UInt8 × XUn) × List (List UInt8 × Bool) × List (List UInt8 × Bool) × List XIt × Int) ⊕ (List (List UInt8 × XUn) × List (List UInt8 × Bool) × List (List UInt8 × Bool) × List XIt)) :=
 bif decide (d7 < d6) then
  bif inb d7 d5.length then
   (nth d5 d7.toNat).bind fun x1 =>
   (b9V rf d1 d2 d3 d4 x1).bind fun y2 =>
   match y2 with
   | .inl u3 =>
     some (.inl u3)
   | .inr w4 =>
     c3S rb w4.1 w4.2.1 w4.2.2.1 w4.2.2.2 d5 d6 (IntKind.i64.wrap (d7 + 1))
  else
   none
 else
  some (.inr (d1,d2,d3,d4))
theorem c6w:EqB 196 (W7 b9e):=fun _ _ _ => by kernel_rfl
theorem c9B:IB7 b9e c3S:=fun h => c6w.o h
def b7d (rf:T.RF) (rb:T.RB) (d1 d2:List (List UInt8 × Bool)) (d3:List (List UInt8 × XUn)) (d4 d5:List (List UInt8 × Bool)) (d6:List XIt) (d7:List XEq) (d8 d9:Int):Option ((List (List UInt8 × Bool) × List (List UInt8 × Bool) × List (List UInt8 × XUn) × List (List UInt8 × Bool) × List (List UInt8 × Bool) × List XIt × Int) ⊕ (List (List UInt8 × Bool) × List (List UInt8 × Bool) × List (List UInt8 × XUn) × List (List UInt8 × Bool) × List (List UInt8 × Bool) × List XIt)) :=
 bif decide (d9 < d8) then
  bif inb d9 d7.length then
   (nth d7 d9.toNat).bind fun x1 =>
   (C5 rf (j4 (CT.eqK .str) false d2 x1.1) 8).bind fun y2 =>
   match y2 with
   | .inl u3 =>
     some (.inl (d1,d2,d3,d4,d5,d6,u3))
   | .inr w4 =>
     (C5 rf (j4 (CT.eqK .str) false d1 x1.1) 9).bind fun y5 =>
     match y5 with
     | .inl u6 =>
       some (.inl (d1,d2,d3,d4,d5,d6,u6))
     | .inr w7 =>
       (d1C rf d3 d4 d5 d6 x1.2).bind fun y8 =>
       match y8 with
       | .inl u9 =>
         some (.inl (d1,d2,u9))
       | .inr w10 =>
         c0F rb (C4 (CT.eqK .str) d1 x1.1) d2 w10.1 w10.2.1 w10.2.2.1 w10.2.2.2 d7 d8 (IntKind.i64.wrap (d9 + 1))
  else
   none
 else
  some (.inr (d1,d2,d3,d4,d5,d6))
theorem c6x:EqB 197 (W9 b7d):=fun _ _ _ => by kernel_rfl
theorem c9C:IB9 b7d c0F:=fun h => c6x.o h
def c2b (rf:T.RF) (rb:T.RB) (d1:List (List UInt8 × XUn)) (d2 d3:List (List UInt8 × Bool)) (d4:List XIt) (d5:XUn):Option ((List (List UInt8 × XUn) × List (List UInt8 × Bool) × List (List UInt8 × Bool) × List XIt × Int) ⊕ (List (List UInt8 × XUn) × List (List UInt8 × Bool) × List (List UInt8 × Bool) × List XIt × Int) ⊕ (List XIt × List (List UInt8 × XUn) × List (List UInt8 × Bool) × List (List UInt8 × Bool) × XUn)) :=
 (C5 rf (!(D0 (CT.eqK .str) d1 d5.2.1)) 9).bind fun y1 =>
 match y1 with
 | .inl u2 =>
   some (.inl (d1,d2,d3,d4,u2))
 | .inr w3 =>
   (N1 rf d5.2.2.1).bind fun y4 =>
   bif !d5.1 then
    bif (Nat.ble (y4.length + 1) j8) && true then
     bif (Nat.ble ((y4 ++ [(d5.2.2.2.1,d5.2.2.2.2.1)]).length + d5.2.2.2.2.2.1.length) j8) && true then
      (c0E rb d5 false ([]:List UInt8) [] ([]:List UInt8) 0 [] [] ((y4 ++ [(d5.2.2.2.1,d5.2.2.2.2.1)]) ++ d5.2.2.2.2.2.1) d1 d2 d3 d4 [] []).bind fun z5 =>
      match z5 with
      | .inl u6 =>
        some (.inl (u6.2.2.2.2.2.2.2.2.2.1,u6.2.2.2.2.2.2.2.2.2.2.1,u6.2.2.2.2.2.2.2.2.2.2.2.1,u6.2.2.2.2.2.2.2.2.2.2.2.2.1,u6.2.2.2.2.2.2.2.2.2.2.2.2.2.2.2))
      | .inr w7 =>
        match w7 with
        | .inl u8 =>
          some (.inr (.inl (u8.2.2.2.2.2.2.2.2.2.1,u8.2.2.2.2.2.2.2.2.2.2.1,u8.2.2.2.2.2.2.2.2.2.2.2.1,u8.2.2.2.2.2.2.2.2.2.2.2.2.2.2)))
        | .inr w9 =>
          match w9 with
          | .inl u10 =>
            some (.inr (.inl (u10.2.2.2.2.2.2.2.2.2.2.2.2.2.2.2.1,u10.2.2.2.2.2.2.2.2.2.2.2.2.2.2.2.2.1,u10.2.2.2.2.2.2.2.2.2.2.2.2.2.2.2.2.2.1,u10.2.2.2.2.2.2.2.2.2.2.2.2.2.2.2.2.2.2.2.2)))
          | .inr w11 =>
            some (.inr (.inr (w11.2.2.2.2.2.2.2.2.2.2.2.2.2.2.2.2.2.2.2.2.2,w11.2.2.2.2.2.2.2.2.2.2.2.2.2.2.2.2.1,w11.2.2.2.2.2.2.2.2.2.2.2.2.2.2.2.2.2.1,w11.2.2.2.2.2.2.2.2.2.2.2.2.2.2.2.2.2.2.1,w11.2.2.2.2.2.2.2.1,w11.2.2.2.2.2.2.2.2.1,w11.2.2.2.2.2.2.2.2.2.1,w11.2.2.2.2.2.2.2.2.2.2.1,w11.2.2.2.2.2.2.2.2.2.2.2.1,w11.2.2.2.2.2.2.2.2.2.2.2.2.1,w11.2.2.2.2.2.2.2.2.2.2.2.2.2.1,w11.2.2.2.2.2.2.2.2.2.2.2.2.2.2.2.2.2.2.2.2.2)))
     else
      none
    else
     none
   else
    (c0E rb d5 false ([]:List UInt8) [] ([]:List UInt8) 0 [] [] y4 d1 d2 d3 d4 [] []).bind fun z12 =>
    match z12 with
    | .inl u13 =>
      some (.inl (u13.2.2.2.2.2.2.2.2.2.1,u13.2.2.2.2.2.2.2.2.2.2.1,u13.2.2.2.2.2.2.2.2.2.2.2.1,u13.2.2.2.2.2.2.2.2.2.2.2.2.1,u13.2.2.2.2.2.2.2.2.2.2.2.2.2.2.2))
    | .inr w14 =>
      match w14 with
      | .inl u15 =>
        some (.inr (.inl (u15.2.2.2.2.2.2.2.2.2.1,u15.2.2.2.2.2.2.2.2.2.2.1,u15.2.2.2.2.2.2.2.2.2.2.2.1,u15.2.2.2.2.2.2.2.2.2.2.2.2.2.2)))
      | .inr w16 =>
        match w16 with
        | .inl u17 =>
          some (.inr (.inl (u17.2.2.2.2.2.2.2.2.2.2.2.2.2.2.2.1,u17.2.2.2.2.2.2.2.2.2.2.2.2.2.2.2.2.1,u17.2.2.2.2.2.2.2.2.2.2.2.2.2.2.2.2.2.1,u17.2.2.2.2.2.2.2.2.2.2.2.2.2.2.2.2.2.2.2.2)))
        | .inr w18 =>
          some (.inr (.inr (w18.2.2.2.2.2.2.2.2.2.2.2.2.2.2.2.2.2.2.2.2.2,w18.2.2.2.2.2.2.2.2.2.2.2.2.2.2.2.2.1,w18.2.2.2.2.2.2.2.2.2.2.2.2.2.2.2.2.2.1,w18.2.2.2.2.2.2.2.2.2.2.2.2.2.2.2.2.2.2.1,w18.2.2.2.2.2.2.2.1,w18.2.2.2.2.2.2.2.2.1,w18.2.2.2.2.2.2.2.2.2.1,w18.2.2.2.2.2.2.2.2.2.2.1,w18.2.2.2.2.2.2.2.2.2.2.2.1,w18.2.2.2.2.2.2.2.2.2.2.2.2.1,w18.2.2.2.2.2.2.2.2.2.2.2.2.2.1,w18.2.2.2.2.2.2.2.2.2.2.2.2.2.2.2.2.2.2.2.2.2)))
theorem c7W:EqF 122 (W5 c2b):=fun _ _ _ => by kernel_rfl
theorem d7q:IF5 c2b b9U:=fun h => c7W.o h
def b9g (rf:T.RF) (rb:T.RB) (d1 d2:List XPm) (d3 d4:Int):Option (Bool ⊕ Unit) :=
 bif decide (d4 < d3) then
  bif inb d4 d1.length then
   (nth d1 d4.toNat).bind fun x1 =>
   bif inb d4 d2.length then
   (nth d2 d4.toNat).bind fun x2 =>
   bif !((x1.1 == x2.1) && (x1.2 == x2.2)) then
   some (.inl false)
   else
   c3U rb d1 d2 d3 (IntKind.i64.wrap (d4 + 1))
   else
   none
  else
   none
 else
  some (.inr ())
theorem c6B:EqB 202 (W4 b9g):=fun _ _ _ => by kernel_rfl
theorem c9G:IB4 b9g c3U:=fun h => c6B.o h
def c2f (rf:T.RF) (rb:T.RB) (d1 d2:List XPm):Option Bool :=
 bif (d1.length:Int) != (d2.length:Int) then
  some false
 else
  (c3U rb d1 d2 (d1.length:Int) 0).bind fun z1 =>
  match z1 with
  | .inl u2 =>
    some u2
  | .inr w3 =>
    some true
theorem c8m:EqF 140 (W2 c2f):=fun _ _ _ => by kernel_rfl
theorem d7G:IF2 c2f c3m:=fun h => c8m.o h
def b7f (rf:T.RF) (rb:T.RB) (d1 d2:List UInt8) (d3:Int) (d4:List (List UInt8 × XUn)) (d5:List XUn):Option ((List UInt8 × List UInt8 × Int × List (List UInt8 × XUn) × List XUn × Int) ⊕ (List UInt8 × List UInt8 × Int × List (List UInt8 × XUn) × List XUn)) :=
 bif decide (d3 < (d5.length:Int)) then
  bif inb d3 d5.length then
   (nth d5 d3.toNat).bind fun x1 =>
   (b9U rf d4 [] [] [] x1).bind fun y2 =>
   match y2 with
   | .inl u3 =>
     some (.inl (d1,d2,d3,u3.1,d5,u3.2.2.2.2))
   | .inr w4 =>
     match w4 with
     | .inl u5 =>
       some (.inl (d1,d2,d3,u5.1,d5,u5.2.2.2.2))
     | .inr w6 =>
       bif inb d3 d5.length then
        bif Nat.blt d3.toNat d5.length then
         b7O rb d1 d2 (IntKind.i64.wrap (d3 + 1)) (o4 (CT.eqK .str) w6.2.1 w6.2.2.2.2.2.1 w6.2.2.2.2) (l9 d5 d3.toNat w6.2.2.2.2)
        else
         none
       else
        none
  else
   none
 else
  some (.inr (d1,d2,d3,d4,d5))
theorem c6A:EqB 201 (W5 b7f):=fun _ _ _ => by kernel_rfl
theorem c9F:IB5 b7f b7O:=fun h => c6A.o h
def r66 (rf:T.RF) (rb:T.RB) (d1:XPg):Option (XPg × Int × Int) :=
 (c68 rf d1).bind fun y1 =>
 bif !y1 then
  some (([],([]:List UInt8),([]:List UInt8)),1,(-1))
 else
  (d1v rf d1).bind fun y2 =>
  (b7O rb y2.2.1 y2.2.2 0 [] y2.1).bind fun z3 =>
  match z3 with
  | .inl u4 =>
    some (([],([]:List UInt8),([]:List UInt8)),u4.2.2.2.2.2,u4.2.2.1)
  | .inr w5 =>
    bif D0 (CT.eqK .str) w5.2.2.2.1 d1.2.1 then
     (C5 rf (!(j4 (CT.eqK .str) (false,([]:List UInt8),[],([]:List UInt8),0,[],[],[]) w5.2.2.2.1 d1.2.1).1) 8).bind fun y6 =>
     match y6 with
     | .inl u7 =>
       some (([],([]:List UInt8),([]:List UInt8)),u7,(-1))
     | .inr w8 =>
       bif !(d1.2.2 == ([]:List UInt8)) then
        bif D0 (CT.eqK .str) w5.2.2.2.1 d1.2.2 then
         bif !(j4 (CT.eqK .str) (false,([]:List UInt8),[],([]:List UInt8),0,[],[],[]) w5.2.2.2.1 d1.2.2).1 then
          (c3m rf (j4 (CT.eqK .str) (false,([]:List UInt8),[],([]:List UInt8),0,[],[],[]) w5.2.2.2.1 d1.2.2).2.2.1 (j4 (CT.eqK .str) (false,([]:List UInt8),[],([]:List UInt8),0,[],[],[]) w5.2.2.2.1 d1.2.1).2.2.1).bind fun y9 =>
          bif y9 then
           (C5 rf (((j4 (CT.eqK .str) (false,([]:List UInt8),[],([]:List UInt8),0,[],[],[]) w5.2.2.2.1 d1.2.2).2.2.2.1 == (j4 (CT.eqK .str) (false,([]:List UInt8),[],([]:List UInt8),0,[],[],[]) w5.2.2.2.1 d1.2.1).2.2.2.1) && ((j4 (CT.eqK .str) (false,([]:List UInt8),[],([]:List UInt8),0,[],[],[]) w5.2.2.2.1 d1.2.2).2.2.2.2.1 == (j4 (CT.eqK .str) (false,([]:List UInt8),[],([]:List UInt8),0,[],[],[]) w5.2.2.2.1 d1.2.1).2.2.2.2.1)) 14).bind fun y10 =>
           match y10 with
           | .inl u11 =>
             some (([],([]:List UInt8),([]:List UInt8)),u11,(-1))
           | .inr w12 =>
             some ((w5.2.2.2.2,w5.1,w5.2.1),0,0)
          else
           (C5 rf false 14).bind fun y13 =>
           match y13 with
           | .inl u14 =>
             some (([],([]:List UInt8),([]:List UInt8)),u14,(-1))
           | .inr w15 =>
             some ((w5.2.2.2.2,w5.1,w5.2.1),0,0)
         else
          (C5 rf false 14).bind fun y16 =>
          match y16 with
          | .inl u17 =>
            some (([],([]:List UInt8),([]:List UInt8)),u17,(-1))
          | .inr w18 =>
            some ((w5.2.2.2.2,w5.1,w5.2.1),0,0)
        else
         (C5 rf false 14).bind fun y19 =>
         match y19 with
         | .inl u20 =>
           some (([],([]:List UInt8),([]:List UInt8)),u20,(-1))
         | .inr w21 =>
           some ((w5.2.2.2.2,w5.1,w5.2.1),0,0)
       else
        some ((w5.2.2.2.2,w5.1,w5.2.1),0,0)
    else
     (C5 rf false 8).bind fun y22 =>
     match y22 with
     | .inl u23 =>
       some (([],([]:List UInt8),([]:List UInt8)),u23,(-1))
     | .inr w24 =>
       bif !(d1.2.2 == ([]:List UInt8)) then
        bif D0 (CT.eqK .str) w5.2.2.2.1 d1.2.2 then
         bif !(j4 (CT.eqK .str) (false,([]:List UInt8),[],([]:List UInt8),0,[],[],[]) w5.2.2.2.1 d1.2.2).1 then
          (c3m rf (j4 (CT.eqK .str) (false,([]:List UInt8),[],([]:List UInt8),0,[],[],[]) w5.2.2.2.1 d1.2.2).2.2.1 (j4 (CT.eqK .str) (false,([]:List UInt8),[],([]:List UInt8),0,[],[],[]) w5.2.2.2.1 d1.2.1).2.2.1).bind fun y25 =>
          bif y25 then
           (C5 rf (((j4 (CT.eqK .str) (false,([]:List UInt8),[],([]:List UInt8),0,[],[],[]) w5.2.2.2.1 d1.2.2).2.2.2.1 == (j4 (CT.eqK .str) (false,([]:List UInt8),[],([]:List UInt8),0,[],[],[]) w5.2.2.2.1 d1.2.1).2.2.2.1) && ((j4 (CT.eqK .str) (false,([]:List UInt8),[],([]:List UInt8),0,[],[],[]) w5.2.2.2.1 d1.2.2).2.2.2.2.1 == (j4 (CT.eqK .str) (false,([]:List UInt8),[],([]:List UInt8),0,[],[],[]) w5.2.2.2.1 d1.2.1).2.2.2.2.1)) 14).bind fun y26 =>
           match y26 with
           | .inl u27 =>
             some (([],([]:List UInt8),([]:List UInt8)),u27,(-1))
           | .inr w28 =>
             some ((w5.2.2.2.2,w5.1,w5.2.1),0,0)
          else
           (C5 rf false 14).bind fun y29 =>
           match y29 with
           | .inl u30 =>
             some (([],([]:List UInt8),([]:List UInt8)),u30,(-1))
           | .inr w31 =>
             some ((w5.2.2.2.2,w5.1,w5.2.1),0,0)
         else
          (C5 rf false 14).bind fun y32 =>
          match y32 with
          | .inl u33 =>
            some (([],([]:List UInt8),([]:List UInt8)),u33,(-1))
          | .inr w34 =>
            some ((w5.2.2.2.2,w5.1,w5.2.1),0,0)
        else
         (C5 rf false 14).bind fun y35 =>
         match y35 with
         | .inl u36 =>
           some (([],([]:List UInt8),([]:List UInt8)),u36,(-1))
         | .inr w37 =>
           some ((w5.2.2.2.2,w5.1,w5.2.1),0,0)
       else
        some ((w5.2.2.2.2,w5.1,w5.2.1),0,0)
theorem d3Z:EqF 66 fun a b => r66 a b:=fun _ _ _ => by kernel_rfl
theorem e2I:IF1 r66 c66:=fun h => d3Z.o h
def d2H (rf:T.RF) (rb:T.RB) (d1:List UInt8) (d2:XUn):Option (List UInt8 × Bool) :=
 some (d1,d2.2.1 == d1)
theorem c8p:EqF 143 (W2 d2H):=fun _ _ _ => by kernel_rfl
theorem d7J:IF2 d2H d1F:=fun h => c8p.o h
def b9h (rf:T.RF) (rb:T.RB) (d1:List UInt8) (d2:List XUn) (d3 d4:Int):Option (XPm ⊕ (List UInt8)) :=
 bif decide (d4 < d3) then
  bif inb d4 d2.length then
   (nth d2 d4.toNat).bind fun x1 =>
   (d1F rf d1 x1).bind fun y2 =>
   bif y2.2 then
   some (.inl (y2.1,d4))
   else
   c3V rb y2.1 d2 d3 (IntKind.i64.wrap (d4 + 1))
  else
   none
 else
  some (.inr d1)
theorem c6C:EqB 203 (W4 b9h):=fun _ _ _ => by kernel_rfl
theorem c9H:IB4 b9h c3V:=fun h => c6C.o h
def c5d (rf:T.RF) (rb:T.RB) (d1:List UInt8) (d2:List XUn):Option XPm :=
 (c3V rb d1 d2 (d2.length:Int) 0).bind fun z1 =>
 match z1 with
 | .inl u2 =>
   some u2
 | .inr w3 =>
   some (w3,(-1))
theorem c8o:EqF 142 (W2 c5d):=fun _ _ _ => by kernel_rfl
theorem d7I:IF2 c5d d1E:=fun h => c8o.o h
def c5c (rf:T.RF) (rb:T.RB) (d1:XPg) (d2:List UInt8):Option Int :=
 (d1E rf d2 d1.1).bind fun y1 =>
 some y1.2
theorem c8n:EqF 141 (W2 c5c):=fun _ _ _ => by kernel_rfl
theorem d7H:IF2 c5c b9X:=fun h => c8n.o h
def r2 (rf:T.RF) (rb:T.RB):Option Bool :=
 (c3 rf ([99,111,110,116,114,97,99,116,32,107,40,120,58,105,110,116,41,32,103,104,111,115,116,32,103,58,105,110,116,61,120,43,49,59,32,97,115,115,117,109,101,32,103,62,48,59,32,101,110,100,32,110,111,100,101,32,102,40,97,58,105,110,116,41,32,114,101,116,117,114,110,115,40,99,58,105,110,116,41,32,99,111,110,116,114,97,99,116,32,105,109,112,111,114,116,32,107,40,97,41,59,32,103,117,97,114,97,110,116,101,101,32,107,95,103,62,99,59,32,101,110,100,32,108,101,116,32,99,61,97,59,32,116,101,108,32,109,97,105,110,32,102,59]:List UInt8)).bind fun y1 =>
 (c66 rf y1.1).bind fun y2 =>
 (c3 rf ([110,111,100,101,32,102,40,97,58,105,110,116,41,32,114,101,116,117,114,110,115,40,99,58,105,110,116,41,32,108,101,116,32,99,61,122,59,32,116,101,108,32,109,97,105,110,32,102,59]:List UInt8)).bind fun y3 =>
 (c66 rf y3.1).bind fun y4 =>
 (c66 rf ([],([]:List UInt8),([]:List UInt8))).bind fun y5 =>
 bif (y2.1.1.length:Int) != 2 then
  some false
 else
 bif inb 1 y2.1.1.length then
  (nth y2.1.1 1).bind fun x6 =>
  bif (x6.2.2.2.2.2.2.2.length:Int) != 3 then
   some false
  else
  bif inb 1 y2.1.1.length then
   (nth y2.1.1 1).bind fun x7 =>
   bif inb 0 x7.2.2.2.2.2.2.2.length then
   (nth x7.2.2.2.2.2.2.2 0).bind fun x8 =>
   bif (y2.2.1 == 0) && (y2.2.2 == 0) then
   bif x8.1 == 3 then
   bif x8.2.1 == ([107,95,103]:List UInt8) then
   bif (x8.2.2.2.1.length:Int) == 3 then
   bif inb 0 x8.2.2.2.1.length then
   (nth x8.2.2.2.1 0).bind fun x9 =>
   bif x9.2.2.2.2.2 == ([97]:List UInt8) then
   bif (y4.2.1 == 8) && (y4.2.2 == 0) then
   bif (y5.2.1 == 1) && (y5.2.2 == (-1)) then
   (b9X rf y1.1 ([102]:List UInt8)).bind fun y10 =>
   bif y10 == 1 then
   (b9X rf y1.1 ([122]:List UInt8)).bind fun y11 =>
   some (y11 == (-1))
   else
   some false
   else
   some false
   else
   some false
   else
   some false
   else
   none
   else
   some false
   else
   some false
   else
   some false
   else
   some false
   else
   none
  else
   none
 else
  none
theorem er2:EqF 2 (W0 r2):=fun _ _ _ => by kernel_rfl
def c5i (rf:T.RF) (rb:T.RB) (d1:XPm):Option Bool :=
 (c12 rf d1.1).bind fun y1 =>
 bif y1 then
  bif d1.2 == 1 then
   some true
  else
   some (d1.2 == 2)
 else
  some false
theorem c8u:EqF 148 fun a b => c5i a b:=fun _ _ _ => by kernel_rfl
theorem d7O:IF1 c5i a5p:=fun h => c8u.o h
def b9j (rf:T.RF) (rb:T.RB) (d1:List XPm) (d2:Int):Option (Bool ⊕ Unit) :=
 bif decide (d2 < (d1.length:Int)) then
  bif inb d2 d1.length then
   (nth d1 d2.toNat).bind fun x1 =>
   (a5p rf x1).bind fun y2 =>
   bif !y2 then
   some (.inl false)
   else
   c3W rb d1 (IntKind.i64.wrap (d2 + 1))
  else
   none
 else
  some (.inr ())
theorem c6E:EqB 205 (W2 b9j):=fun _ _ _ => by kernel_rfl
theorem c9J:IB2 b9j c3W:=fun h => c6E.o h
def c5h (rf:T.RF) (rb:T.RB) (d1:List XPm):Option Bool :=
 (c3W rb d1 0).bind fun z1 =>
 match z1 with
 | .inl u2 =>
   some u2
 | .inr w3 =>
   some (decide ((d1.length:Int) ≤ 200))
theorem c8t:EqF 147 fun a b => c5h a b:=fun _ _ _ => by kernel_rfl
theorem d7N:IF1 c5h c3o:=fun h => c8t.o h
def c5l (rf:T.RF) (rb:T.RB) (d1:XN):Option Bool :=
 (c49 rf d1).bind fun y1 =>
 bif d1.1 == 27 then
  bif d1.2.2.1 == (-1) then
   some (d1.2.2.2.1 == (-1))
  else
   some false
 else
 bif d1.1 == 28 then
  some (d1.2.2.2.1 == (-1))
 else
 bif decide ((y1.length:Int) > 0) then
  bif decide ((y1.length:Int) > 1) then
   bif decide ((y1.length:Int) > 2) then
   some true
   else
   some (d1.2.2.2.1 == (-1))
  else
  bif d1.2.2.1 == (-1) then
   bif decide ((y1.length:Int) > 2) then
   some true
   else
   some (d1.2.2.2.1 == (-1))
  else
   some false
 else
 bif d1.2.1 == (-1) then
  bif decide ((y1.length:Int) > 1) then
   bif decide ((y1.length:Int) > 2) then
   some true
   else
   some (d1.2.2.2.1 == (-1))
  else
  bif d1.2.2.1 == (-1) then
   bif decide ((y1.length:Int) > 2) then
   some true
   else
   some (d1.2.2.2.1 == (-1))
  else
   some false
 else
  some false
theorem c8x:EqF 151 fun a b => c5l a b:=fun _ _ _ => by kernel_rfl
theorem d7R:IF1 c5l d1I:=fun h => c8x.o h
def c5m (rf:T.RF) (rb:T.RB) (d1:XN):Option Bool :=
 bif d1.1 == 3 then
  bif !((!(d1.2.2.2.2.2 == ([]:List UInt8))) == true) then
   some false
  else
  bif d1.1 == 1 then
   bif decide (d1.2.2.2.2.1 ≥ 0) then
   some (decide (d1.2.2.2.2.1 ≤ 2147483647))
   else
   some false
  else
  bif d1.1 == 2 then
   bif d1.2.2.2.2.1 == 0 then
   some true
   else
   some (d1.2.2.2.2.1 == 1)
  else
  bif d1.1 == 25 then
   bif decide (d1.2.2.2.2.1 ≥ 0) then
   some (decide (d1.2.2.2.2.1 ≤ 1000))
   else
   some false
  else
   some (d1.2.2.2.2.1 == 0)
 else
 bif !((!(d1.2.2.2.2.2 == ([]:List UInt8))) == (d1.1 == 27)) then
  some false
 else
 bif d1.1 == 1 then
  bif decide (d1.2.2.2.2.1 ≥ 0) then
   some (decide (d1.2.2.2.2.1 ≤ 2147483647))
  else
   some false
 else
 bif d1.1 == 2 then
  bif d1.2.2.2.2.1 == 0 then
   some true
  else
   some (d1.2.2.2.2.1 == 1)
 else
 bif d1.1 == 25 then
  bif decide (d1.2.2.2.2.1 ≥ 0) then
   some (decide (d1.2.2.2.2.1 ≤ 1000))
  else
   some false
 else
  some (d1.2.2.2.2.1 == 0)
theorem c8y:EqF 152 fun a b => c5m a b:=fun _ _ _ => by kernel_rfl
theorem d7S:IF1 c5m d1J:=fun h => c8y.o h
def b7g (rf:T.RF) (rb:T.RB) (d1:XN) (d2:List Int) (d3:List XN) (d4:Int):Option ((XN × List Int × Bool) ⊕ (XN × List Int)) :=
 bif decide (d4 < (d2.length:Int)) then
  bif inb d4 d2.length then
   (nth d2 d4.toNat).bind fun x1 =>
   bif inb x1 d3.length then
   (nth d3 x1.toNat).bind fun x2 =>
   bif d1.1 == 27 then
   bif !((x2.1 == 28) == true) then
   some (.inl (d1,d2,false))
   else
   b1K rb d1 d2 d3 (IntKind.i64.wrap (d4 + 1))
   else
   bif d1.1 == 28 then
   bif (d2.length:Int) == 2 then
   bif !((x2.1 == 28) == (d4 == 0)) then
   some (.inl (d1,d2,false))
   else
   b1K rb d1 d2 d3 (IntKind.i64.wrap (d4 + 1))
   else
   bif !((x2.1 == 28) == false) then
   some (.inl (d1,d2,false))
   else
   b1K rb d1 d2 d3 (IntKind.i64.wrap (d4 + 1))
   else
   bif !((x2.1 == 28) == false) then
   some (.inl (d1,d2,false))
   else
   b1K rb d1 d2 d3 (IntKind.i64.wrap (d4 + 1))
   else
   none
  else
   none
 else
  some (.inr (d1,d2))
theorem c6I:EqB 209 (W4 b7g):=fun _ _ _ => by kernel_rfl
theorem b6t:IB4 b7g b1K:=fun h => c6I.o h
def c5n (rf:T.RF) (rb:T.RB) (d1:List XN) (d2:Int):Option Bool :=
 bif inb d2 d1.length then
  (nth d1 d2.toNat).bind fun x1 =>
  (c49 rf x1).bind fun y2 =>
  (b1K rb x1 y2 d1 0).bind fun z3 =>
  match z3 with
  | .inl u4 =>
    some u4.2.2
  | .inr w5 =>
    some true
 else
  none
theorem c8z:EqF 153 (W2 c5n):=fun _ _ _ => by kernel_rfl
theorem d7T:IF2 c5n c3p:=fun h => c8z.o h
def a7I (rf:T.RF) (rb:T.RB) (d1:List Int) (d2:List XN) (d3:Int):Option ((List Int × Bool) ⊕ (List Int)) :=
 bif decide (d3 < (d2.length:Int)) then
  bif inb d3 d2.length then
   (nth d2 d3.toNat).bind fun x1 =>
   bif decide (x1.1 < 1) then
    some (.inl (d1,false))
   else
   bif inb d3 d2.length then
    (nth d2 d3.toNat).bind fun x2 =>
    bif decide (x2.1 > 28) then
     some (.inl (d1,false))
    else
    bif inb d3 d2.length then
     (nth d2 d3.toNat).bind fun x3 =>
     (d1I rf x3).bind fun y4 =>
     bif !y4 then
      some (.inl (d1,false))
     else
     bif inb d3 d2.length then
      (nth d2 d3.toNat).bind fun x5 =>
      (d1J rf x5).bind fun y6 =>
      bif !y6 then
       some (.inl (d1,false))
      else
      bif inb d3 d2.length then
       (nth d2 d3.toNat).bind fun x7 =>
       (c49 rf x7).bind fun y8 =>
       (b4X rb d1 y8 d3 0).bind fun z9 =>
       match z9 with
       | .inl u10 =>
         some (.inl (u10.1,u10.2.2))
       | .inr w11 =>
         (c3p rf d2 d3).bind fun y12 =>
         bif !y12 then
          some (.inl (w11.1,false))
         else
          b4W rb w11.1 d2 (IntKind.i64.wrap (d3 + 1))
      else
       none
     else
      none
    else
     none
   else
    none
  else
   none
 else
  some (.inr d1)
theorem c6G:EqB 207 (W3 a7I):=fun _ _ _ => by kernel_rfl
theorem c1g:IB3 a7I b4W:=fun h => c6G.o h
def b2I (rf:T.RF) (rb:T.RB) (d1 d2:List Int) (d3 d4:Int):Option ((List Int × List Int × Bool) ⊕ (List Int × List Int)) :=
 bif decide (d4 < (d2.length:Int)) then
  bif inb d4 d2.length then
   (nth d2 d4.toNat).bind fun x1 =>
   bif decide (x1 < 0) then
   some (.inl (d1,d2,false))
   else
   bif inb d4 d2.length then
   (nth d2 d4.toNat).bind fun x2 =>
   bif decide (x2 ≥ d3) then
   some (.inl (d1,d2,false))
   else
   bif inb d4 d2.length then
   (nth d2 d4.toNat).bind fun x3 =>
   bif inb x3 d1.length then
   (nth d1 x3.toNat).bind fun x4 =>
   bif inb x3 d1.length then
   bif Nat.blt x3.toNat d1.length then
   b4X rb (l9 d1 x3.toNat (IntKind.i64.wrap (x4 + 1))) d2 d3 (IntKind.i64.wrap (d4 + 1))
   else
   none
   else
   none
   else
   none
   else
   none
   else
   none
  else
   none
 else
  some (.inr (d1,d2))
theorem c6H:EqB 208 (W4 b2I):=fun _ _ _ => by kernel_rfl
theorem b3v:IB4 b2I b4X:=fun h => c6H.o h
def b4z (rf:T.RF) (rb:T.RB) (d1:List Int) (d2:List XN) (d3:Int):Option ((List Int × Bool) ⊕ (List Int)) :=
 bif decide (d3 < (IntKind.i64.wrap ((d2.length:Int) - 1))) then
  bif inb d3 d1.length then
   (nth d1 d3.toNat).bind fun x1 =>
   bif x1 != 1 then
   some (.inl (d1,false))
   else
   b7P rb d1 d2 (IntKind.i64.wrap (d3 + 1))
  else
   none
 else
  some (.inr d1)
theorem c6J:EqB 210 (W3 b4z):=fun _ _ _ => by kernel_rfl
theorem b6u:IB3 b4z b7P:=fun h => c6J.o h
def c5k (rf:T.RF) (rb:T.RB) (d1:List XN):Option Bool :=
 bif decide ((d1.length:Int) < 1) then
  some false
 else
 bif decide ((d1.length:Int) > 5000) then
  some false
 else
 bif E3 (d1.length:Int) j8 then
  bif E3 (d1.length:Int) d1.length then
   (b4W rb (List.replicate d1.length (0:Int)) d1 0).bind fun z1 =>
   match z1 with
   | .inl u2 =>
     some u2.2
   | .inr w3 =>
     (b7P rb w3 d1 0).bind fun z4 =>
     match z4 with
     | .inl u5 =>
       some u5.2
     | .inr w6 =>
       bif inb (IntKind.i64.wrap ((d1.length:Int) - 1)) d1.length then
        (nth d1 (IntKind.i64.wrap ((d1.length:Int) - 1)).toNat).bind fun x7 =>
        bif x7.1 != 28 then
         (c62 rf d1).bind fun y8 =>
         some (decide (y8 ≤ 40))
        else
         some false
       else
        none
  else
   none
 else
  none
theorem c8w:EqF 150 fun a b => c5k a b:=fun _ _ _ => by kernel_rfl
theorem d7Q:IF1 c5k b4F:=fun h => c8w.o h
def b9l (rf:T.RF) (rb:T.RB) (d1:List XN) (d2:Int):Option (Bool ⊕ Unit) :=
 bif decide (d2 < (d1.length:Int)) then
  bif inb d2 d1.length then
   (nth d1 d2.toNat).bind fun x1 =>
   bif !(x1.2.2.2.2.2 == ([]:List UInt8)) then
   bif inb d2 d1.length then
   (nth d1 d2.toNat).bind fun x2 =>
   (c12 rf x2.2.2.2.2.2).bind fun y3 =>
   bif !y3 then
   some (.inl false)
   else
   c0H rb d1 (IntKind.i64.wrap (d2 + 1))
   else
   none
   else
   c0H rb d1 (IntKind.i64.wrap (d2 + 1))
  else
   none
 else
  some (.inr ())
theorem c6K:EqB 211 (W2 b9l):=fun _ _ _ => by kernel_rfl
theorem c9L:IB2 b9l c0H:=fun h => c6K.o h
def c5j (rf:T.RF) (rb:T.RB) (d1:List XN):Option Bool :=
 (b4F rf d1).bind fun y1 =>
 bif !y1 then
  some false
 else
  (c0H rb d1 0).bind fun z2 =>
  match z2 with
  | .inl u3 =>
    some u3
  | .inr w4 =>
    some true
theorem c8v:EqF 149 fun a b => c5j a b:=fun _ _ _ => by kernel_rfl
theorem d7P:IF1 c5j M1:=fun h => c8v.o h
def b9n (rf:T.RF) (rb:T.RB) (d1:XIt) (d2:Int):Option ((XIt × Bool) ⊕ XIt) :=
 bif decide (d2 < (d1.2.2.2.2.2.length:Int)) then
  bif inb d2 d1.2.2.2.2.2.length then
   (nth d1.2.2.2.2.2 d2.toNat).bind fun x1 =>
   (M1 rf x1).bind fun y2 =>
   bif !y2 then
   some (.inl (d1,false))
   else
   a8p rb d1 (IntKind.i64.wrap (d2 + 1))
  else
   none
 else
  some (.inr d1)
theorem c6M:EqB 213 (W2 b9n):=fun _ _ _ => by kernel_rfl
theorem c9N:IB2 b9n a8p:=fun h => c6M.o h
end
end Go.Proofs.YtelpjfihadaomaaGreatDoor.R
