import Derived.Test.YtelpjfihadaomaaGreatDoorResPB
namespace Go.Proofs.YtelpjfihadaomaaGreatDoor.R
noncomputable section
open Go Go.Bm Go.Proofs
set_option linter.unusedVariables false
set_option linter.unusedSimpArgs false
set_option maxRecDepth 100000
def c5o (rf:T.RF) (rb:T.RB) (d1:XIt):Option Bool :=
 bif d1.2.1 == ([]:List UInt8) then
  bif d1.2.2.1 == 0 then
   bif (d1.2.2.2.2.1.length:Int) == 0 then
    bif d1.1 == 1 then
     bif d1.1 == 1 then
      bif (d1.2.2.2.2.2.length:Int) == 0 then
       (M1 rf d1.2.2.2.1).bind fun y1 =>
       some y1
      else
       some false
     else
     bif d1.1 == 3 then
      (a5p rf (d1.2.1,d1.2.2.1)).bind fun y2 =>
      bif y2 then
       bif (d1.2.2.2.2.1.length:Int) == 0 then
        bif (d1.2.2.2.2.2.length:Int) == 0 then
         (M1 rf d1.2.2.2.1).bind fun y3 =>
         some y3
        else
         some false
       else
        some false
      else
       some false
     else
     bif d1.1 == 4 then
      (c12 rf d1.2.1).bind fun y4 =>
      bif y4 then
       bif d1.2.2.1 == 0 then
        bif (d1.2.2.2.2.2.length:Int) == 0 then
         (M1 rf d1.2.2.2.1).bind fun y5 =>
         bif y5 then
          (M1 rf d1.2.2.2.2.1).bind fun y6 =>
          some y6
         else
          some false
        else
         some false
       else
        some false
      else
       some false
     else
     bif d1.1 == 5 then
      (a8p rb d1 0).bind fun z7 =>
      match z7 with
      | .inl u8 =>
        some u8.2
      | .inr w9 =>
        (c12 rf w9.2.1).bind fun y10 =>
        bif y10 then
         bif w9.2.2.1 == 0 then
          bif (w9.2.2.2.1.length:Int) == 0 then
           bif (w9.2.2.2.2.1.length:Int) == 0 then
            some (decide ((w9.2.2.2.2.2.length:Int) ≤ 200))
           else
            some false
          else
           some false
         else
          some false
        else
         some false
     else
      some false
    else
    bif d1.1 == 2 then
     bif (d1.2.2.2.2.2.length:Int) == 0 then
      (M1 rf d1.2.2.2.1).bind fun y11 =>
      some y11
     else
      some false
    else
    bif d1.1 == 3 then
     (a5p rf (d1.2.1,d1.2.2.1)).bind fun y12 =>
     bif y12 then
      bif (d1.2.2.2.2.1.length:Int) == 0 then
       bif (d1.2.2.2.2.2.length:Int) == 0 then
        (M1 rf d1.2.2.2.1).bind fun y13 =>
        some y13
       else
        some false
      else
       some false
     else
      some false
    else
    bif d1.1 == 4 then
     (c12 rf d1.2.1).bind fun y14 =>
     bif y14 then
      bif d1.2.2.1 == 0 then
       bif (d1.2.2.2.2.2.length:Int) == 0 then
        (M1 rf d1.2.2.2.1).bind fun y15 =>
        bif y15 then
         (M1 rf d1.2.2.2.2.1).bind fun y16 =>
         some y16
        else
         some false
       else
        some false
      else
       some false
     else
      some false
    else
    bif d1.1 == 5 then
     (a8p rb d1 0).bind fun z17 =>
     match z17 with
     | .inl u18 =>
       some u18.2
     | .inr w19 =>
       (c12 rf w19.2.1).bind fun y20 =>
       bif y20 then
        bif w19.2.2.1 == 0 then
         bif (w19.2.2.2.1.length:Int) == 0 then
          bif (w19.2.2.2.2.1.length:Int) == 0 then
           some (decide ((w19.2.2.2.2.2.length:Int) ≤ 200))
          else
           some false
         else
          some false
        else
         some false
       else
        some false
    else
     some false
   else
   bif d1.1 == 1 then
    bif d1.1 == 1 then
     some false
    else
    bif d1.1 == 3 then
     (a5p rf (d1.2.1,d1.2.2.1)).bind fun y21 =>
     bif y21 then
      bif (d1.2.2.2.2.1.length:Int) == 0 then
       bif (d1.2.2.2.2.2.length:Int) == 0 then
        (M1 rf d1.2.2.2.1).bind fun y22 =>
        some y22
       else
        some false
      else
       some false
     else
      some false
    else
    bif d1.1 == 4 then
     (c12 rf d1.2.1).bind fun y23 =>
     bif y23 then
      bif d1.2.2.1 == 0 then
       bif (d1.2.2.2.2.2.length:Int) == 0 then
        (M1 rf d1.2.2.2.1).bind fun y24 =>
        bif y24 then
         (M1 rf d1.2.2.2.2.1).bind fun y25 =>
         some y25
        else
         some false
       else
        some false
      else
       some false
     else
      some false
    else
    bif d1.1 == 5 then
     (a8p rb d1 0).bind fun z26 =>
     match z26 with
     | .inl u27 =>
       some u27.2
     | .inr w28 =>
       (c12 rf w28.2.1).bind fun y29 =>
       bif y29 then
        bif w28.2.2.1 == 0 then
         bif (w28.2.2.2.1.length:Int) == 0 then
          bif (w28.2.2.2.2.1.length:Int) == 0 then
           some (decide ((w28.2.2.2.2.2.length:Int) ≤ 200))
          else
           some false
         else
          some false
        else
         some false
       else
        some false
    else
     some false
   else
   bif d1.1 == 2 then
    some false
   else
   bif d1.1 == 3 then
    (a5p rf (d1.2.1,d1.2.2.1)).bind fun y30 =>
    bif y30 then
     bif (d1.2.2.2.2.1.length:Int) == 0 then
      bif (d1.2.2.2.2.2.length:Int) == 0 then
       (M1 rf d1.2.2.2.1).bind fun y31 =>
       some y31
      else
       some false
     else
      some false
    else
     some false
   else
   bif d1.1 == 4 then
    (c12 rf d1.2.1).bind fun y32 =>
    bif y32 then
     bif d1.2.2.1 == 0 then
      bif (d1.2.2.2.2.2.length:Int) == 0 then
       (M1 rf d1.2.2.2.1).bind fun y33 =>
       bif y33 then
        (M1 rf d1.2.2.2.2.1).bind fun y34 =>
        some y34
       else
        some false
      else
       some false
     else
      some false
    else
     some false
   else
   bif d1.1 == 5 then
    (a8p rb d1 0).bind fun z35 =>
    match z35 with
    | .inl u36 =>
      some u36.2
    | .inr w37 =>
      (c12 rf w37.2.1).bind fun y38 =>
      bif y38 then
       bif w37.2.2.1 == 0 then
        bif (w37.2.2.2.1.length:Int) == 0 then
         bif (w37.2.2.2.2.1.length:Int) == 0 then
          some (decide ((w37.2.2.2.2.2.length:Int) ≤ 200))
         else
          some false
        else
         some false
       else
        some false
      else
       some false
   else
    some false
  else
  bif d1.1 == 1 then
   bif d1.1 == 1 then
    some false
   else
   bif d1.1 == 3 then
    (a5p rf (d1.2.1,d1.2.2.1)).bind fun y39 =>
    bif y39 then
     bif (d1.2.2.2.2.1.length:Int) == 0 then
      bif (d1.2.2.2.2.2.length:Int) == 0 then
       (M1 rf d1.2.2.2.1).bind fun y40 =>
       some y40
      else
       some false
     else
      some false
    else
     some false
   else
   bif d1.1 == 4 then
    (c12 rf d1.2.1).bind fun y41 =>
    bif y41 then
     bif d1.2.2.1 == 0 then
      bif (d1.2.2.2.2.2.length:Int) == 0 then
       (M1 rf d1.2.2.2.1).bind fun y42 =>
       bif y42 then
        (M1 rf d1.2.2.2.2.1).bind fun y43 =>
        some y43
       else
        some false
      else
       some false
     else
      some false
    else
     some false
   else
   bif d1.1 == 5 then
    (a8p rb d1 0).bind fun z44 =>
    match z44 with
    | .inl u45 =>
      some u45.2
    | .inr w46 =>
      (c12 rf w46.2.1).bind fun y47 =>
      bif y47 then
       bif w46.2.2.1 == 0 then
        bif (w46.2.2.2.1.length:Int) == 0 then
         bif (w46.2.2.2.2.1.length:Int) == 0 then
          some (decide ((w46.2.2.2.2.2.length:Int) ≤ 200))
         else
          some false
        else
         some false
       else
        some false
      else
       some false
   else
    some false
  else
  bif d1.1 == 2 then
   some false
  else
  bif d1.1 == 3 then
   (a5p rf (d1.2.1,d1.2.2.1)).bind fun y48 =>
   bif y48 then
    bif (d1.2.2.2.2.1.length:Int) == 0 then
     bif (d1.2.2.2.2.2.length:Int) == 0 then
      (M1 rf d1.2.2.2.1).bind fun y49 =>
      some y49
     else
      some false
    else
     some false
   else
    some false
  else
  bif d1.1 == 4 then
   (c12 rf d1.2.1).bind fun y50 =>
   bif y50 then
    bif d1.2.2.1 == 0 then
     bif (d1.2.2.2.2.2.length:Int) == 0 then
      (M1 rf d1.2.2.2.1).bind fun y51 =>
      bif y51 then
       (M1 rf d1.2.2.2.2.1).bind fun y52 =>
       some y52
      else
       some false
     else
      some false
    else
     some false
   else
    some false
  else
  bif d1.1 == 5 then
   (a8p rb d1 0).bind fun z53 =>
   match z53 with
   | .inl u54 =>
     some u54.2
   | .inr w55 =>
     (c12 rf w55.2.1).bind fun y56 =>
     bif y56 then
      bif w55.2.2.1 == 0 then
       bif (w55.2.2.2.1.length:Int) == 0 then
        bif (w55.2.2.2.2.1.length:Int) == 0 then
         some (decide ((w55.2.2.2.2.2.length:Int) ≤ 200))
        else
         some false
       else
        some false
      else
       some false
     else
      some false
  else
   some false
 else
 bif d1.1 == 1 then
  bif d1.1 == 1 then
   some false
  else
  bif d1.1 == 3 then
   (a5p rf (d1.2.1,d1.2.2.1)).bind fun y57 =>
   bif y57 then
    bif (d1.2.2.2.2.1.length:Int) == 0 then
     bif (d1.2.2.2.2.2.length:Int) == 0 then
      (M1 rf d1.2.2.2.1).bind fun y58 =>
      some y58
     else
      some false
    else
     some false
   else
    some false
  else
  bif d1.1 == 4 then
   (c12 rf d1.2.1).bind fun y59 =>
   bif y59 then
    bif d1.2.2.1 == 0 then
     bif (d1.2.2.2.2.2.length:Int) == 0 then
      (M1 rf d1.2.2.2.1).bind fun y60 =>
      bif y60 then
       (M1 rf d1.2.2.2.2.1).bind fun y61 =>
       some y61
      else
       some false
     else
      some false
    else
     some false
   else
    some false
  else
  bif d1.1 == 5 then
   (a8p rb d1 0).bind fun z62 =>
   match z62 with
   | .inl u63 =>
     some u63.2
   | .inr w64 =>
     (c12 rf w64.2.1).bind fun y65 =>
     bif y65 then
      bif w64.2.2.1 == 0 then
       bif (w64.2.2.2.1.length:Int) == 0 then
        bif (w64.2.2.2.2.1.length:Int) == 0 then
         some (decide ((w64.2.2.2.2.2.length:Int) ≤ 200))
        else
         some false
       else
        some false
      else
       some false
     else
      some false
  else
   some false
 else
 bif d1.1 == 2 then
  some false
 else
 bif d1.1 == 3 then
  (a5p rf (d1.2.1,d1.2.2.1)).bind fun y66 =>
  bif y66 then
   bif (d1.2.2.2.2.1.length:Int) == 0 then
    bif (d1.2.2.2.2.2.length:Int) == 0 then
     (M1 rf d1.2.2.2.1).bind fun y67 =>
     some y67
    else
     some false
   else
    some false
  else
   some false
 else
 bif d1.1 == 4 then
  (c12 rf d1.2.1).bind fun y68 =>
  bif y68 then
   bif d1.2.2.1 == 0 then
    bif (d1.2.2.2.2.2.length:Int) == 0 then
     (M1 rf d1.2.2.2.1).bind fun y69 =>
     bif y69 then
      (M1 rf d1.2.2.2.2.1).bind fun y70 =>
      some y70
     else
      some false
    else
     some false
   else
    some false
  else
   some false
 else
 bif d1.1 == 5 then
  (a8p rb d1 0).bind fun z71 =>
  match z71 with
  | .inl u72 =>
    some u72.2
  | .inr w73 =>
    (c12 rf w73.2.1).bind fun y74 =>
    bif y74 then
     bif w73.2.2.1 == 0 then
      bif (w73.2.2.2.1.length:Int) == 0 then
       bif (w73.2.2.2.2.1.length:Int) == 0 then
        some (decide ((w73.2.2.2.2.2.length:Int) ≤ 200))
       else
        some false
      else
       some false
     else
      some false
    else
     some false
 else
  some false
theorem c8A:EqF 154 fun a b => c5o a b:=fun _ _ _ => by kernel_rfl
theorem d7U:IF1 c5o d1K:=fun h => c8A.o h
def b9k (rf:T.RF) (rb:T.RB) (d1:XUn) (d2:Int):Option ((XUn × Bool) ⊕ XUn) :=
 bif decide (d2 < (d1.2.2.2.2.2.2.1.length:Int)) then
  bif inb d2 d1.2.2.2.2.2.2.1.length then
   (nth d1.2.2.2.2.2.2.1 d2.toNat).bind fun x1 =>
   (c12 rf x1.1).bind fun y2 =>
   bif !y2 then
   some (.inl (d1,false))
   else
   bif inb d2 d1.2.2.2.2.2.2.1.length then
   (nth d1.2.2.2.2.2.2.1 d2.toNat).bind fun x3 =>
   (M1 rf x3.2).bind fun y4 =>
   bif !y4 then
   some (.inl (d1,false))
   else
   b4V rb d1 (IntKind.i64.wrap (d2 + 1))
   else
   none
  else
   none
 else
  some (.inr d1)
theorem c6F:EqB 206 (W2 b9k):=fun _ _ _ => by kernel_rfl
theorem c9K:IB2 b9k b4V:=fun h => c6F.o h
def b9m (rf:T.RF) (rb:T.RB) (d1:XUn) (d2:Int):Option ((XUn × Bool) ⊕ XUn) :=
 bif decide (d2 < (d1.2.2.2.2.2.2.2.length:Int)) then
  bif inb d2 d1.2.2.2.2.2.2.2.length then
   (nth d1.2.2.2.2.2.2.2 d2.toNat).bind fun x1 =>
   (d1K rf x1).bind fun y2 =>
   bif !y2 then
   some (.inl (d1,false))
   else
   b4Y rb d1 (IntKind.i64.wrap (d2 + 1))
  else
   none
 else
  some (.inr d1)
theorem c6L:EqB 212 (W2 b9m):=fun _ _ _ => by kernel_rfl
theorem c9M:IB2 b9m b4Y:=fun h => c6L.o h
def c5g (rf:T.RF) (rb:T.RB) (d1:XUn):Option Bool :=
 (c12 rf d1.2.1).bind fun y1 =>
 bif !y1 then
  some false
 else
  (c3o rf d1.2.2.1).bind fun y2 =>
  bif !y2 then
   some false
  else
   (c3o rf d1.2.2.2.2.2.1).bind fun y3 =>
   bif !y3 then
    some false
   else
   bif decide ((d1.2.2.2.2.2.2.1.length:Int) > 200) then
    some false
   else
   bif decide ((d1.2.2.2.2.2.2.2.length:Int) > 200) then
    some false
   else
   bif d1.1 then
    bif !((d1.2.2.2.1 == ([]:List UInt8)) && (d1.2.2.2.2.1 == 0)) then
     some false
    else
    bif decide ((d1.2.2.2.2.2.1.length:Int) > 0) then
     some false
    else
    bif decide ((d1.2.2.2.2.2.2.1.length:Int) > 0) then
     some false
    else
    bif !d1.1 then
     (a5p rf (d1.2.2.2.1,d1.2.2.2.2.1)).bind fun y4 =>
     bif !y4 then
      some false
     else
      (b4V rb d1 0).bind fun z5 =>
      match z5 with
      | .inl u6 =>
        some u6.2
      | .inr w7 =>
        (b4Y rb w7 0).bind fun z8 =>
        match z8 with
        | .inl u9 =>
          some u9.2
        | .inr w10 =>
          some true
    else
     (b4V rb d1 0).bind fun z11 =>
     match z11 with
     | .inl u12 =>
       some u12.2
     | .inr w13 =>
       (b4Y rb w13 0).bind fun z14 =>
       match z14 with
       | .inl u15 =>
         some u15.2
       | .inr w16 =>
         some true
   else
   bif !d1.1 then
    (a5p rf (d1.2.2.2.1,d1.2.2.2.2.1)).bind fun y17 =>
    bif !y17 then
     some false
    else
     (b4V rb d1 0).bind fun z18 =>
     match z18 with
     | .inl u19 =>
       some u19.2
     | .inr w20 =>
       (b4Y rb w20 0).bind fun z21 =>
       match z21 with
       | .inl u22 =>
         some u22.2
       | .inr w23 =>
         some true
   else
    (b4V rb d1 0).bind fun z24 =>
    match z24 with
    | .inl u25 =>
      some u25.2
    | .inr w26 =>
      (b4Y rb w26 0).bind fun z27 =>
      match z27 with
      | .inl u28 =>
        some u28.2
      | .inr w29 =>
        some true
theorem c8s:EqF 146 fun a b => c5g a b:=fun _ _ _ => by kernel_rfl
theorem d7M:IF1 c5g d1H:=fun h => c8s.o h
def b9i (rf:T.RF) (rb:T.RB) (d1:XPg) (d2:Int):Option ((XPg × Bool) ⊕ XPg) :=
 bif decide (d2 < (d1.1.length:Int)) then
  bif inb d2 d1.1.length then
   (nth d1.1 d2.toNat).bind fun x1 =>
   (d1H rf x1).bind fun y2 =>
   bif !y2 then
   some (.inl (d1,false))
   else
   c0G rb d1 (IntKind.i64.wrap (d2 + 1))
  else
   none
 else
  some (.inr d1)
theorem c6D:EqB 204 (W2 b9i):=fun _ _ _ => by kernel_rfl
theorem c9I:IB2 b9i c0G:=fun h => c6D.o h
def c5f (rf:T.RF) (rb:T.RB) (d1:XPg):Option Bool :=
 (c12 rf d1.2.1).bind fun y1 =>
 bif !y1 then
  some false
 else
 bif !(d1.2.2 == ([]:List UInt8)) then
  (c12 rf d1.2.2).bind fun y2 =>
  bif !y2 then
   some false
  else
  bif decide ((d1.1.length:Int) > 200) then
   some false
  else
   (c0G rb d1 0).bind fun z3 =>
   match z3 with
   | .inl u4 =>
     some u4.2
   | .inr w5 =>
     some true
 else
 bif decide ((d1.1.length:Int) > 200) then
  some false
 else
  (c0G rb d1 0).bind fun z6 =>
  match z6 with
  | .inl u7 =>
    some u7.2
  | .inr w8 =>
    some true
theorem c8r:EqF 145 fun a b => c5f a b:=fun _ _ _ => by kernel_rfl
theorem d7L:IF1 c5f c3n:=fun h => c8r.o h
def b9o (rf:T.RF) (rb:T.RB) (d1:List XN) (d2 d3:List Int) (d4:List XN) (d5:Int):Option (List Int × List XN × List Int) :=
 bif decide (d5 < (d2.length:Int)) then
  bif inb d5 d2.length then
   (nth d2 d5.toNat).bind fun x1 =>
   (c3r rf d1 d4 x1).bind fun y2 =>
   bif (Nat.ble (d3.length + 1) j8) && true then
   c3X rb y2 d2 (d3 ++ [IntKind.i64.wrap ((y2.length:Int) - 1)]) d4 (IntKind.i64.wrap (d5 + 1))
   else
   none
  else
   none
 else
  some (d2,d1,d3)
theorem c6N:EqB 217 (W5 b9o):=fun _ _ _ => by kernel_rfl
theorem c9O:IB5 b9o c3X:=fun h => c6N.o h
def c5t (rf:T.RF) (rb:T.RB) (d1 d2:List XN) (d3:Int):Option (List XN) :=
 bif inb d3 d2.length then
  (nth d2 d3.toNat).bind fun x1 =>
  (c49 rf x1).bind fun y2 =>
  (c3X rb d1 y2 [] d2 0).bind fun z3 =>
  bif inb d3 d2.length then
   (nth d2 d3.toNat).bind fun x4 =>
   (c52 rf x4 z3.2.2).bind fun y5 =>
   bif (Nat.ble (z3.2.1.length + 1) j8) && true then
   some (z3.2.1 ++ [y5])
   else
   none
  else
   none
 else
  none
theorem c8F:EqF 159 (W3 c5t):=fun _ _ _ => by kernel_rfl
theorem d7Z:IF3 c5t c3r:=fun h => c8F.o h
def c5s (rf:T.RF) (rb:T.RB) (d1:List XN) (d2:Int):Option (List XN) :=
 (b4F rf d1).bind fun y1 =>
 bif !y1 then
  some []
 else
 bif decide (d2 < 0) then
  some []
 else
 bif decide (d2 ≥ (d1.length:Int)) then
  some []
 else
  (c3r rf [] d1 d2).bind fun y2 =>
  some y2
theorem c8E:EqF 158 (W2 c5s):=fun _ _ _ => by kernel_rfl
theorem d7Y:IF2 c5s d1L:=fun h => c8E.o h
def c5r (rf:T.RF) (rb:T.RB) (d1:List XN):Option (List XN) :=
 (d1L rf d1 (IntKind.i64.wrap ((d1.length:Int) - 1))).bind fun y1 =>
 some y1
theorem c8D:EqF 157 fun a b => c5r a b:=fun _ _ _ => by kernel_rfl
theorem d7X:IF1 c5r a6Z:=fun h => c8D.o h
def b9p (rf:T.RF) (rb:T.RB) (d1:XUn) (d2:Bool) (d3 d4:List UInt8) (d5:Int) (d6 d7:List XPm) (d8:List XEq) (d9:List XIt) (d10:Int):Option (XUn × Bool × List UInt8 × List UInt8 × Int × List XPm × List XPm × List XIt × List XEq) :=
 bif decide (d10 < (d1.2.2.2.2.2.2.1.length:Int)) then
  bif inb d10 d1.2.2.2.2.2.2.1.length then
   (nth d1.2.2.2.2.2.2.1 d10.toNat).bind fun x1 =>
   bif inb d10 d1.2.2.2.2.2.2.1.length then
   (nth d1.2.2.2.2.2.2.1 d10.toNat).bind fun x2 =>
   l0 (
   (a6Z rf x2.2).bind fun y3 =>
   bif (Nat.ble (d8.length + 1) j8) && true then
   b7Q rb d1 d2 d3 d4 d5 d6 d7 (d8 ++ [(x1.1,y3)]) d9 (IntKind.i64.wrap (d10 + 1))
   else
   none
   ) (
   (a6Z rf x2.2).bind fun y3 =>
   agN 1 (
   bif (Nat.ble (d8.length + 1) j8) && true then
   b7Q rb d1 d2 d3 d4 d5 d6 d7 (d8 ++ [(x1.1,y3)]) d9 (IntKind.i64.wrap (d10 + 1))
   else
   none
   )
   )
   else
   none
  else
   none
 else
  some (d1,d2,d3,d4,d5,d6,d7,d9,d8)
def b7h (rf:T.RF) (rb:T.RB) (d1:XUn) (d2:Bool) (d3 d4:List UInt8) (d5:Int) (d6 d7:List XPm) (d8:List XEq) (d9:List XIt) (d10:Int):Option (XUn × Bool × List UInt8 × List UInt8 × Int × List XPm × List XPm × List XIt × List XEq) :=
 bif decide (d10 < (d1.2.2.2.2.2.2.1.length:Int)) then
  bif inb d10 d1.2.2.2.2.2.2.1.length then
   (nth d1.2.2.2.2.2.2.1 d10.toNat).bind fun x1 =>
   bif inb d10 d1.2.2.2.2.2.2.1.length then
   (nth d1.2.2.2.2.2.2.1 d10.toNat).bind fun x2 =>
   (a6Z rf x2.2).bind fun y3 =>
   bif (Nat.ble (d8.length + 1) j8) && true then
   b7Q rb d1 d2 d3 d4 d5 d6 d7 (d8 ++ [(x1.1,y3)]) d9 (IntKind.i64.wrap (d10 + 1))
   else
   none
   else
   none
  else
   none
 else
  some (d1,d2,d3,d4,d5,d6,d7,d9,d8)
theorem c6O:EqB 232 (W10 b9p):=fun _ _ _ => by kernel_rfl
theorem d0Q (rf rb d1 d2 d3 d4 d5 d6 d7 d8 d9 d10):b9p rf rb d1 d2 d3 d4 d5 d6 d7 d8 d9 d10 = b7h rf rb d1 d2 d3 d4 d5 d6 d7 d8 d9 d10:=by
 unfold b9p b7h; simp only [C9,l5,p9]
theorem c9P {d1 d2 d3 d4 d5 d6 d7 d8 d9 d10 y} (h:b7h T.rf T.rb d1 d2 d3 d4 d5 d6 d7 d8 d9 d10 = some y):b7Q T.rb d1 d2 d3 d4 d5 d6 d7 d8 d9 d10 = some y:=c6O.o ((d0Q _ _ _ _ _ _ _ _ _ _ _ _).trans h)
def b9q (rf:T.RF) (rb:T.RB) (d1:XUn) (d2:Bool) (d3 d4:List UInt8) (d5:Int) (d6 d7:List XPm) (d8:List XEq) (d9:List XIt) (d10:Int):Option (XUn × Bool × List UInt8 × List UInt8 × Int × List XPm × List XPm × List XEq × List XIt) :=
 bif decide (d10 < (d1.2.2.2.2.2.2.2.length:Int)) then
  bif inb d10 d1.2.2.2.2.2.2.2.length then
   (nth d1.2.2.2.2.2.2.2 d10.toNat).bind fun x1 =>
   (a6Z rf x1.2.2.2.1).bind fun y2 =>
   (a6Z rf x1.2.2.2.2.1).bind fun y3 =>
   (b7R rb d1 x1.1 x1.2.1 x1.2.2.1 y2 y3 [] d10 0).bind fun z4 =>
   bif (Nat.ble (d9.length + 1) j8) && true then
   c3Y rb z4.1 d2 d3 d4 d5 d6 d7 d8 (d9 ++ [z4.2]) (IntKind.i64.wrap (d10 + 1))
   else
   none
  else
   none
 else
  some (d1,d2,d3,d4,d5,d6,d7,d8,d9)
theorem c6P:EqB 233 (W10 b9q):=fun _ _ _ => by kernel_rfl
theorem c9Q:d2U b9q c3Y:=fun h => c6P.o h
def b9r (rf:T.RF) (rb:T.RB) (d1:XUn) (d2:Int) (d3:List UInt8) (d4:Int) (d5 d6:List XN) (d7:List (List XN)) (d8 d9:Int):Option (XUn × XIt) :=
 bif inb d8 d1.2.2.2.2.2.2.2.length then
  (nth d1.2.2.2.2.2.2.2 d8.toNat).bind fun x1 =>
  bif decide (d9 < (x1.2.2.2.2.2.length:Int)) then
   bif inb d8 d1.2.2.2.2.2.2.2.length then
   (nth d1.2.2.2.2.2.2.2 d8.toNat).bind fun x2 =>
   bif inb d9 x2.2.2.2.2.2.length then
   (nth x2.2.2.2.2.2 d9.toNat).bind fun x3 =>
   l0 (
   (a6Z rf x3).bind fun y4 =>
   bif (Nat.ble (d7.length + 1) j8) && true then
   b7R rb d1 d2 d3 d4 d5 d6 (d7 ++ [y4]) d8 (IntKind.i64.wrap (d9 + 1))
   else
   none
   ) (
   (a6Z rf x3).bind fun y4 =>
   agN 1 (
   bif (Nat.ble (d7.length + 1) j8) && true then
   b7R rb d1 d2 d3 d4 d5 d6 (d7 ++ [y4]) d8 (IntKind.i64.wrap (d9 + 1))
   else
   none
   )
   )
   else
   none
   else
   none
  else
   some (d1,d2,d3,d4,d5,d6,d7)
 else
  none
def b7i (rf:T.RF) (rb:T.RB) (d1:XUn) (d2:Int) (d3:List UInt8) (d4:Int) (d5 d6:List XN) (d7:List (List XN)) (d8 d9:Int):Option (XUn × XIt) :=
 bif inb d8 d1.2.2.2.2.2.2.2.length then
  (nth d1.2.2.2.2.2.2.2 d8.toNat).bind fun x1 =>
  bif decide (d9 < (x1.2.2.2.2.2.length:Int)) then
   bif inb d8 d1.2.2.2.2.2.2.2.length then
   (nth d1.2.2.2.2.2.2.2 d8.toNat).bind fun x2 =>
   bif inb d9 x2.2.2.2.2.2.length then
   (nth x2.2.2.2.2.2 d9.toNat).bind fun x3 =>
   (a6Z rf x3).bind fun y4 =>
   bif (Nat.ble (d7.length + 1) j8) && true then
   b7R rb d1 d2 d3 d4 d5 d6 (d7 ++ [y4]) d8 (IntKind.i64.wrap (d9 + 1))
   else
   none
   else
   none
   else
   none
  else
   some (d1,d2,d3,d4,d5,d6,d7)
 else
  none
theorem c6Q:EqB 234 (W9 b9r):=fun _ _ _ => by kernel_rfl
theorem d0R (rf rb d1 d2 d3 d4 d5 d6 d7 d8 d9):b9r rf rb d1 d2 d3 d4 d5 d6 d7 d8 d9 = b7i rf rb d1 d2 d3 d4 d5 d6 d7 d8 d9:=by
 unfold b9r b7i; simp only [C9,l5,p9]
theorem c9R {d1 d2 d3 d4 d5 d6 d7 d8 d9 y} (h:b7i T.rf T.rb d1 d2 d3 d4 d5 d6 d7 d8 d9 = some y):b7R T.rb d1 d2 d3 d4 d5 d6 d7 d8 d9 = some y:=c6Q.o ((d0R _ _ _ _ _ _ _ _ _ _ _).trans h)
def c5q (rf:T.RF) (rb:T.RB) (d1:XUn):Option XUn :=
 bif Nat.ble d1.2.2.1.length j8 then
  bif Nat.ble d1.2.2.2.2.2.1.length j8 then
   (b7Q rb d1 d1.1 d1.2.1 d1.2.2.2.1 d1.2.2.2.2.1 d1.2.2.1 d1.2.2.2.2.2.1 [] [] 0).bind fun z1 =>
   (c3Y rb z1.1 z1.2.1 z1.2.2.1 z1.2.2.2.1 z1.2.2.2.2.1 z1.2.2.2.2.2.1 z1.2.2.2.2.2.2.1 z1.2.2.2.2.2.2.2.2 z1.2.2.2.2.2.2.2.1 0).bind fun z2 =>
   some (z2.2.1,z2.2.2.1,z2.2.2.2.2.2.1,z2.2.2.2.1,z2.2.2.2.2.1,z2.2.2.2.2.2.2)
  else
   none
 else
  none
theorem c8C:EqF 156 fun a b => c5q a b:=fun _ _ _ => by kernel_rfl
theorem d7W:IF1 c5q b9Y:=fun h => c8C.o h
def b9s (rf:T.RF) (rb:T.RB) (d1:XPg) (d2 d3:List UInt8) (d4:List XUn) (d5:Int):Option (XPg × List UInt8 × List UInt8 × List XUn) :=
 bif decide (d5 < (d1.1.length:Int)) then
  bif inb d5 d1.1.length then
   (nth d1.1 d5.toNat).bind fun x1 =>
   l0 (
   (b9Y rf x1).bind fun y2 =>
   bif (Nat.ble (d4.length + 1) j8) && true then
   b7S rb d1 d2 d3 (d4 ++ [y2]) (IntKind.i64.wrap (d5 + 1))
   else
   none
   ) (
   (b9Y rf x1).bind fun y2 =>
   agN 1 (
   bif (Nat.ble (d4.length + 1) j8) && true then
   b7S rb d1 d2 d3 (d4 ++ [y2]) (IntKind.i64.wrap (d5 + 1))
   else
   none
   )
   )
  else
   none
 else
  some (d1,d2,d3,d4)
def b7j (rf:T.RF) (rb:T.RB) (d1:XPg) (d2 d3:List UInt8) (d4:List XUn) (d5:Int):Option (XPg × List UInt8 × List UInt8 × List XUn) :=
 bif decide (d5 < (d1.1.length:Int)) then
  bif inb d5 d1.1.length then
   (nth d1.1 d5.toNat).bind fun x1 =>
   (b9Y rf x1).bind fun y2 =>
   bif (Nat.ble (d4.length + 1) j8) && true then
   b7S rb d1 d2 d3 (d4 ++ [y2]) (IntKind.i64.wrap (d5 + 1))
   else
   none
  else
   none
 else
  some (d1,d2,d3,d4)
theorem c6R:EqB 237 (W5 b9s):=fun _ _ _ => by kernel_rfl
theorem d0S (rf rb d1 d2 d3 d4 d5):b9s rf rb d1 d2 d3 d4 d5 = b7j rf rb d1 d2 d3 d4 d5:=by
 unfold b9s b7j; simp only [C9,l5,p9]
theorem c9S {d1 d2 d3 d4 d5 y} (h:b7j T.rf T.rb d1 d2 d3 d4 d5 = some y):b7S T.rb d1 d2 d3 d4 d5 = some y:=c6R.o ((d0S _ _ _ _ _ _ _).trans h)
def c5p (rf:T.RF) (rb:T.RB) (d1:XPg):Option XPg :=
 (b7S rb d1 d1.2.1 d1.2.2 [] 0).bind fun z1 =>
 some (z1.2.2.2,z1.2.1,z1.2.2.1)
theorem c8B:EqF 155 fun a b => c5p a b:=fun _ _ _ => by kernel_rfl
theorem d7V:IF1 c5p c3q:=fun h => c8B.o h
def b9t (rf:T.RF) (rb:T.RB) (d1 d2:List UInt8) (d3:List XUn) (d4:List UInt8) (d5:Int):Option ((List UInt8 × List UInt8 × List XUn × Int) ⊕ (List UInt8 × List UInt8 × List XUn)) :=
 bif decide (d5 < (d3.length:Int)) then
  bif inb d5 d3.length then
   (nth d3 d5.toNat).bind fun x1 =>
   bif x1.2.1 == d4 then
   some (.inl (d1,d2,d3,d5))
   else
   c3Z rb d1 d2 d3 d4 (IntKind.i64.wrap (d5 + 1))
  else
   none
 else
  some (.inr (d1,d2,d3))
theorem c6T:EqB 239 (W5 b9t):=fun _ _ _ => by kernel_rfl
theorem c9U:IB5 b9t c3Z:=fun h => c6T.o h
def c5u (rf:T.RF) (rb:T.RB) (d1:List XUn) (d2 d3 d4:List UInt8):Option (List XUn × Int) :=
 (c3Z rb d2 d3 d1 d4 0).bind fun z1 =>
 match z1 with
 | .inl u2 =>
   some u2.2.2
 | .inr w3 =>
   some (w3.2.2,(-1))
theorem c8H:EqF 161 (W4 c5u):=fun _ _ _ => by kernel_rfl
theorem d8b:IF4 c5u a9O:=fun h => c8H.o h
def c5v (rf:T.RF) (rb:T.RB) (d1:XUn):Option (List XPm) :=
 bif Nat.ble d1.2.2.1.length j8 then
  bif !d1.1 then
   bif (Nat.ble (d1.2.2.1.length + 1) j8) && true then
   bif (Nat.ble ((d1.2.2.1 ++ [(d1.2.2.2.1,d1.2.2.2.2.1)]).length + d1.2.2.2.2.2.1.length) j8) && true then
   some ((d1.2.2.1 ++ [(d1.2.2.2.1,d1.2.2.2.2.1)]) ++ d1.2.2.2.2.2.1)
   else
   none
   else
   none
  else
   some d1.2.2.1
 else
  none
theorem c8I:EqF 162 fun a b => c5v a b:=fun _ _ _ => by kernel_rfl
theorem d8c:IF1 c5v b7u:=fun h => c8I.o h
def b9u (rf:T.RF) (rb:T.RB) (d1:List XPm) (d2:List UInt8) (d3:Int):Option (Bool ⊕ Unit) :=
 bif decide (d3 < (d1.length:Int)) then
  bif inb d3 d1.length then
   (nth d1 d3.toNat).bind fun x1 =>
   bif x1.1 == d2 then
   some (.inl true)
   else
   c4a rb d1 d2 (IntKind.i64.wrap (d3 + 1))
  else
   none
 else
  some (.inr ())
theorem c6U:EqB 243 (W3 b9u):=fun _ _ _ => by kernel_rfl
theorem c9V:IB3 b9u c4a:=fun h => c6U.o h
def c5w (rf:T.RF) (rb:T.RB) (d1:List XPm) (d2:List UInt8):Option Bool :=
 (c4a rb d1 d2 0).bind fun z1 =>
 match z1 with
 | .inl u2 =>
   some u2
 | .inr w3 =>
   some false
theorem c8J:EqF 163 (W2 c5w):=fun _ _ _ => by kernel_rfl
theorem d8d:IF2 c5w a5q:=fun h => c8J.o h
def b9v (rf:T.RF) (rb:T.RB) (d1:List XIt) (d2:List XPm) (d3:Int):Option (List XIt × List XPm) :=
 bif decide (d3 < (d1.length:Int)) then
  bif inb d3 d1.length then
   (nth d1 d3.toNat).bind fun x1 =>
   bif x1.1 == 3 then
   bif inb d3 d1.length then
   (nth d1 d3.toNat).bind fun x2 =>
   bif inb d3 d1.length then
   (nth d1 d3.toNat).bind fun x3 =>
   bif (Nat.ble (d2.length + 1) j8) && true then
   c0I rb d1 (d2 ++ [(x2.2.1,x3.2.2.1)]) (IntKind.i64.wrap (d3 + 1))
   else
   none
   else
   none
   else
   none
   else
   c0I rb d1 d2 (IntKind.i64.wrap (d3 + 1))
  else
   none
 else
  some (d1,d2)
theorem c6V:EqB 247 (W3 b9v):=fun _ _ _ => by kernel_rfl
theorem c9W:IB3 b9v c0I:=fun h => c6V.o h
def c5y (rf:T.RF) (rb:T.RB) (d1:List XIt):Option (List XIt × List XPm) :=
 (c0I rb d1 [] 0).bind fun z1 =>
 some z1
theorem c8M:EqF 166 fun a b => c5y a b:=fun _ _ _ => by kernel_rfl
theorem d8g:IF1 c5y b7v:=fun h => c8M.o h
def b9w (rf:T.RF) (rb:T.RB) (d1:List XN) (d2 d3:List XPm) (d4:Int):Option (Int ⊕ Unit) :=
 bif decide (d4 < (d1.length:Int)) then
  bif inb d4 d1.length then
   (nth d1 d4.toNat).bind fun x1 =>
   bif x1.1 == 3 then
   bif inb d4 d1.length then
   (nth d1 d4.toNat).bind fun x2 =>
   (a5q rf d2 x2.2.2.2.2.2).bind fun y3 =>
   bif !y3 then
   bif inb d4 d1.length then
   (nth d1 d4.toNat).bind fun x4 =>
   (a5q rf d3 x4.2.2.2.2.2).bind fun y5 =>
   bif !y5 then
   some (.inl 8)
   else
   bif inb d4 d1.length then
   (nth d1 d4.toNat).bind fun x6 =>
   bif x6.1 == 27 then
   some (.inl 14)
   else
   b7U rb d1 d2 d3 (IntKind.i64.wrap (d4 + 1))
   else
   none
   else
   none
   else
   bif inb d4 d1.length then
   (nth d1 d4.toNat).bind fun x7 =>
   bif x7.1 == 27 then
   some (.inl 14)
   else
   b7U rb d1 d2 d3 (IntKind.i64.wrap (d4 + 1))
   else
   none
   else
   none
   else
   bif inb d4 d1.length then
   (nth d1 d4.toNat).bind fun x8 =>
   bif x8.1 == 27 then
   some (.inl 14)
   else
   b7U rb d1 d2 d3 (IntKind.i64.wrap (d4 + 1))
   else
   none
  else
   none
 else
  some (.inr ())
theorem c6W:EqB 248 (W4 b9w):=fun _ _ _ => by kernel_rfl
theorem c9X:IB4 b9w b7U:=fun h => c6W.o h
def c5z (rf:T.RF) (rb:T.RB) (d1:List XN) (d2 d3:List XPm):Option Int :=
 (b7U rb d1 d2 d3 0).bind fun z1 =>
 match z1 with
 | .inl u2 =>
   some u2
 | .inr w3 =>
   some 0
theorem c8N:EqF 167 (W3 c5z):=fun _ _ _ => by kernel_rfl
theorem d8h:IF3 c5z b9Z:=fun h => c8N.o h
def b9x (rf:T.RF) (rb:T.RB) (d1:List XIt) (d2:XIt) (d3:List XPm) (d4 d5:Int):Option (List XIt × XIt × Int) :=
 bif decide (d5 < (d2.2.2.2.2.2.length:Int)) then
  bif d4 == 0 then
   bif inb d5 d2.2.2.2.2.2.length then
   (nth d2.2.2.2.2.2 d5.toNat).bind fun x1 =>
   (b7v rf d1).bind fun y2 =>
   (b9Z rf x1 d3 y2.2).bind fun y3 =>
   b7V rb y2.1 d2 d3 y3 (IntKind.i64.wrap (d5 + 1))
   else
   none
  else
   some (d1,d2,d4)
 else
  some (d1,d2,d4)
theorem c6X:EqB 250 (W5 b9x):=fun _ _ _ => by kernel_rfl
theorem c9Y:IB5 b9x b7V:=fun h => c6X.o h
def c5x (rf:T.RF) (rb:T.RB) (d1:List XIt) (d2:XIt) (d3:List XPm):Option (List XIt × Int) :=
 (b7v rf d1).bind fun y1 =>
 (b9Z rf d2.2.2.2.1 d3 y1.2).bind fun y2 =>
 bif y2 == 0 then
  (b7v rf y1.1).bind fun y3 =>
  (b9Z rf d2.2.2.2.2.1 d3 y3.2).bind fun y4 =>
  (b7V rb y3.1 d2 d3 y4 0).bind fun z5 =>
  some (z5.1,z5.2.2)
 else
  (b7V rb y1.1 d2 d3 y2 0).bind fun z6 =>
  some (z6.1,z6.2.2)
theorem c8L:EqF 165 (W3 c5x):=fun _ _ _ => by kernel_rfl
theorem d8f:IF3 c5x d1M:=fun h => c8L.o h
def b9y (rf:T.RF) (rb:T.RB) (d1:List XPm) (d2:List XIt) (d3:Int):Option (List XPm) :=
 bif decide (d3 < (d2.length:Int)) then
  bif inb d3 d2.length then
   (nth d2 d3.toNat).bind fun x1 =>
   bif x1.1 == 3 then
   bif inb d3 d2.length then
   (nth d2 d3.toNat).bind fun x2 =>
   bif inb d3 d2.length then
   (nth d2 d3.toNat).bind fun x3 =>
   bif (Nat.ble (d1.length + 1) j8) && true then
   c0J rb (d1 ++ [(x2.2.1,x3.2.2.1)]) d2 (IntKind.i64.wrap (d3 + 1))
   else
   none
   else
   none
   else
   none
   else
   c0J rb d1 d2 (IntKind.i64.wrap (d3 + 1))
  else
   none
 else
  some d1
theorem c6Y:EqB 256 (W3 b9y):=fun _ _ _ => by kernel_rfl
theorem c9Z:IB3 b9y c0J:=fun h => c6Y.o h
def c5A (rf:T.RF) (rb:T.RB) (d1:List XIt):Option (List XPm) :=
 (c0J rb [] d1 0).bind fun z1 =>
 some z1
theorem c8P:EqF 169 fun a b => c5A a b:=fun _ _ _ => by kernel_rfl
theorem d8j:IF1 c5A c0a:=fun h => c8P.o h
def b9z (rf:T.RF) (rb:T.RB) (d1:List (List UInt8)) (d2:List UInt8) (d3:Int):Option (Int ⊕ Unit) :=
 bif decide (d3 < (d1.length:Int)) then
  bif inb d3 d1.length then
   (nth d1 d3.toNat).bind fun x1 =>
   bif x1 == d2 then
   some (.inl d3)
   else
   c4b rb d1 d2 (IntKind.i64.wrap (d3 + 1))
  else
   none
 else
  some (.inr ())
theorem c6Z:EqB 271 (W3 b9z):=fun _ _ _ => by kernel_rfl
theorem d0a:IB3 b9z c4b:=fun h => c6Z.o h
def c5D (rf:T.RF) (rb:T.RB) (d1:List (List UInt8)) (d2:List UInt8):Option Int :=
 (c4b rb d1 d2 0).bind fun z1 =>
 match z1 with
 | .inl u2 =>
   some u2
 | .inr w3 =>
   some (-1)
theorem c8T:EqF 173 (W2 c5D):=fun _ _ _ => by kernel_rfl
theorem d8n:IF2 c5D d1O:=fun h => c8T.o h
def b9A (rf:T.RF) (rb:T.RB) (d1:List (List XN)) (d2:Int):Option ((List XN) ⊕ Unit) :=
 bif decide (d2 < (d1.length:Int)) then
  bif inb d2 d1.length then
   (nth d1 d2.toNat).bind fun x1 =>
   (b4F rf x1).bind fun y2 =>
   bif !y2 then
   some (.inl [])
   else
   c4c rb d1 (IntKind.i64.wrap (d2 + 1))
  else
   none
 else
  some (.inr ())
theorem c7a:EqB 278 (W2 b9A):=fun _ _ _ => by kernel_rfl
theorem d0b:IB2 b9A c4c:=fun h => c7a.o h
def b4A (rf:T.RF) (rb:T.RB) (d1 d2:List XN) (d3:List Int) (d4:List (List UInt8)) (d5:List (List XN)) (d6:Int):Option (List XN × List Int × List XN) :=
 bif decide (d6 < (d1.length:Int)) then
  bif inb d6 d1.length then
   (nth d1 d6.toNat).bind fun x1 =>
   bif x1.1 == 3 then
   bif inb d6 d1.length then
   (nth d1 d6.toNat).bind fun x2 =>
   (d1O rf d4 x2.2.2.2.2.2).bind fun y3 =>
   (c0K rb d1 d2 d3 d5 d6 y3).bind fun z4 =>
   b4Z rb z4.1 z4.2.2 z4.2.1 d4 d5 (IntKind.i64.wrap (d6 + 1))
   else
   none
   else
   (c0K rb d1 d2 d3 d5 d6 (-1)).bind fun z5 =>
   b4Z rb z5.1 z5.2.2 z5.2.1 d4 d5 (IntKind.i64.wrap (d6 + 1))
  else
   none
 else
  some (d1,d3,d2)
theorem c7b:EqB 279 (W6 b4A):=fun _ _ _ => by kernel_rfl
theorem d0c:IB6 b4A b4Z:=fun h => c7b.o h
def b9B (rf:T.RF) (rb:T.RB) (d1 d2:List XN) (d3:List Int) (d4:List (List XN)) (d5 d6:Int):Option (List XN × List Int × List XN) :=
 bif decide (d6 ≥ 0) then
  bif inb d6 d4.length then
   (nth d4 d6.toNat).bind fun x1 =>
   (a6Z rf x1).bind fun y2 =>
   (c50 rf d2 y2).bind fun y3 =>
   bif inb d5 d3.length then
   bif Nat.blt d5.toNat d3.length then
   some (d1,l9 d3 d5.toNat (IntKind.i64.wrap ((y3.length:Int) - 1)),y3)
   else
   none
   else
   none
  else
   none
 else
 bif inb d5 d1.length then
  (nth d1 d5.toNat).bind fun x4 =>
  (c49 rf x4).bind fun y5 =>
  (c4d rb d3 y5 [] 0).bind fun z6 =>
  bif inb d5 d1.length then
   (nth d1 d5.toNat).bind fun x7 =>
   (c52 rf x7 z6.2.2).bind fun y8 =>
   bif (Nat.ble (d2.length + 1) j8) && true then
   bif inb d5 z6.1.length then
   bif Nat.blt d5.toNat z6.1.length then
   some (d1,l9 z6.1 d5.toNat (IntKind.i64.wrap (((((d2 ++ [y8]).length:Nat):Int)) - 1)),d2 ++ [y8])
   else
   none
   else
   none
   else
   none
  else
   none
 else
  none
theorem c7c:EqB 280 (W6 b9B):=fun _ _ _ => by kernel_rfl
theorem d6R:IB6 b9B c0K:=fun h => c7c.o h
def b9C (rf:T.RF) (rb:T.RB) (d1 d2 d3:List Int) (d4:Int):Option (List Int × List Int × List Int) :=
 bif decide (d4 < (d2.length:Int)) then
  bif inb d4 d2.length then
   (nth d2 d4.toNat).bind fun x1 =>
   bif inb x1 d1.length then
   (nth d1 x1.toNat).bind fun x2 =>
   bif (Nat.ble (d3.length + 1) j8) && true then
   c4d rb d1 d2 (d3 ++ [x2]) (IntKind.i64.wrap (d4 + 1))
   else
   none
   else
   none
  else
   none
 else
  some (d1,d2,d3)
theorem c7d:EqB 281 (W4 b9C):=fun _ _ _ => by kernel_rfl
theorem d0d:IB4 b9C c4d:=fun h => c7d.o h
def c5C (rf:T.RF) (rb:T.RB) (d1:List XN) (d2:List (List UInt8)) (d3:List (List XN)):Option (List XN) :=
 (b4F rf d1).bind fun y1 =>
 bif !y1 then
  some []
 else
 bif (d2.length:Int) != (d3.length:Int) then
  some []
 else
  (c4c rb d3 0).bind fun z2 =>
  match z2 with
  | .inl u3 =>
    some u3
  | .inr w4 =>
    (a6Z rf d1).bind fun y5 =>
    bif E3 (y5.length:Int) j8 then
     bif E3 (y5.length:Int) y5.length then
      (b4Z rb y5 [] (List.replicate y5.length (0:Int)) d2 d3 0).bind fun z6 =>
      some z6.2.2
     else
      none
    else
     none
theorem c8S:EqF 172 (W3 c5C):=fun _ _ _ => by kernel_rfl
theorem d8m:IF3 c5C d1N:=fun h => c8S.o h
def c5B (rf:T.RF) (rb:T.RB) (d1:List XN) (d2:List (List UInt8)) (d3:List (List XN)):Option (List XN × Int) :=
 bif (d1.length:Int) == 0 then
  some ([],0)
 else
  (d1N rf d1 d2 d3).bind fun y1 =>
  (b4F rf y1).bind fun y2 =>
  bif !y2 then
   some ([],7)
  else
   some (y1,0)
theorem c8R:EqF 171 (W3 c5B):=fun _ _ _ => by kernel_rfl
theorem d8l:IF3 c5B c3v:=fun h => c8R.o h
def c2i (rf:T.RF) (rb:T.RB) (d1:XIt) (d2:List UInt8) (d3:List (List UInt8)) (d4:List (List XN)):Option (XIt × Int) :=
 (c3v rf d1.2.2.2.1 d3 d4).bind fun y1 =>
 (c3v rf d1.2.2.2.2.1 d3 d4).bind fun y2 =>
 bif !(d1.2.1 == ([]:List UInt8)) then
  bif Nat.ble (d2.length + 1) j8 then
   bif Nat.ble ((d2 ++ ([95]:List UInt8)).length + d1.2.1.length) j8 then
   (c12 rf ((d2 ++ ([95]:List UInt8)) ++ d1.2.1)).bind fun y3 =>
   bif !y3 then
   some ((d1.1,(d2 ++ ([95]:List UInt8)) ++ d1.2.1,d1.2.2),8)
   else
   some ((d1.1,(d2 ++ ([95]:List UInt8)) ++ d1.2.1,d1.2.2.1,y1.1,y2.1,d1.2.2.2.2.2),if y2.2 > y1.2 then y2.2 else y1.2)
   else
   none
  else
   none
 else
  some ((d1.1,d1.2.1,d1.2.2.1,y1.1,y2.1,d1.2.2.2.2.2),if y2.2 > y1.2 then y2.2 else y1.2)
theorem c8Q:EqF 170 (W4 c2i):=fun _ _ _ => by kernel_rfl
theorem d8k:IF4 c2i c0b:=fun h => c8Q.o h
def c5E (rf:T.RF) (rb:T.RB) (d1:List XIt) (d2:List XPm) (d3:XIt):Option ((List XIt × Int) ⊕ (List XIt × Int)) :=
 bif d3.1 == 3 then
  (a5q rf d2 d3.2.1).bind fun y1 =>
  bif y1 then
   some (.inl (d1,9))
  else
   (b7v rf d1).bind fun y2 =>
   (a5q rf y2.2 d3.2.1).bind fun y3 =>
   bif y3 then
   some (.inl (y2.1,9))
   else
   bif decide ((y2.1.length:Int) ≥ 200) then
   some (.inl (y2.1,7))
   else
   bif (Nat.ble (y2.1.length + 1) j8) && true then
   some (.inr (y2.1 ++ [d3],0))
   else
   none
 else
 bif decide ((d1.length:Int) ≥ 200) then
  some (.inl (d1,7))
 else
 bif (Nat.ble (d1.length + 1) j8) && true then
  some (.inr (d1 ++ [d3],0))
 else
  none
theorem c8U:EqF 174 (W3 c5E):=fun _ _ _ => by kernel_rfl
theorem d8o:IF3 c5E c3w:=fun h => c8U.o h
def b9D (rf:T.RF) (rb:T.RB) (d1:XUn) (d2:XIt) (d3:List (List UInt8)) (d4:List (List XN)) (d5:Int):Option (XUn × XIt × List (List UInt8) × List (List XN)) :=
 bif decide (d5 < (d1.2.2.1.length:Int)) then
  bif inb d5 d1.2.2.1.length then
   (nth d1.2.2.1 d5.toNat).bind fun x1 =>
   bif (Nat.ble (d3.length + 1) j8) && true then
   bif inb d5 d2.2.2.2.2.2.length then
   (nth d2.2.2.2.2.2 d5.toNat).bind fun x2 =>
   bif (Nat.ble (d4.length + 1) j8) && true then
   c4e rb d1 d2 (d3 ++ [x1.1]) (d4 ++ [x2]) (IntKind.i64.wrap (d5 + 1))
   else
   none
   else
   none
   else
   none
  else
   none
 else
  some (d1,d2,d3,d4)
theorem c7e:EqB 291 (W5 b9D):=fun _ _ _ => by kernel_rfl
theorem d0e:IB5 b9D c4e:=fun h => c7e.o h
def b9E (rf:T.RF) (rb:T.RB) (d1:XIt) (d2:List (List UInt8)) (d3:List (List XN)) (d4:List XPm) (d5:Int):Option (XIt × List XPm × List (List UInt8) × List (List XN)) :=
 bif decide (d5 < (d4.length:Int)) then
  bif inb d5 d4.length then
   (nth d4 d5.toNat).bind fun x1 =>
   bif (Nat.ble (d2.length + 1) j8) && true then
   bif Nat.ble (d1.2.1.length + 1) j8 then
   bif inb d5 d4.length then
   (nth d4 d5.toNat).bind fun x2 =>
   bif Nat.ble ((d1.2.1 ++ ([95]:List UInt8)).length + x2.1.length) j8 then
   (c47 rf 3 0 ((d1.2.1 ++ ([95]:List UInt8)) ++ x2.1) []).bind fun y3 =>
   bif (Nat.ble (d3.length + 1) j8) && true then
   c4f rb d1 (d2 ++ [x1.1]) (d3 ++ [y3]) d4 (IntKind.i64.wrap (d5 + 1))
   else
   none
   else
   none
   else
   none
   else
   none
   else
   none
  else
   none
 else
  some (d1,d4,d2,d3)
theorem c7f:EqB 292 (W5 b9E):=fun _ _ _ => by kernel_rfl
theorem d0f:IB5 b9E c4f:=fun h => c7f.o h
def b9F (rf:T.RF) (rb:T.RB) (d1:List XIt) (d2:XUn) (d3:XIt) (d4:List XPm) (d5:List (List UInt8)) (d6:List (List XN)) (d7:Int):Option ((XUn × XIt × List XIt × Int) ⊕ (XUn × XIt × List XIt)) :=
 bif decide (d7 < (d2.2.2.2.2.2.2.2.length:Int)) then
  bif inb d7 d2.2.2.2.2.2.2.2.length then
   (nth d2.2.2.2.2.2.2.2 d7.toNat).bind fun x1 =>
   agN 1 (
    (c0b rf x1 d3.2.1 d5 d6).bind fun y2 =>
    (c4g rb d1 y2.1 d4 y2.2).bind fun z3 =>
    match z3 with
    | .inl u4 =>
      some (.inl (d2,d3,u4.1,u4.2.2))
    | .inr w5 =>
      match w5 with
      | .inl u6 =>
        b1L rb u6.1 d2 d3 d4 d5 d6 (IntKind.i64.wrap (d7 + 1))
      | .inr w7 =>
        b1L rb w7.2 d2 d3 d4 d5 d6 (IntKind.i64.wrap (d7 + 1))
   )
  else
   none
 else
  some (.inr (d2,d3,d1))
def b4B (rf:T.RF) (rb:T.RB) (d1:List XIt) (d2:XUn) (d3:XIt) (d4:List XPm) (d5:List (List UInt8)) (d6:List (List XN)) (d7:Int):Option ((XUn × XIt × List XIt × Int) ⊕ (XUn × XIt × List XIt)) :=
 bif decide (d7 < (d2.2.2.2.2.2.2.2.length:Int)) then
  bif inb d7 d2.2.2.2.2.2.2.2.length then
   (nth d2.2.2.2.2.2.2.2 d7.toNat).bind fun x1 =>
   (c0b rf x1 d3.2.1 d5 d6).bind fun y2 =>
   (c4g rb d1 y2.1 d4 y2.2).bind fun z3 =>
   match z3 with
   | .inl u4 =>
     some (.inl (d2,d3,u4.1,u4.2.2))
   | .inr w5 =>
     match w5 with
     | .inl u6 =>
       b1L rb u6.1 d2 d3 d4 d5 d6 (IntKind.i64.wrap (d7 + 1))
     | .inr w7 =>
       b1L rb w7.2 d2 d3 d4 d5 d6 (IntKind.i64.wrap (d7 + 1))
  else
   none
 else
  some (.inr (d2,d3,d1))
theorem c7g:EqB 293 (W7 b9F):=fun _ _ _ => by kernel_rfl
theorem d0T (rf rb d1 d2 d3 d4 d5 d6 d7):b9F rf rb d1 d2 d3 d4 d5 d6 d7 = b4B rf rb d1 d2 d3 d4 d5 d6 d7:=by
 unfold b9F b4B; simp only [C9,l5,p9]
theorem d0g {d1 d2 d3 d4 d5 d6 d7 y} (h:b4B T.rf T.rb d1 d2 d3 d4 d5 d6 d7 = some y):b1L T.rb d1 d2 d3 d4 d5 d6 d7 = some y:=c7g.o ((d0T _ _ _ _ _ _ _ _ _).trans h)
def c3c (rf:T.RF) (rb:T.RB) (d1:List XIt) (d2:XIt) (d3:List XPm) (d4:Int):Option ((List XIt × XIt × Int) ⊕ (List XIt × XIt) ⊕ (XIt × List XIt)) :=
 bif d4 != 0 then
  some (.inl (d1,d2,d4))
 else
  (c3w rf d1 d3 d2).bind fun y1 =>
  match y1 with
  | .inl u2 =>
    bif u2.2 != 0 then
     some (.inl (u2.1,d2,u2.2))
    else
     some (.inr (.inl (u2.1,d2)))
  | .inr w3 =>
    bif w3.2 != 0 then
     none
    else
     some (.inr (.inr (d2,w3.1)))
theorem c7h:EqB 294 (W4 c3c):=fun _ _ _ => by kernel_rfl
theorem d6S:IB4 c3c c4g:=fun h => c7h.o h
def b8n (rf:T.RF) (rb:T.RB) (d1:List XIt) (d2:XUn) (d3:XIt) (d4:List XPm):Option ((List XIt × Int) ⊕ (List XIt × Int)) :=
 bif (d2.2.2.1.length:Int) != (d3.2.2.2.2.2.length:Int) then
  some (.inl (d1,14))
 else
  (c4e rb d2 d3 [] [] 0).bind fun z1 =>
  (c0a rf z1.1.2.2.2.2.2.2.2).bind fun y2 =>
  (c4f rb z1.2.1 z1.2.2.1 z1.2.2.2 y2 0).bind fun z3 =>
  (b1L rb d1 z1.1 z3.1 d4 z3.2.2.1 z3.2.2.2 0).bind fun z4 =>
  match z4 with
  | .inl u5 =>
    some (.inr u5.2.2)
  | .inr w6 =>
    some (.inr (w6.2.2,0))
theorem c8O:EqF 168 (W4 b8n):=fun _ _ _ => by kernel_rfl
theorem d8i:IF4 b8n c3u:=fun h => c8O.o h
def b7l (rf:T.RF) (rb:T.RB) (d1 d2:List UInt8) (d3:XUn) (d4:List XIt) (d5:List XUn) (d6:Int) (d7:List XPm) (d8:Int):Option ((List UInt8 × List UInt8 × XUn × List XUn × List XIt × Int) ⊕ (List UInt8 × List UInt8 × XUn × List XUn × List XIt)) :=
 bif decide (d8 < (d3.2.2.2.2.2.2.2.length:Int)) then
  bif inb d8 d3.2.2.2.2.2.2.2.length then
   (nth d3.2.2.2.2.2.2.2 d8.toNat).bind fun x1 =>
   (d1M rf d4 x1 d7).bind fun y2 =>
   bif y2.2 != 0 then
    some (.inl (d1,d2,d3,d5,[],y2.2))
   else
   bif x1.1 == 5 then
    (a9O rf d5 d1 d2 x1.2.1).bind fun y3 =>
    bif decide (y3.2 < 0) then
     some (.inl (d1,d2,d3,y3.1,[],8))
    else
    bif decide (y3.2 ≥ d6) then
     some (.inl (d1,d2,d3,y3.1,[],8))
    else
    bif inb y3.2 y3.1.length then
     (nth y3.1 y3.2.toNat).bind fun x4 =>
     bif !x4.1 then
      some (.inl (d1,d2,d3,y3.1,[],8))
     else
     bif inb y3.2 y3.1.length then
      (nth y3.1 y3.2.toNat).bind fun x5 =>
      (c3u rf y2.1 x5 x1 d7).bind fun y6 =>
      match y6 with
      | .inl u7 =>
        bif u7.2 != 0 then
         some (.inl (d1,d2,d3,y3.1,[],u7.2))
        else
         a9T rb d1 d2 d3 u7.1 y3.1 d6 d7 (IntKind.i64.wrap (d8 + 1))
      | .inr w8 =>
        bif w8.2 != 0 then
         some (.inl (d1,d2,d3,y3.1,[],w8.2))
        else
         a9T rb d1 d2 d3 w8.1 y3.1 d6 d7 (IntKind.i64.wrap (d8 + 1))
     else
      none
    else
     none
   else
    (c3w rf y2.1 d7 x1).bind fun y9 =>
    match y9 with
    | .inl u10 =>
      bif u10.2 != 0 then
       some (.inl (d1,d2,d3,d5,[],u10.2))
      else
       a9T rb d1 d2 d3 u10.1 d5 d6 d7 (IntKind.i64.wrap (d8 + 1))
    | .inr w11 =>
      bif w11.2 != 0 then
       some (.inl (d1,d2,d3,d5,[],w11.2))
      else
       a9T rb d1 d2 d3 w11.1 d5 d6 d7 (IntKind.i64.wrap (d8 + 1))
  else
   none
 else
  some (.inr (d1,d2,d3,d5,d4))
theorem c7i:EqB 296 (W8 b7l):=fun _ _ _ => by kernel_rfl
theorem d0h:IB8 b7l a9T:=fun h => c7i.o h
def c2h (rf:T.RF) (rb:T.RB) (d1:List XUn) (d2 d3:List UInt8) (d4:Int):Option (List XUn × List XIt × Int) :=
 bif inb d4 d1.length then
  (nth d1 d4.toNat).bind fun x1 =>
  (b7u rf x1).bind fun y2 =>
  (a9T rb d2 d3 x1 [] d1 d4 y2 0).bind fun z3 =>
  match z3 with
  | .inl u4 =>
    some u4.2.2.2
  | .inr w5 =>
    some (w5.2.2.2.1,w5.2.2.2.2,0)
 else
  none
theorem c8K:EqF 164 (W4 c2h):=fun _ _ _ => by kernel_rfl
theorem d8e:IF4 c2h c3t:=fun h => c8K.o h
def b7m (rf:T.RF) (rb:T.RB) (d1:List XN) (d2 d3:Int):Option Int :=
 bif decide (d3 ≥ 0) then
  bif inb d3 d1.length then
   (nth d1 d3.toNat).bind fun x1 =>
   c4h rb d1 (IntKind.i64.wrap (d2 + 1)) x1.2.2.1
  else
   none
 else
  some d2
theorem c7k:EqB 302 (W3 b7m):=fun _ _ _ => by kernel_rfl
theorem d0j:IB3 b7m c4h:=fun h => c7k.o h
def c5G (rf:T.RF) (rb:T.RB) (d1:List XN) (d2:Int):Option Int :=
 bif inb d2 d1.length then
  (nth d1 d2.toNat).bind fun x1 =>
  (c4h rb d1 0 x1.2.1).bind fun z2 =>
  some z2
 else
  none
theorem c8X:EqF 177 (W2 c5G):=fun _ _ _ => by kernel_rfl
theorem d8r:IF2 c5G b7w:=fun h => c8X.o h
def b9G (rf:T.RF) (rb:T.RB) (d1 d2:List UInt8) (d3:XUn) (d4:List XUn) (d5:Int) (d6:List XN) (d7:Int):Option ((List UInt8 × List UInt8 × XUn × List XUn × Int) ⊕ (List UInt8 × List UInt8 × XUn × List XUn)) :=
 bif decide (d7 < (d6.length:Int)) then
  bif inb d7 d6.length then
   (nth d6 d7.toNat).bind fun x1 =>
   bif x1.1 == 3 then
   bif inb d7 d6.length then
   (nth d6 d7.toNat).bind fun x2 =>
   (c0a rf d3.2.2.2.2.2.2.2).bind fun y3 =>
   (a5q rf y3 x2.2.2.2.2.2).bind fun y4 =>
   bif y4 then
   some (.inl (d1,d2,d3,d4,13))
   else
   bif inb d7 d6.length then
   (nth d6 d7.toNat).bind fun x5 =>
   bif x5.1 == 3 then
   bif inb d7 d6.length then
   (nth d6 d7.toNat).bind fun x6 =>
   (b7u rf d3).bind fun y7 =>
   (a5q rf y7 x6.2.2.2.2.2).bind fun y8 =>
   bif !y8 then
   some (.inl (d1,d2,d3,d4,8))
   else
   bif inb d7 d6.length then
   (nth d6 d7.toNat).bind fun x9 =>
   bif x9.1 == 27 then
   bif inb d7 d6.length then
   (nth d6 d7.toNat).bind fun x10 =>
   (a9O rf d4 d1 d2 x10.2.2.2.2.2).bind fun y11 =>
   bif decide (y11.2 < 0) then
   some (.inl (d1,d2,d3,y11.1,14))
   else
   bif decide (y11.2 ≥ d5) then
   some (.inl (d1,d2,d3,y11.1,14))
   else
   bif inb y11.2 y11.1.length then
   (nth y11.1 y11.2.toNat).bind fun x12 =>
   bif x12.1 then
   some (.inl (d1,d2,d3,y11.1,14))
   else
   bif inb y11.2 y11.1.length then
   (nth y11.1 y11.2.toNat).bind fun x13 =>
   (b7w rf d6 d7).bind fun y14 =>
   bif (x13.2.2.1.length:Int) != y14 then
   some (.inl (d1,d2,d3,y11.1,14))
   else
   a8q rb d1 d2 d3 y11.1 d5 d6 (IntKind.i64.wrap (d7 + 1))
   else
   none
   else
   none
   else
   none
   else
   a8q rb d1 d2 d3 d4 d5 d6 (IntKind.i64.wrap (d7 + 1))
   else
   none
   else
   none
   else
   bif inb d7 d6.length then
   (nth d6 d7.toNat).bind fun x15 =>
   bif x15.1 == 27 then
   bif inb d7 d6.length then
   (nth d6 d7.toNat).bind fun x16 =>
   (a9O rf d4 d1 d2 x16.2.2.2.2.2).bind fun y17 =>
   bif decide (y17.2 < 0) then
   some (.inl (d1,d2,d3,y17.1,14))
   else
   bif decide (y17.2 ≥ d5) then
   some (.inl (d1,d2,d3,y17.1,14))
   else
   bif inb y17.2 y17.1.length then
   (nth y17.1 y17.2.toNat).bind fun x18 =>
   bif x18.1 then
   some (.inl (d1,d2,d3,y17.1,14))
   else
   bif inb y17.2 y17.1.length then
   (nth y17.1 y17.2.toNat).bind fun x19 =>
   (b7w rf d6 d7).bind fun y20 =>
   bif (x19.2.2.1.length:Int) != y20 then
   some (.inl (d1,d2,d3,y17.1,14))
   else
   a8q rb d1 d2 d3 y17.1 d5 d6 (IntKind.i64.wrap (d7 + 1))
   else
   none
   else
   none
   else
   none
   else
   a8q rb d1 d2 d3 d4 d5 d6 (IntKind.i64.wrap (d7 + 1))
   else
   none
   else
   none
   else
   none
   else
   bif inb d7 d6.length then
   (nth d6 d7.toNat).bind fun x21 =>
   bif x21.1 == 3 then
   bif inb d7 d6.length then
   (nth d6 d7.toNat).bind fun x22 =>
   (b7u rf d3).bind fun y23 =>
   (a5q rf y23 x22.2.2.2.2.2).bind fun y24 =>
   bif !y24 then
   some (.inl (d1,d2,d3,d4,8))
   else
   bif inb d7 d6.length then
   (nth d6 d7.toNat).bind fun x25 =>
   bif x25.1 == 27 then
   bif inb d7 d6.length then
   (nth d6 d7.toNat).bind fun x26 =>
   (a9O rf d4 d1 d2 x26.2.2.2.2.2).bind fun y27 =>
   bif decide (y27.2 < 0) then
   some (.inl (d1,d2,d3,y27.1,14))
   else
   bif decide (y27.2 ≥ d5) then
   some (.inl (d1,d2,d3,y27.1,14))
   else
   bif inb y27.2 y27.1.length then
   (nth y27.1 y27.2.toNat).bind fun x28 =>
   bif x28.1 then
   some (.inl (d1,d2,d3,y27.1,14))
   else
   bif inb y27.2 y27.1.length then
   (nth y27.1 y27.2.toNat).bind fun x29 =>
   (b7w rf d6 d7).bind fun y30 =>
   bif (x29.2.2.1.length:Int) != y30 then
   some (.inl (d1,d2,d3,y27.1,14))
   else
   a8q rb d1 d2 d3 y27.1 d5 d6 (IntKind.i64.wrap (d7 + 1))
   else
   none
   else
   none
   else
   none
   else
   a8q rb d1 d2 d3 d4 d5 d6 (IntKind.i64.wrap (d7 + 1))
   else
   none
   else
   none
   else
   bif inb d7 d6.length then
   (nth d6 d7.toNat).bind fun x31 =>
   bif x31.1 == 27 then
   bif inb d7 d6.length then
   (nth d6 d7.toNat).bind fun x32 =>
   (a9O rf d4 d1 d2 x32.2.2.2.2.2).bind fun y33 =>
   bif decide (y33.2 < 0) then
   some (.inl (d1,d2,d3,y33.1,14))
   else
   bif decide (y33.2 ≥ d5) then
   some (.inl (d1,d2,d3,y33.1,14))
   else
   bif inb y33.2 y33.1.length then
   (nth y33.1 y33.2.toNat).bind fun x34 =>
   bif x34.1 then
   some (.inl (d1,d2,d3,y33.1,14))
   else
   bif inb y33.2 y33.1.length then
   (nth y33.1 y33.2.toNat).bind fun x35 =>
   (b7w rf d6 d7).bind fun y36 =>
   bif (x35.2.2.1.length:Int) != y36 then
   some (.inl (d1,d2,d3,y33.1,14))
   else
   a8q rb d1 d2 d3 y33.1 d5 d6 (IntKind.i64.wrap (d7 + 1))
   else
   none
   else
   none
   else
   none
   else
   a8q rb d1 d2 d3 d4 d5 d6 (IntKind.i64.wrap (d7 + 1))
   else
   none
   else
   none
  else
   none
 else
  some (.inr (d1,d2,d3,d4))
theorem c7j:EqB 301 (W7 b9G):=fun _ _ _ => by kernel_rfl
theorem d0i:IB7 b9G a8q:=fun h => c7j.o h
def c5F (rf:T.RF) (rb:T.RB) (d1:List XUn) (d2 d3:List UInt8) (d4:Int) (d5:List XN):Option (List XUn × Int) :=
 bif inb d4 d1.length then
  (nth d1 d4.toNat).bind fun x1 =>
  (a8q rb d2 d3 x1 d1 d4 d5 0).bind fun z2 =>
  match z2 with
  | .inl u3 =>
    some u3.2.2.2
  | .inr w4 =>
    some (w4.2.2.2,0)
 else
  none
theorem c8W:EqF 176 (W5 c5F):=fun _ _ _ => by kernel_rfl
theorem d8q:IF5 c5F c3y:=fun h => c8W.o h
def b7n (rf:T.RF) (rb:T.RB) (d1 d2:List UInt8) (d3:XUn) (d4:List XPm) (d5:List XUn) (d6 d7:Int):Option ((List UInt8 × List UInt8 × XUn × List XUn × Int) ⊕ (List UInt8 × List UInt8 × XUn × List XUn × List XPm)) :=
 bif decide (d7 < (d3.2.2.2.2.2.2.1.length:Int)) then
  bif inb d7 d3.2.2.2.2.2.2.1.length then
   (nth d3.2.2.2.2.2.2.1 d7.toNat).bind fun x1 =>
   bif !(x1.1 == d3.2.2.2.1) then
   (a5q rf d3.2.2.2.2.2.1 x1.1).bind fun y2 =>
   bif !y2 then
   some (.inl (d1,d2,d3,d5,8))
   else
   (a5q rf d4 x1.1).bind fun y3 =>
   bif y3 then
   some (.inl (d1,d2,d3,d5,9))
   else
   (c3y rf d5 d1 d2 d6 x1.2).bind fun y4 =>
   bif y4.2 != 0 then
   some (.inl (d1,d2,d3,y4))
   else
   bif (Nat.ble (d4.length + 1) j8) && true then
   b3k rb d1 d2 d3 (d4 ++ [(x1.1,0)]) y4.1 d6 (IntKind.i64.wrap (d7 + 1))
   else
   none
   else
   (a5q rf d4 x1.1).bind fun y5 =>
   bif y5 then
   some (.inl (d1,d2,d3,d5,9))
   else
   (c3y rf d5 d1 d2 d6 x1.2).bind fun y6 =>
   bif y6.2 != 0 then
   some (.inl (d1,d2,d3,y6))
   else
   bif (Nat.ble (d4.length + 1) j8) && true then
   b3k rb d1 d2 d3 (d4 ++ [(x1.1,0)]) y6.1 d6 (IntKind.i64.wrap (d7 + 1))
   else
   none
  else
   none
 else
  some (.inr (d1,d2,d3,d5,d4))
theorem c7l:EqB 303 (W7 b7n):=fun _ _ _ => by kernel_rfl
theorem d0k:IB7 b7n b3k:=fun h => c7l.o h
def c2j (rf:T.RF) (rb:T.RB) (d1:List XUn) (d2 d3:List UInt8) (d4:Int):Option (List XUn × Int) :=
 bif inb d4 d1.length then
  (nth d1 d4.toNat).bind fun x1 =>
  (b3k rb d2 d3 x1 [] d1 d4 0).bind fun z2 =>
  match z2 with
  | .inl u3 =>
    some u3.2.2.2
  | .inr w4 =>
    bif (w4.2.2.2.2.length:Int) != (IntKind.i64.wrap ((w4.2.2.1.2.2.2.2.2.1.length:Int) + 1)) then
     some (w4.2.2.2.1,8)
    else
     some (w4.2.2.2.1,0)
 else
  none
theorem c8V:EqF 175 (W4 c2j):=fun _ _ _ => by kernel_rfl
theorem d8p:IF4 c2j c3x:=fun h => c8V.o h
def b9H (rf:T.RF) (rb:T.RB) (d1:Bool) (d2:List UInt8) (d3:List XPm) (d4:List UInt8) (d5:Int) (d6:List XPm) (d7:XUn) (d8:List XPm) (d9:List XEq) (d10:List XIt) (d11:Int):Option ((XUn × XUn × List XPm × List XEq × List XIt × Int) ⊕ (Bool × List UInt8 × List XPm × List UInt8 × Int × List XPm × XUn × List XPm × List XEq × List XIt)) :=
 bif decide (d11 < (d8.length:Int)) then
  bif E3 d11 d8.length then
   bif inb d11 d8.length then
   (nth d8 d11.toNat).bind fun x1 =>
   (a5q rf (sub d8 (some (0,(d11.toNat - 0)))) x1.1).bind fun y2 =>
   bif y2 then
   some (.inl (d7,d7,d8,d9,d10,9))
   else
   c4i rb d1 d2 d3 d4 d5 d6 d7 d8 d9 d10 (IntKind.i64.wrap (d11 + 1))
   else
   none
  else
   none
 else
  some (.inr (d1,d2,d3,d4,d5,d6,d7,d8,d9,d10))
theorem c7m:EqB 304 (W11 b9H):=fun _ _ _ => by kernel_rfl
theorem d0l:d2V b9H c4i:=fun h => c7m.o h
def c2g (rf:T.RF) (rb:T.RB) (d1:List XUn) (d2 d3:List UInt8) (d4:Int):Option (List XUn × XUn × Int) :=
 bif inb d4 d1.length then
  (nth d1 d4.toNat).bind fun x1 =>
  (a9O rf d1 d2 d3 x1.2.1).bind fun y2 =>
  bif decide (y2.2 < d4) then
   some (y2.1,x1,9)
  else
   (b7u rf x1).bind fun y3 =>
   (c4i rb false ([]:List UInt8) [] ([]:List UInt8) 0 [] x1 y3 [] [] 0).bind fun z4 =>
   match z4 with
   | .inl u5 =>
     some (y2.1,u5.1,u5.2.2.2.2.2)
   | .inr w6 =>
     (c3t rf y2.1 d2 d3 d4).bind fun y7 =>
     bif y7.2.2 != 0 then
      some (y7.1,w6.2.2.2.2.2.2.1,y7.2.2)
     else
     bif inb d4 y7.1.length then
      bif Nat.blt d4.toNat y7.1.length then
       bif w6.2.2.2.2.2.2.1.1 then
        some (l9 y7.1 d4.toNat (w6.2.2.2.2.2.2.1.1,w6.2.2.2.2.2.2.1.2.1,w6.2.2.2.2.2.2.1.2.2.1,w6.2.2.2.2.2.2.1.2.2.2.1,w6.2.2.2.2.2.2.1.2.2.2.2.1,w6.2.2.2.2.2.2.1.2.2.2.2.2.1,w6.2.2.2.2.2.2.1.2.2.2.2.2.2.1,y7.2.1),(w6.2.2.2.2.2.2.1.1,w6.2.2.2.2.2.2.1.2.1,w6.2.2.2.2.2.2.1.2.2.1,w6.2.2.2.2.2.2.1.2.2.2.1,w6.2.2.2.2.2.2.1.2.2.2.2.1,w6.2.2.2.2.2.2.1.2.2.2.2.2.1,w6.2.2.2.2.2.2.1.2.2.2.2.2.2.1,y7.2.1),0)
       else
        (c3x rf (l9 y7.1 d4.toNat (w6.2.2.2.2.2.2.1.1,w6.2.2.2.2.2.2.1.2.1,w6.2.2.2.2.2.2.1.2.2.1,w6.2.2.2.2.2.2.1.2.2.2.1,w6.2.2.2.2.2.2.1.2.2.2.2.1,w6.2.2.2.2.2.2.1.2.2.2.2.2.1,w6.2.2.2.2.2.2.1.2.2.2.2.2.2.1,y7.2.1)) d2 d3 d4).bind fun y8 =>
        some (y8.1,(w6.2.2.2.2.2.2.1.1,w6.2.2.2.2.2.2.1.2.1,w6.2.2.2.2.2.2.1.2.2.1,w6.2.2.2.2.2.2.1.2.2.2.1,w6.2.2.2.2.2.2.1.2.2.2.2.1,w6.2.2.2.2.2.2.1.2.2.2.2.2.1,w6.2.2.2.2.2.2.1.2.2.2.2.2.2.1,y7.2.1),y8.2)
      else
       none
     else
      none
 else
  none
theorem c8G:EqF 160 (W4 c2g):=fun _ _ _ => by kernel_rfl
theorem d8a:IF4 c2g c3s:=fun h => c8G.o h
def b7o (rf:T.RF) (rb:T.RB) (d1 d2:List XPm) (d3:Int):Option (Bool ⊕ Unit) :=
 bif decide (d3 < (d1.length:Int)) then
  bif inb d3 d1.length then
   (nth d1 d3.toNat).bind fun x1 =>
   bif inb d3 d2.length then
   (nth d2 d3.toNat).bind fun x2 =>
   bif !((x1.1 == x2.1) && (x1.2 == x2.2)) then
   some (.inl false)
   else
   c4j rb d1 d2 (IntKind.i64.wrap (d3 + 1))
   else
   none
  else
   none
 else
  some (.inr ())
theorem c7n:EqB 305 (W3 b7o):=fun _ _ _ => by kernel_rfl
theorem c1h:IB3 b7o c4j:=fun h => c7n.o h
def b8o (rf:T.RF) (rb:T.RB) (d1 d2:List XPm):Option Bool :=
 bif (d1.length:Int) != (d2.length:Int) then
  some false
 else
  (c4j rb d1 d2 0).bind fun z1 =>
  match z1 with
  | .inl u2 =>
    some u2
  | .inr w3 =>
    some true
theorem c8Y:EqF 178 (W2 b8o):=fun _ _ _ => by kernel_rfl
theorem c1m:IF2 b8o c0c:=fun h => c8Y.o h
def b7k (rf:T.RF) (rb:T.RB) (d1 d2:List UInt8) (d3:Int × Int) (d4 d5:List UInt8) (d6 d7:List XUn) (d8:Int):Option ((List UInt8 × List UInt8 × (Int × Int) × List UInt8 × List UInt8 × List XUn × List XUn × List XUn) ⊕ (List UInt8 × List UInt8 × (Int × Int) × List UInt8 × List UInt8 × List XUn × List XUn)) :=
 bif decide (d8 < (d7.length:Int)) then
  (c3s rf d7 d4 d5 d8).bind fun y1 =>
  bif y1.2.2 != 0 then
   some (.inl (([]:List UInt8),([]:List UInt8),(y1.2.2,d8),d4,d5,d6,y1.1,[]))
  else
  bif inb d8 y1.1.length then
   bif Nat.blt d8.toNat y1.1.length then
   b7T rb d1 d2 d3 d4 d5 d6 (l9 y1.1 d8.toNat y1.2.1) (IntKind.i64.wrap (d8 + 1))
   else
   none
  else
   none
 else
  some (.inr (d1,d2,d3,d4,d5,d6,d7))
theorem c6S:EqB 238 (W8 b7k):=fun _ _ _ => by kernel_rfl
theorem c9T:IB8 b7k b7T:=fun h => c6S.o h
def c5e (rf:T.RF) (rb:T.RB) (d1:XPg):Option (XPg × Int × Int) :=
 (c3n rf d1).bind fun y1 =>
 bif !y1 then
  some (([],([]:List UInt8),([]:List UInt8)),1,(-1))
 else
  (c3q rf d1).bind fun y2 =>
  (b7T rb ([]:List UInt8) ([]:List UInt8) (0,0) y2.2.1 y2.2.2 [] y2.1 0).bind fun z3 =>
  match z3 with
  | .inl u4 =>
    some ((u4.2.2.2.2.2.2.2,u4.1,u4.2.1),u4.2.2.1)
  | .inr w5 =>
    (a9O rf w5.2.2.2.2.2.2 w5.2.2.2.1 w5.2.2.2.2.1 w5.2.2.2.1).bind fun y6 =>
    bif decide (y6.2 < 0) then
     some (([],([]:List UInt8),([]:List UInt8)),8,(-1))
    else
    bif inb y6.2 y6.1.length then
     (nth y6.1 y6.2.toNat).bind fun x7 =>
     bif x7.1 then
      some (([],([]:List UInt8),([]:List UInt8)),8,(-1))
     else
     bif !(w5.2.2.2.2.1 == ([]:List UInt8)) then
      (a9O rf y6.1 w5.2.2.2.1 w5.2.2.2.2.1 w5.2.2.2.2.1).bind fun y8 =>
      bif decide (y8.2 < 0) then
       some (([],([]:List UInt8),([]:List UInt8)),14,(-1))
      else
      bif inb y8.2 y8.1.length then
       (nth y8.1 y8.2.toNat).bind fun x9 =>
       bif x9.1 then
        some (([],([]:List UInt8),([]:List UInt8)),14,(-1))
       else
       bif inb y8.2 y8.1.length then
        (nth y8.1 y8.2.toNat).bind fun x10 =>
        bif inb y6.2 y8.1.length then
         (nth y8.1 y6.2.toNat).bind fun x11 =>
         (c0c rf x10.2.2.1 x11.2.2.1).bind fun y12 =>
         bif !y12 then
          some (([],([]:List UInt8),([]:List UInt8)),14,(-1))
         else
         bif inb y8.2 y8.1.length then
          (nth y8.1 y8.2.toNat).bind fun x13 =>
          bif inb y6.2 y8.1.length then
           (nth y8.1 y6.2.toNat).bind fun x14 =>
           bif !((x13.2.2.2.1 == x14.2.2.2.1) && (x13.2.2.2.2.1 == x14.2.2.2.2.1)) then
            some (([],([]:List UInt8),([]:List UInt8)),14,(-1))
           else
            some ((y8.1,w5.2.2.2.1,w5.2.2.2.2.1),0,0)
          else
           none
         else
          none
        else
         none
       else
        none
      else
       none
     else
      some ((y6.1,w5.2.2.2.1,w5.2.2.2.2.1),0,0)
    else
     none
theorem c8q:EqF 144 fun a b => c5e a b:=fun _ _ _ => by kernel_rfl
theorem d7K:IF1 c5e d1G:=fun h => c8q.o h
def b9I (rf:T.RF) (rb:T.RB) (d1 d2:List XN) (d3:Int):Option (Bool ⊕ Unit) :=
 bif decide (d3 < (d1.length:Int)) then
  bif inb d3 d1.length then
   (nth d1 d3.toNat).bind fun x1 =>
   bif inb d3 d2.length then
   (nth d2 d3.toNat).bind fun x2 =>
   bif !((x1.1 == x2.1) && ((x1.2.1 == x2.2.1) && ((x1.2.2.1 == x2.2.2.1) && ((x1.2.2.2.1 == x2.2.2.2.1) && ((x1.2.2.2.2.1 == x2.2.2.2.2.1) && (x1.2.2.2.2.2 == x2.2.2.2.2.2)))))) then
   some (.inl false)
   else
   c4l rb d1 d2 (IntKind.i64.wrap (d3 + 1))
   else
   none
  else
   none
 else
  some (.inr ())
theorem c7q:EqB 308 (W3 b9I):=fun _ _ _ => by kernel_rfl
theorem d0m:IB3 b9I c4l:=fun h => c7q.o h
def c5H (rf:T.RF) (rb:T.RB) (d1 d2:List XN):Option Bool :=
 bif (d1.length:Int) != (d2.length:Int) then
  some false
 else
  (c4l rb d1 d2 0).bind fun z1 =>
  match z1 with
  | .inl u2 =>
    some u2
  | .inr w3 =>
    some true
theorem c9b:EqF 181 (W2 c5H):=fun _ _ _ => by kernel_rfl
theorem d8s:IF2 c5H b7x:=fun h => c9b.o h
def b7q (rf:T.RF) (rb:T.RB) (d1 d2:List (List XN)) (d3:Int):Option (Bool ⊕ Unit) :=
 bif decide (d3 < (d1.length:Int)) then
  bif inb d3 d1.length then
   (nth d1 d3.toNat).bind fun x1 =>
   bif inb d3 d2.length then
   (nth d2 d3.toNat).bind fun x2 =>
   (b7x rf x1 x2).bind fun y3 =>
   bif !y3 then
   some (.inl false)
   else
   c4m rb d1 d2 (IntKind.i64.wrap (d3 + 1))
   else
   none
  else
   none
 else
  some (.inr ())
theorem c7s:EqB 310 (W3 b7q):=fun _ _ _ => by kernel_rfl
theorem c1j:IB3 b7q c4m:=fun h => c7s.o h
def b8p (rf:T.RF) (rb:T.RB) (d1 d2:List (List XN)):Option Bool :=
 bif (d1.length:Int) != (d2.length:Int) then
  some false
 else
  (c4m rb d1 d2 0).bind fun z1 =>
  match z1 with
  | .inl u2 =>
    some u2
  | .inr w3 =>
    some true
theorem c9c:EqF 182 (W2 b8p):=fun _ _ _ => by kernel_rfl
theorem c1n:IF2 b8p d1P:=fun h => c9c.o h
def b4C (rf:T.RF) (rb:T.RB) (d1 d2:XUn) (d3:Int):Option ((XUn × XUn × Bool) ⊕ (XUn × XUn)) :=
 bif decide (d3 < (d1.2.2.2.2.2.2.1.length:Int)) then
  bif inb d3 d1.2.2.2.2.2.2.1.length then
   (nth d1.2.2.2.2.2.2.1 d3.toNat).bind fun x1 =>
   bif inb d3 d2.2.2.2.2.2.2.1.length then
   (nth d2.2.2.2.2.2.2.1 d3.toNat).bind fun x2 =>
   bif !(x1.1 == x2.1) then
   some (.inl (d1,d2,false))
   else
   bif inb d3 d1.2.2.2.2.2.2.1.length then
   (nth d1.2.2.2.2.2.2.1 d3.toNat).bind fun x3 =>
   bif inb d3 d2.2.2.2.2.2.2.1.length then
   (nth d2.2.2.2.2.2.2.1 d3.toNat).bind fun x4 =>
   (b7x rf x3.2 x4.2).bind fun y5 =>
   bif !y5 then
   some (.inl (d1,d2,false))
   else
   c0L rb d1 d2 (IntKind.i64.wrap (d3 + 1))
   else
   none
   else
   none
   else
   none
  else
   none
 else
  some (.inr (d1,d2))
theorem c7p:EqB 307 (W3 b4C):=fun _ _ _ => by kernel_rfl
theorem b6v:IB3 b4C c0L:=fun h => c7p.o h
def a7J (rf:T.RF) (rb:T.RB) (d1 d2:XUn) (d3:Int):Option ((XUn × XUn × Bool) ⊕ (XUn × XUn)) :=
 bif decide (d3 < (d1.2.2.2.2.2.2.2.length:Int)) then
  bif inb d3 d1.2.2.2.2.2.2.2.length then
   (nth d1.2.2.2.2.2.2.2 d3.toNat).bind fun x1 =>
   bif inb d3 d2.2.2.2.2.2.2.2.length then
   (nth d2.2.2.2.2.2.2.2 d3.toNat).bind fun x2 =>
   bif x1.1 != x2.1 then
   some (.inl (d1,d2,false))
   else
   bif !(x1.2.1 == x2.2.1) then
   some (.inl (d1,d2,false))
   else
   bif x1.2.2.1 != x2.2.2.1 then
   some (.inl (d1,d2,false))
   else
   (b7x rf x1.2.2.2.1 x2.2.2.2.1).bind fun y3 =>
   bif !y3 then
   some (.inl (d1,d2,false))
   else
   (b7x rf x1.2.2.2.2.1 x2.2.2.2.2.1).bind fun y4 =>
   bif !y4 then
   some (.inl (d1,d2,false))
   else
   (d1P rf x1.2.2.2.2.2 x2.2.2.2.2.2).bind fun y5 =>
   bif !y5 then
   some (.inl (d1,d2,false))
   else
   c0M rb d1 d2 (IntKind.i64.wrap (d3 + 1))
   else
   none
  else
   none
 else
  some (.inr (d1,d2))
theorem c7r:EqB 309 (W3 a7J):=fun _ _ _ => by kernel_rfl
theorem a6x:IB3 a7J c0M:=fun h => c7r.o h
def a8W (rf:T.RF) (rb:T.RB) (d1 d2:XUn):Option Bool :=
 bif !(d1.1 == d2.1) then
  some false
 else
 bif !(d1.2.1 == d2.2.1) then
  some false
 else
  (c0c rf d1.2.2.1 d2.2.2.1).bind fun y1 =>
  bif !y1 then
   some false
  else
  bif !((d1.2.2.2.1 == d2.2.2.2.1) && (d1.2.2.2.2.1 == d2.2.2.2.2.1)) then
   some false
  else
   (c0c rf d1.2.2.2.2.2.1 d2.2.2.2.2.2.1).bind fun y2 =>
   bif !y2 then
    some false
   else
   bif (d1.2.2.2.2.2.2.1.length:Int) != (d2.2.2.2.2.2.2.1.length:Int) then
    some false
   else
   bif (d1.2.2.2.2.2.2.2.length:Int) != (d2.2.2.2.2.2.2.2.length:Int) then
    some false
   else
    (c0L rb d1 d2 0).bind fun z3 =>
    match z3 with
    | .inl u4 =>
      some u4.2.2
    | .inr w5 =>
      (c0M rb w5.1 w5.2 0).bind fun z6 =>
      match z6 with
      | .inl u7 =>
        some u7.2.2
      | .inr w8 =>
        some true
theorem c9a:EqF 180 (W2 a8W):=fun _ _ _ => by kernel_rfl
theorem a6z:IF2 a8W c3z:=fun h => c9a.o h
def b7p (rf:T.RF) (rb:T.RB) (d1 d2:XPg) (d3:Int):Option ((XPg × XPg × Bool) ⊕ (XPg × XPg)) :=
 bif decide (d3 < (d1.1.length:Int)) then
  bif inb d3 d1.1.length then
   (nth d1.1 d3.toNat).bind fun x1 =>
   bif inb d3 d2.1.length then
   (nth d2.1 d3.toNat).bind fun x2 =>
   (c3z rf x1 x2).bind fun y3 =>
   bif !y3 then
   some (.inl (d1,d2,false))
   else
   c4k rb d1 d2 (IntKind.i64.wrap (d3 + 1))
   else
   none
  else
   none
 else
  some (.inr (d1,d2))
theorem c7o:EqB 306 (W3 b7p):=fun _ _ _ => by kernel_rfl
theorem c1i:IB3 b7p c4k:=fun h => c7o.o h
def b3M (rf:T.RF) (rb:T.RB) (d1 d2:XPg):Option Bool :=
 bif !(d1.2.1 == d2.2.1) then
  some false
 else
 bif !(d1.2.2 == d2.2.2) then
  some false
 else
 bif (d1.1.length:Int) != (d2.1.length:Int) then
  some false
 else
  (c4k rb d1 d2 0).bind fun z1 =>
  match z1 with
  | .inl u2 =>
    some u2.2.2
  | .inr w3 =>
    some true
theorem c8Z:EqF 179 (W2 b3M):=fun _ _ _ => by kernel_rfl
theorem b3x:IF2 b3M a7N:=fun h => c8Z.o h
def b9J (rf:T.RF) (rb:T.RB) (d1:XPg) (d2:List UInt8) (d3:Int):Option ((XPg × Int) ⊕ XPg) :=
 bif decide (d3 < (d1.1.length:Int)) then
  bif inb d3 d1.1.length then
   (nth d1.1 d3.toNat).bind fun x1 =>
   bif x1.2.1 == d2 then
   some (.inl (d1,d3))
   else
   c4n rb d1 d2 (IntKind.i64.wrap (d3 + 1))
  else
   none
 else
  some (.inr d1)
theorem c7t:EqB 311 (W3 b9J):=fun _ _ _ => by kernel_rfl
theorem d0n:IB3 b9J c4n:=fun h => c7t.o h
def c5I (rf:T.RF) (rb:T.RB) (d1:XPg) (d2:List UInt8):Option Int :=
 (c4n rb d1 d2 0).bind fun z1 =>
 match z1 with
 | .inl u2 =>
   some u2.2
 | .inr w3 =>
   some (-1)
theorem c9d:EqF 183 (W2 c5I):=fun _ _ _ => by kernel_rfl
theorem d8t:IF2 c5I d1Q:=fun h => c9d.o h
def r0 (rf:T.RF) (rb:T.RB) (d1:XPg) (d2:List UInt8):Option Bool :=
 (c1 rf d1).bind fun y1 =>
 bif !y1 then
  (c2 rf).bind fun y2 =>
  some y2
 else
 bif decide ((d2.length:Int) > 100) then
  (c2 rf).bind fun y3 =>
  some y3
 else
  (c66 rf d1).bind fun y4 =>
  (d1G rf d1).bind fun y5 =>
  (a7N rf y4.1 y5.1).bind fun y6 =>
  bif y6 then
   bif (y4.2.1 == y5.2.1) && (y4.2.2 == y5.2.2) then
   (b9X rf d1 d2).bind fun y7 =>
   (d1Q rf d1 d2).bind fun y8 =>
   bif y7 == y8 then
   (c2 rf).bind fun y9 =>
   some y9
   else
   some false
   else
   some false
  else
   some false
theorem er0:EqF 0 (W2 r0):=fun _ _ _ => by kernel_rfl
theorem or0:IF2 r0 c0:=fun h => er0.o h
def b9K (rf:T.RF) (rb:T.RB) (d1:XPg) (d2:Int):Option ((XPg × Bool) ⊕ XPg) :=
 bif decide (d2 < (d1.1.length:Int)) then
  (c4p rb d1 d2 0).bind fun z1 =>
  match z1 with
  | .inl u2 =>
    some (.inl u2)
  | .inr w3 =>
    c4o rb w3 (IntKind.i64.wrap (d2 + 1))
 else
  some (.inr d1)
theorem c7u:EqB 312 (W2 b9K):=fun _ _ _ => by kernel_rfl
theorem d0o:IB2 b9K c4o:=fun h => c7u.o h
def b9L (rf:T.RF) (rb:T.RB) (d1:XPg) (d2 d3:Int):Option ((XPg × Bool) ⊕ XPg) :=
 bif inb d2 d1.1.length then
  (nth d1.1 d2.toNat).bind fun x1 =>
  bif decide (d3 < (x1.2.2.2.2.2.2.2.length:Int)) then
   bif inb d2 d1.1.length then
   (nth d1.1 d2.toNat).bind fun x2 =>
   bif inb d3 x2.2.2.2.2.2.2.2.length then
   (nth x2.2.2.2.2.2.2.2 d3.toNat).bind fun x3 =>
   bif x3.1 == 5 then
   some (.inl (d1,false))
   else
   c4p rb d1 d2 (IntKind.i64.wrap (d3 + 1))
   else
   none
   else
   none
  else
   some (.inr d1)
 else
  none
theorem c7v:EqB 313 (W3 b9L):=fun _ _ _ => by kernel_rfl
theorem d0p:IB3 b9L c4p:=fun h => c7v.o h
def c5J (rf:T.RF) (rb:T.RB) (d1:XPg):Option Bool :=
 (c1 rf d1).bind fun y1 =>
 bif !y1 then
  (c2 rf).bind fun y2 =>
  some y2
 else
  (c66 rf d1).bind fun y3 =>
  bif y3.2.1 != 0 then
   bif (y3.1.1.length:Int) == 0 then
    (c2 rf).bind fun y4 =>
    some y4
   else
    some false
  else
   (c4o rb y3.1 0).bind fun z5 =>
   match z5 with
   | .inl u6 =>
     some u6.2
   | .inr w7 =>
     (c66 rf w7).bind fun y8 =>
     bif y8.2.1 == 0 then
      (a7N rf w7 y8.1).bind fun y9 =>
      bif y9 then
       (c2 rf).bind fun y10 =>
       some y10
      else
       some false
     else
      some false
theorem c9e:EqF 184 fun a b => c5J a b:=fun _ _ _ => by kernel_rfl
theorem d8u:IF1 c5J d2Y:=fun h => c9e.o h
def b9M (rf:T.RF) (rb:T.RB) (d1:List XN) (d2:List XPm) (d3:Int):Option (Bool ⊕ Unit) :=
 bif decide (d3 < (d1.length:Int)) then
  (c0N rb d1 d2 d3 0).bind fun z1 =>
  match z1 with
  | .inl u2 =>
    some (.inl u2)
  | .inr w3 =>
    c4q rb d1 d2 (IntKind.i64.wrap (d3 + 1))
 else
  some (.inr ())
theorem c7w:EqB 318 (W3 b9M):=fun _ _ _ => by kernel_rfl
theorem d0q:IB3 b9M c4q:=fun h => c7w.o h
def b9N (rf:T.RF) (rb:T.RB) (d1:List XN) (d2:List XPm) (d3 d4:Int):Option (Bool ⊕ Unit) :=
 bif decide (d4 < (d2.length:Int)) then
  bif inb d3 d1.length then
   (nth d1 d3.toNat).bind fun x1 =>
   bif x1.1 == 3 then
   bif inb d3 d1.length then
   (nth d1 d3.toNat).bind fun x2 =>
   bif inb d4 d2.length then
   (nth d2 d4.toNat).bind fun x3 =>
   bif x2.2.2.2.2.2 == x3.1 then
   some (.inl true)
   else
   c0N rb d1 d2 d3 (IntKind.i64.wrap (d4 + 1))
   else
   none
   else
   none
   else
   c0N rb d1 d2 d3 (IntKind.i64.wrap (d4 + 1))
  else
   none
 else
  some (.inr ())
theorem c7x:EqB 319 (W4 b9N):=fun _ _ _ => by kernel_rfl
theorem d0r:IB4 b9N c0N:=fun h => c7x.o h
def c5L (rf:T.RF) (rb:T.RB) (d1:List XN) (d2:List XPm):Option Bool :=
 (c4q rb d1 d2 0).bind fun z1 =>
 match z1 with
 | .inl u2 =>
   some u2
 | .inr w3 =>
   some false
theorem c9g:EqF 186 (W2 c5L):=fun _ _ _ => by kernel_rfl
theorem d8w:IF2 c5L c3A:=fun h => c9g.o h
def b9O (rf:T.RF) (rb:T.RB) (d1 d2:XPg) (d3:Int):Option ((XPg × XPg × Bool) ⊕ (XPg × XPg)) :=
 bif decide (d3 < (d2.1.length:Int)) then
  bif inb d3 d2.1.length then
   (nth d2.1 d3.toNat).bind fun x1 =>
   (c0a rf x1.2.2.2.2.2.2.2).bind fun y2 =>
   bif inb d3 d1.1.length then
    (nth d1.1 d3.toNat).bind fun x3 =>
    bif (x1.2.2.2.2.2.2.1.length:Int) != (x3.2.2.2.2.2.2.1.length:Int) then
     some (.inl (d1,d2,false))
    else
     (c4s rb d1 x1 d3 y2 0).bind fun z4 =>
     match z4 with
     | .inl u5 =>
       some (.inl (u5.1,d2,u5.2.2))
     | .inr w6 =>
       c4r rb w6.1 d2 (IntKind.i64.wrap (d3 + 1))
   else
    none
  else
   none
 else
  some (.inr (d1,d2))
theorem c7y:EqB 320 (W3 b9O):=fun _ _ _ => by kernel_rfl
theorem d0s:IB3 b9O c4r:=fun h => c7y.o h
def b9P (rf:T.RF) (rb:T.RB) (d1:XPg) (d2:XUn) (d3:Int) (d4:List XPm) (d5:Int):Option ((XPg × XUn × Bool) ⊕ (XPg × XUn)) :=
 bif decide (d5 < (d2.2.2.2.2.2.2.1.length:Int)) then
  bif inb d5 d2.2.2.2.2.2.2.1.length then
   (nth d2.2.2.2.2.2.2.1 d5.toNat).bind fun x1 =>
   bif inb d3 d1.1.length then
   (nth d1.1 d3.toNat).bind fun x2 =>
   bif inb d5 x2.2.2.2.2.2.2.1.length then
   (nth x2.2.2.2.2.2.2.1 d5.toNat).bind fun x3 =>
   bif !(x1.1 == x3.1) then
   some (.inl (d1,d2,false))
   else
   bif inb d5 d2.2.2.2.2.2.2.1.length then
   (nth d2.2.2.2.2.2.2.1 d5.toNat).bind fun x4 =>
   bif inb d3 d1.1.length then
   (nth d1.1 d3.toNat).bind fun x5 =>
   bif inb d5 x5.2.2.2.2.2.2.1.length then
   (nth x5.2.2.2.2.2.2.1 d5.toNat).bind fun x6 =>
   bif (x4.2.length:Int) != (x6.2.length:Int) then
   some (.inl (d1,d2,false))
   else
   bif inb d5 d2.2.2.2.2.2.2.1.length then
   (nth d2.2.2.2.2.2.2.1 d5.toNat).bind fun x7 =>
   (c3A rf x7.2 d4).bind fun y8 =>
   bif y8 then
   some (.inl (d1,d2,false))
   else
   c4s rb d1 d2 d3 d4 (IntKind.i64.wrap (d5 + 1))
   else
   none
   else
   none
   else
   none
   else
   none
   else
   none
   else
   none
  else
   none
 else
  some (.inr (d1,d2))
theorem c7z:EqB 321 (W5 b9P):=fun _ _ _ => by kernel_rfl
theorem d0t:IB5 b9P c4s:=fun h => c7z.o h
def c5K (rf:T.RF) (rb:T.RB) (d1:XPg):Option Bool :=
 (c1 rf d1).bind fun y1 =>
 bif !y1 then
  (c2 rf).bind fun y2 =>
  some y2
 else
  (c66 rf d1).bind fun y3 =>
  bif y3.2.1 != 0 then
   (c2 rf).bind fun y4 =>
   some y4
  else
  bif (y3.1.1.length:Int) != (d1.1.length:Int) then
   some false
  else
   (c4r rb d1 y3.1 0).bind fun z5 =>
   match z5 with
   | .inl u6 =>
     some u6.2.2
   | .inr w7 =>
     (c2 rf).bind fun y8 =>
     some y8
theorem c9f:EqF 185 fun a b => c5K a b:=fun _ _ _ => by kernel_rfl
theorem d8v:IF1 c5K d2Z:=fun h => c9f.o h
def c5M (rf:T.RF) (rb:T.RB) (d1:XPg):Option Bool :=
 (c1 rf d1).bind fun y1 =>
 bif !y1 then
  (c2 rf).bind fun y2 =>
  some y2
 else
  (c66 rf d1).bind fun y3 =>
  (c3q rf d1).bind fun y4 =>
  (c66 rf y4).bind fun y5 =>
  (c3n rf d1).bind fun y6 =>
  bif !y6 then
   bif (y3.2.1 == 1) && (y3.2.2 == (-1)) then
   (c2 rf).bind fun y7 =>
   some y7
   else
   some false
  else
   (a7N rf y3.1 y5.1).bind fun y8 =>
   bif y8 then
   bif (y3.2.1 == y5.2.1) && (y3.2.2 == y5.2.2) then
   (c2 rf).bind fun y9 =>
   some y9
   else
   some false
   else
   some false
theorem c9h:EqF 187 fun a b => c5M a b:=fun _ _ _ => by kernel_rfl
theorem d8x:IF1 c5M d3a:=fun h => c9h.o h
def c5N (rf:T.RF) (rb:T.RB) (d1:XPg) (d2:Int):Option Bool :=
 (c1 rf d1).bind fun y1 =>
 bif !y1 then
  (c2 rf).bind fun y2 =>
  some y2
 else
 bif decide (d2 < 0) then
  (c2 rf).bind fun y3 =>
  some y3
 else
  (c66 rf d1).bind fun y4 =>
  bif y4.2.1 != 0 then
   (c2 rf).bind fun y5 =>
   some y5
  else
  bif (d1.1.length:Int) == 0 then
   (c2 rf).bind fun y6 =>
   some y6
  else
   (c66 rf (d1.1,d1.2.1,([]:List UInt8))).bind fun y7 =>
   bif y7.2.1 != 0 then
   some false
   else
   (a7N rf (y4.1.1,y4.1.2.1,([]:List UInt8)) y7.1).bind fun y8 =>
   bif !y8 then
   some false
   else
   bif (d1.1.length:Int) == 0 then
   none
   else
   bif inb (Int.tmod d2 (d1.1.length:Int)) d1.1.length then
   (nth d1.1 (Int.tmod d2 (d1.1.length:Int)).toNat).bind fun x9 =>
   (c66 rf (d1.1,x9.2.1,([]:List UInt8))).bind fun y10 =>
   bif (y10.2.1 == 0) == (!x9.1) then
   (c2 rf).bind fun y11 =>
   some y11
   else
   some false
   else
   none
theorem c9i:EqF 188 (W2 c5N):=fun _ _ _ => by kernel_rfl
theorem d8y:IF2 c5N d3b:=fun h => c9i.o h
theorem b8l:b8D.placeL.length = 322:=rfl
end
end Go.Proofs.YtelpjfihadaomaaGreatDoor.R
