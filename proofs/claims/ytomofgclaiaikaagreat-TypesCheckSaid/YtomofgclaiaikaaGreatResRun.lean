/-
  OUR OWN, PRINTED BY A PROGRAM OF OURS (table2.py): what a function comes to can be computed.
-/
import Derived.Test.YtomofgclaiaikaaGreatRes
import Derived.Test.YtomofgclaiaikaaGreatBmRun
import Derived.KernelRfl
namespace Go.Proofs.YtomofgclaiaikaaGreat.R
open Go Go.Bm Go.Proofs
set_option linter.unusedVariables false
set_option maxRecDepth 100000

noncomputable def gF (rf : T.RF) (rb : T.RB) : T.RF := fun φ => match φ with
  | 0 => fun (d : XL × XP × List XU) => r0 rf rb d.1 d.2.1 d.2.2
  | 1 => fun (d : Unit) => r1 rf rb 
  | 2 => fun (d : List UInt8) => r2 rf rb d
  | 3 => fun (d : List UInt8) => r3 rf rb d
  | 4 => fun (d : List UInt8) => r4 rf rb d
  | 5 => fun (d : List UInt8 × Int) => r5 rf rb d.1 d.2
  | 6 => fun (d : Int) => r6 rf rb d
  | 7 => fun (d : List UInt8) => r7 rf rb d
  | 8 => fun (d : Int) => r8 rf rb d
  | 9 => fun (d : List UInt8 × Int) => r9 rf rb d.1 d.2
  | 10 => fun (d : List UInt8) => r10 rf rb d
  | 11 => fun (d : Unit) => r11 rf rb 
  | 12 => fun (d : List UInt8) => r12 rf rb d
  | 13 => fun (d : List UInt8) => r13 rf rb d
  | 14 => fun (d : Unit) => r14 rf rb 
  | 15 => fun (d : List (Int × List UInt8 × Int) × Int) => r15 rf rb d.1 d.2
  | 16 => fun (d : List (Int × List UInt8 × Int) × Int × Int × Int × Int) => r16 rf rb d
  | 17 => fun (d : List (Int × List UInt8 × Int) × Int × Int × Int × Int) => r17 rf rb d
  | 18 => fun (d : List (Int × List UInt8 × Int) × Int × Int × Int × Int) => r18 rf rb d
  | 19 => fun (d : List (Int × List UInt8 × Int) × Int × Int × Int × Int) => r19 rf rb d
  | 20 => fun (d : List (Int × List UInt8 × Int) × Int × Int × Int × Int) => r20 rf rb d
  | 21 => fun (d : List (Int × List UInt8 × Int) × Int × Int × Int × Int) => r21 rf rb d
  | 22 => fun (d : List (Int × List UInt8 × Int) × Int × Int × Int × Int) => r22 rf rb d
  | 23 => fun (d : List (Int × List UInt8 × Int) × Int × Int × Int × Int) => r23 rf rb d
  | 24 => fun (d : List (Int × List UInt8 × Int) × Int × Int × Int × Int) => r24 rf rb d
  | 25 => fun (d : (List (Int × List UInt8 × Int) × Int × Int × Int × Int) × Int) => r25 rf rb d.1 d.2
  | 26 => fun (d : List (Int × List UInt8 × Int) × Int) => r26 rf rb d.1 d.2
  | 27 => fun (d : (List (Int × List UInt8 × Int) × Int × Int × Int × Int) × Int × List UInt8 × Int) => r27 rf rb d.1 d.2
  | 28 => fun (d : Int × Int × List UInt8 × List XL) => r28 rf rb d.1 d.2.1 d.2.2.1 d.2.2.2
  | 29 => fun (d : Int × Int × List UInt8) => r29 rf rb d.1 d.2.1 d.2.2
  | 30 => fun (d : XN) => r30 rf rb d
  | 31 => fun (d : XL × XL) => r31 rf rb d.1 d.2
  | 32 => fun (d : XN × Int) => r32 rf rb d.1 d.2
  | 33 => fun (d : XN × List Int) => r33 rf rb d.1 d.2
  | 34 => fun (d : (List (Int × List UInt8 × Int) × Int × Int × Int × Int) × List UInt8) => r34 rf rb d.1 d.2
  | 35 => fun (d : (List (Int × List UInt8 × Int) × Int × Int × Int × Int) × List UInt8) => r35 rf rb d.1 d.2
  | 36 => fun (d : (List (Int × List UInt8 × Int) × Int × Int × Int × Int) × List UInt8) => r36 rf rb d.1 d.2
  | 37 => fun (d : List (Int × List UInt8 × Int) × Int × Int × Int × Int) => r37 rf rb d
  | 38 => fun (d : (List (Int × List UInt8 × Int) × Int × Int × Int × Int) × List UInt8) => r38 rf rb d.1 d.2
  | 39 => fun (d : List UInt8) => r39 rf rb d
  | 40 => fun (d : List (Int × List UInt8 × Int) × Int × Int × Int × Int) => r40 rf rb d
  | 41 => fun (d : List (Int × List UInt8 × Int) × Int × Int × Int × Int) => r41 rf rb d
  | 42 => fun (d : (List (Int × List UInt8 × Int) × Int × Int × Int × Int) × Int × XL × XL) => r42 rf rb d.1 d.2.1 d.2.2.1 d.2.2.2
  | 43 => fun (d : XL) => r43 rf rb d
  | 44 => fun (d : XL × XP × List XU) => r44 rf rb d.1 d.2.1 d.2.2
  | 45 => fun (d : XL) => r45 rf rb d
  | 46 => fun (d : XN) => r46 rf rb d
  | 47 => fun (d : XN) => r47 rf rb d
  | 48 => fun (d : XN × List Int) => r48 rf rb d.1 d.2
  | 49 => fun (d : List Bool × Bool) => r49 rf rb d.1 d.2
  | 50 => fun (d : List Bool × Bool) => r50 rf rb d.1 d.2
  | 51 => fun (d : XL) => r51 rf rb d
  | 52 => fun (d : XL) => r52 rf rb d
  | 53 => fun (d : XL × Int) => r53 rf rb d.1 d.2
  | 54 => fun (d : XL × XL × Int) => r54 rf rb d.1 d.2.1 d.2.2
  | 55 => fun (d : (XP × List XU) × List Int × XL × XN) => r55 rf rb d.1 d.2.1 d.2.2.1 d.2.2.2
  | 56 => fun (d : XN × XP) => r56 rf rb d.1 d.2
  | 57 => fun (d : XN × List UInt8 × Int) => r57 rf rb d.1 d.2
  | 58 => fun (d : XN × List XU) => r58 rf rb d.1 d.2
  | 59 => fun (d : XN × XU) => r59 rf rb d.1 d.2
  | 60 => fun (d : List Int × XL × XN) => r60 rf rb d.1 d.2.1 d.2.2
  | 61 => fun (d : List Int) => r61 rf rb d
  | 62 => fun (d : Unit) => r62 rf rb 
  | 63 => fun (d : List UInt8) => r63 rf rb d
  | 64 => fun (d : Int × Int × Int × List (Int × List UInt8 × Int) × List UInt8) => r64 rf rb d.1 d.2.1 d.2.2.1 d.2.2.2.1 d.2.2.2.2
  | 65 => fun (d : Int × Int × Int × List (Int × List UInt8 × Int)) => r65 rf rb d.1 d.2.1 d.2.2.1 d.2.2.2
  | 66 => fun (d : Int × Int × Int × List (Int × List UInt8 × Int) × Int) => r66 rf rb d.1 d.2.1 d.2.2.1 d.2.2.2.1 d.2.2.2.2
  | 67 => fun (d : Int × Int × Int × List (Int × List UInt8 × Int) × Int) => r67 rf rb d.1 d.2.1 d.2.2.1 d.2.2.2.1 d.2.2.2.2
  | 68 => fun (d : List (Int × List UInt8 × Int) × Int × Int × Int) => r68 rf rb d
  | 69 => fun (d : (List (Int × List UInt8 × Int) × Int × Int × Int) × List UInt8) => r69 rf rb d.1 d.2
  | 70 => fun (d : (List (Int × List UInt8 × Int) × Int × Int × Int) × List UInt8) => r70 rf rb d.1 d.2
  | 71 => fun (d : List (Int × List UInt8 × Int) × Int × Int × Int) => r71 rf rb d
  | 72 => fun (d : List (Int × List UInt8 × Int) × Int × Int × Int) => r72 rf rb d
  | 73 => fun (d : List (Int × List UInt8 × Int) × Int × Int × Int) => r73 rf rb d
  | 74 => fun (d : (List (Int × List UInt8 × Int) × Int × Int × Int) × Int) => r74 rf rb d.1 d.2
  | 75 => fun (d : List (Int × List UInt8 × Int) × Int × Int × Int) => r75 rf rb d
  | 76 => fun (d : (List (Int × List UInt8 × Int) × Int × Int × Int) × List UInt8) => r76 rf rb d.1 d.2
  | 77 => fun (d : (List (Int × List UInt8 × Int) × Int × Int × Int) × Int) => r77 rf rb d.1 d.2
  | 78 => fun (d : List (Int × List UInt8 × Int) × Int × Int × Int) => r78 rf rb d
  | 79 => fun (d : List (Int × List UInt8 × Int) × Int × Int × Int) => r79 rf rb d
  | 80 => fun (d : List (Int × List UInt8 × Int) × Int × Int × Int) => r80 rf rb d
  | 81 => fun (d : List (Int × List UInt8 × Int) × Int × Int × Int) => r81 rf rb d
  | 82 => fun (d : List (Int × List UInt8 × Int) × Int × Int × Int) => r82 rf rb d
  | 83 => fun (d : List (Int × List UInt8 × Int) × Int × Int × Int) => r83 rf rb d
  | 84 => fun (d : List (Int × List UInt8 × Int) × Int × Int × Int) => r84 rf rb d
  | 85 => fun (d : List (Int × List UInt8 × Int) × Int × Int × Int) => r85 rf rb d
  | 86 => fun (d : List XU × List UInt8 × List UInt8) => r86 rf rb d
  | 87 => fun (d : XU × List XU) => r87 rf rb d.1 d.2
  | 88 => fun (d : XP) => r88 rf rb d
  | 89 => fun (d : XP) => r89 rf rb d
  | 90 => fun (d : XP × List XU × XI) => r90 rf rb d.1 d.2.1 d.2.2
  | 91 => fun (d : XP × List XU × Int × List XL) => r91 rf rb d.1 d.2.1 d.2.2.1 d.2.2.2
  | 92 => fun (d : List XU × XP × XI) => r92 rf rb d.1 d.2.1 d.2.2
  | 93 => fun (d : List XU × XP × Int × List XL) => r93 rf rb d.1 d.2.1 d.2.2.1 d.2.2.2
  | 94 => fun (d : (List UInt8 × XL) × XP) => r94 rf rb d.1 d.2
  | 95 => fun (d : (List UInt8 × XL) × List UInt8 × Int) => r95 rf rb d.1 d.2
  | 96 => fun (d : (XP × List XU) × Int × List XL) => r96 rf rb d.1 d.2.1 d.2.2
  | 97 => fun (d : List XU × List UInt8 × List UInt8) => r97 rf rb d
  | 98 => fun (d : XL × XP × List XU) => r98 rf rb d.1 d.2.1 d.2.2
  | 99 => fun (d : XL) => r99 rf rb d
  | 100 => fun (d : XN) => r100 rf rb d
  | 101 => fun (d : XN) => r101 rf rb d
  | 102 => fun (d : XL × Int) => r102 rf rb d.1 d.2
  | 103 => fun (d : XL) => r103 rf rb d
  | 104 => fun (d : XL × Int) => r104 rf rb d.1 d.2
  | 105 => fun (d : XL × XL × Int) => r105 rf rb d.1 d.2.1 d.2.2
  | 106 => fun (d : XL × XP × List XU) => r106 rf rb d.1 d.2.1 d.2.2
  | 107 => fun (d : List Int × XL × Int × XP × List XU) => r107 rf rb d.1 d.2.1 d.2.2.1 d.2.2.2.1 d.2.2.2.2
  | 108 => fun (d : XP × List UInt8) => r108 rf rb d.1 d.2
  | 109 => fun (d : List Int × XL × Int × List XU) => r109 rf rb d.1 d.2.1 d.2.2.1 d.2.2.2
  | 110 => fun (d : List XU × List UInt8) => r110 rf rb d.1 d.2
  | 111 => fun (d : XL × Int) => r111 rf rb d.1 d.2
  | 112 => fun (d : List Int × XL × Int × Int) => r112 rf rb d.1 d.2.1 d.2.2.1 d.2.2.2
  | 113 => fun (d : Bool × Int) => r113 rf rb d.1 d.2
  | 114 => fun (d : List XU × List UInt8 × List UInt8) => r114 rf rb d
  | 115 => fun (d : List XU × List UInt8 × List UInt8) => r115 rf rb d
  | 116 => fun (d : XU) => r116 rf rb d
  | 117 => fun (d : XU) => r117 rf rb d
  | 118 => fun (d : XL × XP × List XU × Int) => r118 rf rb d.1 d.2.1 d.2.2.1 d.2.2.2
  | _ => fun _ => none
theorem gF_ok (rf : T.RF) (rb : T.RB) : ∀ φ d y, gF rf rb φ d = some y → T.stepF rf rb φ d = some y := fun φ => match φ with
  | 0 => fun (d : XL × XP × List XU) y h => (er0 rf rb d.1 d.2.1 d.2.2).trans h
  | 1 => fun (d : Unit) y h => (er1 rf rb ).trans h
  | 2 => fun (d : List UInt8) y h => (er2 rf rb d).trans h
  | 3 => fun (d : List UInt8) y h => (er3 rf rb d).trans h
  | 4 => fun (d : List UInt8) y h => (er4 rf rb d).trans h
  | 5 => fun (d : List UInt8 × Int) y h => (er5 rf rb d.1 d.2).trans h
  | 6 => fun (d : Int) y h => (er6 rf rb d).trans h
  | 7 => fun (d : List UInt8) y h => (er7 rf rb d).trans h
  | 8 => fun (d : Int) y h => (er8 rf rb d).trans h
  | 9 => fun (d : List UInt8 × Int) y h => (er9 rf rb d.1 d.2).trans h
  | 10 => fun (d : List UInt8) y h => (er10 rf rb d).trans h
  | 11 => fun (d : Unit) y h => (er11 rf rb ).trans h
  | 12 => fun (d : List UInt8) y h => (er12 rf rb d).trans h
  | 13 => fun (d : List UInt8) y h => (er13 rf rb d).trans h
  | 14 => fun (d : Unit) y h => (er14 rf rb ).trans h
  | 15 => fun (d : List (Int × List UInt8 × Int) × Int) y h => (er15 rf rb d.1 d.2).trans h
  | 16 => fun (d : List (Int × List UInt8 × Int) × Int × Int × Int × Int) y h => (er16 rf rb d).trans h
  | 17 => fun (d : List (Int × List UInt8 × Int) × Int × Int × Int × Int) y h => (er17 rf rb d).trans h
  | 18 => fun (d : List (Int × List UInt8 × Int) × Int × Int × Int × Int) y h => (er18 rf rb d).trans h
  | 19 => fun (d : List (Int × List UInt8 × Int) × Int × Int × Int × Int) y h => (er19 rf rb d).trans h
  | 20 => fun (d : List (Int × List UInt8 × Int) × Int × Int × Int × Int) y h => (er20 rf rb d).trans h
  | 21 => fun (d : List (Int × List UInt8 × Int) × Int × Int × Int × Int) y h => (er21 rf rb d).trans h
  | 22 => fun (d : List (Int × List UInt8 × Int) × Int × Int × Int × Int) y h => (er22 rf rb d).trans h
  | 23 => fun (d : List (Int × List UInt8 × Int) × Int × Int × Int × Int) y h => (er23 rf rb d).trans h
  | 24 => fun (d : List (Int × List UInt8 × Int) × Int × Int × Int × Int) y h => (er24 rf rb d).trans h
  | 25 => fun (d : (List (Int × List UInt8 × Int) × Int × Int × Int × Int) × Int) y h => ((er25 rf rb d.1 d.2).trans (sr25 rf rb d.1 d.2)).trans h
  | 26 => fun (d : List (Int × List UInt8 × Int) × Int) y h => (er26 rf rb d.1 d.2).trans h
  | 27 => fun (d : (List (Int × List UInt8 × Int) × Int × Int × Int × Int) × Int × List UInt8 × Int) y h => (er27 rf rb d.1 d.2).trans h
  | 28 => fun (d : Int × Int × List UInt8 × List XL) y h => (er28 rf rb d.1 d.2.1 d.2.2.1 d.2.2.2).trans h
  | 29 => fun (d : Int × Int × List UInt8) y h => (er29 rf rb d.1 d.2.1 d.2.2).trans h
  | 30 => fun (d : XN) y h => (er30 rf rb d).trans h
  | 31 => fun (d : XL × XL) y h => (er31 rf rb d.1 d.2).trans h
  | 32 => fun (d : XN × Int) y h => (er32 rf rb d.1 d.2).trans h
  | 33 => fun (d : XN × List Int) y h => (er33 rf rb d.1 d.2).trans h
  | 34 => fun (d : (List (Int × List UInt8 × Int) × Int × Int × Int × Int) × List UInt8) y h => (er34 rf rb d.1 d.2).trans h
  | 35 => fun (d : (List (Int × List UInt8 × Int) × Int × Int × Int × Int) × List UInt8) y h => (er35 rf rb d.1 d.2).trans h
  | 36 => fun (d : (List (Int × List UInt8 × Int) × Int × Int × Int × Int) × List UInt8) y h => (er36 rf rb d.1 d.2).trans h
  | 37 => fun (d : List (Int × List UInt8 × Int) × Int × Int × Int × Int) y h => (er37 rf rb d).trans h
  | 38 => fun (d : (List (Int × List UInt8 × Int) × Int × Int × Int × Int) × List UInt8) y h => (er38 rf rb d.1 d.2).trans h
  | 39 => fun (d : List UInt8) y h => (er39 rf rb d).trans h
  | 40 => fun (d : List (Int × List UInt8 × Int) × Int × Int × Int × Int) y h => (er40 rf rb d).trans h
  | 41 => fun (d : List (Int × List UInt8 × Int) × Int × Int × Int × Int) y h => (er41 rf rb d).trans h
  | 42 => fun (d : (List (Int × List UInt8 × Int) × Int × Int × Int × Int) × Int × XL × XL) y h => (er42 rf rb d.1 d.2.1 d.2.2.1 d.2.2.2).trans h
  | 43 => fun (d : XL) y h => (er43 rf rb d).trans h
  | 44 => fun (d : XL × XP × List XU) y h => (er44 rf rb d.1 d.2.1 d.2.2).trans h
  | 45 => fun (d : XL) y h => (er45 rf rb d).trans h
  | 46 => fun (d : XN) y h => (er46 rf rb d).trans h
  | 47 => fun (d : XN) y h => (er47 rf rb d).trans h
  | 48 => fun (d : XN × List Int) y h => (er48 rf rb d.1 d.2).trans h
  | 49 => fun (d : List Bool × Bool) y h => (er49 rf rb d.1 d.2).trans h
  | 50 => fun (d : List Bool × Bool) y h => (er50 rf rb d.1 d.2).trans h
  | 51 => fun (d : XL) y h => (er51 rf rb d).trans h
  | 52 => fun (d : XL) y h => (er52 rf rb d).trans h
  | 53 => fun (d : XL × Int) y h => (er53 rf rb d.1 d.2).trans h
  | 54 => fun (d : XL × XL × Int) y h => (er54 rf rb d.1 d.2.1 d.2.2).trans h
  | 55 => fun (d : (XP × List XU) × List Int × XL × XN) y h => ((er55 rf rb d.1 d.2.1 d.2.2.1 d.2.2.2).trans (sr55 rf rb d.1 d.2.1 d.2.2.1 d.2.2.2)).trans h
  | 56 => fun (d : XN × XP) y h => (er56 rf rb d.1 d.2).trans h
  | 57 => fun (d : XN × List UInt8 × Int) y h => (er57 rf rb d.1 d.2).trans h
  | 58 => fun (d : XN × List XU) y h => (er58 rf rb d.1 d.2).trans h
  | 59 => fun (d : XN × XU) y h => (er59 rf rb d.1 d.2).trans h
  | 60 => fun (d : List Int × XL × XN) y h => (er60 rf rb d.1 d.2.1 d.2.2).trans h
  | 61 => fun (d : List Int) y h => (er61 rf rb d).trans h
  | 62 => fun (d : Unit) y h => (er62 rf rb ).trans h
  | 63 => fun (d : List UInt8) y h => (er63 rf rb d).trans h
  | 64 => fun (d : Int × Int × Int × List (Int × List UInt8 × Int) × List UInt8) y h => ((er64 rf rb d.1 d.2.1 d.2.2.1 d.2.2.2.1 d.2.2.2.2).trans (sr64 rf rb d.1 d.2.1 d.2.2.1 d.2.2.2.1 d.2.2.2.2)).trans h
  | 65 => fun (d : Int × Int × Int × List (Int × List UInt8 × Int)) y h => (er65 rf rb d.1 d.2.1 d.2.2.1 d.2.2.2).trans h
  | 66 => fun (d : Int × Int × Int × List (Int × List UInt8 × Int) × Int) y h => (er66 rf rb d.1 d.2.1 d.2.2.1 d.2.2.2.1 d.2.2.2.2).trans h
  | 67 => fun (d : Int × Int × Int × List (Int × List UInt8 × Int) × Int) y h => ((er67 rf rb d.1 d.2.1 d.2.2.1 d.2.2.2.1 d.2.2.2.2).trans (sr67 rf rb d.1 d.2.1 d.2.2.1 d.2.2.2.1 d.2.2.2.2)).trans h
  | 68 => fun (d : List (Int × List UInt8 × Int) × Int × Int × Int) y h => (er68 rf rb d).trans h
  | 69 => fun (d : (List (Int × List UInt8 × Int) × Int × Int × Int) × List UInt8) y h => (er69 rf rb d.1 d.2).trans h
  | 70 => fun (d : (List (Int × List UInt8 × Int) × Int × Int × Int) × List UInt8) y h => ((er70 rf rb d.1 d.2).trans (sr70 rf rb d.1 d.2)).trans h
  | 71 => fun (d : List (Int × List UInt8 × Int) × Int × Int × Int) y h => (er71 rf rb d).trans h
  | 72 => fun (d : List (Int × List UInt8 × Int) × Int × Int × Int) y h => (er72 rf rb d).trans h
  | 73 => fun (d : List (Int × List UInt8 × Int) × Int × Int × Int) y h => ((er73 rf rb d).trans (sr73 rf rb d)).trans h
  | 74 => fun (d : (List (Int × List UInt8 × Int) × Int × Int × Int) × Int) y h => ((er74 rf rb d.1 d.2).trans (sr74 rf rb d.1 d.2)).trans h
  | 75 => fun (d : List (Int × List UInt8 × Int) × Int × Int × Int) y h => (er75 rf rb d).trans h
  | 76 => fun (d : (List (Int × List UInt8 × Int) × Int × Int × Int) × List UInt8) y h => (er76 rf rb d.1 d.2).trans h
  | 77 => fun (d : (List (Int × List UInt8 × Int) × Int × Int × Int) × Int) y h => (er77 rf rb d.1 d.2).trans h
  | 78 => fun (d : List (Int × List UInt8 × Int) × Int × Int × Int) y h => (er78 rf rb d).trans h
  | 79 => fun (d : List (Int × List UInt8 × Int) × Int × Int × Int) y h => (er79 rf rb d).trans h
  | 80 => fun (d : List (Int × List UInt8 × Int) × Int × Int × Int) y h => (er80 rf rb d).trans h
  | 81 => fun (d : List (Int × List UInt8 × Int) × Int × Int × Int) y h => (er81 rf rb d).trans h
  | 82 => fun (d : List (Int × List UInt8 × Int) × Int × Int × Int) y h => ((er82 rf rb d).trans (sr82 rf rb d)).trans h
  | 83 => fun (d : List (Int × List UInt8 × Int) × Int × Int × Int) y h => (er83 rf rb d).trans h
  | 84 => fun (d : List (Int × List UInt8 × Int) × Int × Int × Int) y h => (er84 rf rb d).trans h
  | 85 => fun (d : List (Int × List UInt8 × Int) × Int × Int × Int) y h => (er85 rf rb d).trans h
  | 86 => fun (d : List XU × List UInt8 × List UInt8) y h => (er86 rf rb d).trans h
  | 87 => fun (d : XU × List XU) y h => (er87 rf rb d.1 d.2).trans h
  | 88 => fun (d : XP) y h => (er88 rf rb d).trans h
  | 89 => fun (d : XP) y h => (er89 rf rb d).trans h
  | 90 => fun (d : XP × List XU × XI) y h => ((er90 rf rb d.1 d.2.1 d.2.2).trans (sr90 rf rb d.1 d.2.1 d.2.2)).trans h
  | 91 => fun (d : XP × List XU × Int × List XL) y h => (er91 rf rb d.1 d.2.1 d.2.2.1 d.2.2.2).trans h
  | 92 => fun (d : List XU × XP × XI) y h => ((er92 rf rb d.1 d.2.1 d.2.2).trans (sr92 rf rb d.1 d.2.1 d.2.2)).trans h
  | 93 => fun (d : List XU × XP × Int × List XL) y h => (er93 rf rb d.1 d.2.1 d.2.2.1 d.2.2.2).trans h
  | 94 => fun (d : (List UInt8 × XL) × XP) y h => (er94 rf rb d.1 d.2).trans h
  | 95 => fun (d : (List UInt8 × XL) × List UInt8 × Int) y h => (er95 rf rb d.1 d.2).trans h
  | 96 => fun (d : (XP × List XU) × Int × List XL) y h => (er96 rf rb d.1 d.2.1 d.2.2).trans h
  | 97 => fun (d : List XU × List UInt8 × List UInt8) y h => (er97 rf rb d).trans h
  | 98 => fun (d : XL × XP × List XU) y h => (er98 rf rb d.1 d.2.1 d.2.2).trans h
  | 99 => fun (d : XL) y h => (er99 rf rb d).trans h
  | 100 => fun (d : XN) y h => (er100 rf rb d).trans h
  | 101 => fun (d : XN) y h => (er101 rf rb d).trans h
  | 102 => fun (d : XL × Int) y h => (er102 rf rb d.1 d.2).trans h
  | 103 => fun (d : XL) y h => (er103 rf rb d).trans h
  | 104 => fun (d : XL × Int) y h => (er104 rf rb d.1 d.2).trans h
  | 105 => fun (d : XL × XL × Int) y h => (er105 rf rb d.1 d.2.1 d.2.2).trans h
  | 106 => fun (d : XL × XP × List XU) y h => (er106 rf rb d.1 d.2.1 d.2.2).trans h
  | 107 => fun (d : List Int × XL × Int × XP × List XU) y h => (er107 rf rb d.1 d.2.1 d.2.2.1 d.2.2.2.1 d.2.2.2.2).trans h
  | 108 => fun (d : XP × List UInt8) y h => (er108 rf rb d.1 d.2).trans h
  | 109 => fun (d : List Int × XL × Int × List XU) y h => (er109 rf rb d.1 d.2.1 d.2.2.1 d.2.2.2).trans h
  | 110 => fun (d : List XU × List UInt8) y h => (er110 rf rb d.1 d.2).trans h
  | 111 => fun (d : XL × Int) y h => (er111 rf rb d.1 d.2).trans h
  | 112 => fun (d : List Int × XL × Int × Int) y h => (er112 rf rb d.1 d.2.1 d.2.2.1 d.2.2.2).trans h
  | 113 => fun (d : Bool × Int) y h => (er113 rf rb d.1 d.2).trans h
  | 114 => fun (d : List XU × List UInt8 × List UInt8) y h => (er114 rf rb d).trans h
  | 115 => fun (d : List XU × List UInt8 × List UInt8) y h => (er115 rf rb d).trans h
  | 116 => fun (d : XU) y h => (er116 rf rb d).trans h
  | 117 => fun (d : XU) y h => (er117 rf rb d).trans h
  | 118 => fun (d : XL × XP × List XU × Int) y h => (er118 rf rb d.1 d.2.1 d.2.2.1 d.2.2.2).trans h
  | n + 119 => fun _ _ h => by cases h

noncomputable def gB (rf : T.RF) (rb : T.RB) : T.RB := fun φ => match φ with
  | 2 => fun (d : List UInt8 × Int) => b2 rf rb d.1 d.2
  | 3 => fun (d : List UInt8 × Int × Int) => b3 rf rb d.1 d.2.1 d.2.2
  | 4 => fun (d : List UInt8 × Int) => b4 rf rb d.1 d.2
  | 5 => fun (d : List (List UInt8) × List UInt8 × Int) => b5 rf rb d.1 d.2.1 d.2.2
  | 6 => fun (d : List UInt8 × Int) => b6 rf rb d.1 d.2
  | 7 => fun (d : List (List UInt8) × List UInt8 × Int) => b7 rf rb d.1 d.2.1 d.2.2
  | 8 => fun (d : (Int × Int) × List (Int × List UInt8 × Int) × List UInt8 × Int) => b8 rf rb d.1 d.2.1 d.2.2.1 d.2.2.2
  | 9 => fun (d : List UInt8 × Int) => b9 rf rb d.1 d.2
  | 13 => fun (d : XL × XL × Int × Int) => b13 rf rb d.1 d.2.1 d.2.2.1 d.2.2.2
  | 14 => fun (d : XL × List Int × Int × List XL × Int × Int) => b14 rf rb d.1 d.2.1 d.2.2.1 d.2.2.2.1 d.2.2.2.2.1 d.2.2.2.2.2
  | 16 => fun (d : (List (Int × List UInt8 × Int) × Int × Int × Int × Int) × List XL) => b16 rf rb d.1 d.2
  | 18 => fun (d : (List (Int × List UInt8 × Int) × Int × Int × Int × Int) × XL) => b18 rf rb d.1 d.2
  | 20 => fun (d : (List (Int × List UInt8 × Int) × Int × Int × Int × Int) × XL) => b20 rf rb d.1 d.2
  | 22 => fun (d : (List (Int × List UInt8 × Int) × Int × Int × Int × Int) × XL) => b22 rf rb d.1 d.2
  | 24 => fun (d : (List (Int × List UInt8 × Int) × Int × Int × Int × Int) × XL) => b24 rf rb d.1 d.2
  | 26 => fun (d : (List (Int × List UInt8 × Int) × Int × Int × Int × Int) × XL) => b26 rf rb d.1 d.2
  | 34 => fun (d : List Int × XL × Int) => b34 rf rb d.1 d.2.1 d.2.2
  | 35 => fun (d : List Int × List Int × Int × Int) => b35 rf rb d.1 d.2.1 d.2.2.1 d.2.2.2
  | 37 => fun (d : (Int × Int) × List (Int × List UInt8 × Int) × Int) => b37 rf rb d.1 d.2.1 d.2.2
  | 38 => fun (d : List Bool × XL × XL × Int × Int) => b38 rf rb d.1 d.2.1 d.2.2.1 d.2.2.2.1 d.2.2.2.2
  | 39 => fun (d : XN × Int) => b39 rf rb d.1 d.2
  | 40 => fun (d : XN × XN × Int) => b40 rf rb d.1 d.2.1 d.2.2
  | 41 => fun (d : List Bool × XN × List Int × XL × Int × Int × Int) => b41 rf rb d.1 d.2.1 d.2.2.1 d.2.2.2.1 d.2.2.2.2.1 d.2.2.2.2.2.1 d.2.2.2.2.2.2
  | 42 => fun (d : List Bool × Bool × Int × Int) => b42 rf rb d.1 d.2.1 d.2.2.1 d.2.2.2
  | 49 => fun (d : List Int × XL × Int × Int) => b49 rf rb d.1 d.2.1 d.2.2.1 d.2.2.2
  | 50 => fun (d : List Int × List Int × Int × Int × Int) => b50 rf rb d.1 d.2.1 d.2.2.1 d.2.2.2.1 d.2.2.2.2
  | 52 => fun (d : XL × List Int × XL × Int × Int) => b52 rf rb d.1 d.2.1 d.2.2.1 d.2.2.2.1 d.2.2.2.2
  | 54 => fun (d : XN × XP × Int × Int) => b54 rf rb d.1 d.2.1 d.2.2.1 d.2.2.2
  | 55 => fun (d : XN × List XU × Int × Int) => b55 rf rb d.1 d.2.1 d.2.2.1 d.2.2.2
  | 57 => fun (d : List Int × List Int × XL × Int) => b57 rf rb d.1 d.2.1 d.2.2.1 d.2.2.2
  | 61 => fun (d : List Int × Int × Int) => b61 rf rb d.1 d.2.1 d.2.2
  | 62 => fun (d : List Int × XP × Int × Int) => b62 rf rb d.1 d.2.1 d.2.2.1 d.2.2.2
  | 63 => fun (d : List Int × XN × (Int × Int) × Int) => b63 rf rb d.1 d.2.1 d.2.2.1 d.2.2.2
  | 64 => fun (d : List Int × (Int × Int) × List Int × Int × Int × Int) => b64 rf rb d.1 d.2.1 d.2.2.1 d.2.2.2.1 d.2.2.2.2.1 d.2.2.2.2.2
  | 66 => fun (d : (XP × List XU) × List Int × XL × XL × Int × Int) => b66 rf rb d.1 d.2.1 d.2.2.1 d.2.2.2.1 d.2.2.2.2.1 d.2.2.2.2.2
  | 70 => fun (d : (List (Int × List UInt8 × Int) × Int × Int × Int) × XP) => b70 rf rb d.1 d.2
  | 72 => fun (d : (List (Int × List UInt8 × Int) × Int × Int × Int) × (Int × Int) × XL × Int) => b72 rf rb d.1 d.2.1 d.2.2.1 d.2.2.2
  | 74 => fun (d : (List (Int × List UInt8 × Int) × Int × Int × Int) × List XL) => b74 rf rb d.1 d.2
  | 75 => fun (d : (List (Int × List UInt8 × Int) × Int × Int × Int) × List XI) => b75 rf rb d.1 d.2
  | 77 => fun (d : (List (Int × List UInt8 × Int) × Int × Int × Int) × XP) => b77 rf rb d.1 d.2
  | 79 => fun (d : (List (Int × List UInt8 × Int) × Int × Int × Int) × List (List UInt8 × XL)) => b79 rf rb d.1 d.2
  | 94 => fun (d : (List (Int × List UInt8 × Int) × Int × Int × Int) × List UInt8 × List UInt8 × List XU) => b94 rf rb d.1 d.2.1 d.2.2.1 d.2.2.2
  | 95 => fun (d : List UInt8 × List UInt8 × (Int × Int) × (List (Int × List UInt8 × Int) × Int × Int × Int) × List UInt8 × List UInt8 × List XU × List XU) => b95 rf rb d.1 d.2.1 d.2.2.1 d.2.2.2.1 d.2.2.2.2.1 d.2.2.2.2.2.1 d.2.2.2.2.2.2.1 d.2.2.2.2.2.2.2
  | 96 => fun (d : (List XU × List UInt8 × List UInt8) × (Int × Int) × List XU × Int × Int) => b96 rf rb d.1 d.2.1 d.2.2.1 d.2.2.2.1 d.2.2.2.2
  | 99 => fun (d : XP × List XU × Int × List XL × Int × Int) => b99 rf rb d.1 d.2.1 d.2.2.1 d.2.2.2.1 d.2.2.2.2.1 d.2.2.2.2.2
  | 100 => fun (d : Int) => b100 rf rb d
  | 105 => fun (d : List XU × XP × Int × List XL × Int × Int) => b105 rf rb d.1 d.2.1 d.2.2.1 d.2.2.2.1 d.2.2.2.2.1 d.2.2.2.2.2
  | 106 => fun (d : Int × Int × Int) => b106 rf rb d.1 d.2.1 d.2.2
  | 107 => fun (d : Int) => b107 rf rb d
  | 112 => fun (d : (List UInt8 × XL) × XP × Int × Int) => b112 rf rb d.1 d.2.1 d.2.2.1 d.2.2.2
  | 113 => fun (d : XU × XP × List XU) => b113 rf rb d.1 d.2.1 d.2.2
  | 114 => fun (d : XP × List XU × List XI × Int × Int) => b114 rf rb d.1 d.2.1 d.2.2.1 d.2.2.2.1 d.2.2.2.2
  | 115 => fun (d : List XU × XP × List XI × Int × Int) => b115 rf rb d.1 d.2.1 d.2.2.1 d.2.2.2.1 d.2.2.2.2
  | 116 => fun (d : (XP × List XU) × XP × List (List UInt8 × XL) × Int × Int) => b116 rf rb d.1 d.2.1 d.2.2.1 d.2.2.2.1 d.2.2.2.2
  | 117 => fun (d : (XP × List XU) × Int × List XL × Int × Int) => b117 rf rb d.1 d.2.1 d.2.2.1 d.2.2.2.1 d.2.2.2.2
  | 118 => fun (d : (List XU × List UInt8 × List UInt8) × Int) => b118 rf rb d.1 d.2
  | 119 => fun (d : XU × Int) => b119 rf rb d.1 d.2
  | 120 => fun (d : XU × Int) => b120 rf rb d.1 d.2
  | 121 => fun (d : XI × Int) => b121 rf rb d.1 d.2
  | 122 => fun (d : List Int × XL × Int) => b122 rf rb d.1 d.2.1 d.2.2
  | 123 => fun (d : List Int × List Int × Int × Int) => b123 rf rb d.1 d.2.1 d.2.2.1 d.2.2.2
  | 124 => fun (d : XN × List Int × XL × Int) => b124 rf rb d.1 d.2.1 d.2.2.1 d.2.2.2
  | 125 => fun (d : List Int × XL × Int) => b125 rf rb d.1 d.2.1 d.2.2
  | 127 => fun (d : XL × List Int × List Int × XL × Int) => b127 rf rb d.1 d.2.1 d.2.2.1 d.2.2.2.1 d.2.2.2.2
  | 128 => fun (d : List Int × XL × XP × List XU × Int) => b128 rf rb d.1 d.2.1 d.2.2.1 d.2.2.2.1 d.2.2.2.2
  | 129 => fun (d : XP × List UInt8 × Int) => b129 rf rb d.1 d.2.1 d.2.2
  | 130 => fun (d : List XU × List UInt8 × Int) => b130 rf rb d.1 d.2.1 d.2.2
  | 131 => fun (d : XL × Int × Int) => b131 rf rb d.1 d.2.1 d.2.2
  | 132 => fun (d : List Int × XL × List XU × Int × Int × Int) => b132 rf rb d.1 d.2.1 d.2.2.1 d.2.2.2.1 d.2.2.2.2.1 d.2.2.2.2.2
  | 133 => fun (d : List Int × List Int × Int × Int) => b133 rf rb d.1 d.2.1 d.2.2.1 d.2.2.2
  | 136 => fun (d : XU × XP × Int) => b136 rf rb d.1 d.2.1 d.2.2
  | 138 => fun (d : (List XU × List UInt8 × List UInt8) × (Int × Int) × Int) => b138 rf rb d.1 d.2.1 d.2.2
  | 139 => fun (d : (List XU × List UInt8 × List UInt8) × XU × Int × Int × XP × Int) => b139 rf rb d.1 d.2.1 d.2.2.1 d.2.2.2.1 d.2.2.2.2.1 d.2.2.2.2.2
  | _ => fun _ => none
theorem gB_ok (rf : T.RF) (rb : T.RB) : ∀ φ d y, gB rf rb φ d = some y → T.stepB rf rb φ d = some y := fun φ => match φ with
  | 0 => fun _ _ h => by cases h
  | 1 => fun _ _ h => by cases h
  | 2 => fun (d : List UInt8 × Int) y h => (eb2 rf rb d.1 d.2).trans h
  | 3 => fun (d : List UInt8 × Int × Int) y h => (eb3 rf rb d.1 d.2.1 d.2.2).trans h
  | 4 => fun (d : List UInt8 × Int) y h => (eb4 rf rb d.1 d.2).trans h
  | 5 => fun (d : List (List UInt8) × List UInt8 × Int) y h => (eb5 rf rb d.1 d.2.1 d.2.2).trans h
  | 6 => fun (d : List UInt8 × Int) y h => (eb6 rf rb d.1 d.2).trans h
  | 7 => fun (d : List (List UInt8) × List UInt8 × Int) y h => (eb7 rf rb d.1 d.2.1 d.2.2).trans h
  | 8 => fun (d : (Int × Int) × List (Int × List UInt8 × Int) × List UInt8 × Int) y h => (eb8 rf rb d.1 d.2.1 d.2.2.1 d.2.2.2).trans h
  | 9 => fun (d : List UInt8 × Int) y h => (eb9 rf rb d.1 d.2).trans h
  | 10 => fun _ _ h => by cases h
  | 11 => fun _ _ h => by cases h
  | 12 => fun _ _ h => by cases h
  | 13 => fun (d : XL × XL × Int × Int) y h => (eb13 rf rb d.1 d.2.1 d.2.2.1 d.2.2.2).trans h
  | 14 => fun (d : XL × List Int × Int × List XL × Int × Int) y h => (eb14 rf rb d.1 d.2.1 d.2.2.1 d.2.2.2.1 d.2.2.2.2.1 d.2.2.2.2.2).trans h
  | 15 => fun _ _ h => by cases h
  | 16 => fun (d : (List (Int × List UInt8 × Int) × Int × Int × Int × Int) × List XL) y h => (eb16 rf rb d.1 d.2).trans h
  | 17 => fun _ _ h => by cases h
  | 18 => fun (d : (List (Int × List UInt8 × Int) × Int × Int × Int × Int) × XL) y h => (eb18 rf rb d.1 d.2).trans h
  | 19 => fun _ _ h => by cases h
  | 20 => fun (d : (List (Int × List UInt8 × Int) × Int × Int × Int × Int) × XL) y h => (eb20 rf rb d.1 d.2).trans h
  | 21 => fun _ _ h => by cases h
  | 22 => fun (d : (List (Int × List UInt8 × Int) × Int × Int × Int × Int) × XL) y h => (eb22 rf rb d.1 d.2).trans h
  | 23 => fun _ _ h => by cases h
  | 24 => fun (d : (List (Int × List UInt8 × Int) × Int × Int × Int × Int) × XL) y h => (eb24 rf rb d.1 d.2).trans h
  | 25 => fun _ _ h => by cases h
  | 26 => fun (d : (List (Int × List UInt8 × Int) × Int × Int × Int × Int) × XL) y h => (eb26 rf rb d.1 d.2).trans h
  | 27 => fun _ _ h => by cases h
  | 28 => fun _ _ h => by cases h
  | 29 => fun _ _ h => by cases h
  | 30 => fun _ _ h => by cases h
  | 31 => fun _ _ h => by cases h
  | 32 => fun _ _ h => by cases h
  | 33 => fun _ _ h => by cases h
  | 34 => fun (d : List Int × XL × Int) y h => (eb34 rf rb d.1 d.2.1 d.2.2).trans h
  | 35 => fun (d : List Int × List Int × Int × Int) y h => ((eb35 rf rb d.1 d.2.1 d.2.2.1 d.2.2.2).trans (sb35 rf rb d.1 d.2.1 d.2.2.1 d.2.2.2)).trans h
  | 36 => fun _ _ h => by cases h
  | 37 => fun (d : (Int × Int) × List (Int × List UInt8 × Int) × Int) y h => (eb37 rf rb d.1 d.2.1 d.2.2).trans h
  | 38 => fun (d : List Bool × XL × XL × Int × Int) y h => (eb38 rf rb d.1 d.2.1 d.2.2.1 d.2.2.2.1 d.2.2.2.2).trans h
  | 39 => fun (d : XN × Int) y h => ((eb39 rf rb d.1 d.2).trans (sb39 rf rb d.1 d.2)).trans h
  | 40 => fun (d : XN × XN × Int) y h => (eb40 rf rb d.1 d.2.1 d.2.2).trans h
  | 41 => fun (d : List Bool × XN × List Int × XL × Int × Int × Int) y h => (eb41 rf rb d.1 d.2.1 d.2.2.1 d.2.2.2.1 d.2.2.2.2.1 d.2.2.2.2.2.1 d.2.2.2.2.2.2).trans h
  | 42 => fun (d : List Bool × Bool × Int × Int) y h => (eb42 rf rb d.1 d.2.1 d.2.2.1 d.2.2.2).trans h
  | 43 => fun _ _ h => by cases h
  | 44 => fun _ _ h => by cases h
  | 45 => fun _ _ h => by cases h
  | 46 => fun _ _ h => by cases h
  | 47 => fun _ _ h => by cases h
  | 48 => fun _ _ h => by cases h
  | 49 => fun (d : List Int × XL × Int × Int) y h => (eb49 rf rb d.1 d.2.1 d.2.2.1 d.2.2.2).trans h
  | 50 => fun (d : List Int × List Int × Int × Int × Int) y h => ((eb50 rf rb d.1 d.2.1 d.2.2.1 d.2.2.2.1 d.2.2.2.2).trans (sb50 rf rb d.1 d.2.1 d.2.2.1 d.2.2.2.1 d.2.2.2.2)).trans h
  | 51 => fun _ _ h => by cases h
  | 52 => fun (d : XL × List Int × XL × Int × Int) y h => (eb52 rf rb d.1 d.2.1 d.2.2.1 d.2.2.2.1 d.2.2.2.2).trans h
  | 53 => fun _ _ h => by cases h
  | 54 => fun (d : XN × XP × Int × Int) y h => (eb54 rf rb d.1 d.2.1 d.2.2.1 d.2.2.2).trans h
  | 55 => fun (d : XN × List XU × Int × Int) y h => (eb55 rf rb d.1 d.2.1 d.2.2.1 d.2.2.2).trans h
  | 56 => fun _ _ h => by cases h
  | 57 => fun (d : List Int × List Int × XL × Int) y h => (eb57 rf rb d.1 d.2.1 d.2.2.1 d.2.2.2).trans h
  | 58 => fun _ _ h => by cases h
  | 59 => fun _ _ h => by cases h
  | 60 => fun _ _ h => by cases h
  | 61 => fun (d : List Int × Int × Int) y h => ((eb61 rf rb d.1 d.2.1 d.2.2).trans (sb61 rf rb d.1 d.2.1 d.2.2)).trans h
  | 62 => fun (d : List Int × XP × Int × Int) y h => (eb62 rf rb d.1 d.2.1 d.2.2.1 d.2.2.2).trans h
  | 63 => fun (d : List Int × XN × (Int × Int) × Int) y h => (eb63 rf rb d.1 d.2.1 d.2.2.1 d.2.2.2).trans h
  | 64 => fun (d : List Int × (Int × Int) × List Int × Int × Int × Int) y h => (eb64 rf rb d.1 d.2.1 d.2.2.1 d.2.2.2.1 d.2.2.2.2.1 d.2.2.2.2.2).trans h
  | 65 => fun _ _ h => by cases h
  | 66 => fun (d : (XP × List XU) × List Int × XL × XL × Int × Int) y h => (eb66 rf rb d.1 d.2.1 d.2.2.1 d.2.2.2.1 d.2.2.2.2.1 d.2.2.2.2.2).trans h
  | 67 => fun _ _ h => by cases h
  | 68 => fun _ _ h => by cases h
  | 69 => fun _ _ h => by cases h
  | 70 => fun (d : (List (Int × List UInt8 × Int) × Int × Int × Int) × XP) y h => (eb70 rf rb d.1 d.2).trans h
  | 71 => fun _ _ h => by cases h
  | 72 => fun (d : (List (Int × List UInt8 × Int) × Int × Int × Int) × (Int × Int) × XL × Int) y h => (eb72 rf rb d.1 d.2.1 d.2.2.1 d.2.2.2).trans h
  | 73 => fun _ _ h => by cases h
  | 74 => fun (d : (List (Int × List UInt8 × Int) × Int × Int × Int) × List XL) y h => (eb74 rf rb d.1 d.2).trans h
  | 75 => fun (d : (List (Int × List UInt8 × Int) × Int × Int × Int) × List XI) y h => (eb75 rf rb d.1 d.2).trans h
  | 76 => fun _ _ h => by cases h
  | 77 => fun (d : (List (Int × List UInt8 × Int) × Int × Int × Int) × XP) y h => (eb77 rf rb d.1 d.2).trans h
  | 78 => fun _ _ h => by cases h
  | 79 => fun (d : (List (Int × List UInt8 × Int) × Int × Int × Int) × List (List UInt8 × XL)) y h => (eb79 rf rb d.1 d.2).trans h
  | 80 => fun _ _ h => by cases h
  | 81 => fun _ _ h => by cases h
  | 82 => fun _ _ h => by cases h
  | 83 => fun _ _ h => by cases h
  | 84 => fun _ _ h => by cases h
  | 85 => fun _ _ h => by cases h
  | 86 => fun _ _ h => by cases h
  | 87 => fun _ _ h => by cases h
  | 88 => fun _ _ h => by cases h
  | 89 => fun _ _ h => by cases h
  | 90 => fun _ _ h => by cases h
  | 91 => fun _ _ h => by cases h
  | 92 => fun _ _ h => by cases h
  | 93 => fun _ _ h => by cases h
  | 94 => fun (d : (List (Int × List UInt8 × Int) × Int × Int × Int) × List UInt8 × List UInt8 × List XU) y h => ((eb94 rf rb d.1 d.2.1 d.2.2.1 d.2.2.2).trans (sb94 rf rb d.1 d.2.1 d.2.2.1 d.2.2.2)).trans h
  | 95 => fun (d : List UInt8 × List UInt8 × (Int × Int) × (List (Int × List UInt8 × Int) × Int × Int × Int) × List UInt8 × List UInt8 × List XU × List XU) y h => ((eb95 rf rb d.1 d.2.1 d.2.2.1 d.2.2.2.1 d.2.2.2.2.1 d.2.2.2.2.2.1 d.2.2.2.2.2.2.1 d.2.2.2.2.2.2.2).trans (sb95 rf rb d.1 d.2.1 d.2.2.1 d.2.2.2.1 d.2.2.2.2.1 d.2.2.2.2.2.1 d.2.2.2.2.2.2.1 d.2.2.2.2.2.2.2)).trans h
  | 96 => fun (d : (List XU × List UInt8 × List UInt8) × (Int × Int) × List XU × Int × Int) y h => (eb96 rf rb d.1 d.2.1 d.2.2.1 d.2.2.2.1 d.2.2.2.2).trans h
  | 97 => fun _ _ h => by cases h
  | 98 => fun _ _ h => by cases h
  | 99 => fun (d : XP × List XU × Int × List XL × Int × Int) y h => (eb99 rf rb d.1 d.2.1 d.2.2.1 d.2.2.2.1 d.2.2.2.2.1 d.2.2.2.2.2).trans h
  | 100 => fun (d : Int) y h => (eb100 rf rb d).trans h
  | 101 => fun _ _ h => by cases h
  | 102 => fun _ _ h => by cases h
  | 103 => fun _ _ h => by cases h
  | 104 => fun _ _ h => by cases h
  | 105 => fun (d : List XU × XP × Int × List XL × Int × Int) y h => ((eb105 rf rb d.1 d.2.1 d.2.2.1 d.2.2.2.1 d.2.2.2.2.1 d.2.2.2.2.2).trans (sb105 rf rb d.1 d.2.1 d.2.2.1 d.2.2.2.1 d.2.2.2.2.1 d.2.2.2.2.2)).trans h
  | 106 => fun (d : Int × Int × Int) y h => (eb106 rf rb d.1 d.2.1 d.2.2).trans h
  | 107 => fun (d : Int) y h => (eb107 rf rb d).trans h
  | 108 => fun _ _ h => by cases h
  | 109 => fun _ _ h => by cases h
  | 110 => fun _ _ h => by cases h
  | 111 => fun _ _ h => by cases h
  | 112 => fun (d : (List UInt8 × XL) × XP × Int × Int) y h => (eb112 rf rb d.1 d.2.1 d.2.2.1 d.2.2.2).trans h
  | 113 => fun (d : XU × XP × List XU) y h => (eb113 rf rb d.1 d.2.1 d.2.2).trans h
  | 114 => fun (d : XP × List XU × List XI × Int × Int) y h => (eb114 rf rb d.1 d.2.1 d.2.2.1 d.2.2.2.1 d.2.2.2.2).trans h
  | 115 => fun (d : List XU × XP × List XI × Int × Int) y h => (eb115 rf rb d.1 d.2.1 d.2.2.1 d.2.2.2.1 d.2.2.2.2).trans h
  | 116 => fun (d : (XP × List XU) × XP × List (List UInt8 × XL) × Int × Int) y h => (eb116 rf rb d.1 d.2.1 d.2.2.1 d.2.2.2.1 d.2.2.2.2).trans h
  | 117 => fun (d : (XP × List XU) × Int × List XL × Int × Int) y h => (eb117 rf rb d.1 d.2.1 d.2.2.1 d.2.2.2.1 d.2.2.2.2).trans h
  | 118 => fun (d : (List XU × List UInt8 × List UInt8) × Int) y h => (eb118 rf rb d.1 d.2).trans h
  | 119 => fun (d : XU × Int) y h => (eb119 rf rb d.1 d.2).trans h
  | 120 => fun (d : XU × Int) y h => (eb120 rf rb d.1 d.2).trans h
  | 121 => fun (d : XI × Int) y h => (eb121 rf rb d.1 d.2).trans h
  | 122 => fun (d : List Int × XL × Int) y h => (eb122 rf rb d.1 d.2.1 d.2.2).trans h
  | 123 => fun (d : List Int × List Int × Int × Int) y h => (eb123 rf rb d.1 d.2.1 d.2.2.1 d.2.2.2).trans h
  | 124 => fun (d : XN × List Int × XL × Int) y h => (eb124 rf rb d.1 d.2.1 d.2.2.1 d.2.2.2).trans h
  | 125 => fun (d : List Int × XL × Int) y h => (eb125 rf rb d.1 d.2.1 d.2.2).trans h
  | 126 => fun _ _ h => by cases h
  | 127 => fun (d : XL × List Int × List Int × XL × Int) y h => (eb127 rf rb d.1 d.2.1 d.2.2.1 d.2.2.2.1 d.2.2.2.2).trans h
  | 128 => fun (d : List Int × XL × XP × List XU × Int) y h => (eb128 rf rb d.1 d.2.1 d.2.2.1 d.2.2.2.1 d.2.2.2.2).trans h
  | 129 => fun (d : XP × List UInt8 × Int) y h => (eb129 rf rb d.1 d.2.1 d.2.2).trans h
  | 130 => fun (d : List XU × List UInt8 × Int) y h => (eb130 rf rb d.1 d.2.1 d.2.2).trans h
  | 131 => fun (d : XL × Int × Int) y h => (eb131 rf rb d.1 d.2.1 d.2.2).trans h
  | 132 => fun (d : List Int × XL × List XU × Int × Int × Int) y h => (eb132 rf rb d.1 d.2.1 d.2.2.1 d.2.2.2.1 d.2.2.2.2.1 d.2.2.2.2.2).trans h
  | 133 => fun (d : List Int × List Int × Int × Int) y h => (eb133 rf rb d.1 d.2.1 d.2.2.1 d.2.2.2).trans h
  | 134 => fun _ _ h => by cases h
  | 135 => fun _ _ h => by cases h
  | 136 => fun (d : XU × XP × Int) y h => (eb136 rf rb d.1 d.2.1 d.2.2).trans h
  | 137 => fun _ _ h => by cases h
  | 138 => fun (d : (List XU × List UInt8 × List UInt8) × (Int × Int) × Int) y h => (eb138 rf rb d.1 d.2.1 d.2.2).trans h
  | 139 => fun (d : (List XU × List UInt8 × List UInt8) × XU × Int × Int × XP × Int) y h => (eb139 rf rb d.1 d.2.1 d.2.2.1 d.2.2.2.1 d.2.2.2.2.1 d.2.2.2.2.2).trans h
  | n + 140 => fun _ _ h => by cases h

noncomputable def G : Nat → T.RF × T.RB
  | 0 => (fun _ _ => none, fun _ _ => none)
  | n + 1 => (gF (G n).1 (G n).2, gB (G n).1 (G n).2)
theorem run_F (n : Nat) {φ : Nat} {d} {y} (h : (G n).1 φ d = some y) : T.rf φ d = some y := (Tbl.approx gF_ok gB_ok rfl (fun _ => rfl) n).1 φ d y h
theorem run_B (n : Nat) {κ : Nat} {d} {y} (h : (G n).2 κ d = some y) : T.rb κ d = some y := (Tbl.approx gF_ok gB_ok rfl (fun _ => rfl) n).2 κ d y h
theorem live_run : c1 T.rf = some true := run_F 400 (φ := 1) (d := ()) (by kernel_rfl)
end Go.Proofs.YtomofgclaiaikaaGreat.R
