/-
  OUR OWN, PRINTED BY A PROGRAM OF OURS (table2.py): what a function comes to can be computed.
-/
import Derived.Test.YtoippcahbninnaaGreatDoorRes
import Derived.Test.YtoippcahbninnaaGreatDoorBmRun
import Derived.KernelRfl
namespace Go.Proofs.YtoippcahbninnaaGreatDoor.R
open Go Go.Bm Go.Proofs
set_option linter.unusedVariables false
set_option maxRecDepth 100000

noncomputable def gF (rf : T.RF) (rb : T.RB) : T.RF := fun φ => match φ with
  | 0 => fun (d : List XN × Int) => r0 rf rb d.1 d.2
  | 1 => fun (d : Unit) => r1 rf rb 
  | 2 => fun (d : List UInt8) => r2 rf rb d
  | 3 => fun (d : List UInt8) => r3 rf rb d
  | 4 => fun (d : List UInt8 × Int) => r4 rf rb d.1 d.2
  | 5 => fun (d : Int) => r5 rf rb d
  | 6 => fun (d : List UInt8) => r6 rf rb d
  | 7 => fun (d : Int) => r7 rf rb d
  | 8 => fun (d : List UInt8 × Int) => r8 rf rb d.1 d.2
  | 9 => fun (d : List UInt8) => r9 rf rb d
  | 10 => fun (d : Unit) => r10 rf rb 
  | 11 => fun (d : List UInt8) => r11 rf rb d
  | 12 => fun (d : List UInt8) => r12 rf rb d
  | 13 => fun (d : Unit) => r13 rf rb 
  | 14 => fun (d : List XK × Int) => r14 rf rb d.1 d.2
  | 15 => fun (d : List XK × Int × Int × Int × Int) => r15 rf rb d
  | 16 => fun (d : List XK × Int × Int × Int × Int) => r16 rf rb d
  | 17 => fun (d : List XK × Int × Int × Int × Int) => r17 rf rb d
  | 18 => fun (d : List XK × Int × Int × Int × Int) => r18 rf rb d
  | 19 => fun (d : List XK × Int × Int × Int × Int) => r19 rf rb d
  | 20 => fun (d : List XK × Int × Int × Int × Int) => r20 rf rb d
  | 21 => fun (d : List XK × Int × Int × Int × Int) => r21 rf rb d
  | 22 => fun (d : List XK × Int × Int × Int × Int) => r22 rf rb d
  | 23 => fun (d : List XK × Int × Int × Int × Int) => r23 rf rb d
  | 24 => fun (d : (List XK × Int × Int × Int × Int) × Int) => r24 rf rb d.1 d.2
  | 25 => fun (d : List XK × Int) => r25 rf rb d.1 d.2
  | 26 => fun (d : (List XK × Int × Int × Int × Int) × XK) => r26 rf rb d.1 d.2
  | 27 => fun (d : Int × Int × List UInt8 × List (List XN)) => r27 rf rb d.1 d.2.1 d.2.2.1 d.2.2.2
  | 28 => fun (d : Int × Int × List UInt8) => r28 rf rb d.1 d.2.1 d.2.2
  | 29 => fun (d : XN) => r29 rf rb d
  | 30 => fun (d : List XN × List XN) => r30 rf rb d.1 d.2
  | 31 => fun (d : XN × Int) => r31 rf rb d.1 d.2
  | 32 => fun (d : XN × List Int) => r32 rf rb d.1 d.2
  | 33 => fun (d : (List XK × Int × Int × Int × Int) × List UInt8) => r33 rf rb d.1 d.2
  | 34 => fun (d : (List XK × Int × Int × Int × Int) × List UInt8) => r34 rf rb d.1 d.2
  | 35 => fun (d : (List XK × Int × Int × Int × Int) × List UInt8) => r35 rf rb d.1 d.2
  | 36 => fun (d : List XK × Int × Int × Int × Int) => r36 rf rb d
  | 37 => fun (d : (List XK × Int × Int × Int × Int) × List UInt8) => r37 rf rb d.1 d.2
  | 38 => fun (d : List UInt8) => r38 rf rb d
  | 39 => fun (d : List XK × Int × Int × Int × Int) => r39 rf rb d
  | 40 => fun (d : List XK × Int × Int × Int × Int) => r40 rf rb d
  | 41 => fun (d : (List XK × Int × Int × Int × Int) × Int × List XN × List XN) => r41 rf rb d.1 d.2.1 d.2.2.1 d.2.2.2
  | 42 => fun (d : List XN) => r42 rf rb d
  | 43 => fun (d : List XN) => r43 rf rb d
  | 44 => fun (d : List XN) => r44 rf rb d
  | 45 => fun (d : List XN) => r45 rf rb d
  | 46 => fun (d : XN) => r46 rf rb d
  | 47 => fun (d : XN) => r47 rf rb d
  | 48 => fun (d : XN × List Int) => r48 rf rb d.1 d.2
  | 49 => fun (d : List Bool × Bool) => r49 rf rb d.1 d.2
  | 50 => fun (d : List Bool × Bool) => r50 rf rb d.1 d.2
  | 51 => fun (d : List XN) => r51 rf rb d
  | 52 => fun (d : List XN) => r52 rf rb d
  | 53 => fun (d : List XN) => r53 rf rb d
  | 54 => fun (d : List XN) => r54 rf rb d
  | 55 => fun (d : XN) => r55 rf rb d
  | 56 => fun (d : List UInt8) => r56 rf rb d
  | 57 => fun (d : List UInt8) => r57 rf rb d
  | 58 => fun (d : Int) => r58 rf rb d
  | 59 => fun (d : List UInt8) => r59 rf rb d
  | 60 => fun (d : List (List UInt8) × List UInt8) => r60 rf rb d.1 d.2
  | 61 => fun (d : List UInt8 × List UInt8) => r61 rf rb d.1 d.2
  | 62 => fun (d : List UInt8) => r62 rf rb d
  | 63 => fun (d : List UInt8) => r63 rf rb d
  | 64 => fun (d : List XN × List XK × Int) => r64 rf rb d.1 d.2.1 d.2.2
  | 65 => fun (d : Int) => r65 rf rb d
  | 66 => fun (d : Unit) => r66 rf rb 
  | 67 => fun (d : Int) => r67 rf rb d
  | 68 => fun (d : List XN × List XK × List (List UInt8)) => r68 rf rb d.1 d.2.1 d.2.2
  | 69 => fun (d : Bool) => r69 rf rb d
  | 70 => fun (d : Bool) => r70 rf rb d
  | 71 => fun (d : List XN × List XK × Int) => r71 rf rb d.1 d.2.1 d.2.2
  | 72 => fun (d : List XN × List XK × Int × Int) => r72 rf rb d.1 d.2.1 d.2.2.1 d.2.2.2
  | 73 => fun (d : Int) => r73 rf rb d
  | 74 => fun (d : List XK) => r74 rf rb d
  | 75 => fun (d : Int) => r75 rf rb d
  | 76 => fun (d : List XN) => r76 rf rb d
  | 77 => fun (d : List XN) => r77 rf rb d
  | 78 => fun (d : List XN) => r78 rf rb d
  | 79 => fun (d : XN) => r79 rf rb d
  | 80 => fun (d : XN) => r80 rf rb d
  | 81 => fun (d : List XN × Int) => r81 rf rb d.1 d.2
  | 82 => fun (d : List XN × Int) => r82 rf rb d.1 d.2
  | 83 => fun (d : Int) => r83 rf rb d
  | 84 => fun (d : List XN × Int) => r84 rf rb d.1 d.2
  | 85 => fun (d : List XN × Int × Int) => r85 rf rb d.1 d.2.1 d.2.2
  | 86 => fun (d : Int) => r86 rf rb d
  | 87 => fun (d : Int) => r87 rf rb d
  | 88 => fun (d : List XN) => r88 rf rb d
  | 89 => fun (d : List XN) => r89 rf rb d
  | 90 => fun (d : List XN × Int) => r90 rf rb d.1 d.2
  | 91 => fun (d : List XN × List XN × Int) => r91 rf rb d.1 d.2.1 d.2.2
  | 92 => fun (d : List XN × List XN) => r92 rf rb d.1 d.2
  | 93 => fun (d : List UInt8) => r93 rf rb d
  | 94 => fun (d : List XN) => r94 rf rb d
  | 95 => fun (d : List XN × List XN) => r95 rf rb d.1 d.2
  | _ => fun _ => none
theorem gF_ok (rf : T.RF) (rb : T.RB) : ∀ φ d y, gF rf rb φ d = some y → T.stepF rf rb φ d = some y := fun φ => match φ with
  | 0 => fun (d : List XN × Int) y h => (er0 rf rb d.1 d.2).trans h
  | 1 => fun (d : Unit) y h => (er1 rf rb ).trans h
  | 2 => fun (d : List UInt8) y h => (er2 rf rb d).trans h
  | 3 => fun (d : List UInt8) y h => (er3 rf rb d).trans h
  | 4 => fun (d : List UInt8 × Int) y h => (er4 rf rb d.1 d.2).trans h
  | 5 => fun (d : Int) y h => (er5 rf rb d).trans h
  | 6 => fun (d : List UInt8) y h => (er6 rf rb d).trans h
  | 7 => fun (d : Int) y h => (er7 rf rb d).trans h
  | 8 => fun (d : List UInt8 × Int) y h => (er8 rf rb d.1 d.2).trans h
  | 9 => fun (d : List UInt8) y h => (er9 rf rb d).trans h
  | 10 => fun (d : Unit) y h => (er10 rf rb ).trans h
  | 11 => fun (d : List UInt8) y h => (er11 rf rb d).trans h
  | 12 => fun (d : List UInt8) y h => (er12 rf rb d).trans h
  | 13 => fun (d : Unit) y h => (er13 rf rb ).trans h
  | 14 => fun (d : List XK × Int) y h => (er14 rf rb d.1 d.2).trans h
  | 15 => fun (d : List XK × Int × Int × Int × Int) y h => (er15 rf rb d).trans h
  | 16 => fun (d : List XK × Int × Int × Int × Int) y h => (er16 rf rb d).trans h
  | 17 => fun (d : List XK × Int × Int × Int × Int) y h => (er17 rf rb d).trans h
  | 18 => fun (d : List XK × Int × Int × Int × Int) y h => (er18 rf rb d).trans h
  | 19 => fun (d : List XK × Int × Int × Int × Int) y h => (er19 rf rb d).trans h
  | 20 => fun (d : List XK × Int × Int × Int × Int) y h => (er20 rf rb d).trans h
  | 21 => fun (d : List XK × Int × Int × Int × Int) y h => (er21 rf rb d).trans h
  | 22 => fun (d : List XK × Int × Int × Int × Int) y h => (er22 rf rb d).trans h
  | 23 => fun (d : List XK × Int × Int × Int × Int) y h => (er23 rf rb d).trans h
  | 24 => fun (d : (List XK × Int × Int × Int × Int) × Int) y h => ((er24 rf rb d.1 d.2).trans (sr24 rf rb d.1 d.2)).trans h
  | 25 => fun (d : List XK × Int) y h => (er25 rf rb d.1 d.2).trans h
  | 26 => fun (d : (List XK × Int × Int × Int × Int) × XK) y h => (er26 rf rb d.1 d.2).trans h
  | 27 => fun (d : Int × Int × List UInt8 × List (List XN)) y h => (er27 rf rb d.1 d.2.1 d.2.2.1 d.2.2.2).trans h
  | 28 => fun (d : Int × Int × List UInt8) y h => (er28 rf rb d.1 d.2.1 d.2.2).trans h
  | 29 => fun (d : XN) y h => (er29 rf rb d).trans h
  | 30 => fun (d : List XN × List XN) y h => (er30 rf rb d.1 d.2).trans h
  | 31 => fun (d : XN × Int) y h => (er31 rf rb d.1 d.2).trans h
  | 32 => fun (d : XN × List Int) y h => (er32 rf rb d.1 d.2).trans h
  | 33 => fun (d : (List XK × Int × Int × Int × Int) × List UInt8) y h => (er33 rf rb d.1 d.2).trans h
  | 34 => fun (d : (List XK × Int × Int × Int × Int) × List UInt8) y h => (er34 rf rb d.1 d.2).trans h
  | 35 => fun (d : (List XK × Int × Int × Int × Int) × List UInt8) y h => (er35 rf rb d.1 d.2).trans h
  | 36 => fun (d : List XK × Int × Int × Int × Int) y h => (er36 rf rb d).trans h
  | 37 => fun (d : (List XK × Int × Int × Int × Int) × List UInt8) y h => (er37 rf rb d.1 d.2).trans h
  | 38 => fun (d : List UInt8) y h => (er38 rf rb d).trans h
  | 39 => fun (d : List XK × Int × Int × Int × Int) y h => (er39 rf rb d).trans h
  | 40 => fun (d : List XK × Int × Int × Int × Int) y h => (er40 rf rb d).trans h
  | 41 => fun (d : (List XK × Int × Int × Int × Int) × Int × List XN × List XN) y h => (er41 rf rb d.1 d.2.1 d.2.2.1 d.2.2.2).trans h
  | 42 => fun (d : List XN) y h => (er42 rf rb d).trans h
  | 43 => fun (d : List XN) y h => (er43 rf rb d).trans h
  | 44 => fun (d : List XN) y h => (er44 rf rb d).trans h
  | 45 => fun (d : List XN) y h => (er45 rf rb d).trans h
  | 46 => fun (d : XN) y h => (er46 rf rb d).trans h
  | 47 => fun (d : XN) y h => (er47 rf rb d).trans h
  | 48 => fun (d : XN × List Int) y h => (er48 rf rb d.1 d.2).trans h
  | 49 => fun (d : List Bool × Bool) y h => (er49 rf rb d.1 d.2).trans h
  | 50 => fun (d : List Bool × Bool) y h => (er50 rf rb d.1 d.2).trans h
  | 51 => fun (d : List XN) y h => (er51 rf rb d).trans h
  | 52 => fun (d : List XN) y h => (er52 rf rb d).trans h
  | 53 => fun (d : List XN) y h => (er53 rf rb d).trans h
  | 54 => fun (d : List XN) y h => (er54 rf rb d).trans h
  | 55 => fun (d : XN) y h => (er55 rf rb d).trans h
  | 56 => fun (d : List UInt8) y h => (er56 rf rb d).trans h
  | 57 => fun (d : List UInt8) y h => (er57 rf rb d).trans h
  | 58 => fun (d : Int) y h => (er58 rf rb d).trans h
  | 59 => fun (d : List UInt8) y h => (er59 rf rb d).trans h
  | 60 => fun (d : List (List UInt8) × List UInt8) y h => (er60 rf rb d.1 d.2).trans h
  | 61 => fun (d : List UInt8 × List UInt8) y h => (er61 rf rb d.1 d.2).trans h
  | 62 => fun (d : List UInt8) y h => (er62 rf rb d).trans h
  | 63 => fun (d : List UInt8) y h => (er63 rf rb d).trans h
  | 64 => fun (d : List XN × List XK × Int) y h => (er64 rf rb d.1 d.2.1 d.2.2).trans h
  | 65 => fun (d : Int) y h => (er65 rf rb d).trans h
  | 66 => fun (d : Unit) y h => (er66 rf rb ).trans h
  | 67 => fun (d : Int) y h => (er67 rf rb d).trans h
  | 68 => fun (d : List XN × List XK × List (List UInt8)) y h => (er68 rf rb d.1 d.2.1 d.2.2).trans h
  | 69 => fun (d : Bool) y h => (er69 rf rb d).trans h
  | 70 => fun (d : Bool) y h => (er70 rf rb d).trans h
  | 71 => fun (d : List XN × List XK × Int) y h => (er71 rf rb d.1 d.2.1 d.2.2).trans h
  | 72 => fun (d : List XN × List XK × Int × Int) y h => (er72 rf rb d.1 d.2.1 d.2.2.1 d.2.2.2).trans h
  | 73 => fun (d : Int) y h => (er73 rf rb d).trans h
  | 74 => fun (d : List XK) y h => (er74 rf rb d).trans h
  | 75 => fun (d : Int) y h => (er75 rf rb d).trans h
  | 76 => fun (d : List XN) y h => (er76 rf rb d).trans h
  | 77 => fun (d : List XN) y h => (er77 rf rb d).trans h
  | 78 => fun (d : List XN) y h => (er78 rf rb d).trans h
  | 79 => fun (d : XN) y h => (er79 rf rb d).trans h
  | 80 => fun (d : XN) y h => (er80 rf rb d).trans h
  | 81 => fun (d : List XN × Int) y h => (er81 rf rb d.1 d.2).trans h
  | 82 => fun (d : List XN × Int) y h => (er82 rf rb d.1 d.2).trans h
  | 83 => fun (d : Int) y h => (er83 rf rb d).trans h
  | 84 => fun (d : List XN × Int) y h => (er84 rf rb d.1 d.2).trans h
  | 85 => fun (d : List XN × Int × Int) y h => (er85 rf rb d.1 d.2.1 d.2.2).trans h
  | 86 => fun (d : Int) y h => (er86 rf rb d).trans h
  | 87 => fun (d : Int) y h => (er87 rf rb d).trans h
  | 88 => fun (d : List XN) y h => (er88 rf rb d).trans h
  | 89 => fun (d : List XN) y h => (er89 rf rb d).trans h
  | 90 => fun (d : List XN × Int) y h => (er90 rf rb d.1 d.2).trans h
  | 91 => fun (d : List XN × List XN × Int) y h => (er91 rf rb d.1 d.2.1 d.2.2).trans h
  | 92 => fun (d : List XN × List XN) y h => (er92 rf rb d.1 d.2).trans h
  | 93 => fun (d : List UInt8) y h => (er93 rf rb d).trans h
  | 94 => fun (d : List XN) y h => (er94 rf rb d).trans h
  | 95 => fun (d : List XN × List XN) y h => (er95 rf rb d.1 d.2).trans h
  | n + 96 => fun _ _ h => by cases h

noncomputable def gB (rf : T.RF) (rb : T.RB) : T.RB := fun φ => match φ with
  | 2 => fun (d : List UInt8 × Int) => b2 rf rb d.1 d.2
  | 3 => fun (d : List UInt8 × Int × Int) => b3 rf rb d.1 d.2.1 d.2.2
  | 4 => fun (d : List UInt8 × Int) => b4 rf rb d.1 d.2
  | 5 => fun (d : List (List UInt8) × List UInt8 × Int) => b5 rf rb d.1 d.2.1 d.2.2
  | 6 => fun (d : List UInt8 × Int) => b6 rf rb d.1 d.2
  | 7 => fun (d : List (List UInt8) × List UInt8 × Int) => b7 rf rb d.1 d.2.1 d.2.2
  | 8 => fun (d : (Int × Int) × List XK × List UInt8 × Int) => b8 rf rb d.1 d.2.1 d.2.2.1 d.2.2.2
  | 9 => fun (d : List UInt8 × Int) => b9 rf rb d.1 d.2
  | 13 => fun (d : List XN × List XN × Int × Int) => b13 rf rb d.1 d.2.1 d.2.2.1 d.2.2.2
  | 14 => fun (d : List XN × List Int × Int × List (List XN) × Int × Int) => b14 rf rb d.1 d.2.1 d.2.2.1 d.2.2.2.1 d.2.2.2.2.1 d.2.2.2.2.2
  | 16 => fun (d : (List XK × Int × Int × Int × Int) × List (List XN)) => b16 rf rb d.1 d.2
  | 18 => fun (d : (List XK × Int × Int × Int × Int) × List XN) => b18 rf rb d.1 d.2
  | 20 => fun (d : (List XK × Int × Int × Int × Int) × List XN) => b20 rf rb d.1 d.2
  | 22 => fun (d : (List XK × Int × Int × Int × Int) × List XN) => b22 rf rb d.1 d.2
  | 24 => fun (d : (List XK × Int × Int × Int × Int) × List XN) => b24 rf rb d.1 d.2
  | 26 => fun (d : (List XK × Int × Int × Int × Int) × List XN) => b26 rf rb d.1 d.2
  | 34 => fun (d : List Int × List XN × Int) => b34 rf rb d.1 d.2.1 d.2.2
  | 35 => fun (d : List Int × List Int × Int × Int) => b35 rf rb d.1 d.2.1 d.2.2.1 d.2.2.2
  | 37 => fun (d : (Int × Int) × List XK × Int) => b37 rf rb d.1 d.2.1 d.2.2
  | 38 => fun (d : List Bool × List XN × List XN × Int × Int) => b38 rf rb d.1 d.2.1 d.2.2.1 d.2.2.2.1 d.2.2.2.2
  | 39 => fun (d : XN × Int) => b39 rf rb d.1 d.2
  | 40 => fun (d : XN × XN × Int) => b40 rf rb d.1 d.2.1 d.2.2
  | 41 => fun (d : List Bool × XN × List Int × List XN × Int × Int × Int) => b41 rf rb d.1 d.2.1 d.2.2.1 d.2.2.2.1 d.2.2.2.2.1 d.2.2.2.2.2.1 d.2.2.2.2.2.2
  | 42 => fun (d : List Bool × Bool × Int × Int) => b42 rf rb d.1 d.2.1 d.2.2.1 d.2.2.2
  | 49 => fun (d : List Int × List XN × Int × Int) => b49 rf rb d.1 d.2.1 d.2.2.1 d.2.2.2
  | 50 => fun (d : List Int × List Int × Int × Int × Int) => b50 rf rb d.1 d.2.1 d.2.2.1 d.2.2.2.1 d.2.2.2.2
  | 51 => fun (d : List XN × Int × Int) => b51 rf rb d.1 d.2.1 d.2.2
  | 52 => fun (d : List (List UInt8) × List UInt8 × Int × Int) => b52 rf rb d.1 d.2.1 d.2.2.1 d.2.2.2
  | 54 => fun (d : List XN × List XK × List (List UInt8) × Int × Int) => b54 rf rb d.1 d.2.1 d.2.2.1 d.2.2.2.1 d.2.2.2.2
  | 55 => fun (d : List Int × List XN × Int) => b55 rf rb d.1 d.2.1 d.2.2
  | 56 => fun (d : List Int × List Int × Int × Int) => b56 rf rb d.1 d.2.1 d.2.2.1 d.2.2.2
  | 57 => fun (d : XN × List Int × List XN × Int) => b57 rf rb d.1 d.2.1 d.2.2.1 d.2.2.2
  | 58 => fun (d : List Int × List XN × Int) => b58 rf rb d.1 d.2.1 d.2.2
  | 59 => fun (d : List XN × Int) => b59 rf rb d.1 d.2
  | 61 => fun (d : List (List UInt8) × List XN × Int) => b61 rf rb d.1 d.2.1 d.2.2
  | 62 => fun (d : List (List UInt8) × List UInt8 × Int) => b62 rf rb d.1 d.2.1 d.2.2
  | 64 => fun (d : List XN × List Int × List Int × List XN × Int) => b64 rf rb d.1 d.2.1 d.2.2.1 d.2.2.2.1 d.2.2.2.2
  | 65 => fun (d : List XN × List XN × Int) => b65 rf rb d.1 d.2.1 d.2.2
  | _ => fun _ => none
theorem gB_ok (rf : T.RF) (rb : T.RB) : ∀ φ d y, gB rf rb φ d = some y → T.stepB rf rb φ d = some y := fun φ => match φ with
  | 0 => fun _ _ h => by cases h
  | 1 => fun _ _ h => by cases h
  | 2 => fun (d : List UInt8 × Int) y h => (eb2 rf rb d.1 d.2).trans h
  | 3 => fun (d : List UInt8 × Int × Int) y h => (eb3 rf rb d.1 d.2.1 d.2.2).trans h
  | 4 => fun (d : List UInt8 × Int) y h => (eb4 rf rb d.1 d.2).trans h
  | 5 => fun (d : List (List UInt8) × List UInt8 × Int) y h => (eb5 rf rb d.1 d.2.1 d.2.2).trans h
  | 6 => fun (d : List UInt8 × Int) y h => (eb6 rf rb d.1 d.2).trans h
  | 7 => fun (d : List (List UInt8) × List UInt8 × Int) y h => (eb7 rf rb d.1 d.2.1 d.2.2).trans h
  | 8 => fun (d : (Int × Int) × List XK × List UInt8 × Int) y h => (eb8 rf rb d.1 d.2.1 d.2.2.1 d.2.2.2).trans h
  | 9 => fun (d : List UInt8 × Int) y h => (eb9 rf rb d.1 d.2).trans h
  | 10 => fun _ _ h => by cases h
  | 11 => fun _ _ h => by cases h
  | 12 => fun _ _ h => by cases h
  | 13 => fun (d : List XN × List XN × Int × Int) y h => (eb13 rf rb d.1 d.2.1 d.2.2.1 d.2.2.2).trans h
  | 14 => fun (d : List XN × List Int × Int × List (List XN) × Int × Int) y h => (eb14 rf rb d.1 d.2.1 d.2.2.1 d.2.2.2.1 d.2.2.2.2.1 d.2.2.2.2.2).trans h
  | 15 => fun _ _ h => by cases h
  | 16 => fun (d : (List XK × Int × Int × Int × Int) × List (List XN)) y h => (eb16 rf rb d.1 d.2).trans h
  | 17 => fun _ _ h => by cases h
  | 18 => fun (d : (List XK × Int × Int × Int × Int) × List XN) y h => (eb18 rf rb d.1 d.2).trans h
  | 19 => fun _ _ h => by cases h
  | 20 => fun (d : (List XK × Int × Int × Int × Int) × List XN) y h => (eb20 rf rb d.1 d.2).trans h
  | 21 => fun _ _ h => by cases h
  | 22 => fun (d : (List XK × Int × Int × Int × Int) × List XN) y h => (eb22 rf rb d.1 d.2).trans h
  | 23 => fun _ _ h => by cases h
  | 24 => fun (d : (List XK × Int × Int × Int × Int) × List XN) y h => (eb24 rf rb d.1 d.2).trans h
  | 25 => fun _ _ h => by cases h
  | 26 => fun (d : (List XK × Int × Int × Int × Int) × List XN) y h => (eb26 rf rb d.1 d.2).trans h
  | 27 => fun _ _ h => by cases h
  | 28 => fun _ _ h => by cases h
  | 29 => fun _ _ h => by cases h
  | 30 => fun _ _ h => by cases h
  | 31 => fun _ _ h => by cases h
  | 32 => fun _ _ h => by cases h
  | 33 => fun _ _ h => by cases h
  | 34 => fun (d : List Int × List XN × Int) y h => (eb34 rf rb d.1 d.2.1 d.2.2).trans h
  | 35 => fun (d : List Int × List Int × Int × Int) y h => ((eb35 rf rb d.1 d.2.1 d.2.2.1 d.2.2.2).trans (sb35 rf rb d.1 d.2.1 d.2.2.1 d.2.2.2)).trans h
  | 36 => fun _ _ h => by cases h
  | 37 => fun (d : (Int × Int) × List XK × Int) y h => (eb37 rf rb d.1 d.2.1 d.2.2).trans h
  | 38 => fun (d : List Bool × List XN × List XN × Int × Int) y h => (eb38 rf rb d.1 d.2.1 d.2.2.1 d.2.2.2.1 d.2.2.2.2).trans h
  | 39 => fun (d : XN × Int) y h => ((eb39 rf rb d.1 d.2).trans (sb39 rf rb d.1 d.2)).trans h
  | 40 => fun (d : XN × XN × Int) y h => (eb40 rf rb d.1 d.2.1 d.2.2).trans h
  | 41 => fun (d : List Bool × XN × List Int × List XN × Int × Int × Int) y h => (eb41 rf rb d.1 d.2.1 d.2.2.1 d.2.2.2.1 d.2.2.2.2.1 d.2.2.2.2.2.1 d.2.2.2.2.2.2).trans h
  | 42 => fun (d : List Bool × Bool × Int × Int) y h => (eb42 rf rb d.1 d.2.1 d.2.2.1 d.2.2.2).trans h
  | 43 => fun _ _ h => by cases h
  | 44 => fun _ _ h => by cases h
  | 45 => fun _ _ h => by cases h
  | 46 => fun _ _ h => by cases h
  | 47 => fun _ _ h => by cases h
  | 48 => fun _ _ h => by cases h
  | 49 => fun (d : List Int × List XN × Int × Int) y h => (eb49 rf rb d.1 d.2.1 d.2.2.1 d.2.2.2).trans h
  | 50 => fun (d : List Int × List Int × Int × Int × Int) y h => ((eb50 rf rb d.1 d.2.1 d.2.2.1 d.2.2.2.1 d.2.2.2.2).trans (sb50 rf rb d.1 d.2.1 d.2.2.1 d.2.2.2.1 d.2.2.2.2)).trans h
  | 51 => fun (d : List XN × Int × Int) y h => (eb51 rf rb d.1 d.2.1 d.2.2).trans h
  | 52 => fun (d : List (List UInt8) × List UInt8 × Int × Int) y h => (eb52 rf rb d.1 d.2.1 d.2.2.1 d.2.2.2).trans h
  | 53 => fun _ _ h => by cases h
  | 54 => fun (d : List XN × List XK × List (List UInt8) × Int × Int) y h => (eb54 rf rb d.1 d.2.1 d.2.2.1 d.2.2.2.1 d.2.2.2.2).trans h
  | 55 => fun (d : List Int × List XN × Int) y h => (eb55 rf rb d.1 d.2.1 d.2.2).trans h
  | 56 => fun (d : List Int × List Int × Int × Int) y h => (eb56 rf rb d.1 d.2.1 d.2.2.1 d.2.2.2).trans h
  | 57 => fun (d : XN × List Int × List XN × Int) y h => (eb57 rf rb d.1 d.2.1 d.2.2.1 d.2.2.2).trans h
  | 58 => fun (d : List Int × List XN × Int) y h => (eb58 rf rb d.1 d.2.1 d.2.2).trans h
  | 59 => fun (d : List XN × Int) y h => (eb59 rf rb d.1 d.2).trans h
  | 60 => fun _ _ h => by cases h
  | 61 => fun (d : List (List UInt8) × List XN × Int) y h => (eb61 rf rb d.1 d.2.1 d.2.2).trans h
  | 62 => fun (d : List (List UInt8) × List UInt8 × Int) y h => (eb62 rf rb d.1 d.2.1 d.2.2).trans h
  | 63 => fun _ _ h => by cases h
  | 64 => fun (d : List XN × List Int × List Int × List XN × Int) y h => (eb64 rf rb d.1 d.2.1 d.2.2.1 d.2.2.2.1 d.2.2.2.2).trans h
  | 65 => fun (d : List XN × List XN × Int) y h => (eb65 rf rb d.1 d.2.1 d.2.2).trans h
  | n + 66 => fun _ _ h => by cases h

noncomputable def G : Nat → T.RF × T.RB
  | 0 => (fun _ _ => none, fun _ _ => none)
  | n + 1 => (gF (G n).1 (G n).2, gB (G n).1 (G n).2)
theorem run_F (n : Nat) {φ : Nat} {d} {y} (h : (G n).1 φ d = some y) : T.rf φ d = some y := (Tbl.approx gF_ok gB_ok rfl (fun _ => rfl) n).1 φ d y h
theorem run_B (n : Nat) {κ : Nat} {d} {y} (h : (G n).2 κ d = some y) : T.rb κ d = some y := (Tbl.approx gF_ok gB_ok rfl (fun _ => rfl) n).2 κ d y h
theorem live_run : c1 T.rf = some true := run_F 400 (φ := 1) (d := ()) (by kernel_rfl)
end Go.Proofs.YtoippcahbninnaaGreatDoor.R
