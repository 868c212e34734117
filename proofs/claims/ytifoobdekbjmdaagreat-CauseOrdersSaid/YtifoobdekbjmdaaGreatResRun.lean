/-
  OUR OWN, PRINTED BY A PROGRAM OF OURS (table2.py): what a function comes to can be computed.
-/
import Derived.Test.YtifoobdekbjmdaaGreatRes
import Derived.Test.YtifoobdekbjmdaaGreatBmRun
import Derived.KernelRfl
namespace Go.Proofs.YtifoobdekbjmdaaGreat.R
open Go Go.Bm Go.Proofs
set_option linter.unusedVariables false
set_option maxRecDepth 100000

noncomputable def gF (rf : T.RF) (rb : T.RB) : T.RF := fun φ => match φ with
  | 0 => fun (d : XL) => r0 rf rb d
  | 1 => fun (d : Unit) => r1 rf rb 
  | 2 => fun (d : List UInt8) => r2 rf rb d
  | 3 => fun (d : List UInt8) => r3 rf rb d
  | 4 => fun (d : List UInt8 × Int) => r4 rf rb d.1 d.2
  | 5 => fun (d : Int) => r5 rf rb d
  | 6 => fun (d : List UInt8) => r6 rf rb d
  | 7 => fun (d : Int) => r7 rf rb d
  | 8 => fun (d : List UInt8 × Int) => r8 rf rb d.1 d.2
  | 9 => fun (d : List UInt8) => r9 rf rb d
  | 10 => fun (d : Unit) => r10 rf rb 
  | 11 => fun (d : List UInt8) => r11 rf rb d
  | 12 => fun (d : List UInt8) => r12 rf rb d
  | 13 => fun (d : Unit) => r13 rf rb 
  | 14 => fun (d : List (Int × List UInt8 × Int) × Int) => r14 rf rb d.1 d.2
  | 15 => fun (d : List (Int × List UInt8 × Int) × Int × Int × Int × Int) => r15 rf rb d
  | 16 => fun (d : List (Int × List UInt8 × Int) × Int × Int × Int × Int) => r16 rf rb d
  | 17 => fun (d : List (Int × List UInt8 × Int) × Int × Int × Int × Int) => r17 rf rb d
  | 18 => fun (d : List (Int × List UInt8 × Int) × Int × Int × Int × Int) => r18 rf rb d
  | 19 => fun (d : List (Int × List UInt8 × Int) × Int × Int × Int × Int) => r19 rf rb d
  | 20 => fun (d : List (Int × List UInt8 × Int) × Int × Int × Int × Int) => r20 rf rb d
  | 21 => fun (d : List (Int × List UInt8 × Int) × Int × Int × Int × Int) => r21 rf rb d
  | 22 => fun (d : List (Int × List UInt8 × Int) × Int × Int × Int × Int) => r22 rf rb d
  | 23 => fun (d : List (Int × List UInt8 × Int) × Int × Int × Int × Int) => r23 rf rb d
  | 24 => fun (d : (List (Int × List UInt8 × Int) × Int × Int × Int × Int) × Int) => r24 rf rb d.1 d.2
  | 25 => fun (d : List (Int × List UInt8 × Int) × Int) => r25 rf rb d.1 d.2
  | 26 => fun (d : (List (Int × List UInt8 × Int) × Int × Int × Int × Int) × Int × List UInt8 × Int) => r26 rf rb d.1 d.2
  | 27 => fun (d : Int × Int × List UInt8 × List XL) => r27 rf rb d.1 d.2.1 d.2.2.1 d.2.2.2
  | 28 => fun (d : Int × Int × List UInt8) => r28 rf rb d.1 d.2.1 d.2.2
  | 29 => fun (d : XN) => r29 rf rb d
  | 30 => fun (d : XL × XL) => r30 rf rb d.1 d.2
  | 31 => fun (d : XN × Int) => r31 rf rb d.1 d.2
  | 32 => fun (d : XN × List Int) => r32 rf rb d.1 d.2
  | 33 => fun (d : (List (Int × List UInt8 × Int) × Int × Int × Int × Int) × List UInt8) => r33 rf rb d.1 d.2
  | 34 => fun (d : (List (Int × List UInt8 × Int) × Int × Int × Int × Int) × List UInt8) => r34 rf rb d.1 d.2
  | 35 => fun (d : (List (Int × List UInt8 × Int) × Int × Int × Int × Int) × List UInt8) => r35 rf rb d.1 d.2
  | 36 => fun (d : List (Int × List UInt8 × Int) × Int × Int × Int × Int) => r36 rf rb d
  | 37 => fun (d : (List (Int × List UInt8 × Int) × Int × Int × Int × Int) × List UInt8) => r37 rf rb d.1 d.2
  | 38 => fun (d : List UInt8) => r38 rf rb d
  | 39 => fun (d : List (Int × List UInt8 × Int) × Int × Int × Int × Int) => r39 rf rb d
  | 40 => fun (d : List (Int × List UInt8 × Int) × Int × Int × Int × Int) => r40 rf rb d
  | 41 => fun (d : (List (Int × List UInt8 × Int) × Int × Int × Int × Int) × Int × XL × XL) => r41 rf rb d.1 d.2.1 d.2.2.1 d.2.2.2
  | 42 => fun (d : XL) => r42 rf rb d
  | 43 => fun (d : List UInt8 × List UInt8) => r43 rf rb d.1 d.2
  | 44 => fun (d : List (List UInt8 × XL)) => r44 rf rb d
  | 45 => fun (d : XL) => r45 rf rb d
  | 46 => fun (d : XL × Int) => r46 rf rb d.1 d.2
  | 47 => fun (d : XL) => r47 rf rb d
  | 48 => fun (d : XN) => r48 rf rb d
  | 49 => fun (d : XN) => r49 rf rb d
  | 50 => fun (d : XN × List Int) => r50 rf rb d.1 d.2
  | 51 => fun (d : List Bool × Bool) => r51 rf rb d.1 d.2
  | 52 => fun (d : List Bool × Bool) => r52 rf rb d.1 d.2
  | 53 => fun (d : XL) => r53 rf rb d
  | 54 => fun (d : XL) => r54 rf rb d
  | 55 => fun (d : XL × XL × Int) => r55 rf rb d.1 d.2.1 d.2.2
  | 56 => fun (d : XL × List (List UInt8) × Int) => r56 rf rb d.1 d.2.1 d.2.2
  | 57 => fun (d : List (List UInt8) × List UInt8) => r57 rf rb d.1 d.2
  | 58 => fun (d : List (List UInt8) × List UInt8) => r58 rf rb d.1 d.2
  | 59 => fun (d : List Int × Int) => r59 rf rb d.1 d.2
  | 60 => fun (d : List Int × Int) => r60 rf rb d.1 d.2
  | 61 => fun (d : List Int) => r61 rf rb d
  | 62 => fun (d : List Int × Int) => r62 rf rb d.1 d.2
  | 63 => fun (d : List Int × Int × Int) => r63 rf rb d.1 d.2.1 d.2.2
  | 64 => fun (d : List Int × Int × Int) => r64 rf rb d.1 d.2.1 d.2.2
  | 65 => fun (d : List Int) => r65 rf rb d
  | 66 => fun (d : List Int × Int × Int) => r66 rf rb d.1 d.2.1 d.2.2
  | 67 => fun (d : List Int) => r67 rf rb d
  | 68 => fun (d : List UInt8) => r68 rf rb d
  | 69 => fun (d : Int × Int × Int × List (Int × List UInt8 × Int) × List UInt8) => r69 rf rb d.1 d.2.1 d.2.2.1 d.2.2.2.1 d.2.2.2.2
  | 70 => fun (d : Int × Int × Int × List (Int × List UInt8 × Int)) => r70 rf rb d.1 d.2.1 d.2.2.1 d.2.2.2
  | 71 => fun (d : Int × Int × Int × List (Int × List UInt8 × Int) × Int) => r71 rf rb d.1 d.2.1 d.2.2.1 d.2.2.2.1 d.2.2.2.2
  | 72 => fun (d : Int × Int × Int × List (Int × List UInt8 × Int) × Int) => r72 rf rb d.1 d.2.1 d.2.2.1 d.2.2.2.1 d.2.2.2.2
  | 73 => fun (d : List (Int × List UInt8 × Int) × Int × Int × Int) => r73 rf rb d
  | 74 => fun (d : (List (Int × List UInt8 × Int) × Int × Int × Int) × List UInt8) => r74 rf rb d.1 d.2
  | 75 => fun (d : (List (Int × List UInt8 × Int) × Int × Int × Int) × List UInt8) => r75 rf rb d.1 d.2
  | 76 => fun (d : List (Int × List UInt8 × Int) × Int × Int × Int) => r76 rf rb d
  | 77 => fun (d : List (Int × List UInt8 × Int) × Int × Int × Int) => r77 rf rb d
  | 78 => fun (d : List (Int × List UInt8 × Int) × Int × Int × Int) => r78 rf rb d
  | 79 => fun (d : (List (Int × List UInt8 × Int) × Int × Int × Int) × Int) => r79 rf rb d.1 d.2
  | 80 => fun (d : List (Int × List UInt8 × Int) × Int × Int × Int) => r80 rf rb d
  | 81 => fun (d : (List (Int × List UInt8 × Int) × Int × Int × Int) × List UInt8) => r81 rf rb d.1 d.2
  | 82 => fun (d : (List (Int × List UInt8 × Int) × Int × Int × Int) × Int) => r82 rf rb d.1 d.2
  | 83 => fun (d : List (Int × List UInt8 × Int) × Int × Int × Int) => r83 rf rb d
  | 84 => fun (d : List (Int × List UInt8 × Int) × Int × Int × Int) => r84 rf rb d
  | 85 => fun (d : List (Int × List UInt8 × Int) × Int × Int × Int) => r85 rf rb d
  | 86 => fun (d : List (Int × List UInt8 × Int) × Int × Int × Int) => r86 rf rb d
  | 87 => fun (d : List (Int × List UInt8 × Int) × Int × Int × Int) => r87 rf rb d
  | 88 => fun (d : List (Int × List UInt8 × Int) × Int × Int × Int) => r88 rf rb d
  | 89 => fun (d : List (Int × List UInt8 × Int) × Int × Int × Int) => r89 rf rb d
  | 90 => fun (d : List (Int × List UInt8 × Int) × Int × Int × Int) => r90 rf rb d
  | 91 => fun (d : List (List UInt8) × List (List UInt8)) => r91 rf rb d.1 d.2
  | 92 => fun (d : List Int × List Int) => r92 rf rb d.1 d.2
  | 93 => fun (d : List XU × List UInt8 × List UInt8) => r93 rf rb d
  | 94 => fun (d : XL) => r94 rf rb d
  | 95 => fun (d : XL) => r95 rf rb d
  | 96 => fun (d : XL × Int) => r96 rf rb d.1 d.2
  | 97 => fun (d : XL) => r97 rf rb d
  | 98 => fun (d : XN) => r98 rf rb d
  | 99 => fun (d : XN) => r99 rf rb d
  | 100 => fun (d : XL × Int) => r100 rf rb d.1 d.2
  | 101 => fun (d : XL × XL × Int) => r101 rf rb d.1 d.2.1 d.2.2
  | 102 => fun (d : XL) => r102 rf rb d
  | 103 => fun (d : List (List UInt8) × List UInt8) => r103 rf rb d.1 d.2
  | 104 => fun (d : List (List UInt8 × XL) × List (List UInt8 × XL)) => r104 rf rb d.1 d.2
  | 105 => fun (d : List (List UInt8 × XL)) => r105 rf rb d
  | 106 => fun (d : List (List UInt8 × XL)) => r106 rf rb d
  | 107 => fun (d : List Bool × List (List UInt8 × XL) × List (List UInt8)) => r107 rf rb d.1 d.2.1 d.2.2
  | 108 => fun (d : List (List UInt8) × List UInt8) => r108 rf rb d.1 d.2
  | 109 => fun (d : List XU × List UInt8 × List UInt8) => r109 rf rb d
  | _ => fun _ => none
theorem gF_ok (rf : T.RF) (rb : T.RB) : ∀ φ d y, gF rf rb φ d = some y → T.stepF rf rb φ d = some y := fun φ => match φ with
  | 0 => fun (d : XL) y h => (er0 rf rb d).trans h
  | 1 => fun (d : Unit) y h => (er1 rf rb ).trans h
  | 2 => fun (d : List UInt8) y h => (er2 rf rb d).trans h
  | 3 => fun (d : List UInt8) y h => (er3 rf rb d).trans h
  | 4 => fun (d : List UInt8 × Int) y h => (er4 rf rb d.1 d.2).trans h
  | 5 => fun (d : Int) y h => (er5 rf rb d).trans h
  | 6 => fun (d : List UInt8) y h => (er6 rf rb d).trans h
  | 7 => fun (d : Int) y h => (er7 rf rb d).trans h
  | 8 => fun (d : List UInt8 × Int) y h => (er8 rf rb d.1 d.2).trans h
  | 9 => fun (d : List UInt8) y h => (er9 rf rb d).trans h
  | 10 => fun (d : Unit) y h => (er10 rf rb ).trans h
  | 11 => fun (d : List UInt8) y h => (er11 rf rb d).trans h
  | 12 => fun (d : List UInt8) y h => (er12 rf rb d).trans h
  | 13 => fun (d : Unit) y h => (er13 rf rb ).trans h
  | 14 => fun (d : List (Int × List UInt8 × Int) × Int) y h => (er14 rf rb d.1 d.2).trans h
  | 15 => fun (d : List (Int × List UInt8 × Int) × Int × Int × Int × Int) y h => (er15 rf rb d).trans h
  | 16 => fun (d : List (Int × List UInt8 × Int) × Int × Int × Int × Int) y h => (er16 rf rb d).trans h
  | 17 => fun (d : List (Int × List UInt8 × Int) × Int × Int × Int × Int) y h => (er17 rf rb d).trans h
  | 18 => fun (d : List (Int × List UInt8 × Int) × Int × Int × Int × Int) y h => (er18 rf rb d).trans h
  | 19 => fun (d : List (Int × List UInt8 × Int) × Int × Int × Int × Int) y h => (er19 rf rb d).trans h
  | 20 => fun (d : List (Int × List UInt8 × Int) × Int × Int × Int × Int) y h => (er20 rf rb d).trans h
  | 21 => fun (d : List (Int × List UInt8 × Int) × Int × Int × Int × Int) y h => (er21 rf rb d).trans h
  | 22 => fun (d : List (Int × List UInt8 × Int) × Int × Int × Int × Int) y h => (er22 rf rb d).trans h
  | 23 => fun (d : List (Int × List UInt8 × Int) × Int × Int × Int × Int) y h => (er23 rf rb d).trans h
  | 24 => fun (d : (List (Int × List UInt8 × Int) × Int × Int × Int × Int) × Int) y h => ((er24 rf rb d.1 d.2).trans (sr24 rf rb d.1 d.2)).trans h
  | 25 => fun (d : List (Int × List UInt8 × Int) × Int) y h => (er25 rf rb d.1 d.2).trans h
  | 26 => fun (d : (List (Int × List UInt8 × Int) × Int × Int × Int × Int) × Int × List UInt8 × Int) y h => (er26 rf rb d.1 d.2).trans h
  | 27 => fun (d : Int × Int × List UInt8 × List XL) y h => (er27 rf rb d.1 d.2.1 d.2.2.1 d.2.2.2).trans h
  | 28 => fun (d : Int × Int × List UInt8) y h => (er28 rf rb d.1 d.2.1 d.2.2).trans h
  | 29 => fun (d : XN) y h => (er29 rf rb d).trans h
  | 30 => fun (d : XL × XL) y h => (er30 rf rb d.1 d.2).trans h
  | 31 => fun (d : XN × Int) y h => (er31 rf rb d.1 d.2).trans h
  | 32 => fun (d : XN × List Int) y h => (er32 rf rb d.1 d.2).trans h
  | 33 => fun (d : (List (Int × List UInt8 × Int) × Int × Int × Int × Int) × List UInt8) y h => (er33 rf rb d.1 d.2).trans h
  | 34 => fun (d : (List (Int × List UInt8 × Int) × Int × Int × Int × Int) × List UInt8) y h => (er34 rf rb d.1 d.2).trans h
  | 35 => fun (d : (List (Int × List UInt8 × Int) × Int × Int × Int × Int) × List UInt8) y h => (er35 rf rb d.1 d.2).trans h
  | 36 => fun (d : List (Int × List UInt8 × Int) × Int × Int × Int × Int) y h => (er36 rf rb d).trans h
  | 37 => fun (d : (List (Int × List UInt8 × Int) × Int × Int × Int × Int) × List UInt8) y h => (er37 rf rb d.1 d.2).trans h
  | 38 => fun (d : List UInt8) y h => (er38 rf rb d).trans h
  | 39 => fun (d : List (Int × List UInt8 × Int) × Int × Int × Int × Int) y h => (er39 rf rb d).trans h
  | 40 => fun (d : List (Int × List UInt8 × Int) × Int × Int × Int × Int) y h => (er40 rf rb d).trans h
  | 41 => fun (d : (List (Int × List UInt8 × Int) × Int × Int × Int × Int) × Int × XL × XL) y h => (er41 rf rb d.1 d.2.1 d.2.2.1 d.2.2.2).trans h
  | 42 => fun (d : XL) y h => (er42 rf rb d).trans h
  | 43 => fun (d : List UInt8 × List UInt8) y h => (er43 rf rb d.1 d.2).trans h
  | 44 => fun (d : List (List UInt8 × XL)) y h => (er44 rf rb d).trans h
  | 45 => fun (d : XL) y h => (er45 rf rb d).trans h
  | 46 => fun (d : XL × Int) y h => (er46 rf rb d.1 d.2).trans h
  | 47 => fun (d : XL) y h => (er47 rf rb d).trans h
  | 48 => fun (d : XN) y h => (er48 rf rb d).trans h
  | 49 => fun (d : XN) y h => (er49 rf rb d).trans h
  | 50 => fun (d : XN × List Int) y h => (er50 rf rb d.1 d.2).trans h
  | 51 => fun (d : List Bool × Bool) y h => (er51 rf rb d.1 d.2).trans h
  | 52 => fun (d : List Bool × Bool) y h => (er52 rf rb d.1 d.2).trans h
  | 53 => fun (d : XL) y h => (er53 rf rb d).trans h
  | 54 => fun (d : XL) y h => (er54 rf rb d).trans h
  | 55 => fun (d : XL × XL × Int) y h => (er55 rf rb d.1 d.2.1 d.2.2).trans h
  | 56 => fun (d : XL × List (List UInt8) × Int) y h => (er56 rf rb d.1 d.2.1 d.2.2).trans h
  | 57 => fun (d : List (List UInt8) × List UInt8) y h => (er57 rf rb d.1 d.2).trans h
  | 58 => fun (d : List (List UInt8) × List UInt8) y h => (er58 rf rb d.1 d.2).trans h
  | 59 => fun (d : List Int × Int) y h => (er59 rf rb d.1 d.2).trans h
  | 60 => fun (d : List Int × Int) y h => ((er60 rf rb d.1 d.2).trans (sr60 rf rb d.1 d.2)).trans h
  | 61 => fun (d : List Int) y h => (er61 rf rb d).trans h
  | 62 => fun (d : List Int × Int) y h => (er62 rf rb d.1 d.2).trans h
  | 63 => fun (d : List Int × Int × Int) y h => (er63 rf rb d.1 d.2.1 d.2.2).trans h
  | 64 => fun (d : List Int × Int × Int) y h => ((er64 rf rb d.1 d.2.1 d.2.2).trans (sr64 rf rb d.1 d.2.1 d.2.2)).trans h
  | 65 => fun (d : List Int) y h => (er65 rf rb d).trans h
  | 66 => fun (d : List Int × Int × Int) y h => (er66 rf rb d.1 d.2.1 d.2.2).trans h
  | 67 => fun (d : List Int) y h => (er67 rf rb d).trans h
  | 68 => fun (d : List UInt8) y h => (er68 rf rb d).trans h
  | 69 => fun (d : Int × Int × Int × List (Int × List UInt8 × Int) × List UInt8) y h => ((er69 rf rb d.1 d.2.1 d.2.2.1 d.2.2.2.1 d.2.2.2.2).trans (sr69 rf rb d.1 d.2.1 d.2.2.1 d.2.2.2.1 d.2.2.2.2)).trans h
  | 70 => fun (d : Int × Int × Int × List (Int × List UInt8 × Int)) y h => (er70 rf rb d.1 d.2.1 d.2.2.1 d.2.2.2).trans h
  | 71 => fun (d : Int × Int × Int × List (Int × List UInt8 × Int) × Int) y h => (er71 rf rb d.1 d.2.1 d.2.2.1 d.2.2.2.1 d.2.2.2.2).trans h
  | 72 => fun (d : Int × Int × Int × List (Int × List UInt8 × Int) × Int) y h => ((er72 rf rb d.1 d.2.1 d.2.2.1 d.2.2.2.1 d.2.2.2.2).trans (sr72 rf rb d.1 d.2.1 d.2.2.1 d.2.2.2.1 d.2.2.2.2)).trans h
  | 73 => fun (d : List (Int × List UInt8 × Int) × Int × Int × Int) y h => (er73 rf rb d).trans h
  | 74 => fun (d : (List (Int × List UInt8 × Int) × Int × Int × Int) × List UInt8) y h => (er74 rf rb d.1 d.2).trans h
  | 75 => fun (d : (List (Int × List UInt8 × Int) × Int × Int × Int) × List UInt8) y h => ((er75 rf rb d.1 d.2).trans (sr75 rf rb d.1 d.2)).trans h
  | 76 => fun (d : List (Int × List UInt8 × Int) × Int × Int × Int) y h => (er76 rf rb d).trans h
  | 77 => fun (d : List (Int × List UInt8 × Int) × Int × Int × Int) y h => (er77 rf rb d).trans h
  | 78 => fun (d : List (Int × List UInt8 × Int) × Int × Int × Int) y h => ((er78 rf rb d).trans (sr78 rf rb d)).trans h
  | 79 => fun (d : (List (Int × List UInt8 × Int) × Int × Int × Int) × Int) y h => ((er79 rf rb d.1 d.2).trans (sr79 rf rb d.1 d.2)).trans h
  | 80 => fun (d : List (Int × List UInt8 × Int) × Int × Int × Int) y h => (er80 rf rb d).trans h
  | 81 => fun (d : (List (Int × List UInt8 × Int) × Int × Int × Int) × List UInt8) y h => (er81 rf rb d.1 d.2).trans h
  | 82 => fun (d : (List (Int × List UInt8 × Int) × Int × Int × Int) × Int) y h => (er82 rf rb d.1 d.2).trans h
  | 83 => fun (d : List (Int × List UInt8 × Int) × Int × Int × Int) y h => (er83 rf rb d).trans h
  | 84 => fun (d : List (Int × List UInt8 × Int) × Int × Int × Int) y h => (er84 rf rb d).trans h
  | 85 => fun (d : List (Int × List UInt8 × Int) × Int × Int × Int) y h => (er85 rf rb d).trans h
  | 86 => fun (d : List (Int × List UInt8 × Int) × Int × Int × Int) y h => (er86 rf rb d).trans h
  | 87 => fun (d : List (Int × List UInt8 × Int) × Int × Int × Int) y h => ((er87 rf rb d).trans (sr87 rf rb d)).trans h
  | 88 => fun (d : List (Int × List UInt8 × Int) × Int × Int × Int) y h => (er88 rf rb d).trans h
  | 89 => fun (d : List (Int × List UInt8 × Int) × Int × Int × Int) y h => (er89 rf rb d).trans h
  | 90 => fun (d : List (Int × List UInt8 × Int) × Int × Int × Int) y h => (er90 rf rb d).trans h
  | 91 => fun (d : List (List UInt8) × List (List UInt8)) y h => (er91 rf rb d.1 d.2).trans h
  | 92 => fun (d : List Int × List Int) y h => (er92 rf rb d.1 d.2).trans h
  | 93 => fun (d : List XU × List UInt8 × List UInt8) y h => (er93 rf rb d).trans h
  | 94 => fun (d : XL) y h => (er94 rf rb d).trans h
  | 95 => fun (d : XL) y h => (er95 rf rb d).trans h
  | 96 => fun (d : XL × Int) y h => (er96 rf rb d.1 d.2).trans h
  | 97 => fun (d : XL) y h => (er97 rf rb d).trans h
  | 98 => fun (d : XN) y h => (er98 rf rb d).trans h
  | 99 => fun (d : XN) y h => (er99 rf rb d).trans h
  | 100 => fun (d : XL × Int) y h => (er100 rf rb d.1 d.2).trans h
  | 101 => fun (d : XL × XL × Int) y h => (er101 rf rb d.1 d.2.1 d.2.2).trans h
  | 102 => fun (d : XL) y h => (er102 rf rb d).trans h
  | 103 => fun (d : List (List UInt8) × List UInt8) y h => (er103 rf rb d.1 d.2).trans h
  | 104 => fun (d : List (List UInt8 × XL) × List (List UInt8 × XL)) y h => (er104 rf rb d.1 d.2).trans h
  | 105 => fun (d : List (List UInt8 × XL)) y h => (er105 rf rb d).trans h
  | 106 => fun (d : List (List UInt8 × XL)) y h => (er106 rf rb d).trans h
  | 107 => fun (d : List Bool × List (List UInt8 × XL) × List (List UInt8)) y h => (er107 rf rb d.1 d.2.1 d.2.2).trans h
  | 108 => fun (d : List (List UInt8) × List UInt8) y h => (er108 rf rb d.1 d.2).trans h
  | 109 => fun (d : List XU × List UInt8 × List UInt8) y h => (er109 rf rb d).trans h
  | n + 110 => fun _ _ h => by cases h

noncomputable def gB (rf : T.RF) (rb : T.RB) : T.RB := fun φ => match φ with
  | 2 => fun (d : List UInt8 × Int) => b2 rf rb d.1 d.2
  | 3 => fun (d : List UInt8 × Int × Int) => b3 rf rb d.1 d.2.1 d.2.2
  | 4 => fun (d : List UInt8 × Int) => b4 rf rb d.1 d.2
  | 5 => fun (d : List (List UInt8) × List UInt8 × Int) => b5 rf rb d.1 d.2.1 d.2.2
  | 6 => fun (d : List UInt8 × Int) => b6 rf rb d.1 d.2
  | 7 => fun (d : List (List UInt8) × List UInt8 × Int) => b7 rf rb d.1 d.2.1 d.2.2
  | 8 => fun (d : (Int × Int) × List (Int × List UInt8 × Int) × List UInt8 × Int) => b8 rf rb d.1 d.2.1 d.2.2.1 d.2.2.2
  | 9 => fun (d : List UInt8 × Int) => b9 rf rb d.1 d.2
  | 13 => fun (d : XL × XL × Int × Int) => b13 rf rb d.1 d.2.1 d.2.2.1 d.2.2.2
  | 14 => fun (d : XL × List Int × Int × List XL × Int × Int) => b14 rf rb d.1 d.2.1 d.2.2.1 d.2.2.2.1 d.2.2.2.2.1 d.2.2.2.2.2
  | 16 => fun (d : (List (Int × List UInt8 × Int) × Int × Int × Int × Int) × List XL) => b16 rf rb d.1 d.2
  | 18 => fun (d : (List (Int × List UInt8 × Int) × Int × Int × Int × Int) × XL) => b18 rf rb d.1 d.2
  | 20 => fun (d : (List (Int × List UInt8 × Int) × Int × Int × Int × Int) × XL) => b20 rf rb d.1 d.2
  | 22 => fun (d : (List (Int × List UInt8 × Int) × Int × Int × Int × Int) × XL) => b22 rf rb d.1 d.2
  | 24 => fun (d : (List (Int × List UInt8 × Int) × Int × Int × Int × Int) × XL) => b24 rf rb d.1 d.2
  | 26 => fun (d : (List (Int × List UInt8 × Int) × Int × Int × Int × Int) × XL) => b26 rf rb d.1 d.2
  | 34 => fun (d : List Int × XL × Int) => b34 rf rb d.1 d.2.1 d.2.2
  | 35 => fun (d : List Int × List Int × Int × Int) => b35 rf rb d.1 d.2.1 d.2.2.1 d.2.2.2
  | 37 => fun (d : (Int × Int) × List (Int × List UInt8 × Int) × Int) => b37 rf rb d.1 d.2.1 d.2.2
  | 42 => fun (d : List Bool × XL × XL × Int × Int) => b42 rf rb d.1 d.2.1 d.2.2.1 d.2.2.2.1 d.2.2.2.2
  | 43 => fun (d : XN × Int) => b43 rf rb d.1 d.2
  | 44 => fun (d : XN × XN × Int) => b44 rf rb d.1 d.2.1 d.2.2
  | 45 => fun (d : List Bool × XN × List Int × XL × Int × Int × Int) => b45 rf rb d.1 d.2.1 d.2.2.1 d.2.2.2.1 d.2.2.2.2.1 d.2.2.2.2.2.1 d.2.2.2.2.2.2
  | 46 => fun (d : List Bool × Bool × Int × Int) => b46 rf rb d.1 d.2.1 d.2.2.1 d.2.2.2
  | 53 => fun (d : List Int × XL × Int × Int) => b53 rf rb d.1 d.2.1 d.2.2.1 d.2.2.2
  | 54 => fun (d : List Int × List Int × Int × Int × Int) => b54 rf rb d.1 d.2.1 d.2.2.1 d.2.2.2.1 d.2.2.2.2
  | 56 => fun (d : XL × List Int × XL × Int × Int) => b56 rf rb d.1 d.2.1 d.2.2.1 d.2.2.2.1 d.2.2.2.2
  | 57 => fun (d : List (List UInt8) × List UInt8 × Int × Int) => b57 rf rb d.1 d.2.1 d.2.2.1 d.2.2.2
  | 59 => fun (d : List Int × XL × List (List UInt8) × Int × Int) => b59 rf rb d.1 d.2.1 d.2.2.1 d.2.2.2.1 d.2.2.2.2
  | 66 => fun (d : List Int × Int) => b66 rf rb d.1 d.2
  | 76 => fun (d : List Int × Int × Int) => b76 rf rb d.1 d.2.1 d.2.2
  | 96 => fun (d : List (List UInt8 × List Int) × List (List UInt8 × XL) × Int × Int) => b96 rf rb d.1 d.2.1 d.2.2.1 d.2.2.2
  | 97 => fun (d : List (List UInt8 × List Int) × List Int × List (List Int) × List Int × List (List UInt8 × XL) × Int × Int) => b97 rf rb d.1 d.2.1 d.2.2.1 d.2.2.2.1 d.2.2.2.2.1 d.2.2.2.2.2.1 d.2.2.2.2.2.2
  | 98 => fun (d : List (List UInt8 × List Int) × List Int × List (List Int) × Int × List (List UInt8) × Int × Int) => b98 rf rb d.1 d.2.1 d.2.2.1 d.2.2.2.1 d.2.2.2.2.1 d.2.2.2.2.2.1 d.2.2.2.2.2.2
  | 99 => fun (d : List Int × List (List Int) × Int × List Int × Int × Int) => b99 rf rb d.1 d.2.1 d.2.2.1 d.2.2.2.1 d.2.2.2.2.1 d.2.2.2.2.2
  | 100 => fun (d : List Int × List Int × List Int × List (List Int)) => b100 rf rb d.1 d.2.1 d.2.2.1 d.2.2.2
  | 101 => fun (d : List Int × List Int × List Int × Int × Int) => b101 rf rb d.1 d.2.1 d.2.2.1 d.2.2.2.1 d.2.2.2.2
  | 105 => fun (d : (List (Int × List UInt8 × Int) × Int × Int × Int) × XP) => b105 rf rb d.1 d.2
  | 107 => fun (d : (List (Int × List UInt8 × Int) × Int × Int × Int) × (Int × Int) × XL × Int) => b107 rf rb d.1 d.2.1 d.2.2.1 d.2.2.2
  | 109 => fun (d : (List (Int × List UInt8 × Int) × Int × Int × Int) × List XL) => b109 rf rb d.1 d.2
  | 110 => fun (d : (List (Int × List UInt8 × Int) × Int × Int × Int) × List XI) => b110 rf rb d.1 d.2
  | 112 => fun (d : (List (Int × List UInt8 × Int) × Int × Int × Int) × XP) => b112 rf rb d.1 d.2
  | 114 => fun (d : (List (Int × List UInt8 × Int) × Int × Int × Int) × List (List UInt8 × XL)) => b114 rf rb d.1 d.2
  | 129 => fun (d : (List (Int × List UInt8 × Int) × Int × Int × Int) × List UInt8 × List UInt8 × List XU) => b129 rf rb d.1 d.2.1 d.2.2.1 d.2.2.2
  | 130 => fun (d : List UInt8 × List UInt8 × (Int × Int) × (List (Int × List UInt8 × Int) × Int × Int × Int) × List UInt8 × List UInt8 × List XU × List XU) => b130 rf rb d.1 d.2.1 d.2.2.1 d.2.2.2.1 d.2.2.2.2.1 d.2.2.2.2.2.1 d.2.2.2.2.2.2.1 d.2.2.2.2.2.2.2
  | 131 => fun (d : List (List UInt8) × List (List UInt8) × Int) => b131 rf rb d.1 d.2.1 d.2.2
  | 132 => fun (d : List Int × List Int × Int) => b132 rf rb d.1 d.2.1 d.2.2
  | 133 => fun (d : (Int × Int) × List XU × Int × Int) => b133 rf rb d.1 d.2.1 d.2.2.1 d.2.2.2
  | 134 => fun (d : List Int × XL × Int) => b134 rf rb d.1 d.2.1 d.2.2
  | 135 => fun (d : List Int × List Int × Int × Int) => b135 rf rb d.1 d.2.1 d.2.2.1 d.2.2.2
  | 136 => fun (d : XN × List Int × XL × Int) => b136 rf rb d.1 d.2.1 d.2.2.1 d.2.2.2
  | 137 => fun (d : List Int × XL × Int) => b137 rf rb d.1 d.2.1 d.2.2
  | 139 => fun (d : XL × List Int × List Int × XL × Int) => b139 rf rb d.1 d.2.1 d.2.2.1 d.2.2.2.1 d.2.2.2.2
  | 144 => fun (d : List Bool × XL × Int) => b144 rf rb d.1 d.2.1 d.2.2
  | 145 => fun (d : List Bool × List Int × XL × Int × Int) => b145 rf rb d.1 d.2.1 d.2.2.1 d.2.2.2.1 d.2.2.2.2
  | 147 => fun (d : List (List UInt8) × List UInt8 × Int) => b147 rf rb d.1 d.2.1 d.2.2
  | 148 => fun (d : List Bool × List (List UInt8) × XL × Int) => b148 rf rb d.1 d.2.1 d.2.2.1 d.2.2.2
  | 149 => fun (d : List (List UInt8 × XL) × Int) => b149 rf rb d.1 d.2
  | 154 => fun (d : List Bool × List (List UInt8 × XL) × List (List UInt8) × Int) => b154 rf rb d.1 d.2.1 d.2.2.1 d.2.2.2
  | 155 => fun (d : List (List UInt8) × List UInt8 × Int) => b155 rf rb d.1 d.2.1 d.2.2
  | 156 => fun (d : List (List (List UInt8)) × List (List UInt8 × XL) × Int) => b156 rf rb d.1 d.2.1 d.2.2
  | 157 => fun (d : List (List (List UInt8)) × List Bool × List Int × List (List UInt8 × XL)) => b157 rf rb d.1 d.2.1 d.2.2.1 d.2.2.2
  | 158 => fun (d : List (List (List UInt8)) × List Bool × List (List UInt8 × XL) × Int × Int) => b158 rf rb d.1 d.2.1 d.2.2.1 d.2.2.2.1 d.2.2.2.2
  | 159 => fun (d : (List XU × List UInt8 × List UInt8) × (Int × Int) × Int) => b159 rf rb d.1 d.2.1 d.2.2
  | _ => fun _ => none
theorem gB_ok (rf : T.RF) (rb : T.RB) : ∀ φ d y, gB rf rb φ d = some y → T.stepB rf rb φ d = some y := fun φ => match φ with
  | 0 => fun _ _ h => by cases h
  | 1 => fun _ _ h => by cases h
  | 2 => fun (d : List UInt8 × Int) y h => (eb2 rf rb d.1 d.2).trans h
  | 3 => fun (d : List UInt8 × Int × Int) y h => (eb3 rf rb d.1 d.2.1 d.2.2).trans h
  | 4 => fun (d : List UInt8 × Int) y h => (eb4 rf rb d.1 d.2).trans h
  | 5 => fun (d : List (List UInt8) × List UInt8 × Int) y h => (eb5 rf rb d.1 d.2.1 d.2.2).trans h
  | 6 => fun (d : List UInt8 × Int) y h => (eb6 rf rb d.1 d.2).trans h
  | 7 => fun (d : List (List UInt8) × List UInt8 × Int) y h => (eb7 rf rb d.1 d.2.1 d.2.2).trans h
  | 8 => fun (d : (Int × Int) × List (Int × List UInt8 × Int) × List UInt8 × Int) y h => (eb8 rf rb d.1 d.2.1 d.2.2.1 d.2.2.2).trans h
  | 9 => fun (d : List UInt8 × Int) y h => (eb9 rf rb d.1 d.2).trans h
  | 10 => fun _ _ h => by cases h
  | 11 => fun _ _ h => by cases h
  | 12 => fun _ _ h => by cases h
  | 13 => fun (d : XL × XL × Int × Int) y h => (eb13 rf rb d.1 d.2.1 d.2.2.1 d.2.2.2).trans h
  | 14 => fun (d : XL × List Int × Int × List XL × Int × Int) y h => (eb14 rf rb d.1 d.2.1 d.2.2.1 d.2.2.2.1 d.2.2.2.2.1 d.2.2.2.2.2).trans h
  | 15 => fun _ _ h => by cases h
  | 16 => fun (d : (List (Int × List UInt8 × Int) × Int × Int × Int × Int) × List XL) y h => (eb16 rf rb d.1 d.2).trans h
  | 17 => fun _ _ h => by cases h
  | 18 => fun (d : (List (Int × List UInt8 × Int) × Int × Int × Int × Int) × XL) y h => (eb18 rf rb d.1 d.2).trans h
  | 19 => fun _ _ h => by cases h
  | 20 => fun (d : (List (Int × List UInt8 × Int) × Int × Int × Int × Int) × XL) y h => (eb20 rf rb d.1 d.2).trans h
  | 21 => fun _ _ h => by cases h
  | 22 => fun (d : (List (Int × List UInt8 × Int) × Int × Int × Int × Int) × XL) y h => (eb22 rf rb d.1 d.2).trans h
  | 23 => fun _ _ h => by cases h
  | 24 => fun (d : (List (Int × List UInt8 × Int) × Int × Int × Int × Int) × XL) y h => (eb24 rf rb d.1 d.2).trans h
  | 25 => fun _ _ h => by cases h
  | 26 => fun (d : (List (Int × List UInt8 × Int) × Int × Int × Int × Int) × XL) y h => (eb26 rf rb d.1 d.2).trans h
  | 27 => fun _ _ h => by cases h
  | 28 => fun _ _ h => by cases h
  | 29 => fun _ _ h => by cases h
  | 30 => fun _ _ h => by cases h
  | 31 => fun _ _ h => by cases h
  | 32 => fun _ _ h => by cases h
  | 33 => fun _ _ h => by cases h
  | 34 => fun (d : List Int × XL × Int) y h => (eb34 rf rb d.1 d.2.1 d.2.2).trans h
  | 35 => fun (d : List Int × List Int × Int × Int) y h => ((eb35 rf rb d.1 d.2.1 d.2.2.1 d.2.2.2).trans (sb35 rf rb d.1 d.2.1 d.2.2.1 d.2.2.2)).trans h
  | 36 => fun _ _ h => by cases h
  | 37 => fun (d : (Int × Int) × List (Int × List UInt8 × Int) × Int) y h => (eb37 rf rb d.1 d.2.1 d.2.2).trans h
  | 38 => fun _ _ h => by cases h
  | 39 => fun _ _ h => by cases h
  | 40 => fun _ _ h => by cases h
  | 41 => fun _ _ h => by cases h
  | 42 => fun (d : List Bool × XL × XL × Int × Int) y h => (eb42 rf rb d.1 d.2.1 d.2.2.1 d.2.2.2.1 d.2.2.2.2).trans h
  | 43 => fun (d : XN × Int) y h => ((eb43 rf rb d.1 d.2).trans (sb43 rf rb d.1 d.2)).trans h
  | 44 => fun (d : XN × XN × Int) y h => (eb44 rf rb d.1 d.2.1 d.2.2).trans h
  | 45 => fun (d : List Bool × XN × List Int × XL × Int × Int × Int) y h => (eb45 rf rb d.1 d.2.1 d.2.2.1 d.2.2.2.1 d.2.2.2.2.1 d.2.2.2.2.2.1 d.2.2.2.2.2.2).trans h
  | 46 => fun (d : List Bool × Bool × Int × Int) y h => (eb46 rf rb d.1 d.2.1 d.2.2.1 d.2.2.2).trans h
  | 47 => fun _ _ h => by cases h
  | 48 => fun _ _ h => by cases h
  | 49 => fun _ _ h => by cases h
  | 50 => fun _ _ h => by cases h
  | 51 => fun _ _ h => by cases h
  | 52 => fun _ _ h => by cases h
  | 53 => fun (d : List Int × XL × Int × Int) y h => (eb53 rf rb d.1 d.2.1 d.2.2.1 d.2.2.2).trans h
  | 54 => fun (d : List Int × List Int × Int × Int × Int) y h => ((eb54 rf rb d.1 d.2.1 d.2.2.1 d.2.2.2.1 d.2.2.2.2).trans (sb54 rf rb d.1 d.2.1 d.2.2.1 d.2.2.2.1 d.2.2.2.2)).trans h
  | 55 => fun _ _ h => by cases h
  | 56 => fun (d : XL × List Int × XL × Int × Int) y h => (eb56 rf rb d.1 d.2.1 d.2.2.1 d.2.2.2.1 d.2.2.2.2).trans h
  | 57 => fun (d : List (List UInt8) × List UInt8 × Int × Int) y h => (eb57 rf rb d.1 d.2.1 d.2.2.1 d.2.2.2).trans h
  | 58 => fun _ _ h => by cases h
  | 59 => fun (d : List Int × XL × List (List UInt8) × Int × Int) y h => (eb59 rf rb d.1 d.2.1 d.2.2.1 d.2.2.2.1 d.2.2.2.2).trans h
  | 60 => fun _ _ h => by cases h
  | 61 => fun _ _ h => by cases h
  | 62 => fun _ _ h => by cases h
  | 63 => fun _ _ h => by cases h
  | 64 => fun _ _ h => by cases h
  | 65 => fun _ _ h => by cases h
  | 66 => fun (d : List Int × Int) y h => (eb66 rf rb d.1 d.2).trans h
  | 67 => fun _ _ h => by cases h
  | 68 => fun _ _ h => by cases h
  | 69 => fun _ _ h => by cases h
  | 70 => fun _ _ h => by cases h
  | 71 => fun _ _ h => by cases h
  | 72 => fun _ _ h => by cases h
  | 73 => fun _ _ h => by cases h
  | 74 => fun _ _ h => by cases h
  | 75 => fun _ _ h => by cases h
  | 76 => fun (d : List Int × Int × Int) y h => (eb76 rf rb d.1 d.2.1 d.2.2).trans h
  | 77 => fun _ _ h => by cases h
  | 78 => fun _ _ h => by cases h
  | 79 => fun _ _ h => by cases h
  | 80 => fun _ _ h => by cases h
  | 81 => fun _ _ h => by cases h
  | 82 => fun _ _ h => by cases h
  | 83 => fun _ _ h => by cases h
  | 84 => fun _ _ h => by cases h
  | 85 => fun _ _ h => by cases h
  | 86 => fun _ _ h => by cases h
  | 87 => fun _ _ h => by cases h
  | 88 => fun _ _ h => by cases h
  | 89 => fun _ _ h => by cases h
  | 90 => fun _ _ h => by cases h
  | 91 => fun _ _ h => by cases h
  | 92 => fun _ _ h => by cases h
  | 93 => fun _ _ h => by cases h
  | 94 => fun _ _ h => by cases h
  | 95 => fun _ _ h => by cases h
  | 96 => fun (d : List (List UInt8 × List Int) × List (List UInt8 × XL) × Int × Int) y h => ((eb96 rf rb d.1 d.2.1 d.2.2.1 d.2.2.2).trans (sb96 rf rb d.1 d.2.1 d.2.2.1 d.2.2.2)).trans h
  | 97 => fun (d : List (List UInt8 × List Int) × List Int × List (List Int) × List Int × List (List UInt8 × XL) × Int × Int) y h => (eb97 rf rb d.1 d.2.1 d.2.2.1 d.2.2.2.1 d.2.2.2.2.1 d.2.2.2.2.2.1 d.2.2.2.2.2.2).trans h
  | 98 => fun (d : List (List UInt8 × List Int) × List Int × List (List Int) × Int × List (List UInt8) × Int × Int) y h => (eb98 rf rb d.1 d.2.1 d.2.2.1 d.2.2.2.1 d.2.2.2.2.1 d.2.2.2.2.2.1 d.2.2.2.2.2.2).trans h
  | 99 => fun (d : List Int × List (List Int) × Int × List Int × Int × Int) y h => (eb99 rf rb d.1 d.2.1 d.2.2.1 d.2.2.2.1 d.2.2.2.2.1 d.2.2.2.2.2).trans h
  | 100 => fun (d : List Int × List Int × List Int × List (List Int)) y h => (eb100 rf rb d.1 d.2.1 d.2.2.1 d.2.2.2).trans h
  | 101 => fun (d : List Int × List Int × List Int × Int × Int) y h => (eb101 rf rb d.1 d.2.1 d.2.2.1 d.2.2.2.1 d.2.2.2.2).trans h
  | 102 => fun _ _ h => by cases h
  | 103 => fun _ _ h => by cases h
  | 104 => fun _ _ h => by cases h
  | 105 => fun (d : (List (Int × List UInt8 × Int) × Int × Int × Int) × XP) y h => (eb105 rf rb d.1 d.2).trans h
  | 106 => fun _ _ h => by cases h
  | 107 => fun (d : (List (Int × List UInt8 × Int) × Int × Int × Int) × (Int × Int) × XL × Int) y h => (eb107 rf rb d.1 d.2.1 d.2.2.1 d.2.2.2).trans h
  | 108 => fun _ _ h => by cases h
  | 109 => fun (d : (List (Int × List UInt8 × Int) × Int × Int × Int) × List XL) y h => (eb109 rf rb d.1 d.2).trans h
  | 110 => fun (d : (List (Int × List UInt8 × Int) × Int × Int × Int) × List XI) y h => (eb110 rf rb d.1 d.2).trans h
  | 111 => fun _ _ h => by cases h
  | 112 => fun (d : (List (Int × List UInt8 × Int) × Int × Int × Int) × XP) y h => (eb112 rf rb d.1 d.2).trans h
  | 113 => fun _ _ h => by cases h
  | 114 => fun (d : (List (Int × List UInt8 × Int) × Int × Int × Int) × List (List UInt8 × XL)) y h => (eb114 rf rb d.1 d.2).trans h
  | 115 => fun _ _ h => by cases h
  | 116 => fun _ _ h => by cases h
  | 117 => fun _ _ h => by cases h
  | 118 => fun _ _ h => by cases h
  | 119 => fun _ _ h => by cases h
  | 120 => fun _ _ h => by cases h
  | 121 => fun _ _ h => by cases h
  | 122 => fun _ _ h => by cases h
  | 123 => fun _ _ h => by cases h
  | 124 => fun _ _ h => by cases h
  | 125 => fun _ _ h => by cases h
  | 126 => fun _ _ h => by cases h
  | 127 => fun _ _ h => by cases h
  | 128 => fun _ _ h => by cases h
  | 129 => fun (d : (List (Int × List UInt8 × Int) × Int × Int × Int) × List UInt8 × List UInt8 × List XU) y h => ((eb129 rf rb d.1 d.2.1 d.2.2.1 d.2.2.2).trans (sb129 rf rb d.1 d.2.1 d.2.2.1 d.2.2.2)).trans h
  | 130 => fun (d : List UInt8 × List UInt8 × (Int × Int) × (List (Int × List UInt8 × Int) × Int × Int × Int) × List UInt8 × List UInt8 × List XU × List XU) y h => ((eb130 rf rb d.1 d.2.1 d.2.2.1 d.2.2.2.1 d.2.2.2.2.1 d.2.2.2.2.2.1 d.2.2.2.2.2.2.1 d.2.2.2.2.2.2.2).trans (sb130 rf rb d.1 d.2.1 d.2.2.1 d.2.2.2.1 d.2.2.2.2.1 d.2.2.2.2.2.1 d.2.2.2.2.2.2.1 d.2.2.2.2.2.2.2)).trans h
  | 131 => fun (d : List (List UInt8) × List (List UInt8) × Int) y h => (eb131 rf rb d.1 d.2.1 d.2.2).trans h
  | 132 => fun (d : List Int × List Int × Int) y h => (eb132 rf rb d.1 d.2.1 d.2.2).trans h
  | 133 => fun (d : (Int × Int) × List XU × Int × Int) y h => (eb133 rf rb d.1 d.2.1 d.2.2.1 d.2.2.2).trans h
  | 134 => fun (d : List Int × XL × Int) y h => (eb134 rf rb d.1 d.2.1 d.2.2).trans h
  | 135 => fun (d : List Int × List Int × Int × Int) y h => (eb135 rf rb d.1 d.2.1 d.2.2.1 d.2.2.2).trans h
  | 136 => fun (d : XN × List Int × XL × Int) y h => (eb136 rf rb d.1 d.2.1 d.2.2.1 d.2.2.2).trans h
  | 137 => fun (d : List Int × XL × Int) y h => (eb137 rf rb d.1 d.2.1 d.2.2).trans h
  | 138 => fun _ _ h => by cases h
  | 139 => fun (d : XL × List Int × List Int × XL × Int) y h => (eb139 rf rb d.1 d.2.1 d.2.2.1 d.2.2.2.1 d.2.2.2.2).trans h
  | 140 => fun _ _ h => by cases h
  | 141 => fun _ _ h => by cases h
  | 142 => fun _ _ h => by cases h
  | 143 => fun _ _ h => by cases h
  | 144 => fun (d : List Bool × XL × Int) y h => (eb144 rf rb d.1 d.2.1 d.2.2).trans h
  | 145 => fun (d : List Bool × List Int × XL × Int × Int) y h => (eb145 rf rb d.1 d.2.1 d.2.2.1 d.2.2.2.1 d.2.2.2.2).trans h
  | 146 => fun _ _ h => by cases h
  | 147 => fun (d : List (List UInt8) × List UInt8 × Int) y h => (eb147 rf rb d.1 d.2.1 d.2.2).trans h
  | 148 => fun (d : List Bool × List (List UInt8) × XL × Int) y h => (eb148 rf rb d.1 d.2.1 d.2.2.1 d.2.2.2).trans h
  | 149 => fun (d : List (List UInt8 × XL) × Int) y h => (eb149 rf rb d.1 d.2).trans h
  | 150 => fun _ _ h => by cases h
  | 151 => fun _ _ h => by cases h
  | 152 => fun _ _ h => by cases h
  | 153 => fun _ _ h => by cases h
  | 154 => fun (d : List Bool × List (List UInt8 × XL) × List (List UInt8) × Int) y h => (eb154 rf rb d.1 d.2.1 d.2.2.1 d.2.2.2).trans h
  | 155 => fun (d : List (List UInt8) × List UInt8 × Int) y h => (eb155 rf rb d.1 d.2.1 d.2.2).trans h
  | 156 => fun (d : List (List (List UInt8)) × List (List UInt8 × XL) × Int) y h => (eb156 rf rb d.1 d.2.1 d.2.2).trans h
  | 157 => fun (d : List (List (List UInt8)) × List Bool × List Int × List (List UInt8 × XL)) y h => (eb157 rf rb d.1 d.2.1 d.2.2.1 d.2.2.2).trans h
  | 158 => fun (d : List (List (List UInt8)) × List Bool × List (List UInt8 × XL) × Int × Int) y h => (eb158 rf rb d.1 d.2.1 d.2.2.1 d.2.2.2.1 d.2.2.2.2).trans h
  | 159 => fun (d : (List XU × List UInt8 × List UInt8) × (Int × Int) × Int) y h => (eb159 rf rb d.1 d.2.1 d.2.2).trans h
  | n + 160 => fun _ _ h => by cases h

noncomputable def G : Nat → T.RF × T.RB
  | 0 => (fun _ _ => none, fun _ _ => none)
  | n + 1 => (gF (G n).1 (G n).2, gB (G n).1 (G n).2)
theorem run_F (n : Nat) {φ : Nat} {d} {y} (h : (G n).1 φ d = some y) : T.rf φ d = some y := (Tbl.approx gF_ok gB_ok rfl (fun _ => rfl) n).1 φ d y h
theorem run_B (n : Nat) {κ : Nat} {d} {y} (h : (G n).2 κ d = some y) : T.rb κ d = some y := (Tbl.approx gF_ok gB_ok rfl (fun _ => rfl) n).2 κ d y h
theorem live_run : c1 T.rf = some true := run_F 400 (φ := 1) (d := ()) (by kernel_rfl)
end Go.Proofs.YtifoobdekbjmdaaGreat.R
