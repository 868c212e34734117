/-
  OUR OWN, PRINTED BY A PROGRAM OF OURS (table2.py): what a function comes to can be computed.
-/
import Derived.Test.YtifoobdekbjmdaaRes
import Derived.Test.YtifoobdekbjmdaaBmRun
import Derived.KernelRfl
namespace Go.Proofs.Ytifoobdekbjmdaa.R
open Go Go.Bm Go.Proofs
set_option linter.unusedVariables false
set_option maxRecDepth 100000

noncomputable def gF (rf : T.RF) (rb : T.RB) : T.RF := fun φ => match φ with
  | 0 => fun (d : List (List UInt8 × XL)) => r0 rf rb d
  | 1 => fun (d : List (List UInt8 × XL)) => r1 rf rb d
  | 2 => fun (d : Unit) => r2 rf rb 
  | 3 => fun (d : List UInt8) => r3 rf rb d
  | 4 => fun (d : List UInt8) => r4 rf rb d
  | 5 => fun (d : List UInt8 × Int) => r5 rf rb d.1 d.2
  | 6 => fun (d : Int) => r6 rf rb d
  | 7 => fun (d : List UInt8) => r7 rf rb d
  | 8 => fun (d : Int) => r8 rf rb d
  | 9 => fun (d : List UInt8 × Int) => r9 rf rb d.1 d.2
  | 10 => fun (d : List UInt8) => r10 rf rb d
  | 11 => fun (d : Unit) => r11 rf rb 
  | 12 => fun (d : List UInt8) => r12 rf rb d
  | 13 => fun (d : List UInt8) => r13 rf rb d
  | 14 => fun (d : Unit) => r14 rf rb 
  | 15 => fun (d : List (Int × List UInt8 × Int) × Int) => r15 rf rb d.1 d.2
  | 16 => fun (d : List (Int × List UInt8 × Int) × Int × Int × Int × Int) => r16 rf rb d
  | 17 => fun (d : List (Int × List UInt8 × Int) × Int × Int × Int × Int) => r17 rf rb d
  | 18 => fun (d : List (Int × List UInt8 × Int) × Int × Int × Int × Int) => r18 rf rb d
  | 19 => fun (d : List (Int × List UInt8 × Int) × Int × Int × Int × Int) => r19 rf rb d
  | 20 => fun (d : List (Int × List UInt8 × Int) × Int × Int × Int × Int) => r20 rf rb d
  | 21 => fun (d : List (Int × List UInt8 × Int) × Int × Int × Int × Int) => r21 rf rb d
  | 22 => fun (d : List (Int × List UInt8 × Int) × Int × Int × Int × Int) => r22 rf rb d
  | 23 => fun (d : List (Int × List UInt8 × Int) × Int × Int × Int × Int) => r23 rf rb d
  | 24 => fun (d : List (Int × List UInt8 × Int) × Int × Int × Int × Int) => r24 rf rb d
  | 25 => fun (d : (List (Int × List UInt8 × Int) × Int × Int × Int × Int) × Int) => r25 rf rb d.1 d.2
  | 26 => fun (d : List (Int × List UInt8 × Int) × Int) => r26 rf rb d.1 d.2
  | 27 => fun (d : (List (Int × List UInt8 × Int) × Int × Int × Int × Int) × Int × List UInt8 × Int) => r27 rf rb d.1 d.2
  | 28 => fun (d : Int × Int × List UInt8 × List XL) => r28 rf rb d.1 d.2.1 d.2.2.1 d.2.2.2
  | 29 => fun (d : Int × Int × List UInt8) => r29 rf rb d.1 d.2.1 d.2.2
  | 30 => fun (d : XN) => r30 rf rb d
  | 31 => fun (d : XL × XL) => r31 rf rb d.1 d.2
  | 32 => fun (d : XN × Int) => r32 rf rb d.1 d.2
  | 33 => fun (d : XN × List Int) => r33 rf rb d.1 d.2
  | 34 => fun (d : (List (Int × List UInt8 × Int) × Int × Int × Int × Int) × List UInt8) => r34 rf rb d.1 d.2
  | 35 => fun (d : (List (Int × List UInt8 × Int) × Int × Int × Int × Int) × List UInt8) => r35 rf rb d.1 d.2
  | 36 => fun (d : (List (Int × List UInt8 × Int) × Int × Int × Int × Int) × List UInt8) => r36 rf rb d.1 d.2
  | 37 => fun (d : List (Int × List UInt8 × Int) × Int × Int × Int × Int) => r37 rf rb d
  | 38 => fun (d : (List (Int × List UInt8 × Int) × Int × Int × Int × Int) × List UInt8) => r38 rf rb d.1 d.2
  | 39 => fun (d : List UInt8) => r39 rf rb d
  | 40 => fun (d : List (Int × List UInt8 × Int) × Int × Int × Int × Int) => r40 rf rb d
  | 41 => fun (d : List (Int × List UInt8 × Int) × Int × Int × Int × Int) => r41 rf rb d
  | 42 => fun (d : (List (Int × List UInt8 × Int) × Int × Int × Int × Int) × Int × XL × XL) => r42 rf rb d.1 d.2.1 d.2.2.1 d.2.2.2
  | 43 => fun (d : XL) => r43 rf rb d
  | 44 => fun (d : List UInt8 × List UInt8) => r44 rf rb d.1 d.2
  | 45 => fun (d : List (List UInt8 × XL)) => r45 rf rb d
  | 46 => fun (d : XL) => r46 rf rb d
  | 47 => fun (d : XL × Int) => r47 rf rb d.1 d.2
  | 48 => fun (d : XL) => r48 rf rb d
  | 49 => fun (d : XN) => r49 rf rb d
  | 50 => fun (d : XN) => r50 rf rb d
  | 51 => fun (d : XN × List Int) => r51 rf rb d.1 d.2
  | 52 => fun (d : List Bool × Bool) => r52 rf rb d.1 d.2
  | 53 => fun (d : List Bool × Bool) => r53 rf rb d.1 d.2
  | 54 => fun (d : XL) => r54 rf rb d
  | 55 => fun (d : XL) => r55 rf rb d
  | 56 => fun (d : XL × XL × Int) => r56 rf rb d.1 d.2.1 d.2.2
  | 57 => fun (d : XL × List (List UInt8) × Int) => r57 rf rb d.1 d.2.1 d.2.2
  | 58 => fun (d : List (List UInt8) × List UInt8) => r58 rf rb d.1 d.2
  | 59 => fun (d : List (List UInt8) × List UInt8) => r59 rf rb d.1 d.2
  | 60 => fun (d : List Int × Int) => r60 rf rb d.1 d.2
  | 61 => fun (d : List Int × Int) => r61 rf rb d.1 d.2
  | 62 => fun (d : List Int) => r62 rf rb d
  | 63 => fun (d : List Int × Int) => r63 rf rb d.1 d.2
  | 64 => fun (d : List Int × Int × Int) => r64 rf rb d.1 d.2.1 d.2.2
  | 65 => fun (d : List Int × Int × Int) => r65 rf rb d.1 d.2.1 d.2.2
  | 66 => fun (d : List Int) => r66 rf rb d
  | 67 => fun (d : List Int × Int × Int) => r67 rf rb d.1 d.2.1 d.2.2
  | 68 => fun (d : List Int) => r68 rf rb d
  | 69 => fun (d : List UInt8) => r69 rf rb d
  | 70 => fun (d : Int × Int × Int × List (Int × List UInt8 × Int) × List UInt8) => r70 rf rb d.1 d.2.1 d.2.2.1 d.2.2.2.1 d.2.2.2.2
  | 71 => fun (d : Int × Int × Int × List (Int × List UInt8 × Int)) => r71 rf rb d.1 d.2.1 d.2.2.1 d.2.2.2
  | 72 => fun (d : Int × Int × Int × List (Int × List UInt8 × Int) × Int) => r72 rf rb d.1 d.2.1 d.2.2.1 d.2.2.2.1 d.2.2.2.2
  | 73 => fun (d : Int × Int × Int × List (Int × List UInt8 × Int) × Int) => r73 rf rb d.1 d.2.1 d.2.2.1 d.2.2.2.1 d.2.2.2.2
  | 74 => fun (d : List (Int × List UInt8 × Int) × Int × Int × Int) => r74 rf rb d
  | 75 => fun (d : (List (Int × List UInt8 × Int) × Int × Int × Int) × List UInt8) => r75 rf rb d.1 d.2
  | 76 => fun (d : (List (Int × List UInt8 × Int) × Int × Int × Int) × List UInt8) => r76 rf rb d.1 d.2
  | 77 => fun (d : List (Int × List UInt8 × Int) × Int × Int × Int) => r77 rf rb d
  | 78 => fun (d : List (Int × List UInt8 × Int) × Int × Int × Int) => r78 rf rb d
  | 79 => fun (d : List (Int × List UInt8 × Int) × Int × Int × Int) => r79 rf rb d
  | 80 => fun (d : (List (Int × List UInt8 × Int) × Int × Int × Int) × Int) => r80 rf rb d.1 d.2
  | 81 => fun (d : List (Int × List UInt8 × Int) × Int × Int × Int) => r81 rf rb d
  | 82 => fun (d : (List (Int × List UInt8 × Int) × Int × Int × Int) × List UInt8) => r82 rf rb d.1 d.2
  | 83 => fun (d : (List (Int × List UInt8 × Int) × Int × Int × Int) × Int) => r83 rf rb d.1 d.2
  | 84 => fun (d : List (Int × List UInt8 × Int) × Int × Int × Int) => r84 rf rb d
  | 85 => fun (d : List (Int × List UInt8 × Int) × Int × Int × Int) => r85 rf rb d
  | 86 => fun (d : List (Int × List UInt8 × Int) × Int × Int × Int) => r86 rf rb d
  | 87 => fun (d : List (Int × List UInt8 × Int) × Int × Int × Int) => r87 rf rb d
  | 88 => fun (d : List (Int × List UInt8 × Int) × Int × Int × Int) => r88 rf rb d
  | 89 => fun (d : List (Int × List UInt8 × Int) × Int × Int × Int) => r89 rf rb d
  | 90 => fun (d : List (Int × List UInt8 × Int) × Int × Int × Int) => r90 rf rb d
  | 91 => fun (d : List (Int × List UInt8 × Int) × Int × Int × Int) => r91 rf rb d
  | 92 => fun (d : List (List UInt8) × List (List UInt8)) => r92 rf rb d.1 d.2
  | 93 => fun (d : List Int × List Int) => r93 rf rb d.1 d.2
  | 94 => fun (d : List XU × List UInt8 × List UInt8) => r94 rf rb d
  | 95 => fun (d : List (List UInt8 × XL) × Int) => r95 rf rb d.1 d.2
  | 96 => fun (d : XL × XL) => r96 rf rb d.1 d.2
  | 97 => fun (d : XL) => r97 rf rb d
  | 98 => fun (d : XN) => r98 rf rb d
  | 99 => fun (d : XN) => r99 rf rb d
  | 100 => fun (d : XL × Int) => r100 rf rb d.1 d.2
  | 101 => fun (d : List (List UInt8 × XL)) => r101 rf rb d
  | _ => fun _ => none
theorem gF_ok (rf : T.RF) (rb : T.RB) : ∀ φ d y, gF rf rb φ d = some y → T.stepF rf rb φ d = some y := fun φ => match φ with
  | 0 => fun (d : List (List UInt8 × XL)) y h => (er0 rf rb d).trans h
  | 1 => fun (d : List (List UInt8 × XL)) y h => (er1 rf rb d).trans h
  | 2 => fun (d : Unit) y h => (er2 rf rb ).trans h
  | 3 => fun (d : List UInt8) y h => (er3 rf rb d).trans h
  | 4 => fun (d : List UInt8) y h => (er4 rf rb d).trans h
  | 5 => fun (d : List UInt8 × Int) y h => (er5 rf rb d.1 d.2).trans h
  | 6 => fun (d : Int) y h => (er6 rf rb d).trans h
  | 7 => fun (d : List UInt8) y h => (er7 rf rb d).trans h
  | 8 => fun (d : Int) y h => (er8 rf rb d).trans h
  | 9 => fun (d : List UInt8 × Int) y h => (er9 rf rb d.1 d.2).trans h
  | 10 => fun (d : List UInt8) y h => (er10 rf rb d).trans h
  | 11 => fun (d : Unit) y h => (er11 rf rb ).trans h
  | 12 => fun (d : List UInt8) y h => (er12 rf rb d).trans h
  | 13 => fun (d : List UInt8) y h => (er13 rf rb d).trans h
  | 14 => fun (d : Unit) y h => (er14 rf rb ).trans h
  | 15 => fun (d : List (Int × List UInt8 × Int) × Int) y h => (er15 rf rb d.1 d.2).trans h
  | 16 => fun (d : List (Int × List UInt8 × Int) × Int × Int × Int × Int) y h => (er16 rf rb d).trans h
  | 17 => fun (d : List (Int × List UInt8 × Int) × Int × Int × Int × Int) y h => (er17 rf rb d).trans h
  | 18 => fun (d : List (Int × List UInt8 × Int) × Int × Int × Int × Int) y h => (er18 rf rb d).trans h
  | 19 => fun (d : List (Int × List UInt8 × Int) × Int × Int × Int × Int) y h => (er19 rf rb d).trans h
  | 20 => fun (d : List (Int × List UInt8 × Int) × Int × Int × Int × Int) y h => (er20 rf rb d).trans h
  | 21 => fun (d : List (Int × List UInt8 × Int) × Int × Int × Int × Int) y h => (er21 rf rb d).trans h
  | 22 => fun (d : List (Int × List UInt8 × Int) × Int × Int × Int × Int) y h => (er22 rf rb d).trans h
  | 23 => fun (d : List (Int × List UInt8 × Int) × Int × Int × Int × Int) y h => (er23 rf rb d).trans h
  | 24 => fun (d : List (Int × List UInt8 × Int) × Int × Int × Int × Int) y h => (er24 rf rb d).trans h
  | 25 => fun (d : (List (Int × List UInt8 × Int) × Int × Int × Int × Int) × Int) y h => ((er25 rf rb d.1 d.2).trans (sr25 rf rb d.1 d.2)).trans h
  | 26 => fun (d : List (Int × List UInt8 × Int) × Int) y h => (er26 rf rb d.1 d.2).trans h
  | 27 => fun (d : (List (Int × List UInt8 × Int) × Int × Int × Int × Int) × Int × List UInt8 × Int) y h => (er27 rf rb d.1 d.2).trans h
  | 28 => fun (d : Int × Int × List UInt8 × List XL) y h => (er28 rf rb d.1 d.2.1 d.2.2.1 d.2.2.2).trans h
  | 29 => fun (d : Int × Int × List UInt8) y h => (er29 rf rb d.1 d.2.1 d.2.2).trans h
  | 30 => fun (d : XN) y h => (er30 rf rb d).trans h
  | 31 => fun (d : XL × XL) y h => (er31 rf rb d.1 d.2).trans h
  | 32 => fun (d : XN × Int) y h => (er32 rf rb d.1 d.2).trans h
  | 33 => fun (d : XN × List Int) y h => (er33 rf rb d.1 d.2).trans h
  | 34 => fun (d : (List (Int × List UInt8 × Int) × Int × Int × Int × Int) × List UInt8) y h => (er34 rf rb d.1 d.2).trans h
  | 35 => fun (d : (List (Int × List UInt8 × Int) × Int × Int × Int × Int) × List UInt8) y h => (er35 rf rb d.1 d.2).trans h
  | 36 => fun (d : (List (Int × List UInt8 × Int) × Int × Int × Int × Int) × List UInt8) y h => (er36 rf rb d.1 d.2).trans h
  | 37 => fun (d : List (Int × List UInt8 × Int) × Int × Int × Int × Int) y h => (er37 rf rb d).trans h
  | 38 => fun (d : (List (Int × List UInt8 × Int) × Int × Int × Int × Int) × List UInt8) y h => (er38 rf rb d.1 d.2).trans h
  | 39 => fun (d : List UInt8) y h => (er39 rf rb d).trans h
  | 40 => fun (d : List (Int × List UInt8 × Int) × Int × Int × Int × Int) y h => (er40 rf rb d).trans h
  | 41 => fun (d : List (Int × List UInt8 × Int) × Int × Int × Int × Int) y h => (er41 rf rb d).trans h
  | 42 => fun (d : (List (Int × List UInt8 × Int) × Int × Int × Int × Int) × Int × XL × XL) y h => (er42 rf rb d.1 d.2.1 d.2.2.1 d.2.2.2).trans h
  | 43 => fun (d : XL) y h => (er43 rf rb d).trans h
  | 44 => fun (d : List UInt8 × List UInt8) y h => (er44 rf rb d.1 d.2).trans h
  | 45 => fun (d : List (List UInt8 × XL)) y h => (er45 rf rb d).trans h
  | 46 => fun (d : XL) y h => (er46 rf rb d).trans h
  | 47 => fun (d : XL × Int) y h => (er47 rf rb d.1 d.2).trans h
  | 48 => fun (d : XL) y h => (er48 rf rb d).trans h
  | 49 => fun (d : XN) y h => (er49 rf rb d).trans h
  | 50 => fun (d : XN) y h => (er50 rf rb d).trans h
  | 51 => fun (d : XN × List Int) y h => (er51 rf rb d.1 d.2).trans h
  | 52 => fun (d : List Bool × Bool) y h => (er52 rf rb d.1 d.2).trans h
  | 53 => fun (d : List Bool × Bool) y h => (er53 rf rb d.1 d.2).trans h
  | 54 => fun (d : XL) y h => (er54 rf rb d).trans h
  | 55 => fun (d : XL) y h => (er55 rf rb d).trans h
  | 56 => fun (d : XL × XL × Int) y h => (er56 rf rb d.1 d.2.1 d.2.2).trans h
  | 57 => fun (d : XL × List (List UInt8) × Int) y h => (er57 rf rb d.1 d.2.1 d.2.2).trans h
  | 58 => fun (d : List (List UInt8) × List UInt8) y h => (er58 rf rb d.1 d.2).trans h
  | 59 => fun (d : List (List UInt8) × List UInt8) y h => (er59 rf rb d.1 d.2).trans h
  | 60 => fun (d : List Int × Int) y h => (er60 rf rb d.1 d.2).trans h
  | 61 => fun (d : List Int × Int) y h => ((er61 rf rb d.1 d.2).trans (sr61 rf rb d.1 d.2)).trans h
  | 62 => fun (d : List Int) y h => (er62 rf rb d).trans h
  | 63 => fun (d : List Int × Int) y h => (er63 rf rb d.1 d.2).trans h
  | 64 => fun (d : List Int × Int × Int) y h => (er64 rf rb d.1 d.2.1 d.2.2).trans h
  | 65 => fun (d : List Int × Int × Int) y h => ((er65 rf rb d.1 d.2.1 d.2.2).trans (sr65 rf rb d.1 d.2.1 d.2.2)).trans h
  | 66 => fun (d : List Int) y h => (er66 rf rb d).trans h
  | 67 => fun (d : List Int × Int × Int) y h => (er67 rf rb d.1 d.2.1 d.2.2).trans h
  | 68 => fun (d : List Int) y h => (er68 rf rb d).trans h
  | 69 => fun (d : List UInt8) y h => (er69 rf rb d).trans h
  | 70 => fun (d : Int × Int × Int × List (Int × List UInt8 × Int) × List UInt8) y h => ((er70 rf rb d.1 d.2.1 d.2.2.1 d.2.2.2.1 d.2.2.2.2).trans (sr70 rf rb d.1 d.2.1 d.2.2.1 d.2.2.2.1 d.2.2.2.2)).trans h
  | 71 => fun (d : Int × Int × Int × List (Int × List UInt8 × Int)) y h => (er71 rf rb d.1 d.2.1 d.2.2.1 d.2.2.2).trans h
  | 72 => fun (d : Int × Int × Int × List (Int × List UInt8 × Int) × Int) y h => (er72 rf rb d.1 d.2.1 d.2.2.1 d.2.2.2.1 d.2.2.2.2).trans h
  | 73 => fun (d : Int × Int × Int × List (Int × List UInt8 × Int) × Int) y h => ((er73 rf rb d.1 d.2.1 d.2.2.1 d.2.2.2.1 d.2.2.2.2).trans (sr73 rf rb d.1 d.2.1 d.2.2.1 d.2.2.2.1 d.2.2.2.2)).trans h
  | 74 => fun (d : List (Int × List UInt8 × Int) × Int × Int × Int) y h => (er74 rf rb d).trans h
  | 75 => fun (d : (List (Int × List UInt8 × Int) × Int × Int × Int) × List UInt8) y h => (er75 rf rb d.1 d.2).trans h
  | 76 => fun (d : (List (Int × List UInt8 × Int) × Int × Int × Int) × List UInt8) y h => ((er76 rf rb d.1 d.2).trans (sr76 rf rb d.1 d.2)).trans h
  | 77 => fun (d : List (Int × List UInt8 × Int) × Int × Int × Int) y h => (er77 rf rb d).trans h
  | 78 => fun (d : List (Int × List UInt8 × Int) × Int × Int × Int) y h => (er78 rf rb d).trans h
  | 79 => fun (d : List (Int × List UInt8 × Int) × Int × Int × Int) y h => ((er79 rf rb d).trans (sr79 rf rb d)).trans h
  | 80 => fun (d : (List (Int × List UInt8 × Int) × Int × Int × Int) × Int) y h => ((er80 rf rb d.1 d.2).trans (sr80 rf rb d.1 d.2)).trans h
  | 81 => fun (d : List (Int × List UInt8 × Int) × Int × Int × Int) y h => (er81 rf rb d).trans h
  | 82 => fun (d : (List (Int × List UInt8 × Int) × Int × Int × Int) × List UInt8) y h => (er82 rf rb d.1 d.2).trans h
  | 83 => fun (d : (List (Int × List UInt8 × Int) × Int × Int × Int) × Int) y h => (er83 rf rb d.1 d.2).trans h
  | 84 => fun (d : List (Int × List UInt8 × Int) × Int × Int × Int) y h => (er84 rf rb d).trans h
  | 85 => fun (d : List (Int × List UInt8 × Int) × Int × Int × Int) y h => (er85 rf rb d).trans h
  | 86 => fun (d : List (Int × List UInt8 × Int) × Int × Int × Int) y h => (er86 rf rb d).trans h
  | 87 => fun (d : List (Int × List UInt8 × Int) × Int × Int × Int) y h => (er87 rf rb d).trans h
  | 88 => fun (d : List (Int × List UInt8 × Int) × Int × Int × Int) y h => ((er88 rf rb d).trans (sr88 rf rb d)).trans h
  | 89 => fun (d : List (Int × List UInt8 × Int) × Int × Int × Int) y h => (er89 rf rb d).trans h
  | 90 => fun (d : List (Int × List UInt8 × Int) × Int × Int × Int) y h => (er90 rf rb d).trans h
  | 91 => fun (d : List (Int × List UInt8 × Int) × Int × Int × Int) y h => (er91 rf rb d).trans h
  | 92 => fun (d : List (List UInt8) × List (List UInt8)) y h => (er92 rf rb d.1 d.2).trans h
  | 93 => fun (d : List Int × List Int) y h => (er93 rf rb d.1 d.2).trans h
  | 94 => fun (d : List XU × List UInt8 × List UInt8) y h => (er94 rf rb d).trans h
  | 95 => fun (d : List (List UInt8 × XL) × Int) y h => (er95 rf rb d.1 d.2).trans h
  | 96 => fun (d : XL × XL) y h => (er96 rf rb d.1 d.2).trans h
  | 97 => fun (d : XL) y h => (er97 rf rb d).trans h
  | 98 => fun (d : XN) y h => (er98 rf rb d).trans h
  | 99 => fun (d : XN) y h => (er99 rf rb d).trans h
  | 100 => fun (d : XL × Int) y h => (er100 rf rb d.1 d.2).trans h
  | 101 => fun (d : List (List UInt8 × XL)) y h => (er101 rf rb d).trans h
  | n + 102 => fun _ _ h => by cases h

noncomputable def gB (rf : T.RF) (rb : T.RB) : T.RB := fun φ => match φ with
  | 0 => fun (d : List (List UInt8 × XL) × Int) => b0 rf rb d.1 d.2
  | 3 => fun (d : List UInt8 × Int) => b3 rf rb d.1 d.2
  | 4 => fun (d : List UInt8 × Int × Int) => b4 rf rb d.1 d.2.1 d.2.2
  | 5 => fun (d : List UInt8 × Int) => b5 rf rb d.1 d.2
  | 6 => fun (d : List (List UInt8) × List UInt8 × Int) => b6 rf rb d.1 d.2.1 d.2.2
  | 7 => fun (d : List UInt8 × Int) => b7 rf rb d.1 d.2
  | 8 => fun (d : List (List UInt8) × List UInt8 × Int) => b8 rf rb d.1 d.2.1 d.2.2
  | 9 => fun (d : (Int × Int) × List (Int × List UInt8 × Int) × List UInt8 × Int) => b9 rf rb d.1 d.2.1 d.2.2.1 d.2.2.2
  | 10 => fun (d : List UInt8 × Int) => b10 rf rb d.1 d.2
  | 14 => fun (d : XL × XL × Int × Int) => b14 rf rb d.1 d.2.1 d.2.2.1 d.2.2.2
  | 15 => fun (d : XL × List Int × Int × List XL × Int × Int) => b15 rf rb d.1 d.2.1 d.2.2.1 d.2.2.2.1 d.2.2.2.2.1 d.2.2.2.2.2
  | 17 => fun (d : (List (Int × List UInt8 × Int) × Int × Int × Int × Int) × List XL) => b17 rf rb d.1 d.2
  | 19 => fun (d : (List (Int × List UInt8 × Int) × Int × Int × Int × Int) × XL) => b19 rf rb d.1 d.2
  | 21 => fun (d : (List (Int × List UInt8 × Int) × Int × Int × Int × Int) × XL) => b21 rf rb d.1 d.2
  | 23 => fun (d : (List (Int × List UInt8 × Int) × Int × Int × Int × Int) × XL) => b23 rf rb d.1 d.2
  | 25 => fun (d : (List (Int × List UInt8 × Int) × Int × Int × Int × Int) × XL) => b25 rf rb d.1 d.2
  | 27 => fun (d : (List (Int × List UInt8 × Int) × Int × Int × Int × Int) × XL) => b27 rf rb d.1 d.2
  | 35 => fun (d : List Int × XL × Int) => b35 rf rb d.1 d.2.1 d.2.2
  | 36 => fun (d : List Int × List Int × Int × Int) => b36 rf rb d.1 d.2.1 d.2.2.1 d.2.2.2
  | 38 => fun (d : (Int × Int) × List (Int × List UInt8 × Int) × Int) => b38 rf rb d.1 d.2.1 d.2.2
  | 43 => fun (d : List Bool × XL × XL × Int × Int) => b43 rf rb d.1 d.2.1 d.2.2.1 d.2.2.2.1 d.2.2.2.2
  | 44 => fun (d : XN × Int) => b44 rf rb d.1 d.2
  | 45 => fun (d : XN × XN × Int) => b45 rf rb d.1 d.2.1 d.2.2
  | 46 => fun (d : List Bool × XN × List Int × XL × Int × Int × Int) => b46 rf rb d.1 d.2.1 d.2.2.1 d.2.2.2.1 d.2.2.2.2.1 d.2.2.2.2.2.1 d.2.2.2.2.2.2
  | 47 => fun (d : List Bool × Bool × Int × Int) => b47 rf rb d.1 d.2.1 d.2.2.1 d.2.2.2
  | 54 => fun (d : List Int × XL × Int × Int) => b54 rf rb d.1 d.2.1 d.2.2.1 d.2.2.2
  | 55 => fun (d : List Int × List Int × Int × Int × Int) => b55 rf rb d.1 d.2.1 d.2.2.1 d.2.2.2.1 d.2.2.2.2
  | 57 => fun (d : XL × List Int × XL × Int × Int) => b57 rf rb d.1 d.2.1 d.2.2.1 d.2.2.2.1 d.2.2.2.2
  | 58 => fun (d : List (List UInt8) × List UInt8 × Int × Int) => b58 rf rb d.1 d.2.1 d.2.2.1 d.2.2.2
  | 60 => fun (d : List Int × XL × List (List UInt8) × Int × Int) => b60 rf rb d.1 d.2.1 d.2.2.1 d.2.2.2.1 d.2.2.2.2
  | 67 => fun (d : List Int × Int) => b67 rf rb d.1 d.2
  | 77 => fun (d : List Int × Int × Int) => b77 rf rb d.1 d.2.1 d.2.2
  | 97 => fun (d : List (List UInt8 × List Int) × List (List UInt8 × XL) × Int × Int) => b97 rf rb d.1 d.2.1 d.2.2.1 d.2.2.2
  | 98 => fun (d : List (List UInt8 × List Int) × List Int × List (List Int) × List Int × List (List UInt8 × XL) × Int × Int) => b98 rf rb d.1 d.2.1 d.2.2.1 d.2.2.2.1 d.2.2.2.2.1 d.2.2.2.2.2.1 d.2.2.2.2.2.2
  | 99 => fun (d : List (List UInt8 × List Int) × List Int × List (List Int) × Int × List (List UInt8) × Int × Int) => b99 rf rb d.1 d.2.1 d.2.2.1 d.2.2.2.1 d.2.2.2.2.1 d.2.2.2.2.2.1 d.2.2.2.2.2.2
  | 100 => fun (d : List Int × List (List Int) × Int × List Int × Int × Int) => b100 rf rb d.1 d.2.1 d.2.2.1 d.2.2.2.1 d.2.2.2.2.1 d.2.2.2.2.2
  | 101 => fun (d : List Int × List Int × List Int × List (List Int)) => b101 rf rb d.1 d.2.1 d.2.2.1 d.2.2.2
  | 102 => fun (d : List Int × List Int × List Int × Int × Int) => b102 rf rb d.1 d.2.1 d.2.2.1 d.2.2.2.1 d.2.2.2.2
  | 106 => fun (d : (List (Int × List UInt8 × Int) × Int × Int × Int) × XP) => b106 rf rb d.1 d.2
  | 108 => fun (d : (List (Int × List UInt8 × Int) × Int × Int × Int) × (Int × Int) × XL × Int) => b108 rf rb d.1 d.2.1 d.2.2.1 d.2.2.2
  | 110 => fun (d : (List (Int × List UInt8 × Int) × Int × Int × Int) × List XL) => b110 rf rb d.1 d.2
  | 111 => fun (d : (List (Int × List UInt8 × Int) × Int × Int × Int) × List XI) => b111 rf rb d.1 d.2
  | 113 => fun (d : (List (Int × List UInt8 × Int) × Int × Int × Int) × XP) => b113 rf rb d.1 d.2
  | 115 => fun (d : (List (Int × List UInt8 × Int) × Int × Int × Int) × List (List UInt8 × XL)) => b115 rf rb d.1 d.2
  | 130 => fun (d : (List (Int × List UInt8 × Int) × Int × Int × Int) × List UInt8 × List UInt8 × List XU) => b130 rf rb d.1 d.2.1 d.2.2.1 d.2.2.2
  | 131 => fun (d : List UInt8 × List UInt8 × (Int × Int) × (List (Int × List UInt8 × Int) × Int × Int × Int) × List UInt8 × List UInt8 × List XU × List XU) => b131 rf rb d.1 d.2.1 d.2.2.1 d.2.2.2.1 d.2.2.2.2.1 d.2.2.2.2.2.1 d.2.2.2.2.2.2.1 d.2.2.2.2.2.2.2
  | 132 => fun (d : List (List UInt8) × List (List UInt8) × Int) => b132 rf rb d.1 d.2.1 d.2.2
  | 133 => fun (d : List Int × List Int × Int) => b133 rf rb d.1 d.2.1 d.2.2
  | 134 => fun (d : (Int × Int) × List XU × Int × Int) => b134 rf rb d.1 d.2.1 d.2.2.1 d.2.2.2
  | 135 => fun (d : List Int × List Int × List (List UInt8 × XL) × Int) => b135 rf rb d.1 d.2.1 d.2.2.1 d.2.2.2
  | 136 => fun (d : List Int × List (List UInt8 × XL) × Int) => b136 rf rb d.1 d.2.1 d.2.2
  | 137 => fun (d : List Int × List (List UInt8 × XL) × Int × List (List UInt8) × Int) => b137 rf rb d.1 d.2.1 d.2.2.1 d.2.2.2.1 d.2.2.2.2
  | 138 => fun (d : List Int × List (List UInt8 × XL) × Int × List (List UInt8) × Int × Int) => b138 rf rb d.1 d.2.1 d.2.2.1 d.2.2.2.1 d.2.2.2.2.1 d.2.2.2.2.2
  | 140 => fun (d : List (List UInt8 × XL) × List (List UInt8 × XL) × Int) => b140 rf rb d.1 d.2.1 d.2.2
  | 141 => fun (d : List Int × XL × Int) => b141 rf rb d.1 d.2.1 d.2.2
  | 142 => fun (d : List Int × List Int × Int × Int) => b142 rf rb d.1 d.2.1 d.2.2.1 d.2.2.2
  | 143 => fun (d : XN × List Int × XL × Int) => b143 rf rb d.1 d.2.1 d.2.2.1 d.2.2.2
  | 144 => fun (d : List Int × XL × Int) => b144 rf rb d.1 d.2.1 d.2.2
  | 145 => fun (d : List (List UInt8 × XL) × Int) => b145 rf rb d.1 d.2
  | 146 => fun (d : List (List UInt8 × XL) × List (List UInt8) × Int) => b146 rf rb d.1 d.2.1 d.2.2
  | 147 => fun (d : List (List UInt8 × XL) × List (List UInt8) × Int × Int) => b147 rf rb d.1 d.2.1 d.2.2.1 d.2.2.2
  | 148 => fun (d : List Int × Int) => b148 rf rb d.1 d.2
  | _ => fun _ => none
theorem gB_ok (rf : T.RF) (rb : T.RB) : ∀ φ d y, gB rf rb φ d = some y → T.stepB rf rb φ d = some y := fun φ => match φ with
  | 0 => fun (d : List (List UInt8 × XL) × Int) y h => (eb0 rf rb d.1 d.2).trans h
  | 1 => fun _ _ h => by cases h
  | 2 => fun _ _ h => by cases h
  | 3 => fun (d : List UInt8 × Int) y h => (eb3 rf rb d.1 d.2).trans h
  | 4 => fun (d : List UInt8 × Int × Int) y h => (eb4 rf rb d.1 d.2.1 d.2.2).trans h
  | 5 => fun (d : List UInt8 × Int) y h => (eb5 rf rb d.1 d.2).trans h
  | 6 => fun (d : List (List UInt8) × List UInt8 × Int) y h => (eb6 rf rb d.1 d.2.1 d.2.2).trans h
  | 7 => fun (d : List UInt8 × Int) y h => (eb7 rf rb d.1 d.2).trans h
  | 8 => fun (d : List (List UInt8) × List UInt8 × Int) y h => (eb8 rf rb d.1 d.2.1 d.2.2).trans h
  | 9 => fun (d : (Int × Int) × List (Int × List UInt8 × Int) × List UInt8 × Int) y h => (eb9 rf rb d.1 d.2.1 d.2.2.1 d.2.2.2).trans h
  | 10 => fun (d : List UInt8 × Int) y h => (eb10 rf rb d.1 d.2).trans h
  | 11 => fun _ _ h => by cases h
  | 12 => fun _ _ h => by cases h
  | 13 => fun _ _ h => by cases h
  | 14 => fun (d : XL × XL × Int × Int) y h => (eb14 rf rb d.1 d.2.1 d.2.2.1 d.2.2.2).trans h
  | 15 => fun (d : XL × List Int × Int × List XL × Int × Int) y h => (eb15 rf rb d.1 d.2.1 d.2.2.1 d.2.2.2.1 d.2.2.2.2.1 d.2.2.2.2.2).trans h
  | 16 => fun _ _ h => by cases h
  | 17 => fun (d : (List (Int × List UInt8 × Int) × Int × Int × Int × Int) × List XL) y h => (eb17 rf rb d.1 d.2).trans h
  | 18 => fun _ _ h => by cases h
  | 19 => fun (d : (List (Int × List UInt8 × Int) × Int × Int × Int × Int) × XL) y h => (eb19 rf rb d.1 d.2).trans h
  | 20 => fun _ _ h => by cases h
  | 21 => fun (d : (List (Int × List UInt8 × Int) × Int × Int × Int × Int) × XL) y h => (eb21 rf rb d.1 d.2).trans h
  | 22 => fun _ _ h => by cases h
  | 23 => fun (d : (List (Int × List UInt8 × Int) × Int × Int × Int × Int) × XL) y h => (eb23 rf rb d.1 d.2).trans h
  | 24 => fun _ _ h => by cases h
  | 25 => fun (d : (List (Int × List UInt8 × Int) × Int × Int × Int × Int) × XL) y h => (eb25 rf rb d.1 d.2).trans h
  | 26 => fun _ _ h => by cases h
  | 27 => fun (d : (List (Int × List UInt8 × Int) × Int × Int × Int × Int) × XL) y h => (eb27 rf rb d.1 d.2).trans h
  | 28 => fun _ _ h => by cases h
  | 29 => fun _ _ h => by cases h
  | 30 => fun _ _ h => by cases h
  | 31 => fun _ _ h => by cases h
  | 32 => fun _ _ h => by cases h
  | 33 => fun _ _ h => by cases h
  | 34 => fun _ _ h => by cases h
  | 35 => fun (d : List Int × XL × Int) y h => (eb35 rf rb d.1 d.2.1 d.2.2).trans h
  | 36 => fun (d : List Int × List Int × Int × Int) y h => ((eb36 rf rb d.1 d.2.1 d.2.2.1 d.2.2.2).trans (sb36 rf rb d.1 d.2.1 d.2.2.1 d.2.2.2)).trans h
  | 37 => fun _ _ h => by cases h
  | 38 => fun (d : (Int × Int) × List (Int × List UInt8 × Int) × Int) y h => (eb38 rf rb d.1 d.2.1 d.2.2).trans h
  | 39 => fun _ _ h => by cases h
  | 40 => fun _ _ h => by cases h
  | 41 => fun _ _ h => by cases h
  | 42 => fun _ _ h => by cases h
  | 43 => fun (d : List Bool × XL × XL × Int × Int) y h => (eb43 rf rb d.1 d.2.1 d.2.2.1 d.2.2.2.1 d.2.2.2.2).trans h
  | 44 => fun (d : XN × Int) y h => ((eb44 rf rb d.1 d.2).trans (sb44 rf rb d.1 d.2)).trans h
  | 45 => fun (d : XN × XN × Int) y h => (eb45 rf rb d.1 d.2.1 d.2.2).trans h
  | 46 => fun (d : List Bool × XN × List Int × XL × Int × Int × Int) y h => (eb46 rf rb d.1 d.2.1 d.2.2.1 d.2.2.2.1 d.2.2.2.2.1 d.2.2.2.2.2.1 d.2.2.2.2.2.2).trans h
  | 47 => fun (d : List Bool × Bool × Int × Int) y h => (eb47 rf rb d.1 d.2.1 d.2.2.1 d.2.2.2).trans h
  | 48 => fun _ _ h => by cases h
  | 49 => fun _ _ h => by cases h
  | 50 => fun _ _ h => by cases h
  | 51 => fun _ _ h => by cases h
  | 52 => fun _ _ h => by cases h
  | 53 => fun _ _ h => by cases h
  | 54 => fun (d : List Int × XL × Int × Int) y h => (eb54 rf rb d.1 d.2.1 d.2.2.1 d.2.2.2).trans h
  | 55 => fun (d : List Int × List Int × Int × Int × Int) y h => ((eb55 rf rb d.1 d.2.1 d.2.2.1 d.2.2.2.1 d.2.2.2.2).trans (sb55 rf rb d.1 d.2.1 d.2.2.1 d.2.2.2.1 d.2.2.2.2)).trans h
  | 56 => fun _ _ h => by cases h
  | 57 => fun (d : XL × List Int × XL × Int × Int) y h => (eb57 rf rb d.1 d.2.1 d.2.2.1 d.2.2.2.1 d.2.2.2.2).trans h
  | 58 => fun (d : List (List UInt8) × List UInt8 × Int × Int) y h => (eb58 rf rb d.1 d.2.1 d.2.2.1 d.2.2.2).trans h
  | 59 => fun _ _ h => by cases h
  | 60 => fun (d : List Int × XL × List (List UInt8) × Int × Int) y h => (eb60 rf rb d.1 d.2.1 d.2.2.1 d.2.2.2.1 d.2.2.2.2).trans h
  | 61 => fun _ _ h => by cases h
  | 62 => fun _ _ h => by cases h
  | 63 => fun _ _ h => by cases h
  | 64 => fun _ _ h => by cases h
  | 65 => fun _ _ h => by cases h
  | 66 => fun _ _ h => by cases h
  | 67 => fun (d : List Int × Int) y h => (eb67 rf rb d.1 d.2).trans h
  | 68 => fun _ _ h => by cases h
  | 69 => fun _ _ h => by cases h
  | 70 => fun _ _ h => by cases h
  | 71 => fun _ _ h => by cases h
  | 72 => fun _ _ h => by cases h
  | 73 => fun _ _ h => by cases h
  | 74 => fun _ _ h => by cases h
  | 75 => fun _ _ h => by cases h
  | 76 => fun _ _ h => by cases h
  | 77 => fun (d : List Int × Int × Int) y h => (eb77 rf rb d.1 d.2.1 d.2.2).trans h
  | 78 => fun _ _ h => by cases h
  | 79 => fun _ _ h => by cases h
  | 80 => fun _ _ h => by cases h
  | 81 => fun _ _ h => by cases h
  | 82 => fun _ _ h => by cases h
  | 83 => fun _ _ h => by cases h
  | 84 => fun _ _ h => by cases h
  | 85 => fun _ _ h => by cases h
  | 86 => fun _ _ h => by cases h
  | 87 => fun _ _ h => by cases h
  | 88 => fun _ _ h => by cases h
  | 89 => fun _ _ h => by cases h
  | 90 => fun _ _ h => by cases h
  | 91 => fun _ _ h => by cases h
  | 92 => fun _ _ h => by cases h
  | 93 => fun _ _ h => by cases h
  | 94 => fun _ _ h => by cases h
  | 95 => fun _ _ h => by cases h
  | 96 => fun _ _ h => by cases h
  | 97 => fun (d : List (List UInt8 × List Int) × List (List UInt8 × XL) × Int × Int) y h => ((eb97 rf rb d.1 d.2.1 d.2.2.1 d.2.2.2).trans (sb97 rf rb d.1 d.2.1 d.2.2.1 d.2.2.2)).trans h
  | 98 => fun (d : List (List UInt8 × List Int) × List Int × List (List Int) × List Int × List (List UInt8 × XL) × Int × Int) y h => (eb98 rf rb d.1 d.2.1 d.2.2.1 d.2.2.2.1 d.2.2.2.2.1 d.2.2.2.2.2.1 d.2.2.2.2.2.2).trans h
  | 99 => fun (d : List (List UInt8 × List Int) × List Int × List (List Int) × Int × List (List UInt8) × Int × Int) y h => (eb99 rf rb d.1 d.2.1 d.2.2.1 d.2.2.2.1 d.2.2.2.2.1 d.2.2.2.2.2.1 d.2.2.2.2.2.2).trans h
  | 100 => fun (d : List Int × List (List Int) × Int × List Int × Int × Int) y h => (eb100 rf rb d.1 d.2.1 d.2.2.1 d.2.2.2.1 d.2.2.2.2.1 d.2.2.2.2.2).trans h
  | 101 => fun (d : List Int × List Int × List Int × List (List Int)) y h => (eb101 rf rb d.1 d.2.1 d.2.2.1 d.2.2.2).trans h
  | 102 => fun (d : List Int × List Int × List Int × Int × Int) y h => (eb102 rf rb d.1 d.2.1 d.2.2.1 d.2.2.2.1 d.2.2.2.2).trans h
  | 103 => fun _ _ h => by cases h
  | 104 => fun _ _ h => by cases h
  | 105 => fun _ _ h => by cases h
  | 106 => fun (d : (List (Int × List UInt8 × Int) × Int × Int × Int) × XP) y h => (eb106 rf rb d.1 d.2).trans h
  | 107 => fun _ _ h => by cases h
  | 108 => fun (d : (List (Int × List UInt8 × Int) × Int × Int × Int) × (Int × Int) × XL × Int) y h => (eb108 rf rb d.1 d.2.1 d.2.2.1 d.2.2.2).trans h
  | 109 => fun _ _ h => by cases h
  | 110 => fun (d : (List (Int × List UInt8 × Int) × Int × Int × Int) × List XL) y h => (eb110 rf rb d.1 d.2).trans h
  | 111 => fun (d : (List (Int × List UInt8 × Int) × Int × Int × Int) × List XI) y h => (eb111 rf rb d.1 d.2).trans h
  | 112 => fun _ _ h => by cases h
  | 113 => fun (d : (List (Int × List UInt8 × Int) × Int × Int × Int) × XP) y h => (eb113 rf rb d.1 d.2).trans h
  | 114 => fun _ _ h => by cases h
  | 115 => fun (d : (List (Int × List UInt8 × Int) × Int × Int × Int) × List (List UInt8 × XL)) y h => (eb115 rf rb d.1 d.2).trans h
  | 116 => fun _ _ h => by cases h
  | 117 => fun _ _ h => by cases h
  | 118 => fun _ _ h => by cases h
  | 119 => fun _ _ h => by cases h
  | 120 => fun _ _ h => by cases h
  | 121 => fun _ _ h => by cases h
  | 122 => fun _ _ h => by cases h
  | 123 => fun _ _ h => by cases h
  | 124 => fun _ _ h => by cases h
  | 125 => fun _ _ h => by cases h
  | 126 => fun _ _ h => by cases h
  | 127 => fun _ _ h => by cases h
  | 128 => fun _ _ h => by cases h
  | 129 => fun _ _ h => by cases h
  | 130 => fun (d : (List (Int × List UInt8 × Int) × Int × Int × Int) × List UInt8 × List UInt8 × List XU) y h => ((eb130 rf rb d.1 d.2.1 d.2.2.1 d.2.2.2).trans (sb130 rf rb d.1 d.2.1 d.2.2.1 d.2.2.2)).trans h
  | 131 => fun (d : List UInt8 × List UInt8 × (Int × Int) × (List (Int × List UInt8 × Int) × Int × Int × Int) × List UInt8 × List UInt8 × List XU × List XU) y h => ((eb131 rf rb d.1 d.2.1 d.2.2.1 d.2.2.2.1 d.2.2.2.2.1 d.2.2.2.2.2.1 d.2.2.2.2.2.2.1 d.2.2.2.2.2.2.2).trans (sb131 rf rb d.1 d.2.1 d.2.2.1 d.2.2.2.1 d.2.2.2.2.1 d.2.2.2.2.2.1 d.2.2.2.2.2.2.1 d.2.2.2.2.2.2.2)).trans h
  | 132 => fun (d : List (List UInt8) × List (List UInt8) × Int) y h => (eb132 rf rb d.1 d.2.1 d.2.2).trans h
  | 133 => fun (d : List Int × List Int × Int) y h => (eb133 rf rb d.1 d.2.1 d.2.2).trans h
  | 134 => fun (d : (Int × Int) × List XU × Int × Int) y h => (eb134 rf rb d.1 d.2.1 d.2.2.1 d.2.2.2).trans h
  | 135 => fun (d : List Int × List Int × List (List UInt8 × XL) × Int) y h => (eb135 rf rb d.1 d.2.1 d.2.2.1 d.2.2.2).trans h
  | 136 => fun (d : List Int × List (List UInt8 × XL) × Int) y h => (eb136 rf rb d.1 d.2.1 d.2.2).trans h
  | 137 => fun (d : List Int × List (List UInt8 × XL) × Int × List (List UInt8) × Int) y h => (eb137 rf rb d.1 d.2.1 d.2.2.1 d.2.2.2.1 d.2.2.2.2).trans h
  | 138 => fun (d : List Int × List (List UInt8 × XL) × Int × List (List UInt8) × Int × Int) y h => (eb138 rf rb d.1 d.2.1 d.2.2.1 d.2.2.2.1 d.2.2.2.2.1 d.2.2.2.2.2).trans h
  | 139 => fun _ _ h => by cases h
  | 140 => fun (d : List (List UInt8 × XL) × List (List UInt8 × XL) × Int) y h => (eb140 rf rb d.1 d.2.1 d.2.2).trans h
  | 141 => fun (d : List Int × XL × Int) y h => (eb141 rf rb d.1 d.2.1 d.2.2).trans h
  | 142 => fun (d : List Int × List Int × Int × Int) y h => (eb142 rf rb d.1 d.2.1 d.2.2.1 d.2.2.2).trans h
  | 143 => fun (d : XN × List Int × XL × Int) y h => (eb143 rf rb d.1 d.2.1 d.2.2.1 d.2.2.2).trans h
  | 144 => fun (d : List Int × XL × Int) y h => (eb144 rf rb d.1 d.2.1 d.2.2).trans h
  | 145 => fun (d : List (List UInt8 × XL) × Int) y h => (eb145 rf rb d.1 d.2).trans h
  | 146 => fun (d : List (List UInt8 × XL) × List (List UInt8) × Int) y h => (eb146 rf rb d.1 d.2.1 d.2.2).trans h
  | 147 => fun (d : List (List UInt8 × XL) × List (List UInt8) × Int × Int) y h => (eb147 rf rb d.1 d.2.1 d.2.2.1 d.2.2.2).trans h
  | 148 => fun (d : List Int × Int) y h => (eb148 rf rb d.1 d.2).trans h
  | n + 149 => fun _ _ h => by cases h

noncomputable def G : Nat → T.RF × T.RB
  | 0 => (fun _ _ => none, fun _ _ => none)
  | n + 1 => (gF (G n).1 (G n).2, gB (G n).1 (G n).2)
theorem run_F (n : Nat) {φ : Nat} {d} {y} (h : (G n).1 φ d = some y) : T.rf φ d = some y := (Tbl.approx gF_ok gB_ok rfl (fun _ => rfl) n).1 φ d y h
theorem run_B (n : Nat) {κ : Nat} {d} {y} (h : (G n).2 κ d = some y) : T.rb κ d = some y := (Tbl.approx gF_ok gB_ok rfl (fun _ => rfl) n).2 κ d y h
theorem live_run : c2 T.rf = some true := run_F 400 (φ := 2) (d := ()) (by kernel_rfl)
end Go.Proofs.Ytifoobdekbjmdaa.R
