/-
  OUR OWN, PRINTED BY A PROGRAM OF OURS (table2.py): what a function comes to can be computed.
-/
import Derived.Test.YtcgipnodielieaaRes
import Derived.Test.YtcgipnodielieaaBmRun
import Derived.KernelRfl
namespace Go.Proofs.Ytcgipnodielieaa.R
open Go Go.Bm Go.Proofs
set_option linter.unusedVariables false
set_option maxRecDepth 100000

noncomputable def gF (rf : T.RF) (rb : T.RB) : T.RF := fun φ => match φ with
  | 0 => fun (d : List (Int × Int × Int × Int × Int × List UInt8)) => r0 rf rb d
  | 1 => fun (d : Unit) => r1 rf rb 
  | 2 => fun (d : List UInt8) => r2 rf rb d
  | 3 => fun (d : List UInt8) => r3 rf rb d
  | 4 => fun (d : List UInt8 × Int) => r4 rf rb d.1 d.2
  | 5 => fun (d : Int) => r5 rf rb d
  | 6 => fun (d : List UInt8) => r6 rf rb d
  | 7 => fun (d : Int) => r7 rf rb d
  | 8 => fun (d : List UInt8 × Int) => r8 rf rb d.1 d.2
  | 9 => fun (d : List UInt8) => r9 rf rb d
  | 10 => fun (d : Unit) => r10 rf rb 
  | 11 => fun (d : List UInt8) => r11 rf rb d
  | 12 => fun (d : List UInt8) => r12 rf rb d
  | 13 => fun (d : Unit) => r13 rf rb 
  | 14 => fun (d : List (Int × List UInt8 × Int) × Int) => r14 rf rb d.1 d.2
  | 15 => fun (d : List (Int × List UInt8 × Int) × Int × Int × Int × Int) => r15 rf rb d
  | 16 => fun (d : List (Int × List UInt8 × Int) × Int × Int × Int × Int) => r16 rf rb d
  | 17 => fun (d : List (Int × List UInt8 × Int) × Int × Int × Int × Int) => r17 rf rb d
  | 18 => fun (d : List (Int × List UInt8 × Int) × Int × Int × Int × Int) => r18 rf rb d
  | 19 => fun (d : List (Int × List UInt8 × Int) × Int × Int × Int × Int) => r19 rf rb d
  | 20 => fun (d : List (Int × List UInt8 × Int) × Int × Int × Int × Int) => r20 rf rb d
  | 21 => fun (d : List (Int × List UInt8 × Int) × Int × Int × Int × Int) => r21 rf rb d
  | 22 => fun (d : List (Int × List UInt8 × Int) × Int × Int × Int × Int) => r22 rf rb d
  | 23 => fun (d : List (Int × List UInt8 × Int) × Int × Int × Int × Int) => r23 rf rb d
  | 24 => fun (d : (List (Int × List UInt8 × Int) × Int × Int × Int × Int) × Int) => r24 rf rb d.1 d.2
  | 25 => fun (d : List (Int × List UInt8 × Int) × Int) => r25 rf rb d.1 d.2
  | 26 => fun (d : (List (Int × List UInt8 × Int) × Int × Int × Int × Int) × Int × List UInt8 × Int) => r26 rf rb d.1 d.2
  | 27 => fun (d : Int × Int × List UInt8 × List (List (Int × Int × Int × Int × Int × List UInt8))) => r27 rf rb d.1 d.2.1 d.2.2.1 d.2.2.2
  | 28 => fun (d : Int × Int × List UInt8) => r28 rf rb d.1 d.2.1 d.2.2
  | 29 => fun (d : Int × Int × Int × Int × Int × List UInt8) => r29 rf rb d
  | 30 => fun (d : List (Int × Int × Int × Int × Int × List UInt8) × List (Int × Int × Int × Int × Int × List UInt8)) => r30 rf rb d.1 d.2
  | 31 => fun (d : (Int × Int × Int × Int × Int × List UInt8) × Int) => r31 rf rb d.1 d.2
  | 32 => fun (d : (Int × Int × Int × Int × Int × List UInt8) × List Int) => r32 rf rb d.1 d.2
  | 33 => fun (d : (List (Int × List UInt8 × Int) × Int × Int × Int × Int) × List UInt8) => r33 rf rb d.1 d.2
  | 34 => fun (d : (List (Int × List UInt8 × Int) × Int × Int × Int × Int) × List UInt8) => r34 rf rb d.1 d.2
  | 35 => fun (d : (List (Int × List UInt8 × Int) × Int × Int × Int × Int) × List UInt8) => r35 rf rb d.1 d.2
  | 36 => fun (d : List (Int × List UInt8 × Int) × Int × Int × Int × Int) => r36 rf rb d
  | 37 => fun (d : (List (Int × List UInt8 × Int) × Int × Int × Int × Int) × List UInt8) => r37 rf rb d.1 d.2
  | 38 => fun (d : List UInt8) => r38 rf rb d
  | 39 => fun (d : List (Int × List UInt8 × Int) × Int × Int × Int × Int) => r39 rf rb d
  | 40 => fun (d : List (Int × List UInt8 × Int) × Int × Int × Int × Int) => r40 rf rb d
  | 41 => fun (d : (List (Int × List UInt8 × Int) × Int × Int × Int × Int) × Int × List (Int × Int × Int × Int × Int × List UInt8) × List (Int × Int × Int × Int × Int × List UInt8)) => r41 rf rb d.1 d.2.1 d.2.2.1 d.2.2.2
  | 42 => fun (d : List (Int × Int × Int × Int × Int × List UInt8)) => r42 rf rb d
  | 43 => fun (d : List (Int × Int × Int × Int × Int × List UInt8)) => r43 rf rb d
  | 44 => fun (d : List (Int × Int × Int × Int × Int × List UInt8)) => r44 rf rb d
  | 45 => fun (d : Int × Int × Int × Int × Int × List UInt8) => r45 rf rb d
  | 46 => fun (d : Int × Int × Int × Int × Int × List UInt8) => r46 rf rb d
  | 47 => fun (d : (Int × Int × Int × Int × Int × List UInt8) × List Int) => r47 rf rb d.1 d.2
  | 48 => fun (d : List Bool × Bool) => r48 rf rb d.1 d.2
  | 49 => fun (d : List Bool × Bool) => r49 rf rb d.1 d.2
  | 50 => fun (d : List (Int × Int × Int × Int × Int × List UInt8)) => r50 rf rb d
  | 51 => fun (d : List (Int × Int × Int × Int × Int × List UInt8)) => r51 rf rb d
  | 52 => fun (d : List Bool × List Int) => r52 rf rb d.1 d.2
  | 53 => fun (d : List UInt8) => r53 rf rb d
  | 54 => fun (d : Int × Int × Int × List (Int × List UInt8 × Int) × List UInt8) => r54 rf rb d.1 d.2.1 d.2.2.1 d.2.2.2.1 d.2.2.2.2
  | 55 => fun (d : Int × Int × Int × List (Int × List UInt8 × Int)) => r55 rf rb d.1 d.2.1 d.2.2.1 d.2.2.2
  | 56 => fun (d : Int × Int × Int × List (Int × List UInt8 × Int) × Int) => r56 rf rb d.1 d.2.1 d.2.2.1 d.2.2.2.1 d.2.2.2.2
  | 57 => fun (d : Int × Int × Int × List (Int × List UInt8 × Int) × Int) => r57 rf rb d.1 d.2.1 d.2.2.1 d.2.2.2.1 d.2.2.2.2
  | 58 => fun (d : List (Int × List UInt8 × Int) × Int × Int × Int) => r58 rf rb d
  | 59 => fun (d : (List (Int × List UInt8 × Int) × Int × Int × Int) × List UInt8) => r59 rf rb d.1 d.2
  | 60 => fun (d : (List (Int × List UInt8 × Int) × Int × Int × Int) × List UInt8) => r60 rf rb d.1 d.2
  | 61 => fun (d : List (Int × List UInt8 × Int) × Int × Int × Int) => r61 rf rb d
  | 62 => fun (d : List (Int × List UInt8 × Int) × Int × Int × Int) => r62 rf rb d
  | 63 => fun (d : List (Int × List UInt8 × Int) × Int × Int × Int) => r63 rf rb d
  | 64 => fun (d : (List (Int × List UInt8 × Int) × Int × Int × Int) × Int) => r64 rf rb d.1 d.2
  | 65 => fun (d : List (Int × List UInt8 × Int) × Int × Int × Int) => r65 rf rb d
  | 66 => fun (d : (List (Int × List UInt8 × Int) × Int × Int × Int) × List UInt8) => r66 rf rb d.1 d.2
  | 67 => fun (d : (List (Int × List UInt8 × Int) × Int × Int × Int) × Int) => r67 rf rb d.1 d.2
  | 68 => fun (d : List (Int × List UInt8 × Int) × Int × Int × Int) => r68 rf rb d
  | 69 => fun (d : List (Int × List UInt8 × Int) × Int × Int × Int) => r69 rf rb d
  | 70 => fun (d : List (Int × List UInt8 × Int) × Int × Int × Int) => r70 rf rb d
  | 71 => fun (d : List (Int × List UInt8 × Int) × Int × Int × Int) => r71 rf rb d
  | 72 => fun (d : List (Int × List UInt8 × Int) × Int × Int × Int) => r72 rf rb d
  | 73 => fun (d : List (Int × List UInt8 × Int) × Int × Int × Int) => r73 rf rb d
  | 74 => fun (d : List (Int × List UInt8 × Int) × Int × Int × Int) => r74 rf rb d
  | 75 => fun (d : List (Int × List UInt8 × Int) × Int × Int × Int) => r75 rf rb d
  | 76 => fun (d : List (Bool × List UInt8 × List (List UInt8 × Int) × List UInt8 × Int × List (List UInt8 × Int) × List (List UInt8 × List (Int × Int × Int × Int × Int × List UInt8)) × List (Int × List UInt8 × Int × List (Int × Int × Int × Int × Int × List UInt8) × List (Int × Int × Int × Int × Int × List UInt8) × List (List (Int × Int × Int × Int × Int × List UInt8)))) × List UInt8 × List UInt8) => r76 rf rb d
  | 77 => fun (d : Bool × List UInt8 × List (List UInt8 × Int) × List UInt8 × Int × List (List UInt8 × Int) × List (List UInt8 × List (Int × Int × Int × Int × Int × List UInt8)) × List (Int × List UInt8 × Int × List (Int × Int × Int × Int × Int × List UInt8) × List (Int × Int × Int × Int × Int × List UInt8) × List (List (Int × Int × Int × Int × Int × List UInt8)))) => r77 rf rb d
  | 78 => fun (d : List (Int × Int × Int × Int × Int × List UInt8)) => r78 rf rb d
  | 79 => fun (d : List (Int × Int × Int × Int × Int × List UInt8)) => r79 rf rb d
  | 80 => fun (d : Int × Int × Int × Int × Int × List UInt8) => r80 rf rb d
  | 81 => fun (d : Int × Int × Int × Int × Int × List UInt8) => r81 rf rb d
  | 82 => fun (d : List (Int × Int × Int × Int × Int × List UInt8) × Int) => r82 rf rb d.1 d.2
  | 83 => fun (d : List Int × List (Int × Int × Int × Int × Int × List UInt8) × Int) => r83 rf rb d.1 d.2.1 d.2.2
  | 84 => fun (d : List (Bool × List UInt8 × List (List UInt8 × Int) × List UInt8 × Int × List (List UInt8 × Int) × List (List UInt8 × List (Int × Int × Int × Int × Int × List UInt8)) × List (Int × List UInt8 × Int × List (Int × Int × Int × Int × Int × List UInt8) × List (Int × Int × Int × Int × Int × List UInt8) × List (List (Int × Int × Int × Int × Int × List UInt8)))) × List UInt8 × List UInt8) => r84 rf rb d
  | 85 => fun (d : List (Bool × List UInt8 × List (List UInt8 × Int) × List UInt8 × Int × List (List UInt8 × Int) × List (List UInt8 × List (Int × Int × Int × Int × Int × List UInt8)) × List (Int × List UInt8 × Int × List (Int × Int × Int × Int × Int × List UInt8) × List (Int × Int × Int × Int × Int × List UInt8) × List (List (Int × Int × Int × Int × Int × List UInt8)))) × List UInt8 × List UInt8) => r85 rf rb d
  | 86 => fun (d : List (Bool × List UInt8 × List (List UInt8 × Int) × List UInt8 × Int × List (List UInt8 × Int) × List (List UInt8 × List (Int × Int × Int × Int × Int × List UInt8)) × List (Int × List UInt8 × Int × List (Int × Int × Int × Int × Int × List UInt8) × List (Int × Int × Int × Int × Int × List UInt8) × List (List (Int × Int × Int × Int × Int × List UInt8)))) × List UInt8 × List UInt8) => r86 rf rb d
  | 87 => fun (d : List (Int × Int × Int × Int × Int × List UInt8)) => r87 rf rb d
  | 88 => fun (d : List (Int × Int × Int × Int × Int × List UInt8)) => r88 rf rb d
  | 89 => fun (d : List (Int × Int × Int × Int × Int × List UInt8)) => r89 rf rb d
  | 90 => fun (d : List (Int × Int × Int × Int × Int × List UInt8)) => r90 rf rb d
  | 91 => fun (d : List (Int × Int × Int × Int × Int × List UInt8)) => r91 rf rb d
  | 92 => fun (d : List (Int × Int × Int × Int × Int × List UInt8) × Int) => r92 rf rb d.1 d.2
  | 93 => fun (d : List (Int × Int × Int × Int × Int × List UInt8) × List (Int × Int × Int × Int × Int × List UInt8) × Int) => r93 rf rb d.1 d.2.1 d.2.2
  | 94 => fun (d : List (Int × Int × Int × Int × Int × List UInt8) × List (Int × Int × Int × Int × Int × List UInt8)) => r94 rf rb d.1 d.2
  | _ => fun _ => none
theorem gF_ok (rf : T.RF) (rb : T.RB) : ∀ φ d y, gF rf rb φ d = some y → T.stepF rf rb φ d = some y := fun φ => match φ with
  | 0 => fun (d : List (Int × Int × Int × Int × Int × List UInt8)) y h => (er0 rf rb d).trans h
  | 1 => fun (d : Unit) y h => (er1 rf rb ).trans h
  | 2 => fun (d : List UInt8) y h => (er2 rf rb d).trans h
  | 3 => fun (d : List UInt8) y h => (er3 rf rb d).trans h
  | 4 => fun (d : List UInt8 × Int) y h => (er4 rf rb d.1 d.2).trans h
  | 5 => fun (d : Int) y h => (er5 rf rb d).trans h
  | 6 => fun (d : List UInt8) y h => (er6 rf rb d).trans h
  | 7 => fun (d : Int) y h => (er7 rf rb d).trans h
  | 8 => fun (d : List UInt8 × Int) y h => (er8 rf rb d.1 d.2).trans h
  | 9 => fun (d : List UInt8) y h => (er9 rf rb d).trans h
  | 10 => fun (d : Unit) y h => (er10 rf rb ).trans h
  | 11 => fun (d : List UInt8) y h => (er11 rf rb d).trans h
  | 12 => fun (d : List UInt8) y h => (er12 rf rb d).trans h
  | 13 => fun (d : Unit) y h => (er13 rf rb ).trans h
  | 14 => fun (d : List (Int × List UInt8 × Int) × Int) y h => (er14 rf rb d.1 d.2).trans h
  | 15 => fun (d : List (Int × List UInt8 × Int) × Int × Int × Int × Int) y h => (er15 rf rb d).trans h
  | 16 => fun (d : List (Int × List UInt8 × Int) × Int × Int × Int × Int) y h => (er16 rf rb d).trans h
  | 17 => fun (d : List (Int × List UInt8 × Int) × Int × Int × Int × Int) y h => (er17 rf rb d).trans h
  | 18 => fun (d : List (Int × List UInt8 × Int) × Int × Int × Int × Int) y h => (er18 rf rb d).trans h
  | 19 => fun (d : List (Int × List UInt8 × Int) × Int × Int × Int × Int) y h => (er19 rf rb d).trans h
  | 20 => fun (d : List (Int × List UInt8 × Int) × Int × Int × Int × Int) y h => (er20 rf rb d).trans h
  | 21 => fun (d : List (Int × List UInt8 × Int) × Int × Int × Int × Int) y h => (er21 rf rb d).trans h
  | 22 => fun (d : List (Int × List UInt8 × Int) × Int × Int × Int × Int) y h => (er22 rf rb d).trans h
  | 23 => fun (d : List (Int × List UInt8 × Int) × Int × Int × Int × Int) y h => (er23 rf rb d).trans h
  | 24 => fun (d : (List (Int × List UInt8 × Int) × Int × Int × Int × Int) × Int) y h => ((er24 rf rb d.1 d.2).trans (sr24 rf rb d.1 d.2)).trans h
  | 25 => fun (d : List (Int × List UInt8 × Int) × Int) y h => (er25 rf rb d.1 d.2).trans h
  | 26 => fun (d : (List (Int × List UInt8 × Int) × Int × Int × Int × Int) × Int × List UInt8 × Int) y h => (er26 rf rb d.1 d.2).trans h
  | 27 => fun (d : Int × Int × List UInt8 × List (List (Int × Int × Int × Int × Int × List UInt8))) y h => (er27 rf rb d.1 d.2.1 d.2.2.1 d.2.2.2).trans h
  | 28 => fun (d : Int × Int × List UInt8) y h => (er28 rf rb d.1 d.2.1 d.2.2).trans h
  | 29 => fun (d : Int × Int × Int × Int × Int × List UInt8) y h => (er29 rf rb d).trans h
  | 30 => fun (d : List (Int × Int × Int × Int × Int × List UInt8) × List (Int × Int × Int × Int × Int × List UInt8)) y h => (er30 rf rb d.1 d.2).trans h
  | 31 => fun (d : (Int × Int × Int × Int × Int × List UInt8) × Int) y h => (er31 rf rb d.1 d.2).trans h
  | 32 => fun (d : (Int × Int × Int × Int × Int × List UInt8) × List Int) y h => (er32 rf rb d.1 d.2).trans h
  | 33 => fun (d : (List (Int × List UInt8 × Int) × Int × Int × Int × Int) × List UInt8) y h => (er33 rf rb d.1 d.2).trans h
  | 34 => fun (d : (List (Int × List UInt8 × Int) × Int × Int × Int × Int) × List UInt8) y h => (er34 rf rb d.1 d.2).trans h
  | 35 => fun (d : (List (Int × List UInt8 × Int) × Int × Int × Int × Int) × List UInt8) y h => (er35 rf rb d.1 d.2).trans h
  | 36 => fun (d : List (Int × List UInt8 × Int) × Int × Int × Int × Int) y h => (er36 rf rb d).trans h
  | 37 => fun (d : (List (Int × List UInt8 × Int) × Int × Int × Int × Int) × List UInt8) y h => (er37 rf rb d.1 d.2).trans h
  | 38 => fun (d : List UInt8) y h => (er38 rf rb d).trans h
  | 39 => fun (d : List (Int × List UInt8 × Int) × Int × Int × Int × Int) y h => (er39 rf rb d).trans h
  | 40 => fun (d : List (Int × List UInt8 × Int) × Int × Int × Int × Int) y h => (er40 rf rb d).trans h
  | 41 => fun (d : (List (Int × List UInt8 × Int) × Int × Int × Int × Int) × Int × List (Int × Int × Int × Int × Int × List UInt8) × List (Int × Int × Int × Int × Int × List UInt8)) y h => (er41 rf rb d.1 d.2.1 d.2.2.1 d.2.2.2).trans h
  | 42 => fun (d : List (Int × Int × Int × Int × Int × List UInt8)) y h => (er42 rf rb d).trans h
  | 43 => fun (d : List (Int × Int × Int × Int × Int × List UInt8)) y h => (er43 rf rb d).trans h
  | 44 => fun (d : List (Int × Int × Int × Int × Int × List UInt8)) y h => (er44 rf rb d).trans h
  | 45 => fun (d : Int × Int × Int × Int × Int × List UInt8) y h => (er45 rf rb d).trans h
  | 46 => fun (d : Int × Int × Int × Int × Int × List UInt8) y h => (er46 rf rb d).trans h
  | 47 => fun (d : (Int × Int × Int × Int × Int × List UInt8) × List Int) y h => (er47 rf rb d.1 d.2).trans h
  | 48 => fun (d : List Bool × Bool) y h => (er48 rf rb d.1 d.2).trans h
  | 49 => fun (d : List Bool × Bool) y h => (er49 rf rb d.1 d.2).trans h
  | 50 => fun (d : List (Int × Int × Int × Int × Int × List UInt8)) y h => (er50 rf rb d).trans h
  | 51 => fun (d : List (Int × Int × Int × Int × Int × List UInt8)) y h => (er51 rf rb d).trans h
  | 52 => fun (d : List Bool × List Int) y h => (er52 rf rb d.1 d.2).trans h
  | 53 => fun (d : List UInt8) y h => (er53 rf rb d).trans h
  | 54 => fun (d : Int × Int × Int × List (Int × List UInt8 × Int) × List UInt8) y h => ((er54 rf rb d.1 d.2.1 d.2.2.1 d.2.2.2.1 d.2.2.2.2).trans (sr54 rf rb d.1 d.2.1 d.2.2.1 d.2.2.2.1 d.2.2.2.2)).trans h
  | 55 => fun (d : Int × Int × Int × List (Int × List UInt8 × Int)) y h => (er55 rf rb d.1 d.2.1 d.2.2.1 d.2.2.2).trans h
  | 56 => fun (d : Int × Int × Int × List (Int × List UInt8 × Int) × Int) y h => (er56 rf rb d.1 d.2.1 d.2.2.1 d.2.2.2.1 d.2.2.2.2).trans h
  | 57 => fun (d : Int × Int × Int × List (Int × List UInt8 × Int) × Int) y h => ((er57 rf rb d.1 d.2.1 d.2.2.1 d.2.2.2.1 d.2.2.2.2).trans (sr57 rf rb d.1 d.2.1 d.2.2.1 d.2.2.2.1 d.2.2.2.2)).trans h
  | 58 => fun (d : List (Int × List UInt8 × Int) × Int × Int × Int) y h => (er58 rf rb d).trans h
  | 59 => fun (d : (List (Int × List UInt8 × Int) × Int × Int × Int) × List UInt8) y h => (er59 rf rb d.1 d.2).trans h
  | 60 => fun (d : (List (Int × List UInt8 × Int) × Int × Int × Int) × List UInt8) y h => ((er60 rf rb d.1 d.2).trans (sr60 rf rb d.1 d.2)).trans h
  | 61 => fun (d : List (Int × List UInt8 × Int) × Int × Int × Int) y h => (er61 rf rb d).trans h
  | 62 => fun (d : List (Int × List UInt8 × Int) × Int × Int × Int) y h => (er62 rf rb d).trans h
  | 63 => fun (d : List (Int × List UInt8 × Int) × Int × Int × Int) y h => ((er63 rf rb d).trans (sr63 rf rb d)).trans h
  | 64 => fun (d : (List (Int × List UInt8 × Int) × Int × Int × Int) × Int) y h => ((er64 rf rb d.1 d.2).trans (sr64 rf rb d.1 d.2)).trans h
  | 65 => fun (d : List (Int × List UInt8 × Int) × Int × Int × Int) y h => (er65 rf rb d).trans h
  | 66 => fun (d : (List (Int × List UInt8 × Int) × Int × Int × Int) × List UInt8) y h => (er66 rf rb d.1 d.2).trans h
  | 67 => fun (d : (List (Int × List UInt8 × Int) × Int × Int × Int) × Int) y h => (er67 rf rb d.1 d.2).trans h
  | 68 => fun (d : List (Int × List UInt8 × Int) × Int × Int × Int) y h => (er68 rf rb d).trans h
  | 69 => fun (d : List (Int × List UInt8 × Int) × Int × Int × Int) y h => (er69 rf rb d).trans h
  | 70 => fun (d : List (Int × List UInt8 × Int) × Int × Int × Int) y h => (er70 rf rb d).trans h
  | 71 => fun (d : List (Int × List UInt8 × Int) × Int × Int × Int) y h => (er71 rf rb d).trans h
  | 72 => fun (d : List (Int × List UInt8 × Int) × Int × Int × Int) y h => ((er72 rf rb d).trans (sr72 rf rb d)).trans h
  | 73 => fun (d : List (Int × List UInt8 × Int) × Int × Int × Int) y h => (er73 rf rb d).trans h
  | 74 => fun (d : List (Int × List UInt8 × Int) × Int × Int × Int) y h => (er74 rf rb d).trans h
  | 75 => fun (d : List (Int × List UInt8 × Int) × Int × Int × Int) y h => (er75 rf rb d).trans h
  | 76 => fun (d : List (Bool × List UInt8 × List (List UInt8 × Int) × List UInt8 × Int × List (List UInt8 × Int) × List (List UInt8 × List (Int × Int × Int × Int × Int × List UInt8)) × List (Int × List UInt8 × Int × List (Int × Int × Int × Int × Int × List UInt8) × List (Int × Int × Int × Int × Int × List UInt8) × List (List (Int × Int × Int × Int × Int × List UInt8)))) × List UInt8 × List UInt8) y h => (er76 rf rb d).trans h
  | 77 => fun (d : Bool × List UInt8 × List (List UInt8 × Int) × List UInt8 × Int × List (List UInt8 × Int) × List (List UInt8 × List (Int × Int × Int × Int × Int × List UInt8)) × List (Int × List UInt8 × Int × List (Int × Int × Int × Int × Int × List UInt8) × List (Int × Int × Int × Int × Int × List UInt8) × List (List (Int × Int × Int × Int × Int × List UInt8)))) y h => (er77 rf rb d).trans h
  | 78 => fun (d : List (Int × Int × Int × Int × Int × List UInt8)) y h => (er78 rf rb d).trans h
  | 79 => fun (d : List (Int × Int × Int × Int × Int × List UInt8)) y h => (er79 rf rb d).trans h
  | 80 => fun (d : Int × Int × Int × Int × Int × List UInt8) y h => (er80 rf rb d).trans h
  | 81 => fun (d : Int × Int × Int × Int × Int × List UInt8) y h => (er81 rf rb d).trans h
  | 82 => fun (d : List (Int × Int × Int × Int × Int × List UInt8) × Int) y h => (er82 rf rb d.1 d.2).trans h
  | 83 => fun (d : List Int × List (Int × Int × Int × Int × Int × List UInt8) × Int) y h => (er83 rf rb d.1 d.2.1 d.2.2).trans h
  | 84 => fun (d : List (Bool × List UInt8 × List (List UInt8 × Int) × List UInt8 × Int × List (List UInt8 × Int) × List (List UInt8 × List (Int × Int × Int × Int × Int × List UInt8)) × List (Int × List UInt8 × Int × List (Int × Int × Int × Int × Int × List UInt8) × List (Int × Int × Int × Int × Int × List UInt8) × List (List (Int × Int × Int × Int × Int × List UInt8)))) × List UInt8 × List UInt8) y h => (er84 rf rb d).trans h
  | 85 => fun (d : List (Bool × List UInt8 × List (List UInt8 × Int) × List UInt8 × Int × List (List UInt8 × Int) × List (List UInt8 × List (Int × Int × Int × Int × Int × List UInt8)) × List (Int × List UInt8 × Int × List (Int × Int × Int × Int × Int × List UInt8) × List (Int × Int × Int × Int × Int × List UInt8) × List (List (Int × Int × Int × Int × Int × List UInt8)))) × List UInt8 × List UInt8) y h => (er85 rf rb d).trans h
  | 86 => fun (d : List (Bool × List UInt8 × List (List UInt8 × Int) × List UInt8 × Int × List (List UInt8 × Int) × List (List UInt8 × List (Int × Int × Int × Int × Int × List UInt8)) × List (Int × List UInt8 × Int × List (Int × Int × Int × Int × Int × List UInt8) × List (Int × Int × Int × Int × Int × List UInt8) × List (List (Int × Int × Int × Int × Int × List UInt8)))) × List UInt8 × List UInt8) y h => (er86 rf rb d).trans h
  | 87 => fun (d : List (Int × Int × Int × Int × Int × List UInt8)) y h => (er87 rf rb d).trans h
  | 88 => fun (d : List (Int × Int × Int × Int × Int × List UInt8)) y h => (er88 rf rb d).trans h
  | 89 => fun (d : List (Int × Int × Int × Int × Int × List UInt8)) y h => (er89 rf rb d).trans h
  | 90 => fun (d : List (Int × Int × Int × Int × Int × List UInt8)) y h => (er90 rf rb d).trans h
  | 91 => fun (d : List (Int × Int × Int × Int × Int × List UInt8)) y h => (er91 rf rb d).trans h
  | 92 => fun (d : List (Int × Int × Int × Int × Int × List UInt8) × Int) y h => (er92 rf rb d.1 d.2).trans h
  | 93 => fun (d : List (Int × Int × Int × Int × Int × List UInt8) × List (Int × Int × Int × Int × Int × List UInt8) × Int) y h => (er93 rf rb d.1 d.2.1 d.2.2).trans h
  | 94 => fun (d : List (Int × Int × Int × Int × Int × List UInt8) × List (Int × Int × Int × Int × Int × List UInt8)) y h => (er94 rf rb d.1 d.2).trans h
  | n + 95 => fun _ _ h => by cases h

noncomputable def gB (rf : T.RF) (rb : T.RB) : T.RB := fun φ => match φ with
  | 2 => fun (d : List UInt8 × Int) => b2 rf rb d.1 d.2
  | 3 => fun (d : List UInt8 × Int × Int) => b3 rf rb d.1 d.2.1 d.2.2
  | 4 => fun (d : List UInt8 × Int) => b4 rf rb d.1 d.2
  | 5 => fun (d : List (List UInt8) × List UInt8 × Int) => b5 rf rb d.1 d.2.1 d.2.2
  | 6 => fun (d : List UInt8 × Int) => b6 rf rb d.1 d.2
  | 7 => fun (d : List (List UInt8) × List UInt8 × Int) => b7 rf rb d.1 d.2.1 d.2.2
  | 8 => fun (d : (Int × Int) × List (Int × List UInt8 × Int) × List UInt8 × Int) => b8 rf rb d.1 d.2.1 d.2.2.1 d.2.2.2
  | 9 => fun (d : List UInt8 × Int) => b9 rf rb d.1 d.2
  | 13 => fun (d : List (Int × Int × Int × Int × Int × List UInt8) × List (Int × Int × Int × Int × Int × List UInt8) × Int × Int) => b13 rf rb d.1 d.2.1 d.2.2.1 d.2.2.2
  | 14 => fun (d : List (Int × Int × Int × Int × Int × List UInt8) × List Int × Int × List (List (Int × Int × Int × Int × Int × List UInt8)) × Int × Int) => b14 rf rb d.1 d.2.1 d.2.2.1 d.2.2.2.1 d.2.2.2.2.1 d.2.2.2.2.2
  | 16 => fun (d : (List (Int × List UInt8 × Int) × Int × Int × Int × Int) × List (List (Int × Int × Int × Int × Int × List UInt8))) => b16 rf rb d.1 d.2
  | 18 => fun (d : (List (Int × List UInt8 × Int) × Int × Int × Int × Int) × List (Int × Int × Int × Int × Int × List UInt8)) => b18 rf rb d.1 d.2
  | 20 => fun (d : (List (Int × List UInt8 × Int) × Int × Int × Int × Int) × List (Int × Int × Int × Int × Int × List UInt8)) => b20 rf rb d.1 d.2
  | 22 => fun (d : (List (Int × List UInt8 × Int) × Int × Int × Int × Int) × List (Int × Int × Int × Int × Int × List UInt8)) => b22 rf rb d.1 d.2
  | 24 => fun (d : (List (Int × List UInt8 × Int) × Int × Int × Int × Int) × List (Int × Int × Int × Int × Int × List UInt8)) => b24 rf rb d.1 d.2
  | 26 => fun (d : (List (Int × List UInt8 × Int) × Int × Int × Int × Int) × List (Int × Int × Int × Int × Int × List UInt8)) => b26 rf rb d.1 d.2
  | 34 => fun (d : List Int × List (Int × Int × Int × Int × Int × List UInt8) × Int) => b34 rf rb d.1 d.2.1 d.2.2
  | 35 => fun (d : List Int × List Int × Int × Int) => b35 rf rb d.1 d.2.1 d.2.2.1 d.2.2.2
  | 37 => fun (d : (Int × Int) × List (Int × List UInt8 × Int) × Int) => b37 rf rb d.1 d.2.1 d.2.2
  | 38 => fun (d : List Bool × List (Int × Int × Int × Int × Int × List UInt8) × List (Int × Int × Int × Int × Int × List UInt8) × Int × Int) => b38 rf rb d.1 d.2.1 d.2.2.1 d.2.2.2.1 d.2.2.2.2
  | 39 => fun (d : (Int × Int × Int × Int × Int × List UInt8) × Int) => b39 rf rb d.1 d.2
  | 40 => fun (d : (Int × Int × Int × Int × Int × List UInt8) × (Int × Int × Int × Int × Int × List UInt8) × Int) => b40 rf rb d.1 d.2.1 d.2.2
  | 41 => fun (d : List Bool × (Int × Int × Int × Int × Int × List UInt8) × List Int × List (Int × Int × Int × Int × Int × List UInt8) × Int × Int × Int) => b41 rf rb d.1 d.2.1 d.2.2.1 d.2.2.2.1 d.2.2.2.2.1 d.2.2.2.2.2.1 d.2.2.2.2.2.2
  | 42 => fun (d : List Bool × Bool × Int × Int) => b42 rf rb d.1 d.2.1 d.2.2.1 d.2.2.2
  | 49 => fun (d : List Int × List (Int × Int × Int × Int × Int × List UInt8) × Int × Int) => b49 rf rb d.1 d.2.1 d.2.2.1 d.2.2.2
  | 50 => fun (d : List Int × List Int × Int × Int × Int) => b50 rf rb d.1 d.2.1 d.2.2.1 d.2.2.2.1 d.2.2.2.2
  | 52 => fun (d : List Bool × List Int × Int × Int) => b52 rf rb d.1 d.2.1 d.2.2.1 d.2.2.2
  | 55 => fun (d : List Bool × List (Int × Int × Int × Int × Int × List UInt8) × Int × Int) => b55 rf rb d.1 d.2.1 d.2.2.1 d.2.2.2
  | 59 => fun (d : (List (Int × List UInt8 × Int) × Int × Int × Int) × List (List UInt8 × Int)) => b59 rf rb d.1 d.2
  | 61 => fun (d : (List (Int × List UInt8 × Int) × Int × Int × Int) × (Int × Int) × List (Int × Int × Int × Int × Int × List UInt8) × Int) => b61 rf rb d.1 d.2.1 d.2.2.1 d.2.2.2
  | 63 => fun (d : (List (Int × List UInt8 × Int) × Int × Int × Int) × List (List (Int × Int × Int × Int × Int × List UInt8))) => b63 rf rb d.1 d.2
  | 64 => fun (d : (List (Int × List UInt8 × Int) × Int × Int × Int) × List (Int × List UInt8 × Int × List (Int × Int × Int × Int × Int × List UInt8) × List (Int × Int × Int × Int × Int × List UInt8) × List (List (Int × Int × Int × Int × Int × List UInt8)))) => b64 rf rb d.1 d.2
  | 66 => fun (d : (List (Int × List UInt8 × Int) × Int × Int × Int) × List (List UInt8 × Int)) => b66 rf rb d.1 d.2
  | 68 => fun (d : (List (Int × List UInt8 × Int) × Int × Int × Int) × List (List UInt8 × List (Int × Int × Int × Int × Int × List UInt8))) => b68 rf rb d.1 d.2
  | 83 => fun (d : (List (Int × List UInt8 × Int) × Int × Int × Int) × List UInt8 × List UInt8 × List (Bool × List UInt8 × List (List UInt8 × Int) × List UInt8 × Int × List (List UInt8 × Int) × List (List UInt8 × List (Int × Int × Int × Int × Int × List UInt8)) × List (Int × List UInt8 × Int × List (Int × Int × Int × Int × Int × List UInt8) × List (Int × Int × Int × Int × Int × List UInt8) × List (List (Int × Int × Int × Int × Int × List UInt8))))) => b83 rf rb d.1 d.2.1 d.2.2.1 d.2.2.2
  | 84 => fun (d : List UInt8 × List UInt8 × (Int × Int) × (List (Int × List UInt8 × Int) × Int × Int × Int) × List UInt8 × List UInt8 × List (Bool × List UInt8 × List (List UInt8 × Int) × List UInt8 × Int × List (List UInt8 × Int) × List (List UInt8 × List (Int × Int × Int × Int × Int × List UInt8)) × List (Int × List UInt8 × Int × List (Int × Int × Int × Int × Int × List UInt8) × List (Int × Int × Int × Int × Int × List UInt8) × List (List (Int × Int × Int × Int × Int × List UInt8)))) × List (Bool × List UInt8 × List (List UInt8 × Int) × List UInt8 × Int × List (List UInt8 × Int) × List (List UInt8 × List (Int × Int × Int × Int × Int × List UInt8)) × List (Int × List UInt8 × Int × List (Int × Int × Int × Int × Int × List UInt8) × List (Int × Int × Int × Int × Int × List UInt8) × List (List (Int × Int × Int × Int × Int × List UInt8))))) => b84 rf rb d.1 d.2.1 d.2.2.1 d.2.2.2.1 d.2.2.2.2.1 d.2.2.2.2.2.1 d.2.2.2.2.2.2.1 d.2.2.2.2.2.2.2
  | 85 => fun (d : (Int × Int) × List (Bool × List UInt8 × List (List UInt8 × Int) × List UInt8 × Int × List (List UInt8 × Int) × List (List UInt8 × List (Int × Int × Int × Int × Int × List UInt8)) × List (Int × List UInt8 × Int × List (Int × Int × Int × Int × Int × List UInt8) × List (Int × Int × Int × Int × Int × List UInt8) × List (List (Int × Int × Int × Int × Int × List UInt8)))) × Int × Int) => b85 rf rb d.1 d.2.1 d.2.2.1 d.2.2.2
  | 91 => fun (d : List (List (Int × Int × Int × Int × Int × List UInt8)) × List (List UInt8 × List (Int × Int × Int × Int × Int × List UInt8)) × Int × Int) => b91 rf rb d.1 d.2.1 d.2.2.1 d.2.2.2
  | 92 => fun (d : List (List (Int × Int × Int × Int × Int × List UInt8)) × List (Int × List UInt8 × Int × List (Int × Int × Int × Int × Int × List UInt8) × List (Int × Int × Int × Int × Int × List UInt8) × List (List (Int × Int × Int × Int × Int × List UInt8))) × Int × Int) => b92 rf rb d.1 d.2.1 d.2.2.1 d.2.2.2
  | 93 => fun (d : List (List (Int × Int × Int × Int × Int × List UInt8)) × Int × Int) => b93 rf rb d.1 d.2.1 d.2.2
  | 94 => fun (d : List Int × List (Int × Int × Int × Int × Int × List UInt8) × Int) => b94 rf rb d.1 d.2.1 d.2.2
  | 95 => fun (d : List Int × List Int × Int × Int) => b95 rf rb d.1 d.2.1 d.2.2.1 d.2.2.2
  | 96 => fun (d : (Int × Int × Int × Int × Int × List UInt8) × List Int × List (Int × Int × Int × Int × Int × List UInt8) × Int) => b96 rf rb d.1 d.2.1 d.2.2.1 d.2.2.2
  | 97 => fun (d : List Int × List (Int × Int × Int × Int × Int × List UInt8) × Int) => b97 rf rb d.1 d.2.1 d.2.2
  | 98 => fun (d : List Int × List (Int × Int × Int × Int × Int × List UInt8) × Int) => b98 rf rb d.1 d.2.1 d.2.2
  | 99 => fun (d : List Int × List Int × Int × Int) => b99 rf rb d.1 d.2.1 d.2.2.1 d.2.2.2
  | 100 => fun (d : (List (Bool × List UInt8 × List (List UInt8 × Int) × List UInt8 × Int × List (List UInt8 × Int) × List (List UInt8 × List (Int × Int × Int × Int × Int × List UInt8)) × List (Int × List UInt8 × Int × List (Int × Int × Int × Int × Int × List UInt8) × List (Int × Int × Int × Int × Int × List UInt8) × List (List (Int × Int × Int × Int × Int × List UInt8)))) × List UInt8 × List UInt8) × Int) => b100 rf rb d.1 d.2
  | 101 => fun (d : (Bool × List UInt8 × List (List UInt8 × Int) × List UInt8 × Int × List (List UInt8 × Int) × List (List UInt8 × List (Int × Int × Int × Int × Int × List UInt8)) × List (Int × List UInt8 × Int × List (Int × Int × Int × Int × Int × List UInt8) × List (Int × Int × Int × Int × Int × List UInt8) × List (List (Int × Int × Int × Int × Int × List UInt8)))) × Int) => b101 rf rb d.1 d.2
  | 102 => fun (d : (Bool × List UInt8 × List (List UInt8 × Int) × List UInt8 × Int × List (List UInt8 × Int) × List (List UInt8 × List (Int × Int × Int × Int × Int × List UInt8)) × List (Int × List UInt8 × Int × List (Int × Int × Int × Int × Int × List UInt8) × List (Int × Int × Int × Int × Int × List UInt8) × List (List (Int × Int × Int × Int × Int × List UInt8)))) × Int) => b102 rf rb d.1 d.2
  | 103 => fun (d : (Int × List UInt8 × Int × List (Int × Int × Int × Int × Int × List UInt8) × List (Int × Int × Int × Int × Int × List UInt8) × List (List (Int × Int × Int × Int × Int × List UInt8))) × Int) => b103 rf rb d.1 d.2
  | 116 => fun (d : (List (Bool × List UInt8 × List (List UInt8 × Int) × List UInt8 × Int × List (List UInt8 × Int) × List (List UInt8 × List (Int × Int × Int × Int × Int × List UInt8)) × List (Int × List UInt8 × Int × List (Int × Int × Int × Int × Int × List UInt8) × List (Int × Int × Int × Int × Int × List UInt8) × List (List (Int × Int × Int × Int × Int × List UInt8)))) × List UInt8 × List UInt8) × (Int × Int) × Int) => b116 rf rb d.1 d.2.1 d.2.2
  | 117 => fun (d : (Bool × List UInt8 × List (List UInt8 × Int) × List UInt8 × Int × List (List UInt8 × Int) × List (List UInt8 × List (Int × Int × Int × Int × Int × List UInt8)) × List (Int × List UInt8 × Int × List (Int × Int × Int × Int × Int × List UInt8) × List (Int × Int × Int × Int × Int × List UInt8) × List (List (Int × Int × Int × Int × Int × List UInt8)))) × List (List (Int × Int × Int × Int × Int × List UInt8)) × Int) => b117 rf rb d.1 d.2.1 d.2.2
  | 118 => fun (d : (Bool × List UInt8 × List (List UInt8 × Int) × List UInt8 × Int × List (List UInt8 × Int) × List (List UInt8 × List (Int × Int × Int × Int × Int × List UInt8)) × List (Int × List UInt8 × Int × List (Int × Int × Int × Int × Int × List UInt8) × List (Int × Int × Int × Int × Int × List UInt8) × List (List (Int × Int × Int × Int × Int × List UInt8)))) × List (List (Int × Int × Int × Int × Int × List UInt8)) × Int) => b118 rf rb d.1 d.2.1 d.2.2
  | 119 => fun (d : List (List (Int × Int × Int × Int × Int × List UInt8)) × Int × List UInt8 × Int × List (Int × Int × Int × Int × Int × List UInt8) × List (Int × Int × Int × Int × Int × List UInt8) × List (List (Int × Int × Int × Int × Int × List UInt8))) => b119 rf rb d.1 d.2
  | 120 => fun (d : List (List (Int × Int × Int × Int × Int × List UInt8)) × (Int × List UInt8 × Int × List (Int × Int × Int × Int × Int × List UInt8) × List (Int × Int × Int × Int × Int × List UInt8) × List (List (Int × Int × Int × Int × Int × List UInt8))) × Int) => b120 rf rb d.1 d.2.1 d.2.2
  | 121 => fun (d : (Int × Int) × List (List (Int × Int × Int × Int × Int × List UInt8)) × Int × Int) => b121 rf rb d.1 d.2.1 d.2.2.1 d.2.2.2
  | 122 => fun (d : List (Int × Int × Int × Int × Int × List UInt8) × Int) => b122 rf rb d.1 d.2
  | 124 => fun (d : List (Int × Int × Int × Int × Int × List UInt8) × List Int × List Int × List (Int × Int × Int × Int × Int × List UInt8) × Int) => b124 rf rb d.1 d.2.1 d.2.2.1 d.2.2.2.1 d.2.2.2.2
  | 125 => fun (d : List (Int × Int × Int × Int × Int × List UInt8) × Int × Int) => b125 rf rb d.1 d.2.1 d.2.2
  | _ => fun _ => none
theorem gB_ok (rf : T.RF) (rb : T.RB) : ∀ φ d y, gB rf rb φ d = some y → T.stepB rf rb φ d = some y := fun φ => match φ with
  | 0 => fun _ _ h => by cases h
  | 1 => fun _ _ h => by cases h
  | 2 => fun (d : List UInt8 × Int) y h => (eb2 rf rb d.1 d.2).trans h
  | 3 => fun (d : List UInt8 × Int × Int) y h => (eb3 rf rb d.1 d.2.1 d.2.2).trans h
  | 4 => fun (d : List UInt8 × Int) y h => (eb4 rf rb d.1 d.2).trans h
  | 5 => fun (d : List (List UInt8) × List UInt8 × Int) y h => (eb5 rf rb d.1 d.2.1 d.2.2).trans h
  | 6 => fun (d : List UInt8 × Int) y h => (eb6 rf rb d.1 d.2).trans h
  | 7 => fun (d : List (List UInt8) × List UInt8 × Int) y h => (eb7 rf rb d.1 d.2.1 d.2.2).trans h
  | 8 => fun (d : (Int × Int) × List (Int × List UInt8 × Int) × List UInt8 × Int) y h => (eb8 rf rb d.1 d.2.1 d.2.2.1 d.2.2.2).trans h
  | 9 => fun (d : List UInt8 × Int) y h => (eb9 rf rb d.1 d.2).trans h
  | 10 => fun _ _ h => by cases h
  | 11 => fun _ _ h => by cases h
  | 12 => fun _ _ h => by cases h
  | 13 => fun (d : List (Int × Int × Int × Int × Int × List UInt8) × List (Int × Int × Int × Int × Int × List UInt8) × Int × Int) y h => (eb13 rf rb d.1 d.2.1 d.2.2.1 d.2.2.2).trans h
  | 14 => fun (d : List (Int × Int × Int × Int × Int × List UInt8) × List Int × Int × List (List (Int × Int × Int × Int × Int × List UInt8)) × Int × Int) y h => (eb14 rf rb d.1 d.2.1 d.2.2.1 d.2.2.2.1 d.2.2.2.2.1 d.2.2.2.2.2).trans h
  | 15 => fun _ _ h => by cases h
  | 16 => fun (d : (List (Int × List UInt8 × Int) × Int × Int × Int × Int) × List (List (Int × Int × Int × Int × Int × List UInt8))) y h => (eb16 rf rb d.1 d.2).trans h
  | 17 => fun _ _ h => by cases h
  | 18 => fun (d : (List (Int × List UInt8 × Int) × Int × Int × Int × Int) × List (Int × Int × Int × Int × Int × List UInt8)) y h => (eb18 rf rb d.1 d.2).trans h
  | 19 => fun _ _ h => by cases h
  | 20 => fun (d : (List (Int × List UInt8 × Int) × Int × Int × Int × Int) × List (Int × Int × Int × Int × Int × List UInt8)) y h => (eb20 rf rb d.1 d.2).trans h
  | 21 => fun _ _ h => by cases h
  | 22 => fun (d : (List (Int × List UInt8 × Int) × Int × Int × Int × Int) × List (Int × Int × Int × Int × Int × List UInt8)) y h => (eb22 rf rb d.1 d.2).trans h
  | 23 => fun _ _ h => by cases h
  | 24 => fun (d : (List (Int × List UInt8 × Int) × Int × Int × Int × Int) × List (Int × Int × Int × Int × Int × List UInt8)) y h => (eb24 rf rb d.1 d.2).trans h
  | 25 => fun _ _ h => by cases h
  | 26 => fun (d : (List (Int × List UInt8 × Int) × Int × Int × Int × Int) × List (Int × Int × Int × Int × Int × List UInt8)) y h => (eb26 rf rb d.1 d.2).trans h
  | 27 => fun _ _ h => by cases h
  | 28 => fun _ _ h => by cases h
  | 29 => fun _ _ h => by cases h
  | 30 => fun _ _ h => by cases h
  | 31 => fun _ _ h => by cases h
  | 32 => fun _ _ h => by cases h
  | 33 => fun _ _ h => by cases h
  | 34 => fun (d : List Int × List (Int × Int × Int × Int × Int × List UInt8) × Int) y h => (eb34 rf rb d.1 d.2.1 d.2.2).trans h
  | 35 => fun (d : List Int × List Int × Int × Int) y h => ((eb35 rf rb d.1 d.2.1 d.2.2.1 d.2.2.2).trans (sb35 rf rb d.1 d.2.1 d.2.2.1 d.2.2.2)).trans h
  | 36 => fun _ _ h => by cases h
  | 37 => fun (d : (Int × Int) × List (Int × List UInt8 × Int) × Int) y h => (eb37 rf rb d.1 d.2.1 d.2.2).trans h
  | 38 => fun (d : List Bool × List (Int × Int × Int × Int × Int × List UInt8) × List (Int × Int × Int × Int × Int × List UInt8) × Int × Int) y h => (eb38 rf rb d.1 d.2.1 d.2.2.1 d.2.2.2.1 d.2.2.2.2).trans h
  | 39 => fun (d : (Int × Int × Int × Int × Int × List UInt8) × Int) y h => ((eb39 rf rb d.1 d.2).trans (sb39 rf rb d.1 d.2)).trans h
  | 40 => fun (d : (Int × Int × Int × Int × Int × List UInt8) × (Int × Int × Int × Int × Int × List UInt8) × Int) y h => (eb40 rf rb d.1 d.2.1 d.2.2).trans h
  | 41 => fun (d : List Bool × (Int × Int × Int × Int × Int × List UInt8) × List Int × List (Int × Int × Int × Int × Int × List UInt8) × Int × Int × Int) y h => (eb41 rf rb d.1 d.2.1 d.2.2.1 d.2.2.2.1 d.2.2.2.2.1 d.2.2.2.2.2.1 d.2.2.2.2.2.2).trans h
  | 42 => fun (d : List Bool × Bool × Int × Int) y h => (eb42 rf rb d.1 d.2.1 d.2.2.1 d.2.2.2).trans h
  | 43 => fun _ _ h => by cases h
  | 44 => fun _ _ h => by cases h
  | 45 => fun _ _ h => by cases h
  | 46 => fun _ _ h => by cases h
  | 47 => fun _ _ h => by cases h
  | 48 => fun _ _ h => by cases h
  | 49 => fun (d : List Int × List (Int × Int × Int × Int × Int × List UInt8) × Int × Int) y h => (eb49 rf rb d.1 d.2.1 d.2.2.1 d.2.2.2).trans h
  | 50 => fun (d : List Int × List Int × Int × Int × Int) y h => ((eb50 rf rb d.1 d.2.1 d.2.2.1 d.2.2.2.1 d.2.2.2.2).trans (sb50 rf rb d.1 d.2.1 d.2.2.1 d.2.2.2.1 d.2.2.2.2)).trans h
  | 51 => fun _ _ h => by cases h
  | 52 => fun (d : List Bool × List Int × Int × Int) y h => (eb52 rf rb d.1 d.2.1 d.2.2.1 d.2.2.2).trans h
  | 53 => fun _ _ h => by cases h
  | 54 => fun _ _ h => by cases h
  | 55 => fun (d : List Bool × List (Int × Int × Int × Int × Int × List UInt8) × Int × Int) y h => ((eb55 rf rb d.1 d.2.1 d.2.2.1 d.2.2.2).trans (sb55 rf rb d.1 d.2.1 d.2.2.1 d.2.2.2)).trans h
  | 56 => fun _ _ h => by cases h
  | 57 => fun _ _ h => by cases h
  | 58 => fun _ _ h => by cases h
  | 59 => fun (d : (List (Int × List UInt8 × Int) × Int × Int × Int) × List (List UInt8 × Int)) y h => (eb59 rf rb d.1 d.2).trans h
  | 60 => fun _ _ h => by cases h
  | 61 => fun (d : (List (Int × List UInt8 × Int) × Int × Int × Int) × (Int × Int) × List (Int × Int × Int × Int × Int × List UInt8) × Int) y h => (eb61 rf rb d.1 d.2.1 d.2.2.1 d.2.2.2).trans h
  | 62 => fun _ _ h => by cases h
  | 63 => fun (d : (List (Int × List UInt8 × Int) × Int × Int × Int) × List (List (Int × Int × Int × Int × Int × List UInt8))) y h => (eb63 rf rb d.1 d.2).trans h
  | 64 => fun (d : (List (Int × List UInt8 × Int) × Int × Int × Int) × List (Int × List UInt8 × Int × List (Int × Int × Int × Int × Int × List UInt8) × List (Int × Int × Int × Int × Int × List UInt8) × List (List (Int × Int × Int × Int × Int × List UInt8)))) y h => (eb64 rf rb d.1 d.2).trans h
  | 65 => fun _ _ h => by cases h
  | 66 => fun (d : (List (Int × List UInt8 × Int) × Int × Int × Int) × List (List UInt8 × Int)) y h => (eb66 rf rb d.1 d.2).trans h
  | 67 => fun _ _ h => by cases h
  | 68 => fun (d : (List (Int × List UInt8 × Int) × Int × Int × Int) × List (List UInt8 × List (Int × Int × Int × Int × Int × List UInt8))) y h => (eb68 rf rb d.1 d.2).trans h
  | 69 => fun _ _ h => by cases h
  | 70 => fun _ _ h => by cases h
  | 71 => fun _ _ h => by cases h
  | 72 => fun _ _ h => by cases h
  | 73 => fun _ _ h => by cases h
  | 74 => fun _ _ h => by cases h
  | 75 => fun _ _ h => by cases h
  | 76 => fun _ _ h => by cases h
  | 77 => fun _ _ h => by cases h
  | 78 => fun _ _ h => by cases h
  | 79 => fun _ _ h => by cases h
  | 80 => fun _ _ h => by cases h
  | 81 => fun _ _ h => by cases h
  | 82 => fun _ _ h => by cases h
  | 83 => fun (d : (List (Int × List UInt8 × Int) × Int × Int × Int) × List UInt8 × List UInt8 × List (Bool × List UInt8 × List (List UInt8 × Int) × List UInt8 × Int × List (List UInt8 × Int) × List (List UInt8 × List (Int × Int × Int × Int × Int × List UInt8)) × List (Int × List UInt8 × Int × List (Int × Int × Int × Int × Int × List UInt8) × List (Int × Int × Int × Int × Int × List UInt8) × List (List (Int × Int × Int × Int × Int × List UInt8))))) y h => ((eb83 rf rb d.1 d.2.1 d.2.2.1 d.2.2.2).trans (sb83 rf rb d.1 d.2.1 d.2.2.1 d.2.2.2)).trans h
  | 84 => fun (d : List UInt8 × List UInt8 × (Int × Int) × (List (Int × List UInt8 × Int) × Int × Int × Int) × List UInt8 × List UInt8 × List (Bool × List UInt8 × List (List UInt8 × Int) × List UInt8 × Int × List (List UInt8 × Int) × List (List UInt8 × List (Int × Int × Int × Int × Int × List UInt8)) × List (Int × List UInt8 × Int × List (Int × Int × Int × Int × Int × List UInt8) × List (Int × Int × Int × Int × Int × List UInt8) × List (List (Int × Int × Int × Int × Int × List UInt8)))) × List (Bool × List UInt8 × List (List UInt8 × Int) × List UInt8 × Int × List (List UInt8 × Int) × List (List UInt8 × List (Int × Int × Int × Int × Int × List UInt8)) × List (Int × List UInt8 × Int × List (Int × Int × Int × Int × Int × List UInt8) × List (Int × Int × Int × Int × Int × List UInt8) × List (List (Int × Int × Int × Int × Int × List UInt8))))) y h => ((eb84 rf rb d.1 d.2.1 d.2.2.1 d.2.2.2.1 d.2.2.2.2.1 d.2.2.2.2.2.1 d.2.2.2.2.2.2.1 d.2.2.2.2.2.2.2).trans (sb84 rf rb d.1 d.2.1 d.2.2.1 d.2.2.2.1 d.2.2.2.2.1 d.2.2.2.2.2.1 d.2.2.2.2.2.2.1 d.2.2.2.2.2.2.2)).trans h
  | 85 => fun (d : (Int × Int) × List (Bool × List UInt8 × List (List UInt8 × Int) × List UInt8 × Int × List (List UInt8 × Int) × List (List UInt8 × List (Int × Int × Int × Int × Int × List UInt8)) × List (Int × List UInt8 × Int × List (Int × Int × Int × Int × Int × List UInt8) × List (Int × Int × Int × Int × Int × List UInt8) × List (List (Int × Int × Int × Int × Int × List UInt8)))) × Int × Int) y h => (eb85 rf rb d.1 d.2.1 d.2.2.1 d.2.2.2).trans h
  | 86 => fun _ _ h => by cases h
  | 87 => fun _ _ h => by cases h
  | 88 => fun _ _ h => by cases h
  | 89 => fun _ _ h => by cases h
  | 90 => fun _ _ h => by cases h
  | 91 => fun (d : List (List (Int × Int × Int × Int × Int × List UInt8)) × List (List UInt8 × List (Int × Int × Int × Int × Int × List UInt8)) × Int × Int) y h => (eb91 rf rb d.1 d.2.1 d.2.2.1 d.2.2.2).trans h
  | 92 => fun (d : List (List (Int × Int × Int × Int × Int × List UInt8)) × List (Int × List UInt8 × Int × List (Int × Int × Int × Int × Int × List UInt8) × List (Int × Int × Int × Int × Int × List UInt8) × List (List (Int × Int × Int × Int × Int × List UInt8))) × Int × Int) y h => (eb92 rf rb d.1 d.2.1 d.2.2.1 d.2.2.2).trans h
  | 93 => fun (d : List (List (Int × Int × Int × Int × Int × List UInt8)) × Int × Int) y h => (eb93 rf rb d.1 d.2.1 d.2.2).trans h
  | 94 => fun (d : List Int × List (Int × Int × Int × Int × Int × List UInt8) × Int) y h => (eb94 rf rb d.1 d.2.1 d.2.2).trans h
  | 95 => fun (d : List Int × List Int × Int × Int) y h => (eb95 rf rb d.1 d.2.1 d.2.2.1 d.2.2.2).trans h
  | 96 => fun (d : (Int × Int × Int × Int × Int × List UInt8) × List Int × List (Int × Int × Int × Int × Int × List UInt8) × Int) y h => (eb96 rf rb d.1 d.2.1 d.2.2.1 d.2.2.2).trans h
  | 97 => fun (d : List Int × List (Int × Int × Int × Int × Int × List UInt8) × Int) y h => (eb97 rf rb d.1 d.2.1 d.2.2).trans h
  | 98 => fun (d : List Int × List (Int × Int × Int × Int × Int × List UInt8) × Int) y h => (eb98 rf rb d.1 d.2.1 d.2.2).trans h
  | 99 => fun (d : List Int × List Int × Int × Int) y h => (eb99 rf rb d.1 d.2.1 d.2.2.1 d.2.2.2).trans h
  | 100 => fun (d : (List (Bool × List UInt8 × List (List UInt8 × Int) × List UInt8 × Int × List (List UInt8 × Int) × List (List UInt8 × List (Int × Int × Int × Int × Int × List UInt8)) × List (Int × List UInt8 × Int × List (Int × Int × Int × Int × Int × List UInt8) × List (Int × Int × Int × Int × Int × List UInt8) × List (List (Int × Int × Int × Int × Int × List UInt8)))) × List UInt8 × List UInt8) × Int) y h => (eb100 rf rb d.1 d.2).trans h
  | 101 => fun (d : (Bool × List UInt8 × List (List UInt8 × Int) × List UInt8 × Int × List (List UInt8 × Int) × List (List UInt8 × List (Int × Int × Int × Int × Int × List UInt8)) × List (Int × List UInt8 × Int × List (Int × Int × Int × Int × Int × List UInt8) × List (Int × Int × Int × Int × Int × List UInt8) × List (List (Int × Int × Int × Int × Int × List UInt8)))) × Int) y h => (eb101 rf rb d.1 d.2).trans h
  | 102 => fun (d : (Bool × List UInt8 × List (List UInt8 × Int) × List UInt8 × Int × List (List UInt8 × Int) × List (List UInt8 × List (Int × Int × Int × Int × Int × List UInt8)) × List (Int × List UInt8 × Int × List (Int × Int × Int × Int × Int × List UInt8) × List (Int × Int × Int × Int × Int × List UInt8) × List (List (Int × Int × Int × Int × Int × List UInt8)))) × Int) y h => (eb102 rf rb d.1 d.2).trans h
  | 103 => fun (d : (Int × List UInt8 × Int × List (Int × Int × Int × Int × Int × List UInt8) × List (Int × Int × Int × Int × Int × List UInt8) × List (List (Int × Int × Int × Int × Int × List UInt8))) × Int) y h => (eb103 rf rb d.1 d.2).trans h
  | 104 => fun _ _ h => by cases h
  | 105 => fun _ _ h => by cases h
  | 106 => fun _ _ h => by cases h
  | 107 => fun _ _ h => by cases h
  | 108 => fun _ _ h => by cases h
  | 109 => fun _ _ h => by cases h
  | 110 => fun _ _ h => by cases h
  | 111 => fun _ _ h => by cases h
  | 112 => fun _ _ h => by cases h
  | 113 => fun _ _ h => by cases h
  | 114 => fun _ _ h => by cases h
  | 115 => fun _ _ h => by cases h
  | 116 => fun (d : (List (Bool × List UInt8 × List (List UInt8 × Int) × List UInt8 × Int × List (List UInt8 × Int) × List (List UInt8 × List (Int × Int × Int × Int × Int × List UInt8)) × List (Int × List UInt8 × Int × List (Int × Int × Int × Int × Int × List UInt8) × List (Int × Int × Int × Int × Int × List UInt8) × List (List (Int × Int × Int × Int × Int × List UInt8)))) × List UInt8 × List UInt8) × (Int × Int) × Int) y h => (eb116 rf rb d.1 d.2.1 d.2.2).trans h
  | 117 => fun (d : (Bool × List UInt8 × List (List UInt8 × Int) × List UInt8 × Int × List (List UInt8 × Int) × List (List UInt8 × List (Int × Int × Int × Int × Int × List UInt8)) × List (Int × List UInt8 × Int × List (Int × Int × Int × Int × Int × List UInt8) × List (Int × Int × Int × Int × Int × List UInt8) × List (List (Int × Int × Int × Int × Int × List UInt8)))) × List (List (Int × Int × Int × Int × Int × List UInt8)) × Int) y h => (eb117 rf rb d.1 d.2.1 d.2.2).trans h
  | 118 => fun (d : (Bool × List UInt8 × List (List UInt8 × Int) × List UInt8 × Int × List (List UInt8 × Int) × List (List UInt8 × List (Int × Int × Int × Int × Int × List UInt8)) × List (Int × List UInt8 × Int × List (Int × Int × Int × Int × Int × List UInt8) × List (Int × Int × Int × Int × Int × List UInt8) × List (List (Int × Int × Int × Int × Int × List UInt8)))) × List (List (Int × Int × Int × Int × Int × List UInt8)) × Int) y h => (eb118 rf rb d.1 d.2.1 d.2.2).trans h
  | 119 => fun (d : List (List (Int × Int × Int × Int × Int × List UInt8)) × Int × List UInt8 × Int × List (Int × Int × Int × Int × Int × List UInt8) × List (Int × Int × Int × Int × Int × List UInt8) × List (List (Int × Int × Int × Int × Int × List UInt8))) y h => (eb119 rf rb d.1 d.2).trans h
  | 120 => fun (d : List (List (Int × Int × Int × Int × Int × List UInt8)) × (Int × List UInt8 × Int × List (Int × Int × Int × Int × Int × List UInt8) × List (Int × Int × Int × Int × Int × List UInt8) × List (List (Int × Int × Int × Int × Int × List UInt8))) × Int) y h => (eb120 rf rb d.1 d.2.1 d.2.2).trans h
  | 121 => fun (d : (Int × Int) × List (List (Int × Int × Int × Int × Int × List UInt8)) × Int × Int) y h => (eb121 rf rb d.1 d.2.1 d.2.2.1 d.2.2.2).trans h
  | 122 => fun (d : List (Int × Int × Int × Int × Int × List UInt8) × Int) y h => (eb122 rf rb d.1 d.2).trans h
  | 123 => fun _ _ h => by cases h
  | 124 => fun (d : List (Int × Int × Int × Int × Int × List UInt8) × List Int × List Int × List (Int × Int × Int × Int × Int × List UInt8) × Int) y h => (eb124 rf rb d.1 d.2.1 d.2.2.1 d.2.2.2.1 d.2.2.2.2).trans h
  | 125 => fun (d : List (Int × Int × Int × Int × Int × List UInt8) × Int × Int) y h => (eb125 rf rb d.1 d.2.1 d.2.2).trans h
  | n + 126 => fun _ _ h => by cases h

noncomputable def G : Nat → T.RF × T.RB
  | 0 => (fun _ _ => none, fun _ _ => none)
  | n + 1 => (gF (G n).1 (G n).2, gB (G n).1 (G n).2)
theorem run_F (n : Nat) {φ : Nat} {d} {y} (h : (G n).1 φ d = some y) : T.rf φ d = some y := (Tbl.approx gF_ok gB_ok rfl (fun _ => rfl) n).1 φ d y h
theorem run_B (n : Nat) {κ : Nat} {d} {y} (h : (G n).2 κ d = some y) : T.rb κ d = some y := (Tbl.approx gF_ok gB_ok rfl (fun _ => rfl) n).2 κ d y h
theorem live_run : c1 T.rf = some true := run_F 400 (φ := 1) (d := ()) (by kernel_rfl)
end Go.Proofs.Ytcgipnodielieaa.R
