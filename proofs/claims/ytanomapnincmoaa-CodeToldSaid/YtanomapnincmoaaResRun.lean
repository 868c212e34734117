/-
  OUR OWN, PRINTED BY A PROGRAM OF OURS (table2.py): what a function comes to can be computed.
-/
import Derived.Test.YtanomapnincmoaaRes
import Derived.Test.YtanomapnincmoaaBmRun
import Derived.KernelRfl
namespace Go.Proofs.Ytanomapnincmoaa.R
open Go Go.Bm Go.Proofs
set_option linter.unusedVariables false
set_option maxRecDepth 100000

noncomputable def gF (rf : T.RF) (rb : T.RB) : T.RF := fun φ => match φ with
  | 0 => fun (d : XC) => r0 rf rb d
  | 1 => fun (d : XC) => r1 rf rb d
  | 2 => fun (d : Unit) => r2 rf rb 
  | 3 => fun (d : XT) => r3 rf rb d
  | 4 => fun (d : XT × List Int) => r4 rf rb d.1 d.2
  | 5 => fun (d : XT) => r5 rf rb d
  | 6 => fun (d : XT) => r6 rf rb d
  | 7 => fun (d : XT) => r7 rf rb d
  | 8 => fun (d : XT × List XO) => r8 rf rb d.1 d.2
  | 9 => fun (d : XT × List XO) => r9 rf rb d.1 d.2
  | 10 => fun (d : XT × XO) => r10 rf rb d.1 d.2
  | 11 => fun (d : XT × XO) => r11 rf rb d.1 d.2
  | 12 => fun (d : XO) => r12 rf rb d
  | 13 => fun (d : Int) => r13 rf rb d
  | 14 => fun (d : Int) => r14 rf rb d
  | 15 => fun (d : XT × Int) => r15 rf rb d.1 d.2
  | 16 => fun (d : List Int) => r16 rf rb d
  | 17 => fun (d : List Int) => r17 rf rb d
  | 18 => fun (d : Int) => r18 rf rb d
  | 19 => fun (d : Int) => r19 rf rb d
  | 20 => fun (d : XT × List Int) => r20 rf rb d.1 d.2
  | 21 => fun (d : XT × List Int) => r21 rf rb d.1 d.2
  | 22 => fun (d : XT × Int) => r22 rf rb d.1 d.2
  | 23 => fun (d : XT) => r23 rf rb d
  | 24 => fun (d : XO) => r24 rf rb d
  | 25 => fun (d : List Int) => r25 rf rb d
  | 26 => fun (d : List Int) => r26 rf rb d
  | 27 => fun (d : Int) => r27 rf rb d
  | 28 => fun (d : List Int × Int) => r28 rf rb d.1 d.2
  | 29 => fun (d : List Int × Int) => r29 rf rb d.1 d.2
  | 30 => fun (d : List Int) => r30 rf rb d
  | 31 => fun (d : List Int × Int) => r31 rf rb d.1 d.2
  | 32 => fun (d : List Int × Int × Int) => r32 rf rb d.1 d.2.1 d.2.2
  | 33 => fun (d : List Int × Int × Int) => r33 rf rb d.1 d.2.1 d.2.2
  | 34 => fun (d : List Int) => r34 rf rb d
  | 35 => fun (d : List Int × Int × Int) => r35 rf rb d.1 d.2.1 d.2.2
  | 36 => fun (d : List Int) => r36 rf rb d
  | 37 => fun (d : List Int) => r37 rf rb d
  | 38 => fun (d : XT) => r38 rf rb d
  | 39 => fun (d : XT) => r39 rf rb d
  | 40 => fun (d : Int × List Int) => r40 rf rb d.1 d.2
  | 41 => fun (d : Int × List Int) => r41 rf rb d.1 d.2
  | 42 => fun (d : Int × Int) => r42 rf rb d.1 d.2
  | 43 => fun (d : List Int × Int) => r43 rf rb d.1 d.2
  | 44 => fun (d : Int × Int) => r44 rf rb d.1 d.2
  | 45 => fun (d : Int × Int) => r45 rf rb d.1 d.2
  | 46 => fun (d : XT × List Int × Int) => r46 rf rb d.1 d.2.1 d.2.2
  | 47 => fun (d : Int × Int × List XI × List Int × List Int × List Int × List (Int × Int)) => r47 rf rb d.1 d.2.1 d.2.2.1 d.2.2.2.1 d.2.2.2.2.1 d.2.2.2.2.2.1 d.2.2.2.2.2.2
  | 48 => fun (d : Int) => r48 rf rb d
  | 49 => fun (d : XC) => r49 rf rb d
  | 50 => fun (d : XC × List (List Int)) => r50 rf rb d.1 d.2
  | 51 => fun (d : XC) => r51 rf rb d
  | 52 => fun (d : XI) => r52 rf rb d
  | 53 => fun (d : Int) => r53 rf rb d
  | 54 => fun (d : XI × Int) => r54 rf rb d.1 d.2
  | 55 => fun (d : XC × XI) => r55 rf rb d.1 d.2
  | 56 => fun (d : Int) => r56 rf rb d
  | 57 => fun (d : List Bool × Int) => r57 rf rb d.1 d.2
  | 58 => fun (d : XC) => r58 rf rb d
  | 59 => fun (d : XC × (List Int × Bool) × List Int) => r59 rf rb d.1 d.2.1 d.2.2
  | 60 => fun (d : XC × List Int) => r60 rf rb d.1 d.2
  | 61 => fun (d : List Int × XI × List Int × List Int × Bool) => r61 rf rb d.1 d.2.1 d.2.2.1 d.2.2.2
  | 62 => fun (d : Int × Int × Int × Int) => r62 rf rb d.1 d.2.1 d.2.2.1 d.2.2.2
  | 63 => fun (d : Bool) => r63 rf rb d
  | 64 => fun (d : Int) => r64 rf rb d
  | 65 => fun (d : Int × Int) => r65 rf rb d.1 d.2
  | 66 => fun (d : Int) => r66 rf rb d
  | 67 => fun (d : XC) => r67 rf rb d
  | 68 => fun (d : XC × XI) => r68 rf rb d.1 d.2
  | 69 => fun (d : List (Int × Bool) × List Int) => r69 rf rb d.1 d.2
  | 70 => fun (d : List (Int × Bool) × List Int) => r70 rf rb d.1 d.2
  | 71 => fun (d : List (Int × Bool) × Int) => r71 rf rb d.1 d.2
  | 72 => fun (d : List (List Int) × List (List Int)) => r72 rf rb d.1 d.2
  | 73 => fun (d : List Int × List Int) => r73 rf rb d.1 d.2
  | 74 => fun (d : XC) => r74 rf rb d
  | 75 => fun (d : XT × List Int × List (List Int)) => r75 rf rb d.1 d.2.1 d.2.2
  | 76 => fun (d : XT) => r76 rf rb d
  | 77 => fun (d : List (List UInt8 × Int × List (Int × Int × Int × Int × Int × List UInt8)) × List (List Int)) => r77 rf rb d.1 d.2
  | 78 => fun (d : XT) => r78 rf rb d
  | 79 => fun (d : XT) => r79 rf rb d
  | 80 => fun (d : Int) => r80 rf rb d
  | 81 => fun (d : XT × XO) => r81 rf rb d.1 d.2
  | 82 => fun (d : XT × Int × Int × Int) => r82 rf rb d.1 d.2.1 d.2.2.1 d.2.2.2
  | 83 => fun (d : XT) => r83 rf rb d
  | 84 => fun (d : XO) => r84 rf rb d
  | 85 => fun (d : XT × List (List Int)) => r85 rf rb d.1 d.2
  | 86 => fun (d : XT × List Int) => r86 rf rb d.1 d.2
  | 87 => fun (d : List Int × XO × List Int × List Int) => r87 rf rb d.1 d.2.1 d.2.2.1 d.2.2.2
  | 88 => fun (d : XT × List Int) => r88 rf rb d.1 d.2
  | 89 => fun (d : XT × List Int × List (List Int)) => r89 rf rb d.1 d.2.1 d.2.2
  | 90 => fun (d : XC × Int × Int) => r90 rf rb d.1 d.2.1 d.2.2
  | _ => fun _ => none
theorem gF_ok (rf : T.RF) (rb : T.RB) : ∀ φ d y, gF rf rb φ d = some y → T.stepF rf rb φ d = some y := fun φ => match φ with
  | 0 => fun (d : XC) y h => (er0 rf rb d).trans h
  | 1 => fun (d : XC) y h => (er1 rf rb d).trans h
  | 2 => fun (d : Unit) y h => (er2 rf rb ).trans h
  | 3 => fun (d : XT) y h => (er3 rf rb d).trans h
  | 4 => fun (d : XT × List Int) y h => (er4 rf rb d.1 d.2).trans h
  | 5 => fun (d : XT) y h => (er5 rf rb d).trans h
  | 6 => fun (d : XT) y h => (er6 rf rb d).trans h
  | 7 => fun (d : XT) y h => (er7 rf rb d).trans h
  | 8 => fun (d : XT × List XO) y h => (er8 rf rb d.1 d.2).trans h
  | 9 => fun (d : XT × List XO) y h => (er9 rf rb d.1 d.2).trans h
  | 10 => fun (d : XT × XO) y h => (er10 rf rb d.1 d.2).trans h
  | 11 => fun (d : XT × XO) y h => (er11 rf rb d.1 d.2).trans h
  | 12 => fun (d : XO) y h => (er12 rf rb d).trans h
  | 13 => fun (d : Int) y h => (er13 rf rb d).trans h
  | 14 => fun (d : Int) y h => (er14 rf rb d).trans h
  | 15 => fun (d : XT × Int) y h => (er15 rf rb d.1 d.2).trans h
  | 16 => fun (d : List Int) y h => (er16 rf rb d).trans h
  | 17 => fun (d : List Int) y h => (er17 rf rb d).trans h
  | 18 => fun (d : Int) y h => (er18 rf rb d).trans h
  | 19 => fun (d : Int) y h => (er19 rf rb d).trans h
  | 20 => fun (d : XT × List Int) y h => (er20 rf rb d.1 d.2).trans h
  | 21 => fun (d : XT × List Int) y h => (er21 rf rb d.1 d.2).trans h
  | 22 => fun (d : XT × Int) y h => (er22 rf rb d.1 d.2).trans h
  | 23 => fun (d : XT) y h => (er23 rf rb d).trans h
  | 24 => fun (d : XO) y h => (er24 rf rb d).trans h
  | 25 => fun (d : List Int) y h => (er25 rf rb d).trans h
  | 26 => fun (d : List Int) y h => (er26 rf rb d).trans h
  | 27 => fun (d : Int) y h => (er27 rf rb d).trans h
  | 28 => fun (d : List Int × Int) y h => (er28 rf rb d.1 d.2).trans h
  | 29 => fun (d : List Int × Int) y h => ((er29 rf rb d.1 d.2).trans (sr29 rf rb d.1 d.2)).trans h
  | 30 => fun (d : List Int) y h => (er30 rf rb d).trans h
  | 31 => fun (d : List Int × Int) y h => (er31 rf rb d.1 d.2).trans h
  | 32 => fun (d : List Int × Int × Int) y h => (er32 rf rb d.1 d.2.1 d.2.2).trans h
  | 33 => fun (d : List Int × Int × Int) y h => ((er33 rf rb d.1 d.2.1 d.2.2).trans (sr33 rf rb d.1 d.2.1 d.2.2)).trans h
  | 34 => fun (d : List Int) y h => (er34 rf rb d).trans h
  | 35 => fun (d : List Int × Int × Int) y h => (er35 rf rb d.1 d.2.1 d.2.2).trans h
  | 36 => fun (d : List Int) y h => (er36 rf rb d).trans h
  | 37 => fun (d : List Int) y h => (er37 rf rb d).trans h
  | 38 => fun (d : XT) y h => (er38 rf rb d).trans h
  | 39 => fun (d : XT) y h => (er39 rf rb d).trans h
  | 40 => fun (d : Int × List Int) y h => (er40 rf rb d.1 d.2).trans h
  | 41 => fun (d : Int × List Int) y h => (er41 rf rb d.1 d.2).trans h
  | 42 => fun (d : Int × Int) y h => (er42 rf rb d.1 d.2).trans h
  | 43 => fun (d : List Int × Int) y h => (er43 rf rb d.1 d.2).trans h
  | 44 => fun (d : Int × Int) y h => (er44 rf rb d.1 d.2).trans h
  | 45 => fun (d : Int × Int) y h => (er45 rf rb d.1 d.2).trans h
  | 46 => fun (d : XT × List Int × Int) y h => (er46 rf rb d.1 d.2.1 d.2.2).trans h
  | 47 => fun (d : Int × Int × List XI × List Int × List Int × List Int × List (Int × Int)) y h => (er47 rf rb d.1 d.2.1 d.2.2.1 d.2.2.2.1 d.2.2.2.2.1 d.2.2.2.2.2.1 d.2.2.2.2.2.2).trans h
  | 48 => fun (d : Int) y h => (er48 rf rb d).trans h
  | 49 => fun (d : XC) y h => (er49 rf rb d).trans h
  | 50 => fun (d : XC × List (List Int)) y h => (er50 rf rb d.1 d.2).trans h
  | 51 => fun (d : XC) y h => (er51 rf rb d).trans h
  | 52 => fun (d : XI) y h => (er52 rf rb d).trans h
  | 53 => fun (d : Int) y h => (er53 rf rb d).trans h
  | 54 => fun (d : XI × Int) y h => (er54 rf rb d.1 d.2).trans h
  | 55 => fun (d : XC × XI) y h => (er55 rf rb d.1 d.2).trans h
  | 56 => fun (d : Int) y h => (er56 rf rb d).trans h
  | 57 => fun (d : List Bool × Int) y h => (er57 rf rb d.1 d.2).trans h
  | 58 => fun (d : XC) y h => (er58 rf rb d).trans h
  | 59 => fun (d : XC × (List Int × Bool) × List Int) y h => (er59 rf rb d.1 d.2.1 d.2.2).trans h
  | 60 => fun (d : XC × List Int) y h => (er60 rf rb d.1 d.2).trans h
  | 61 => fun (d : List Int × XI × List Int × List Int × Bool) y h => (er61 rf rb d.1 d.2.1 d.2.2.1 d.2.2.2).trans h
  | 62 => fun (d : Int × Int × Int × Int) y h => (er62 rf rb d.1 d.2.1 d.2.2.1 d.2.2.2).trans h
  | 63 => fun (d : Bool) y h => (er63 rf rb d).trans h
  | 64 => fun (d : Int) y h => (er64 rf rb d).trans h
  | 65 => fun (d : Int × Int) y h => (er65 rf rb d.1 d.2).trans h
  | 66 => fun (d : Int) y h => (er66 rf rb d).trans h
  | 67 => fun (d : XC) y h => (er67 rf rb d).trans h
  | 68 => fun (d : XC × XI) y h => (er68 rf rb d.1 d.2).trans h
  | 69 => fun (d : List (Int × Bool) × List Int) y h => (er69 rf rb d.1 d.2).trans h
  | 70 => fun (d : List (Int × Bool) × List Int) y h => (er70 rf rb d.1 d.2).trans h
  | 71 => fun (d : List (Int × Bool) × Int) y h => (er71 rf rb d.1 d.2).trans h
  | 72 => fun (d : List (List Int) × List (List Int)) y h => (er72 rf rb d.1 d.2).trans h
  | 73 => fun (d : List Int × List Int) y h => (er73 rf rb d.1 d.2).trans h
  | 74 => fun (d : XC) y h => (er74 rf rb d).trans h
  | 75 => fun (d : XT × List Int × List (List Int)) y h => (er75 rf rb d.1 d.2.1 d.2.2).trans h
  | 76 => fun (d : XT) y h => (er76 rf rb d).trans h
  | 77 => fun (d : List (List UInt8 × Int × List (Int × Int × Int × Int × Int × List UInt8)) × List (List Int)) y h => (er77 rf rb d.1 d.2).trans h
  | 78 => fun (d : XT) y h => (er78 rf rb d).trans h
  | 79 => fun (d : XT) y h => (er79 rf rb d).trans h
  | 80 => fun (d : Int) y h => (er80 rf rb d).trans h
  | 81 => fun (d : XT × XO) y h => (er81 rf rb d.1 d.2).trans h
  | 82 => fun (d : XT × Int × Int × Int) y h => (er82 rf rb d.1 d.2.1 d.2.2.1 d.2.2.2).trans h
  | 83 => fun (d : XT) y h => (er83 rf rb d).trans h
  | 84 => fun (d : XO) y h => (er84 rf rb d).trans h
  | 85 => fun (d : XT × List (List Int)) y h => (er85 rf rb d.1 d.2).trans h
  | 86 => fun (d : XT × List Int) y h => (er86 rf rb d.1 d.2).trans h
  | 87 => fun (d : List Int × XO × List Int × List Int) y h => (er87 rf rb d.1 d.2.1 d.2.2.1 d.2.2.2).trans h
  | 88 => fun (d : XT × List Int) y h => (er88 rf rb d.1 d.2).trans h
  | 89 => fun (d : XT × List Int × List (List Int)) y h => (er89 rf rb d.1 d.2.1 d.2.2).trans h
  | 90 => fun (d : XC × Int × Int) y h => (er90 rf rb d.1 d.2.1 d.2.2).trans h
  | n + 91 => fun _ _ h => by cases h

noncomputable def gB (rf : T.RF) (rb : T.RB) : T.RB := fun φ => match φ with
  | 1 => fun (d : XT × List Int × List Int × List XO × Int) => b1 rf rb d.1 d.2.1 d.2.2.1 d.2.2.2.1 d.2.2.2.2
  | 2 => fun (d : XT × List XO × Int × Int) => b2 rf rb d.1 d.2.1 d.2.2.1 d.2.2.2
  | 3 => fun (d : XT × List Int × Int × Int) => b3 rf rb d.1 d.2.1 d.2.2.1 d.2.2.2
  | 4 => fun (d : List Int × Int × Int) => b4 rf rb d.1 d.2.1 d.2.2
  | 5 => fun (d : XT × List Int × Int × Int) => b5 rf rb d.1 d.2.1 d.2.2.1 d.2.2.2
  | 11 => fun (d : XT × List Int × Int × Int) => b11 rf rb d.1 d.2.1 d.2.2.1 d.2.2.2
  | 12 => fun (d : XT × List Int × List Int) => b12 rf rb d.1 d.2.1 d.2.2
  | 13 => fun (d : List Int × List Int × List Int × Int × Int) => b13 rf rb d.1 d.2.1 d.2.2.1 d.2.2.2.1 d.2.2.2.2
  | 15 => fun (d : List Int × Int × Int) => b15 rf rb d.1 d.2.1 d.2.2
  | 16 => fun (d : List Int × Int × Int) => b16 rf rb d.1 d.2.1 d.2.2
  | 18 => fun (d : List Int × Int) => b18 rf rb d.1 d.2
  | 22 => fun (d : List Int × Int × Int) => b22 rf rb d.1 d.2.1 d.2.2
  | 36 => fun (d : List Int × List (List Int) × List Int × List XO × Int × Int) => b36 rf rb d.1 d.2.1 d.2.2.1 d.2.2.2.1 d.2.2.2.2.1 d.2.2.2.2.2
  | 37 => fun (d : List Int × List (List Int) × List Int × Int × Int × Int) => b37 rf rb d.1 d.2.1 d.2.2.1 d.2.2.2.1 d.2.2.2.2.1 d.2.2.2.2.2
  | 38 => fun (d : List Int × List Int × List Int × List (List Int)) => b38 rf rb d.1 d.2.1 d.2.2.1 d.2.2.2
  | 39 => fun (d : List Int × List Int × List Int × Int × Int) => b39 rf rb d.1 d.2.1 d.2.2.1 d.2.2.2.1 d.2.2.2.2
  | 51 => fun (d : List Int × List Int × Int × Int) => b51 rf rb d.1 d.2.1 d.2.2.1 d.2.2.2
  | 52 => fun (d : XT × List Int × List Int × List XO × List Int × List Int × Int × Int) => b52 rf rb d.1 d.2.1 d.2.2.1 d.2.2.2.1 d.2.2.2.2.1 d.2.2.2.2.2.1 d.2.2.2.2.2.2.1 d.2.2.2.2.2.2.2
  | 53 => fun (d : List Int × List XO × List Int × List Int × List Int × Int × Int) => b53 rf rb d.1 d.2.1 d.2.2.1 d.2.2.2.1 d.2.2.2.2.1 d.2.2.2.2.2.1 d.2.2.2.2.2.2
  | 54 => fun (d : List XO × Int × Int) => b54 rf rb d.1 d.2.1 d.2.2
  | 55 => fun (d : Int × List Int × Int × Int) => b55 rf rb d.1 d.2.1 d.2.2.1 d.2.2.2
  | 58 => fun (d : List Int × Int) => b58 rf rb d.1 d.2
  | 59 => fun (d : List Int × Int) => b59 rf rb d.1 d.2
  | 60 => fun (d : List Int × List XO × Int × Int) => b60 rf rb d.1 d.2.1 d.2.2.1 d.2.2.2
  | 61 => fun (d : List Int × List Int × Int × Int × Int) => b61 rf rb d.1 d.2.1 d.2.2.1 d.2.2.2.1 d.2.2.2.2
  | 194 => fun (d : XT × Int × Int × List Int × List XI × List Int × List Int × List Int × Int × Int) => b194 rf rb d.1 d.2.1 d.2.2.1 d.2.2.2.1 d.2.2.2.2.1 d.2.2.2.2.2.1 d.2.2.2.2.2.2.1 d.2.2.2.2.2.2.2.1 d.2.2.2.2.2.2.2.2.1 d.2.2.2.2.2.2.2.2.2
  | 195 => fun (d : XT × List (Int × Int) × List Int × List XO × Int × Int) => b195 rf rb d.1 d.2.1 d.2.2.1 d.2.2.2.1 d.2.2.2.2.1 d.2.2.2.2.2
  | 196 => fun (d : List (Int × Int) × Int × Int × List Int × List XI × List Int × List Int × List Int × List (Int × Int) × List XO × Int × Int) => b196 rf rb d.1 d.2.1 d.2.2.1 d.2.2.2.1 d.2.2.2.2.1 d.2.2.2.2.2.1 d.2.2.2.2.2.2.1 d.2.2.2.2.2.2.2.1 d.2.2.2.2.2.2.2.2.1 d.2.2.2.2.2.2.2.2.2.1 d.2.2.2.2.2.2.2.2.2.2.1 d.2.2.2.2.2.2.2.2.2.2.2
  | 197 => fun (d : Int × Int × XI × List Int × List XI × List Int × List Int × List Int × List (Int × Int) × Int) => b197 rf rb d.1 d.2.1 d.2.2.1 d.2.2.2.1 d.2.2.2.2.1 d.2.2.2.2.2.1 d.2.2.2.2.2.2.1 d.2.2.2.2.2.2.2.1 d.2.2.2.2.2.2.2.2.1 d.2.2.2.2.2.2.2.2.2
  | 198 => fun (d : Int × Int × List Int × List Int × List XI × List Int × List Int × List Int × List (Int × Int) × XI × Int) => b198 rf rb d.1 d.2.1 d.2.2.1 d.2.2.2.1 d.2.2.2.2.1 d.2.2.2.2.2.1 d.2.2.2.2.2.2.1 d.2.2.2.2.2.2.2.1 d.2.2.2.2.2.2.2.2.1 d.2.2.2.2.2.2.2.2.2.1 d.2.2.2.2.2.2.2.2.2.2
  | 199 => fun (d : Int × Int × List Int × List XI × List Int × List Int × List Int × List (Int × Int) × XI × Int × Int) => b199 rf rb d.1 d.2.1 d.2.2.1 d.2.2.2.1 d.2.2.2.2.1 d.2.2.2.2.2.1 d.2.2.2.2.2.2.1 d.2.2.2.2.2.2.2.1 d.2.2.2.2.2.2.2.2.1 d.2.2.2.2.2.2.2.2.2.1 d.2.2.2.2.2.2.2.2.2.2
  | 200 => fun (d : Int × Int × List Int × List Int × List XI × List Int × List Int × List Int × List (Int × Int) × Int × Int × Int) => b200 rf rb d.1 d.2.1 d.2.2.1 d.2.2.2.1 d.2.2.2.2.1 d.2.2.2.2.2.1 d.2.2.2.2.2.2.1 d.2.2.2.2.2.2.2.1 d.2.2.2.2.2.2.2.2.1 d.2.2.2.2.2.2.2.2.2.1 d.2.2.2.2.2.2.2.2.2.2.1 d.2.2.2.2.2.2.2.2.2.2.2
  | 201 => fun (d : List (Int × Int) × Int × Int × List XI × List Int × List Int × List Int × List (Int × Int) × Int × Int) => b201 rf rb d.1 d.2.1 d.2.2.1 d.2.2.2.1 d.2.2.2.2.1 d.2.2.2.2.2.1 d.2.2.2.2.2.2.1 d.2.2.2.2.2.2.2.1 d.2.2.2.2.2.2.2.2.1 d.2.2.2.2.2.2.2.2.2
  | 202 => fun (d : XT × Int × Int × List XI × List Int × List Int × List Int × List (Int × Int) × List Int × Int × Int) => b202 rf rb d.1 d.2.1 d.2.2.1 d.2.2.2.1 d.2.2.2.2.1 d.2.2.2.2.2.1 d.2.2.2.2.2.2.1 d.2.2.2.2.2.2.2.1 d.2.2.2.2.2.2.2.2.1 d.2.2.2.2.2.2.2.2.2.1 d.2.2.2.2.2.2.2.2.2.2
  | 204 => fun (d : XC × Int × Int × List Int × List Int × List XI × Int) => b204 rf rb d.1 d.2.1 d.2.2.1 d.2.2.2.1 d.2.2.2.2.1 d.2.2.2.2.2.1 d.2.2.2.2.2.2
  | 205 => fun (d : XC × List Bool × List Bool × Bool × Int) => b205 rf rb d.1 d.2.1 d.2.2.1 d.2.2.2.1 d.2.2.2.2
  | 206 => fun (d : List Bool × List Int × Int) => b206 rf rb d.1 d.2.1 d.2.2
  | 207 => fun (d : XC × List Bool × Int) => b207 rf rb d.1 d.2.1 d.2.2
  | 209 => fun (d : XC × List Int × Int) => b209 rf rb d.1 d.2.1 d.2.2
  | 213 => fun (d : List Int × XI) => b213 rf rb d.1 d.2
  | 214 => fun (d : List Int × List Int × List Int × Int) => b214 rf rb d.1 d.2.1 d.2.2.1 d.2.2.2
  | 219 => fun (d : XC × (List Int × Bool) × List Int × Bool × List Int × List Int × Int × Int) => b219 rf rb d.1 d.2.1 d.2.2.1 d.2.2.2.1 d.2.2.2.2.1 d.2.2.2.2.2.1 d.2.2.2.2.2.2.1 d.2.2.2.2.2.2.2
  | 220 => fun (d : XC × List Int × List Int × Int) => b220 rf rb d.1 d.2.1 d.2.2.1 d.2.2.2
  | 222 => fun (d : XC × (List Int × Bool) × List (List Int) × List (List Int) × Int) => b222 rf rb d.1 d.2.1 d.2.2.1 d.2.2.2.1 d.2.2.2.2
  | 223 => fun (d : (List Int × Bool) × List (List Int) × List Int × (List Int × Bool) × Int) => b223 rf rb d.1 d.2.1 d.2.2.1 d.2.2.2.1 d.2.2.2.2
  | 224 => fun (d : XC × List (Int × Bool) × List (Int × Bool) × List XI × Int × Int) => b224 rf rb d.1 d.2.1 d.2.2.1 d.2.2.2.1 d.2.2.2.2.1 d.2.2.2.2.2
  | 225 => fun (d : List Int × List (Int × Bool) × Int × Int) => b225 rf rb d.1 d.2.1 d.2.2.1 d.2.2.2
  | 226 => fun (d : List (Int × Bool) × List Int × Int × Int) => b226 rf rb d.1 d.2.1 d.2.2.1 d.2.2.2
  | 227 => fun (d : List (List Int) × List (List Int) × Int) => b227 rf rb d.1 d.2.1 d.2.2
  | 228 => fun (d : List Int × List Int × Int) => b228 rf rb d.1 d.2.1 d.2.2
  | 230 => fun (d : XC × Int × Int × List Int × List Int × List XI × Int) => b230 rf rb d.1 d.2.1 d.2.2.1 d.2.2.2.1 d.2.2.2.2.1 d.2.2.2.2.2.1 d.2.2.2.2.2.2
  | 231 => fun (d : List (List UInt8 × Int × List (Int × Int × Int × Int × Int × List UInt8)) × Int) => b231 rf rb d.1 d.2
  | 232 => fun (d : List (List Int) × Int) => b232 rf rb d.1 d.2
  | 233 => fun (d : XT × Int) => b233 rf rb d.1 d.2
  | 234 => fun (d : XT × Int) => b234 rf rb d.1 d.2
  | 238 => fun (d : XT × List Bool × List Int) => b238 rf rb d.1 d.2.1 d.2.2
  | 239 => fun (d : XT × List Bool × Int × Int) => b239 rf rb d.1 d.2.1 d.2.2.1 d.2.2.2
  | 240 => fun (d : List Bool × List Int × Bool × Int) => b240 rf rb d.1 d.2.1 d.2.2.1 d.2.2.2
  | 241 => fun (d : XT × List Int × Int × Int) => b241 rf rb d.1 d.2.1 d.2.2.1 d.2.2.2
  | 243 => fun (d : XT × List Int × Int) => b243 rf rb d.1 d.2.1 d.2.2
  | 247 => fun (d : List Int × XO) => b247 rf rb d.1 d.2
  | 248 => fun (d : List Int × List Int × List Int × Int) => b248 rf rb d.1 d.2.1 d.2.2.1 d.2.2.2
  | 253 => fun (d : XT × List Int × List (List Int) × List (List Int) × List Int × Int) => b253 rf rb d.1 d.2.1 d.2.2.1 d.2.2.2.1 d.2.2.2.2.1 d.2.2.2.2.2
  | 254 => fun (d : XT × List Int × List Int × List (List Int) × List Int × Int × Int × Int) => b254 rf rb d.1 d.2.1 d.2.2.1 d.2.2.2.1 d.2.2.2.2.1 d.2.2.2.2.2.1 d.2.2.2.2.2.2.1 d.2.2.2.2.2.2.2
  | 255 => fun (d : XT × List Int × List Int × Int) => b255 rf rb d.1 d.2.1 d.2.2.1 d.2.2.2
  | 256 => fun (d : List (List Int) × List (List Int) × List Int × Int) => b256 rf rb d.1 d.2.1 d.2.2.1 d.2.2.2
  | 257 => fun (d : List (List Int) × List (List Int) × List Int × Int × Int) => b257 rf rb d.1 d.2.1 d.2.2.1 d.2.2.2.1 d.2.2.2.2
  | 258 => fun (d : XT × Int × Int) => b258 rf rb d.1 d.2.1 d.2.2
  | 259 => fun (d : List (List Int) × List (List Int) × List Int × Int) => b259 rf rb d.1 d.2.1 d.2.2.1 d.2.2.2
  | _ => fun _ => none
theorem gB_ok (rf : T.RF) (rb : T.RB) : ∀ φ d y, gB rf rb φ d = some y → T.stepB rf rb φ d = some y := fun φ => match φ with
  | 0 => fun _ _ h => by cases h
  | 1 => fun (d : XT × List Int × List Int × List XO × Int) y h => (eb1 rf rb d.1 d.2.1 d.2.2.1 d.2.2.2.1 d.2.2.2.2).trans h
  | 2 => fun (d : XT × List XO × Int × Int) y h => (eb2 rf rb d.1 d.2.1 d.2.2.1 d.2.2.2).trans h
  | 3 => fun (d : XT × List Int × Int × Int) y h => (eb3 rf rb d.1 d.2.1 d.2.2.1 d.2.2.2).trans h
  | 4 => fun (d : List Int × Int × Int) y h => (eb4 rf rb d.1 d.2.1 d.2.2).trans h
  | 5 => fun (d : XT × List Int × Int × Int) y h => (eb5 rf rb d.1 d.2.1 d.2.2.1 d.2.2.2).trans h
  | 6 => fun _ _ h => by cases h
  | 7 => fun _ _ h => by cases h
  | 8 => fun _ _ h => by cases h
  | 9 => fun _ _ h => by cases h
  | 10 => fun _ _ h => by cases h
  | 11 => fun (d : XT × List Int × Int × Int) y h => (eb11 rf rb d.1 d.2.1 d.2.2.1 d.2.2.2).trans h
  | 12 => fun (d : XT × List Int × List Int) y h => (eb12 rf rb d.1 d.2.1 d.2.2).trans h
  | 13 => fun (d : List Int × List Int × List Int × Int × Int) y h => (eb13 rf rb d.1 d.2.1 d.2.2.1 d.2.2.2.1 d.2.2.2.2).trans h
  | 14 => fun _ _ h => by cases h
  | 15 => fun (d : List Int × Int × Int) y h => (eb15 rf rb d.1 d.2.1 d.2.2).trans h
  | 16 => fun (d : List Int × Int × Int) y h => (eb16 rf rb d.1 d.2.1 d.2.2).trans h
  | 17 => fun _ _ h => by cases h
  | 18 => fun (d : List Int × Int) y h => (eb18 rf rb d.1 d.2).trans h
  | 19 => fun _ _ h => by cases h
  | 20 => fun _ _ h => by cases h
  | 21 => fun _ _ h => by cases h
  | 22 => fun (d : List Int × Int × Int) y h => (eb22 rf rb d.1 d.2.1 d.2.2).trans h
  | 23 => fun _ _ h => by cases h
  | 24 => fun _ _ h => by cases h
  | 25 => fun _ _ h => by cases h
  | 26 => fun _ _ h => by cases h
  | 27 => fun _ _ h => by cases h
  | 28 => fun _ _ h => by cases h
  | 29 => fun _ _ h => by cases h
  | 30 => fun _ _ h => by cases h
  | 31 => fun _ _ h => by cases h
  | 32 => fun _ _ h => by cases h
  | 33 => fun _ _ h => by cases h
  | 34 => fun _ _ h => by cases h
  | 35 => fun _ _ h => by cases h
  | 36 => fun (d : List Int × List (List Int) × List Int × List XO × Int × Int) y h => (eb36 rf rb d.1 d.2.1 d.2.2.1 d.2.2.2.1 d.2.2.2.2.1 d.2.2.2.2.2).trans h
  | 37 => fun (d : List Int × List (List Int) × List Int × Int × Int × Int) y h => (eb37 rf rb d.1 d.2.1 d.2.2.1 d.2.2.2.1 d.2.2.2.2.1 d.2.2.2.2.2).trans h
  | 38 => fun (d : List Int × List Int × List Int × List (List Int)) y h => (eb38 rf rb d.1 d.2.1 d.2.2.1 d.2.2.2).trans h
  | 39 => fun (d : List Int × List Int × List Int × Int × Int) y h => (eb39 rf rb d.1 d.2.1 d.2.2.1 d.2.2.2.1 d.2.2.2.2).trans h
  | 40 => fun _ _ h => by cases h
  | 41 => fun _ _ h => by cases h
  | 42 => fun _ _ h => by cases h
  | 43 => fun _ _ h => by cases h
  | 44 => fun _ _ h => by cases h
  | 45 => fun _ _ h => by cases h
  | 46 => fun _ _ h => by cases h
  | 47 => fun _ _ h => by cases h
  | 48 => fun _ _ h => by cases h
  | 49 => fun _ _ h => by cases h
  | 50 => fun _ _ h => by cases h
  | 51 => fun (d : List Int × List Int × Int × Int) y h => (eb51 rf rb d.1 d.2.1 d.2.2.1 d.2.2.2).trans h
  | 52 => fun (d : XT × List Int × List Int × List XO × List Int × List Int × Int × Int) y h => (eb52 rf rb d.1 d.2.1 d.2.2.1 d.2.2.2.1 d.2.2.2.2.1 d.2.2.2.2.2.1 d.2.2.2.2.2.2.1 d.2.2.2.2.2.2.2).trans h
  | 53 => fun (d : List Int × List XO × List Int × List Int × List Int × Int × Int) y h => ((eb53 rf rb d.1 d.2.1 d.2.2.1 d.2.2.2.1 d.2.2.2.2.1 d.2.2.2.2.2.1 d.2.2.2.2.2.2).trans (sb53 rf rb d.1 d.2.1 d.2.2.1 d.2.2.2.1 d.2.2.2.2.1 d.2.2.2.2.2.1 d.2.2.2.2.2.2)).trans h
  | 54 => fun (d : List XO × Int × Int) y h => (eb54 rf rb d.1 d.2.1 d.2.2).trans h
  | 55 => fun (d : Int × List Int × Int × Int) y h => (eb55 rf rb d.1 d.2.1 d.2.2.1 d.2.2.2).trans h
  | 56 => fun _ _ h => by cases h
  | 57 => fun _ _ h => by cases h
  | 58 => fun (d : List Int × Int) y h => (eb58 rf rb d.1 d.2).trans h
  | 59 => fun (d : List Int × Int) y h => (eb59 rf rb d.1 d.2).trans h
  | 60 => fun (d : List Int × List XO × Int × Int) y h => (eb60 rf rb d.1 d.2.1 d.2.2.1 d.2.2.2).trans h
  | 61 => fun (d : List Int × List Int × Int × Int × Int) y h => (eb61 rf rb d.1 d.2.1 d.2.2.1 d.2.2.2.1 d.2.2.2.2).trans h
  | 62 => fun _ _ h => by cases h
  | 63 => fun _ _ h => by cases h
  | 64 => fun _ _ h => by cases h
  | 65 => fun _ _ h => by cases h
  | 66 => fun _ _ h => by cases h
  | 67 => fun _ _ h => by cases h
  | 68 => fun _ _ h => by cases h
  | 69 => fun _ _ h => by cases h
  | 70 => fun _ _ h => by cases h
  | 71 => fun _ _ h => by cases h
  | 72 => fun _ _ h => by cases h
  | 73 => fun _ _ h => by cases h
  | 74 => fun _ _ h => by cases h
  | 75 => fun _ _ h => by cases h
  | 76 => fun _ _ h => by cases h
  | 77 => fun _ _ h => by cases h
  | 78 => fun _ _ h => by cases h
  | 79 => fun _ _ h => by cases h
  | 80 => fun _ _ h => by cases h
  | 81 => fun _ _ h => by cases h
  | 82 => fun _ _ h => by cases h
  | 83 => fun _ _ h => by cases h
  | 84 => fun _ _ h => by cases h
  | 85 => fun _ _ h => by cases h
  | 86 => fun _ _ h => by cases h
  | 87 => fun _ _ h => by cases h
  | 88 => fun _ _ h => by cases h
  | 89 => fun _ _ h => by cases h
  | 90 => fun _ _ h => by cases h
  | 91 => fun _ _ h => by cases h
  | 92 => fun _ _ h => by cases h
  | 93 => fun _ _ h => by cases h
  | 94 => fun _ _ h => by cases h
  | 95 => fun _ _ h => by cases h
  | 96 => fun _ _ h => by cases h
  | 97 => fun _ _ h => by cases h
  | 98 => fun _ _ h => by cases h
  | 99 => fun _ _ h => by cases h
  | 100 => fun _ _ h => by cases h
  | 101 => fun _ _ h => by cases h
  | 102 => fun _ _ h => by cases h
  | 103 => fun _ _ h => by cases h
  | 104 => fun _ _ h => by cases h
  | 105 => fun _ _ h => by cases h
  | 106 => fun _ _ h => by cases h
  | 107 => fun _ _ h => by cases h
  | 108 => fun _ _ h => by cases h
  | 109 => fun _ _ h => by cases h
  | 110 => fun _ _ h => by cases h
  | 111 => fun _ _ h => by cases h
  | 112 => fun _ _ h => by cases h
  | 113 => fun _ _ h => by cases h
  | 114 => fun _ _ h => by cases h
  | 115 => fun _ _ h => by cases h
  | 116 => fun _ _ h => by cases h
  | 117 => fun _ _ h => by cases h
  | 118 => fun _ _ h => by cases h
  | 119 => fun _ _ h => by cases h
  | 120 => fun _ _ h => by cases h
  | 121 => fun _ _ h => by cases h
  | 122 => fun _ _ h => by cases h
  | 123 => fun _ _ h => by cases h
  | 124 => fun _ _ h => by cases h
  | 125 => fun _ _ h => by cases h
  | 126 => fun _ _ h => by cases h
  | 127 => fun _ _ h => by cases h
  | 128 => fun _ _ h => by cases h
  | 129 => fun _ _ h => by cases h
  | 130 => fun _ _ h => by cases h
  | 131 => fun _ _ h => by cases h
  | 132 => fun _ _ h => by cases h
  | 133 => fun _ _ h => by cases h
  | 134 => fun _ _ h => by cases h
  | 135 => fun _ _ h => by cases h
  | 136 => fun _ _ h => by cases h
  | 137 => fun _ _ h => by cases h
  | 138 => fun _ _ h => by cases h
  | 139 => fun _ _ h => by cases h
  | 140 => fun _ _ h => by cases h
  | 141 => fun _ _ h => by cases h
  | 142 => fun _ _ h => by cases h
  | 143 => fun _ _ h => by cases h
  | 144 => fun _ _ h => by cases h
  | 145 => fun _ _ h => by cases h
  | 146 => fun _ _ h => by cases h
  | 147 => fun _ _ h => by cases h
  | 148 => fun _ _ h => by cases h
  | 149 => fun _ _ h => by cases h
  | 150 => fun _ _ h => by cases h
  | 151 => fun _ _ h => by cases h
  | 152 => fun _ _ h => by cases h
  | 153 => fun _ _ h => by cases h
  | 154 => fun _ _ h => by cases h
  | 155 => fun _ _ h => by cases h
  | 156 => fun _ _ h => by cases h
  | 157 => fun _ _ h => by cases h
  | 158 => fun _ _ h => by cases h
  | 159 => fun _ _ h => by cases h
  | 160 => fun _ _ h => by cases h
  | 161 => fun _ _ h => by cases h
  | 162 => fun _ _ h => by cases h
  | 163 => fun _ _ h => by cases h
  | 164 => fun _ _ h => by cases h
  | 165 => fun _ _ h => by cases h
  | 166 => fun _ _ h => by cases h
  | 167 => fun _ _ h => by cases h
  | 168 => fun _ _ h => by cases h
  | 169 => fun _ _ h => by cases h
  | 170 => fun _ _ h => by cases h
  | 171 => fun _ _ h => by cases h
  | 172 => fun _ _ h => by cases h
  | 173 => fun _ _ h => by cases h
  | 174 => fun _ _ h => by cases h
  | 175 => fun _ _ h => by cases h
  | 176 => fun _ _ h => by cases h
  | 177 => fun _ _ h => by cases h
  | 178 => fun _ _ h => by cases h
  | 179 => fun _ _ h => by cases h
  | 180 => fun _ _ h => by cases h
  | 181 => fun _ _ h => by cases h
  | 182 => fun _ _ h => by cases h
  | 183 => fun _ _ h => by cases h
  | 184 => fun _ _ h => by cases h
  | 185 => fun _ _ h => by cases h
  | 186 => fun _ _ h => by cases h
  | 187 => fun _ _ h => by cases h
  | 188 => fun _ _ h => by cases h
  | 189 => fun _ _ h => by cases h
  | 190 => fun _ _ h => by cases h
  | 191 => fun _ _ h => by cases h
  | 192 => fun _ _ h => by cases h
  | 193 => fun _ _ h => by cases h
  | 194 => fun (d : XT × Int × Int × List Int × List XI × List Int × List Int × List Int × Int × Int) y h => (eb194 rf rb d.1 d.2.1 d.2.2.1 d.2.2.2.1 d.2.2.2.2.1 d.2.2.2.2.2.1 d.2.2.2.2.2.2.1 d.2.2.2.2.2.2.2.1 d.2.2.2.2.2.2.2.2.1 d.2.2.2.2.2.2.2.2.2).trans h
  | 195 => fun (d : XT × List (Int × Int) × List Int × List XO × Int × Int) y h => (eb195 rf rb d.1 d.2.1 d.2.2.1 d.2.2.2.1 d.2.2.2.2.1 d.2.2.2.2.2).trans h
  | 196 => fun (d : List (Int × Int) × Int × Int × List Int × List XI × List Int × List Int × List Int × List (Int × Int) × List XO × Int × Int) y h => ((eb196 rf rb d.1 d.2.1 d.2.2.1 d.2.2.2.1 d.2.2.2.2.1 d.2.2.2.2.2.1 d.2.2.2.2.2.2.1 d.2.2.2.2.2.2.2.1 d.2.2.2.2.2.2.2.2.1 d.2.2.2.2.2.2.2.2.2.1 d.2.2.2.2.2.2.2.2.2.2.1 d.2.2.2.2.2.2.2.2.2.2.2).trans (sb196 rf rb d.1 d.2.1 d.2.2.1 d.2.2.2.1 d.2.2.2.2.1 d.2.2.2.2.2.1 d.2.2.2.2.2.2.1 d.2.2.2.2.2.2.2.1 d.2.2.2.2.2.2.2.2.1 d.2.2.2.2.2.2.2.2.2.1 d.2.2.2.2.2.2.2.2.2.2.1 d.2.2.2.2.2.2.2.2.2.2.2)).trans h
  | 197 => fun (d : Int × Int × XI × List Int × List XI × List Int × List Int × List Int × List (Int × Int) × Int) y h => ((eb197 rf rb d.1 d.2.1 d.2.2.1 d.2.2.2.1 d.2.2.2.2.1 d.2.2.2.2.2.1 d.2.2.2.2.2.2.1 d.2.2.2.2.2.2.2.1 d.2.2.2.2.2.2.2.2.1 d.2.2.2.2.2.2.2.2.2).trans (sb197 rf rb d.1 d.2.1 d.2.2.1 d.2.2.2.1 d.2.2.2.2.1 d.2.2.2.2.2.1 d.2.2.2.2.2.2.1 d.2.2.2.2.2.2.2.1 d.2.2.2.2.2.2.2.2.1 d.2.2.2.2.2.2.2.2.2)).trans h
  | 198 => fun (d : Int × Int × List Int × List Int × List XI × List Int × List Int × List Int × List (Int × Int) × XI × Int) y h => (eb198 rf rb d.1 d.2.1 d.2.2.1 d.2.2.2.1 d.2.2.2.2.1 d.2.2.2.2.2.1 d.2.2.2.2.2.2.1 d.2.2.2.2.2.2.2.1 d.2.2.2.2.2.2.2.2.1 d.2.2.2.2.2.2.2.2.2.1 d.2.2.2.2.2.2.2.2.2.2).trans h
  | 199 => fun (d : Int × Int × List Int × List XI × List Int × List Int × List Int × List (Int × Int) × XI × Int × Int) y h => (eb199 rf rb d.1 d.2.1 d.2.2.1 d.2.2.2.1 d.2.2.2.2.1 d.2.2.2.2.2.1 d.2.2.2.2.2.2.1 d.2.2.2.2.2.2.2.1 d.2.2.2.2.2.2.2.2.1 d.2.2.2.2.2.2.2.2.2.1 d.2.2.2.2.2.2.2.2.2.2).trans h
  | 200 => fun (d : Int × Int × List Int × List Int × List XI × List Int × List Int × List Int × List (Int × Int) × Int × Int × Int) y h => (eb200 rf rb d.1 d.2.1 d.2.2.1 d.2.2.2.1 d.2.2.2.2.1 d.2.2.2.2.2.1 d.2.2.2.2.2.2.1 d.2.2.2.2.2.2.2.1 d.2.2.2.2.2.2.2.2.1 d.2.2.2.2.2.2.2.2.2.1 d.2.2.2.2.2.2.2.2.2.2.1 d.2.2.2.2.2.2.2.2.2.2.2).trans h
  | 201 => fun (d : List (Int × Int) × Int × Int × List XI × List Int × List Int × List Int × List (Int × Int) × Int × Int) y h => ((eb201 rf rb d.1 d.2.1 d.2.2.1 d.2.2.2.1 d.2.2.2.2.1 d.2.2.2.2.2.1 d.2.2.2.2.2.2.1 d.2.2.2.2.2.2.2.1 d.2.2.2.2.2.2.2.2.1 d.2.2.2.2.2.2.2.2.2).trans (sb201 rf rb d.1 d.2.1 d.2.2.1 d.2.2.2.1 d.2.2.2.2.1 d.2.2.2.2.2.1 d.2.2.2.2.2.2.1 d.2.2.2.2.2.2.2.1 d.2.2.2.2.2.2.2.2.1 d.2.2.2.2.2.2.2.2.2)).trans h
  | 202 => fun (d : XT × Int × Int × List XI × List Int × List Int × List Int × List (Int × Int) × List Int × Int × Int) y h => ((eb202 rf rb d.1 d.2.1 d.2.2.1 d.2.2.2.1 d.2.2.2.2.1 d.2.2.2.2.2.1 d.2.2.2.2.2.2.1 d.2.2.2.2.2.2.2.1 d.2.2.2.2.2.2.2.2.1 d.2.2.2.2.2.2.2.2.2.1 d.2.2.2.2.2.2.2.2.2.2).trans (sb202 rf rb d.1 d.2.1 d.2.2.1 d.2.2.2.1 d.2.2.2.2.1 d.2.2.2.2.2.1 d.2.2.2.2.2.2.1 d.2.2.2.2.2.2.2.1 d.2.2.2.2.2.2.2.2.1 d.2.2.2.2.2.2.2.2.2.1 d.2.2.2.2.2.2.2.2.2.2)).trans h
  | 203 => fun _ _ h => by cases h
  | 204 => fun (d : XC × Int × Int × List Int × List Int × List XI × Int) y h => (eb204 rf rb d.1 d.2.1 d.2.2.1 d.2.2.2.1 d.2.2.2.2.1 d.2.2.2.2.2.1 d.2.2.2.2.2.2).trans h
  | 205 => fun (d : XC × List Bool × List Bool × Bool × Int) y h => (eb205 rf rb d.1 d.2.1 d.2.2.1 d.2.2.2.1 d.2.2.2.2).trans h
  | 206 => fun (d : List Bool × List Int × Int) y h => (eb206 rf rb d.1 d.2.1 d.2.2).trans h
  | 207 => fun (d : XC × List Bool × Int) y h => (eb207 rf rb d.1 d.2.1 d.2.2).trans h
  | 208 => fun _ _ h => by cases h
  | 209 => fun (d : XC × List Int × Int) y h => (eb209 rf rb d.1 d.2.1 d.2.2).trans h
  | 210 => fun _ _ h => by cases h
  | 211 => fun _ _ h => by cases h
  | 212 => fun _ _ h => by cases h
  | 213 => fun (d : List Int × XI) y h => (eb213 rf rb d.1 d.2).trans h
  | 214 => fun (d : List Int × List Int × List Int × Int) y h => (eb214 rf rb d.1 d.2.1 d.2.2.1 d.2.2.2).trans h
  | 215 => fun _ _ h => by cases h
  | 216 => fun _ _ h => by cases h
  | 217 => fun _ _ h => by cases h
  | 218 => fun _ _ h => by cases h
  | 219 => fun (d : XC × (List Int × Bool) × List Int × Bool × List Int × List Int × Int × Int) y h => (eb219 rf rb d.1 d.2.1 d.2.2.1 d.2.2.2.1 d.2.2.2.2.1 d.2.2.2.2.2.1 d.2.2.2.2.2.2.1 d.2.2.2.2.2.2.2).trans h
  | 220 => fun (d : XC × List Int × List Int × Int) y h => (eb220 rf rb d.1 d.2.1 d.2.2.1 d.2.2.2).trans h
  | 221 => fun _ _ h => by cases h
  | 222 => fun (d : XC × (List Int × Bool) × List (List Int) × List (List Int) × Int) y h => ((eb222 rf rb d.1 d.2.1 d.2.2.1 d.2.2.2.1 d.2.2.2.2).trans (sb222 rf rb d.1 d.2.1 d.2.2.1 d.2.2.2.1 d.2.2.2.2)).trans h
  | 223 => fun (d : (List Int × Bool) × List (List Int) × List Int × (List Int × Bool) × Int) y h => (eb223 rf rb d.1 d.2.1 d.2.2.1 d.2.2.2.1 d.2.2.2.2).trans h
  | 224 => fun (d : XC × List (Int × Bool) × List (Int × Bool) × List XI × Int × Int) y h => ((eb224 rf rb d.1 d.2.1 d.2.2.1 d.2.2.2.1 d.2.2.2.2.1 d.2.2.2.2.2).trans (sb224 rf rb d.1 d.2.1 d.2.2.1 d.2.2.2.1 d.2.2.2.2.1 d.2.2.2.2.2)).trans h
  | 225 => fun (d : List Int × List (Int × Bool) × Int × Int) y h => (eb225 rf rb d.1 d.2.1 d.2.2.1 d.2.2.2).trans h
  | 226 => fun (d : List (Int × Bool) × List Int × Int × Int) y h => (eb226 rf rb d.1 d.2.1 d.2.2.1 d.2.2.2).trans h
  | 227 => fun (d : List (List Int) × List (List Int) × Int) y h => (eb227 rf rb d.1 d.2.1 d.2.2).trans h
  | 228 => fun (d : List Int × List Int × Int) y h => (eb228 rf rb d.1 d.2.1 d.2.2).trans h
  | 229 => fun _ _ h => by cases h
  | 230 => fun (d : XC × Int × Int × List Int × List Int × List XI × Int) y h => (eb230 rf rb d.1 d.2.1 d.2.2.1 d.2.2.2.1 d.2.2.2.2.1 d.2.2.2.2.2.1 d.2.2.2.2.2.2).trans h
  | 231 => fun (d : List (List UInt8 × Int × List (Int × Int × Int × Int × Int × List UInt8)) × Int) y h => (eb231 rf rb d.1 d.2).trans h
  | 232 => fun (d : List (List Int) × Int) y h => (eb232 rf rb d.1 d.2).trans h
  | 233 => fun (d : XT × Int) y h => (eb233 rf rb d.1 d.2).trans h
  | 234 => fun (d : XT × Int) y h => (eb234 rf rb d.1 d.2).trans h
  | 235 => fun _ _ h => by cases h
  | 236 => fun _ _ h => by cases h
  | 237 => fun _ _ h => by cases h
  | 238 => fun (d : XT × List Bool × List Int) y h => (eb238 rf rb d.1 d.2.1 d.2.2).trans h
  | 239 => fun (d : XT × List Bool × Int × Int) y h => (eb239 rf rb d.1 d.2.1 d.2.2.1 d.2.2.2).trans h
  | 240 => fun (d : List Bool × List Int × Bool × Int) y h => (eb240 rf rb d.1 d.2.1 d.2.2.1 d.2.2.2).trans h
  | 241 => fun (d : XT × List Int × Int × Int) y h => (eb241 rf rb d.1 d.2.1 d.2.2.1 d.2.2.2).trans h
  | 242 => fun _ _ h => by cases h
  | 243 => fun (d : XT × List Int × Int) y h => (eb243 rf rb d.1 d.2.1 d.2.2).trans h
  | 244 => fun _ _ h => by cases h
  | 245 => fun _ _ h => by cases h
  | 246 => fun _ _ h => by cases h
  | 247 => fun (d : List Int × XO) y h => (eb247 rf rb d.1 d.2).trans h
  | 248 => fun (d : List Int × List Int × List Int × Int) y h => (eb248 rf rb d.1 d.2.1 d.2.2.1 d.2.2.2).trans h
  | 249 => fun _ _ h => by cases h
  | 250 => fun _ _ h => by cases h
  | 251 => fun _ _ h => by cases h
  | 252 => fun _ _ h => by cases h
  | 253 => fun (d : XT × List Int × List (List Int) × List (List Int) × List Int × Int) y h => (eb253 rf rb d.1 d.2.1 d.2.2.1 d.2.2.2.1 d.2.2.2.2.1 d.2.2.2.2.2).trans h
  | 254 => fun (d : XT × List Int × List Int × List (List Int) × List Int × Int × Int × Int) y h => (eb254 rf rb d.1 d.2.1 d.2.2.1 d.2.2.2.1 d.2.2.2.2.1 d.2.2.2.2.2.1 d.2.2.2.2.2.2.1 d.2.2.2.2.2.2.2).trans h
  | 255 => fun (d : XT × List Int × List Int × Int) y h => (eb255 rf rb d.1 d.2.1 d.2.2.1 d.2.2.2).trans h
  | 256 => fun (d : List (List Int) × List (List Int) × List Int × Int) y h => (eb256 rf rb d.1 d.2.1 d.2.2.1 d.2.2.2).trans h
  | 257 => fun (d : List (List Int) × List (List Int) × List Int × Int × Int) y h => (eb257 rf rb d.1 d.2.1 d.2.2.1 d.2.2.2.1 d.2.2.2.2).trans h
  | 258 => fun (d : XT × Int × Int) y h => (eb258 rf rb d.1 d.2.1 d.2.2).trans h
  | 259 => fun (d : List (List Int) × List (List Int) × List Int × Int) y h => (eb259 rf rb d.1 d.2.1 d.2.2.1 d.2.2.2).trans h
  | n + 260 => fun _ _ h => by cases h

noncomputable def G : Nat → T.RF × T.RB
  | 0 => (fun _ _ => none, fun _ _ => none)
  | n + 1 => (gF (G n).1 (G n).2, gB (G n).1 (G n).2)
theorem run_F (n : Nat) {φ : Nat} {d} {y} (h : (G n).1 φ d = some y) : T.rf φ d = some y := (Tbl.approx gF_ok gB_ok rfl (fun _ => rfl) n).1 φ d y h
theorem run_B (n : Nat) {κ : Nat} {d} {y} (h : (G n).2 κ d = some y) : T.rb κ d = some y := (Tbl.approx gF_ok gB_ok rfl (fun _ => rfl) n).2 κ d y h
theorem live_run : c2 T.rf = some true := run_F 400 (φ := 2) (d := ()) (by kernel_rfl)
end Go.Proofs.Ytanomapnincmoaa.R
