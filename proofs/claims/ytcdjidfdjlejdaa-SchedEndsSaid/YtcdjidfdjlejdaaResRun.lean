/-
  OUR OWN, PRINTED BY A PROGRAM OF OURS (table2.py): what a function comes to can be computed.
-/
import Derived.Test.YtcdjidfdjlejdaaRes
import Derived.Test.YtcdjidfdjlejdaaBmRun
import Derived.KernelRfl
namespace Go.Proofs.Ytcdjidfdjlejdaa.R
open Go Go.Bm Go.Proofs
set_option linter.unusedVariables false
set_option maxRecDepth 100000

noncomputable def gF (rf : T.RF) (rb : T.RB) : T.RF := fun φ => match φ with
  | 0 => fun (d : XT) => r0 rf rb d
  | 1 => fun (d : XT) => r1 rf rb d
  | 2 => fun (d : Unit) => r2 rf rb 
  | 3 => fun (d : XT) => r3 rf rb d
  | 4 => fun (d : XT) => r4 rf rb d
  | 5 => fun (d : XT) => r5 rf rb d
  | 6 => fun (d : XT × List XO) => r6 rf rb d.1 d.2
  | 7 => fun (d : XT × List XO) => r7 rf rb d.1 d.2
  | 8 => fun (d : XT × XO) => r8 rf rb d.1 d.2
  | 9 => fun (d : XT × XO) => r9 rf rb d.1 d.2
  | 10 => fun (d : XO) => r10 rf rb d
  | 11 => fun (d : Int) => r11 rf rb d
  | 12 => fun (d : Int) => r12 rf rb d
  | 13 => fun (d : XT × Int) => r13 rf rb d.1 d.2
  | 14 => fun (d : List Int) => r14 rf rb d
  | 15 => fun (d : List Int) => r15 rf rb d
  | 16 => fun (d : Int) => r16 rf rb d
  | 17 => fun (d : Int) => r17 rf rb d
  | 18 => fun (d : XT × List Int) => r18 rf rb d.1 d.2
  | 19 => fun (d : XT × List Int) => r19 rf rb d.1 d.2
  | 20 => fun (d : XT × Int) => r20 rf rb d.1 d.2
  | 21 => fun (d : XT) => r21 rf rb d
  | 22 => fun (d : XO) => r22 rf rb d
  | 23 => fun (d : List Int) => r23 rf rb d
  | 24 => fun (d : List Int) => r24 rf rb d
  | 25 => fun (d : Int) => r25 rf rb d
  | 26 => fun (d : List Int × Int) => r26 rf rb d.1 d.2
  | 27 => fun (d : List Int × Int) => r27 rf rb d.1 d.2
  | 28 => fun (d : List Int) => r28 rf rb d
  | 29 => fun (d : List Int × Int) => r29 rf rb d.1 d.2
  | 30 => fun (d : List Int × Int × Int) => r30 rf rb d.1 d.2.1 d.2.2
  | 31 => fun (d : List Int × Int × Int) => r31 rf rb d.1 d.2.1 d.2.2
  | 32 => fun (d : List Int) => r32 rf rb d
  | 33 => fun (d : List Int × Int × Int) => r33 rf rb d.1 d.2.1 d.2.2
  | 34 => fun (d : List Int) => r34 rf rb d
  | 35 => fun (d : XT) => r35 rf rb d
  | 36 => fun (d : List Int) => r36 rf rb d
  | 37 => fun (d : List Int × List Int) => r37 rf rb d.1 d.2
  | 38 => fun (d : XT) => r38 rf rb d
  | 39 => fun (d : Int × List Int) => r39 rf rb d.1 d.2
  | 40 => fun (d : Int × List Int) => r40 rf rb d.1 d.2
  | 41 => fun (d : Int × Int) => r41 rf rb d.1 d.2
  | 42 => fun (d : XT) => r42 rf rb d
  | 43 => fun (d : List Int × Int) => r43 rf rb d.1 d.2
  | 44 => fun (d : Int × Int) => r44 rf rb d.1 d.2
  | 45 => fun (d : Int × Int) => r45 rf rb d.1 d.2
  | 46 => fun (d : XT) => r46 rf rb d
  | 47 => fun (d : XT) => r47 rf rb d
  | 48 => fun (d : XT) => r48 rf rb d
  | 49 => fun (d : Int) => r49 rf rb d
  | 50 => fun (d : Int) => r50 rf rb d
  | 51 => fun (d : XT × XO) => r51 rf rb d.1 d.2
  | 52 => fun (d : Int) => r52 rf rb d
  | 53 => fun (d : XT × Int × Int × Int) => r53 rf rb d.1 d.2.1 d.2.2.1 d.2.2.2
  | 54 => fun (d : XT) => r54 rf rb d
  | 55 => fun (d : XO) => r55 rf rb d
  | 56 => fun (d : XT) => r56 rf rb d
  | 57 => fun (d : List Int × Int) => r57 rf rb d.1 d.2
  | 58 => fun (d : XT) => r58 rf rb d
  | 59 => fun (d : XT × XT) => r59 rf rb d.1 d.2
  | 60 => fun (d : XT) => r60 rf rb d
  | 61 => fun (d : XT) => r61 rf rb d
  | 62 => fun (d : XT × List (List Int)) => r62 rf rb d.1 d.2
  | 63 => fun (d : List (List UInt8 × Int × List (Int × Int × Int × Int × Int × List UInt8)) × List (List Int)) => r63 rf rb d.1 d.2
  | 64 => fun (d : XT × List (List Int)) => r64 rf rb d.1 d.2
  | 65 => fun (d : XT × List Int) => r65 rf rb d.1 d.2
  | 66 => fun (d : List Int × XO × List Int × List Int) => r66 rf rb d.1 d.2.1 d.2.2.1 d.2.2.2
  | 67 => fun (d : Int × Int × Int × Int) => r67 rf rb d.1 d.2.1 d.2.2.1 d.2.2.2
  | 68 => fun (d : Bool) => r68 rf rb d
  | 69 => fun (d : Int) => r69 rf rb d
  | 70 => fun (d : Int × Int) => r70 rf rb d.1 d.2
  | 71 => fun (d : Int) => r71 rf rb d
  | 72 => fun (d : List (List Int) × List (List Int)) => r72 rf rb d.1 d.2
  | 73 => fun (d : XT) => r73 rf rb d
  | 74 => fun (d : XT) => r74 rf rb d
  | 75 => fun (d : XT) => r75 rf rb d
  | 76 => fun (d : XO × Int) => r76 rf rb d.1 d.2
  | _ => fun _ => none
theorem gF_ok (rf : T.RF) (rb : T.RB) : ∀ φ d y, gF rf rb φ d = some y → T.stepF rf rb φ d = some y := fun φ => match φ with
  | 0 => fun (d : XT) y h => (er0 rf rb d).trans h
  | 1 => fun (d : XT) y h => (er1 rf rb d).trans h
  | 2 => fun (d : Unit) y h => (er2 rf rb ).trans h
  | 3 => fun (d : XT) y h => (er3 rf rb d).trans h
  | 4 => fun (d : XT) y h => (er4 rf rb d).trans h
  | 5 => fun (d : XT) y h => (er5 rf rb d).trans h
  | 6 => fun (d : XT × List XO) y h => (er6 rf rb d.1 d.2).trans h
  | 7 => fun (d : XT × List XO) y h => (er7 rf rb d.1 d.2).trans h
  | 8 => fun (d : XT × XO) y h => (er8 rf rb d.1 d.2).trans h
  | 9 => fun (d : XT × XO) y h => (er9 rf rb d.1 d.2).trans h
  | 10 => fun (d : XO) y h => (er10 rf rb d).trans h
  | 11 => fun (d : Int) y h => (er11 rf rb d).trans h
  | 12 => fun (d : Int) y h => (er12 rf rb d).trans h
  | 13 => fun (d : XT × Int) y h => (er13 rf rb d.1 d.2).trans h
  | 14 => fun (d : List Int) y h => (er14 rf rb d).trans h
  | 15 => fun (d : List Int) y h => (er15 rf rb d).trans h
  | 16 => fun (d : Int) y h => (er16 rf rb d).trans h
  | 17 => fun (d : Int) y h => (er17 rf rb d).trans h
  | 18 => fun (d : XT × List Int) y h => (er18 rf rb d.1 d.2).trans h
  | 19 => fun (d : XT × List Int) y h => (er19 rf rb d.1 d.2).trans h
  | 20 => fun (d : XT × Int) y h => (er20 rf rb d.1 d.2).trans h
  | 21 => fun (d : XT) y h => (er21 rf rb d).trans h
  | 22 => fun (d : XO) y h => (er22 rf rb d).trans h
  | 23 => fun (d : List Int) y h => (er23 rf rb d).trans h
  | 24 => fun (d : List Int) y h => (er24 rf rb d).trans h
  | 25 => fun (d : Int) y h => (er25 rf rb d).trans h
  | 26 => fun (d : List Int × Int) y h => (er26 rf rb d.1 d.2).trans h
  | 27 => fun (d : List Int × Int) y h => ((er27 rf rb d.1 d.2).trans (sr27 rf rb d.1 d.2)).trans h
  | 28 => fun (d : List Int) y h => (er28 rf rb d).trans h
  | 29 => fun (d : List Int × Int) y h => (er29 rf rb d.1 d.2).trans h
  | 30 => fun (d : List Int × Int × Int) y h => (er30 rf rb d.1 d.2.1 d.2.2).trans h
  | 31 => fun (d : List Int × Int × Int) y h => ((er31 rf rb d.1 d.2.1 d.2.2).trans (sr31 rf rb d.1 d.2.1 d.2.2)).trans h
  | 32 => fun (d : List Int) y h => (er32 rf rb d).trans h
  | 33 => fun (d : List Int × Int × Int) y h => (er33 rf rb d.1 d.2.1 d.2.2).trans h
  | 34 => fun (d : List Int) y h => (er34 rf rb d).trans h
  | 35 => fun (d : XT) y h => (er35 rf rb d).trans h
  | 36 => fun (d : List Int) y h => (er36 rf rb d).trans h
  | 37 => fun (d : List Int × List Int) y h => (er37 rf rb d.1 d.2).trans h
  | 38 => fun (d : XT) y h => (er38 rf rb d).trans h
  | 39 => fun (d : Int × List Int) y h => (er39 rf rb d.1 d.2).trans h
  | 40 => fun (d : Int × List Int) y h => (er40 rf rb d.1 d.2).trans h
  | 41 => fun (d : Int × Int) y h => (er41 rf rb d.1 d.2).trans h
  | 42 => fun (d : XT) y h => (er42 rf rb d).trans h
  | 43 => fun (d : List Int × Int) y h => (er43 rf rb d.1 d.2).trans h
  | 44 => fun (d : Int × Int) y h => (er44 rf rb d.1 d.2).trans h
  | 45 => fun (d : Int × Int) y h => (er45 rf rb d.1 d.2).trans h
  | 46 => fun (d : XT) y h => (er46 rf rb d).trans h
  | 47 => fun (d : XT) y h => (er47 rf rb d).trans h
  | 48 => fun (d : XT) y h => (er48 rf rb d).trans h
  | 49 => fun (d : Int) y h => (er49 rf rb d).trans h
  | 50 => fun (d : Int) y h => (er50 rf rb d).trans h
  | 51 => fun (d : XT × XO) y h => (er51 rf rb d.1 d.2).trans h
  | 52 => fun (d : Int) y h => (er52 rf rb d).trans h
  | 53 => fun (d : XT × Int × Int × Int) y h => (er53 rf rb d.1 d.2.1 d.2.2.1 d.2.2.2).trans h
  | 54 => fun (d : XT) y h => (er54 rf rb d).trans h
  | 55 => fun (d : XO) y h => (er55 rf rb d).trans h
  | 56 => fun (d : XT) y h => (er56 rf rb d).trans h
  | 57 => fun (d : List Int × Int) y h => (er57 rf rb d.1 d.2).trans h
  | 58 => fun (d : XT) y h => (er58 rf rb d).trans h
  | 59 => fun (d : XT × XT) y h => (er59 rf rb d.1 d.2).trans h
  | 60 => fun (d : XT) y h => (er60 rf rb d).trans h
  | 61 => fun (d : XT) y h => (er61 rf rb d).trans h
  | 62 => fun (d : XT × List (List Int)) y h => (er62 rf rb d.1 d.2).trans h
  | 63 => fun (d : List (List UInt8 × Int × List (Int × Int × Int × Int × Int × List UInt8)) × List (List Int)) y h => (er63 rf rb d.1 d.2).trans h
  | 64 => fun (d : XT × List (List Int)) y h => (er64 rf rb d.1 d.2).trans h
  | 65 => fun (d : XT × List Int) y h => (er65 rf rb d.1 d.2).trans h
  | 66 => fun (d : List Int × XO × List Int × List Int) y h => (er66 rf rb d.1 d.2.1 d.2.2.1 d.2.2.2).trans h
  | 67 => fun (d : Int × Int × Int × Int) y h => (er67 rf rb d.1 d.2.1 d.2.2.1 d.2.2.2).trans h
  | 68 => fun (d : Bool) y h => (er68 rf rb d).trans h
  | 69 => fun (d : Int) y h => (er69 rf rb d).trans h
  | 70 => fun (d : Int × Int) y h => (er70 rf rb d.1 d.2).trans h
  | 71 => fun (d : Int) y h => (er71 rf rb d).trans h
  | 72 => fun (d : List (List Int) × List (List Int)) y h => (er72 rf rb d.1 d.2).trans h
  | 73 => fun (d : XT) y h => (er73 rf rb d).trans h
  | 74 => fun (d : XT) y h => (er74 rf rb d).trans h
  | 75 => fun (d : XT) y h => (er75 rf rb d).trans h
  | 76 => fun (d : XO × Int) y h => (er76 rf rb d.1 d.2).trans h
  | n + 77 => fun _ _ h => by cases h

noncomputable def gB (rf : T.RF) (rb : T.RB) : T.RB := fun φ => match φ with
  | 1 => fun (d : XT × List Int × List Int × List XO × Int) => b1 rf rb d.1 d.2.1 d.2.2.1 d.2.2.2.1 d.2.2.2.2
  | 2 => fun (d : XT × List XO × Int × Int) => b2 rf rb d.1 d.2.1 d.2.2.1 d.2.2.2
  | 3 => fun (d : XT × List Int × Int × Int) => b3 rf rb d.1 d.2.1 d.2.2.1 d.2.2.2
  | 4 => fun (d : List Int × Int × Int) => b4 rf rb d.1 d.2.1 d.2.2
  | 5 => fun (d : XT × List Int × Int × Int) => b5 rf rb d.1 d.2.1 d.2.2.1 d.2.2.2
  | 11 => fun (d : XT × List Int × Int × Int) => b11 rf rb d.1 d.2.1 d.2.2.1 d.2.2.2
  | 12 => fun (d : XT × List Int × List Int) => b12 rf rb d.1 d.2.1 d.2.2
  | 13 => fun (d : List Int × List Int × List Int × Int × Int) => b13 rf rb d.1 d.2.1 d.2.2.1 d.2.2.2.1 d.2.2.2.2
  | 15 => fun (d : List Int × Int × Int) => b15 rf rb d.1 d.2.1 d.2.2
  | 16 => fun (d : List Int × Int × Int) => b16 rf rb d.1 d.2.1 d.2.2
  | 18 => fun (d : List Int × Int) => b18 rf rb d.1 d.2
  | 22 => fun (d : List Int × Int × Int) => b22 rf rb d.1 d.2.1 d.2.2
  | 36 => fun (d : List Int × List (List Int) × List Int × List XO × Int × Int) => b36 rf rb d.1 d.2.1 d.2.2.1 d.2.2.2.1 d.2.2.2.2.1 d.2.2.2.2.2
  | 37 => fun (d : List Int × List (List Int) × List Int × Int × Int × Int) => b37 rf rb d.1 d.2.1 d.2.2.1 d.2.2.2.1 d.2.2.2.2.1 d.2.2.2.2.2
  | 38 => fun (d : List Int × List Int × List Int × List (List Int)) => b38 rf rb d.1 d.2.1 d.2.2.1 d.2.2.2
  | 39 => fun (d : List Int × List Int × List Int × Int × Int) => b39 rf rb d.1 d.2.1 d.2.2.1 d.2.2.2.1 d.2.2.2.2
  | 51 => fun (d : List Int × List Int × Int × Int) => b51 rf rb d.1 d.2.1 d.2.2.1 d.2.2.2
  | 52 => fun (d : XT × List Int × List Int × List XO × List Int × List Int × Int × Int) => b52 rf rb d.1 d.2.1 d.2.2.1 d.2.2.2.1 d.2.2.2.2.1 d.2.2.2.2.2.1 d.2.2.2.2.2.2.1 d.2.2.2.2.2.2.2
  | 53 => fun (d : List Int × List XO × List Int × List Int × List Int × Int × Int) => b53 rf rb d.1 d.2.1 d.2.2.1 d.2.2.2.1 d.2.2.2.2.1 d.2.2.2.2.2.1 d.2.2.2.2.2.2
  | 54 => fun (d : List Int × List Int × Int) => b54 rf rb d.1 d.2.1 d.2.2
  | 55 => fun (d : List XO × Int × Int) => b55 rf rb d.1 d.2.1 d.2.2
  | 56 => fun (d : Int × List Int × Int × Int) => b56 rf rb d.1 d.2.1 d.2.2.1 d.2.2.2
  | 59 => fun (d : List Int × Int) => b59 rf rb d.1 d.2
  | 60 => fun (d : List Int × Int) => b60 rf rb d.1 d.2
  | 61 => fun (d : List Int × List XO × Int × Int) => b61 rf rb d.1 d.2.1 d.2.2.1 d.2.2.2
  | 62 => fun (d : List Int × List Int × Int × Int × Int) => b62 rf rb d.1 d.2.1 d.2.2.1 d.2.2.2.1 d.2.2.2.2
  | 63 => fun (d : XT × Int) => b63 rf rb d.1 d.2
  | 64 => fun (d : XT × Int) => b64 rf rb d.1 d.2
  | 68 => fun (d : XT × List Bool × List Int) => b68 rf rb d.1 d.2.1 d.2.2
  | 69 => fun (d : XT × List Bool × Int × Int) => b69 rf rb d.1 d.2.1 d.2.2.1 d.2.2.2
  | 70 => fun (d : List Bool × List Int × Bool × Int) => b70 rf rb d.1 d.2.1 d.2.2.1 d.2.2.2
  | 84 => fun (d : List Int × List Int × Int) => b84 rf rb d.1 d.2.1 d.2.2
  | 85 => fun (d : XT × List Int × List XO × List Int × List Int × List Int × Int) => b85 rf rb d.1 d.2.1 d.2.2.1 d.2.2.2.1 d.2.2.2.2.1 d.2.2.2.2.2.1 d.2.2.2.2.2.2
  | 86 => fun (d : XT × List XO × List Int × List Int × List Int × Int) => b86 rf rb d.1 d.2.1 d.2.2.1 d.2.2.2.1 d.2.2.2.2.1 d.2.2.2.2.2
  | 88 => fun (d : XT × List Int × List Int × List XO × Int) => b88 rf rb d.1 d.2.1 d.2.2.1 d.2.2.2.1 d.2.2.2.2
  | 89 => fun (d : XT × XT × Int) => b89 rf rb d.1 d.2.1 d.2.2
  | 90 => fun (d : XT × Int) => b90 rf rb d.1 d.2
  | 91 => fun (d : List Int × Int × Int) => b91 rf rb d.1 d.2.1 d.2.2
  | 93 => fun (d : XT × List Int × Int) => b93 rf rb d.1 d.2.1 d.2.2
  | 94 => fun (d : XT × List Int × Int) => b94 rf rb d.1 d.2.1 d.2.2
  | 95 => fun (d : List Int × List Int × Int × Int) => b95 rf rb d.1 d.2.1 d.2.2.1 d.2.2.2
  | 96 => fun (d : List (List UInt8 × Int × List (Int × Int × Int × Int × Int × List UInt8)) × Int) => b96 rf rb d.1 d.2
  | 97 => fun (d : List (List Int) × Int) => b97 rf rb d.1 d.2
  | 99 => fun (d : XT × List Int × Int) => b99 rf rb d.1 d.2.1 d.2.2
  | 103 => fun (d : List Int × XO) => b103 rf rb d.1 d.2
  | 104 => fun (d : List Int × List Int × List Int × Int) => b104 rf rb d.1 d.2.1 d.2.2.1 d.2.2.2
  | 109 => fun (d : XT × List Int × List (List Int) × List (List Int) × List Int × Int) => b109 rf rb d.1 d.2.1 d.2.2.1 d.2.2.2.1 d.2.2.2.2.1 d.2.2.2.2.2
  | 110 => fun (d : XT × List Int × List Int × List (List Int) × List Int × Int × Int × Int) => b110 rf rb d.1 d.2.1 d.2.2.1 d.2.2.2.1 d.2.2.2.2.1 d.2.2.2.2.2.1 d.2.2.2.2.2.2.1 d.2.2.2.2.2.2.2
  | 111 => fun (d : XT × List Int × List Int × Int) => b111 rf rb d.1 d.2.1 d.2.2.1 d.2.2.2
  | 112 => fun (d : List (List Int) × List (List Int) × Int) => b112 rf rb d.1 d.2.1 d.2.2
  | 113 => fun (d : List Int × List Int × Int) => b113 rf rb d.1 d.2.1 d.2.2
  | 114 => fun (d : XT × List Int × Int) => b114 rf rb d.1 d.2.1 d.2.2
  | 115 => fun (d : List Int × List Int × Int × Int) => b115 rf rb d.1 d.2.1 d.2.2.1 d.2.2.2
  | 116 => fun (d : XT × List Int × Int) => b116 rf rb d.1 d.2.1 d.2.2
  | 117 => fun (d : XT × List Int × Int × Int) => b117 rf rb d.1 d.2.1 d.2.2.1 d.2.2.2
  | 118 => fun (d : List Int × Int × Int) => b118 rf rb d.1 d.2.1 d.2.2
  | _ => fun _ => none
theorem gB_ok (rf : T.RF) (rb : T.RB) : ∀ φ d y, gB rf rb φ d = some y → T.stepB rf rb φ d = some y := fun φ => match φ with
  | 0 => fun _ _ h => by cases h
  | 1 => fun (d : XT × List Int × List Int × List XO × Int) y h => (eb1 rf rb d.1 d.2.1 d.2.2.1 d.2.2.2.1 d.2.2.2.2).trans h
  | 2 => fun (d : XT × List XO × Int × Int) y h => (eb2 rf rb d.1 d.2.1 d.2.2.1 d.2.2.2).trans h
  | 3 => fun (d : XT × List Int × Int × Int) y h => (eb3 rf rb d.1 d.2.1 d.2.2.1 d.2.2.2).trans h
  | 4 => fun (d : List Int × Int × Int) y h => (eb4 rf rb d.1 d.2.1 d.2.2).trans h
  | 5 => fun (d : XT × List Int × Int × Int) y h => (eb5 rf rb d.1 d.2.1 d.2.2.1 d.2.2.2).trans h
  | 6 => fun _ _ h => by cases h
  | 7 => fun _ _ h => by cases h
  | 8 => fun _ _ h => by cases h
  | 9 => fun _ _ h => by cases h
  | 10 => fun _ _ h => by cases h
  | 11 => fun (d : XT × List Int × Int × Int) y h => (eb11 rf rb d.1 d.2.1 d.2.2.1 d.2.2.2).trans h
  | 12 => fun (d : XT × List Int × List Int) y h => (eb12 rf rb d.1 d.2.1 d.2.2).trans h
  | 13 => fun (d : List Int × List Int × List Int × Int × Int) y h => (eb13 rf rb d.1 d.2.1 d.2.2.1 d.2.2.2.1 d.2.2.2.2).trans h
  | 14 => fun _ _ h => by cases h
  | 15 => fun (d : List Int × Int × Int) y h => (eb15 rf rb d.1 d.2.1 d.2.2).trans h
  | 16 => fun (d : List Int × Int × Int) y h => (eb16 rf rb d.1 d.2.1 d.2.2).trans h
  | 17 => fun _ _ h => by cases h
  | 18 => fun (d : List Int × Int) y h => (eb18 rf rb d.1 d.2).trans h
  | 19 => fun _ _ h => by cases h
  | 20 => fun _ _ h => by cases h
  | 21 => fun _ _ h => by cases h
  | 22 => fun (d : List Int × Int × Int) y h => (eb22 rf rb d.1 d.2.1 d.2.2).trans h
  | 23 => fun _ _ h => by cases h
  | 24 => fun _ _ h => by cases h
  | 25 => fun _ _ h => by cases h
  | 26 => fun _ _ h => by cases h
  | 27 => fun _ _ h => by cases h
  | 28 => fun _ _ h => by cases h
  | 29 => fun _ _ h => by cases h
  | 30 => fun _ _ h => by cases h
  | 31 => fun _ _ h => by cases h
  | 32 => fun _ _ h => by cases h
  | 33 => fun _ _ h => by cases h
  | 34 => fun _ _ h => by cases h
  | 35 => fun _ _ h => by cases h
  | 36 => fun (d : List Int × List (List Int) × List Int × List XO × Int × Int) y h => (eb36 rf rb d.1 d.2.1 d.2.2.1 d.2.2.2.1 d.2.2.2.2.1 d.2.2.2.2.2).trans h
  | 37 => fun (d : List Int × List (List Int) × List Int × Int × Int × Int) y h => (eb37 rf rb d.1 d.2.1 d.2.2.1 d.2.2.2.1 d.2.2.2.2.1 d.2.2.2.2.2).trans h
  | 38 => fun (d : List Int × List Int × List Int × List (List Int)) y h => (eb38 rf rb d.1 d.2.1 d.2.2.1 d.2.2.2).trans h
  | 39 => fun (d : List Int × List Int × List Int × Int × Int) y h => (eb39 rf rb d.1 d.2.1 d.2.2.1 d.2.2.2.1 d.2.2.2.2).trans h
  | 40 => fun _ _ h => by cases h
  | 41 => fun _ _ h => by cases h
  | 42 => fun _ _ h => by cases h
  | 43 => fun _ _ h => by cases h
  | 44 => fun _ _ h => by cases h
  | 45 => fun _ _ h => by cases h
  | 46 => fun _ _ h => by cases h
  | 47 => fun _ _ h => by cases h
  | 48 => fun _ _ h => by cases h
  | 49 => fun _ _ h => by cases h
  | 50 => fun _ _ h => by cases h
  | 51 => fun (d : List Int × List Int × Int × Int) y h => (eb51 rf rb d.1 d.2.1 d.2.2.1 d.2.2.2).trans h
  | 52 => fun (d : XT × List Int × List Int × List XO × List Int × List Int × Int × Int) y h => (eb52 rf rb d.1 d.2.1 d.2.2.1 d.2.2.2.1 d.2.2.2.2.1 d.2.2.2.2.2.1 d.2.2.2.2.2.2.1 d.2.2.2.2.2.2.2).trans h
  | 53 => fun (d : List Int × List XO × List Int × List Int × List Int × Int × Int) y h => ((eb53 rf rb d.1 d.2.1 d.2.2.1 d.2.2.2.1 d.2.2.2.2.1 d.2.2.2.2.2.1 d.2.2.2.2.2.2).trans (sb53 rf rb d.1 d.2.1 d.2.2.1 d.2.2.2.1 d.2.2.2.2.1 d.2.2.2.2.2.1 d.2.2.2.2.2.2)).trans h
  | 54 => fun (d : List Int × List Int × Int) y h => (eb54 rf rb d.1 d.2.1 d.2.2).trans h
  | 55 => fun (d : List XO × Int × Int) y h => (eb55 rf rb d.1 d.2.1 d.2.2).trans h
  | 56 => fun (d : Int × List Int × Int × Int) y h => (eb56 rf rb d.1 d.2.1 d.2.2.1 d.2.2.2).trans h
  | 57 => fun _ _ h => by cases h
  | 58 => fun _ _ h => by cases h
  | 59 => fun (d : List Int × Int) y h => (eb59 rf rb d.1 d.2).trans h
  | 60 => fun (d : List Int × Int) y h => (eb60 rf rb d.1 d.2).trans h
  | 61 => fun (d : List Int × List XO × Int × Int) y h => (eb61 rf rb d.1 d.2.1 d.2.2.1 d.2.2.2).trans h
  | 62 => fun (d : List Int × List Int × Int × Int × Int) y h => (eb62 rf rb d.1 d.2.1 d.2.2.1 d.2.2.2.1 d.2.2.2.2).trans h
  | 63 => fun (d : XT × Int) y h => (eb63 rf rb d.1 d.2).trans h
  | 64 => fun (d : XT × Int) y h => (eb64 rf rb d.1 d.2).trans h
  | 65 => fun _ _ h => by cases h
  | 66 => fun _ _ h => by cases h
  | 67 => fun _ _ h => by cases h
  | 68 => fun (d : XT × List Bool × List Int) y h => (eb68 rf rb d.1 d.2.1 d.2.2).trans h
  | 69 => fun (d : XT × List Bool × Int × Int) y h => (eb69 rf rb d.1 d.2.1 d.2.2.1 d.2.2.2).trans h
  | 70 => fun (d : List Bool × List Int × Bool × Int) y h => (eb70 rf rb d.1 d.2.1 d.2.2.1 d.2.2.2).trans h
  | 71 => fun _ _ h => by cases h
  | 72 => fun _ _ h => by cases h
  | 73 => fun _ _ h => by cases h
  | 74 => fun _ _ h => by cases h
  | 75 => fun _ _ h => by cases h
  | 76 => fun _ _ h => by cases h
  | 77 => fun _ _ h => by cases h
  | 78 => fun _ _ h => by cases h
  | 79 => fun _ _ h => by cases h
  | 80 => fun _ _ h => by cases h
  | 81 => fun _ _ h => by cases h
  | 82 => fun _ _ h => by cases h
  | 83 => fun _ _ h => by cases h
  | 84 => fun (d : List Int × List Int × Int) y h => (eb84 rf rb d.1 d.2.1 d.2.2).trans h
  | 85 => fun (d : XT × List Int × List XO × List Int × List Int × List Int × Int) y h => (eb85 rf rb d.1 d.2.1 d.2.2.1 d.2.2.2.1 d.2.2.2.2.1 d.2.2.2.2.2.1 d.2.2.2.2.2.2).trans h
  | 86 => fun (d : XT × List XO × List Int × List Int × List Int × Int) y h => ((eb86 rf rb d.1 d.2.1 d.2.2.1 d.2.2.2.1 d.2.2.2.2.1 d.2.2.2.2.2).trans (sb86 rf rb d.1 d.2.1 d.2.2.1 d.2.2.2.1 d.2.2.2.2.1 d.2.2.2.2.2)).trans h
  | 87 => fun _ _ h => by cases h
  | 88 => fun (d : XT × List Int × List Int × List XO × Int) y h => (eb88 rf rb d.1 d.2.1 d.2.2.1 d.2.2.2.1 d.2.2.2.2).trans h
  | 89 => fun (d : XT × XT × Int) y h => (eb89 rf rb d.1 d.2.1 d.2.2).trans h
  | 90 => fun (d : XT × Int) y h => (eb90 rf rb d.1 d.2).trans h
  | 91 => fun (d : List Int × Int × Int) y h => (eb91 rf rb d.1 d.2.1 d.2.2).trans h
  | 92 => fun _ _ h => by cases h
  | 93 => fun (d : XT × List Int × Int) y h => (eb93 rf rb d.1 d.2.1 d.2.2).trans h
  | 94 => fun (d : XT × List Int × Int) y h => (eb94 rf rb d.1 d.2.1 d.2.2).trans h
  | 95 => fun (d : List Int × List Int × Int × Int) y h => (eb95 rf rb d.1 d.2.1 d.2.2.1 d.2.2.2).trans h
  | 96 => fun (d : List (List UInt8 × Int × List (Int × Int × Int × Int × Int × List UInt8)) × Int) y h => (eb96 rf rb d.1 d.2).trans h
  | 97 => fun (d : List (List Int) × Int) y h => (eb97 rf rb d.1 d.2).trans h
  | 98 => fun _ _ h => by cases h
  | 99 => fun (d : XT × List Int × Int) y h => (eb99 rf rb d.1 d.2.1 d.2.2).trans h
  | 100 => fun _ _ h => by cases h
  | 101 => fun _ _ h => by cases h
  | 102 => fun _ _ h => by cases h
  | 103 => fun (d : List Int × XO) y h => (eb103 rf rb d.1 d.2).trans h
  | 104 => fun (d : List Int × List Int × List Int × Int) y h => (eb104 rf rb d.1 d.2.1 d.2.2.1 d.2.2.2).trans h
  | 105 => fun _ _ h => by cases h
  | 106 => fun _ _ h => by cases h
  | 107 => fun _ _ h => by cases h
  | 108 => fun _ _ h => by cases h
  | 109 => fun (d : XT × List Int × List (List Int) × List (List Int) × List Int × Int) y h => (eb109 rf rb d.1 d.2.1 d.2.2.1 d.2.2.2.1 d.2.2.2.2.1 d.2.2.2.2.2).trans h
  | 110 => fun (d : XT × List Int × List Int × List (List Int) × List Int × Int × Int × Int) y h => (eb110 rf rb d.1 d.2.1 d.2.2.1 d.2.2.2.1 d.2.2.2.2.1 d.2.2.2.2.2.1 d.2.2.2.2.2.2.1 d.2.2.2.2.2.2.2).trans h
  | 111 => fun (d : XT × List Int × List Int × Int) y h => (eb111 rf rb d.1 d.2.1 d.2.2.1 d.2.2.2).trans h
  | 112 => fun (d : List (List Int) × List (List Int) × Int) y h => (eb112 rf rb d.1 d.2.1 d.2.2).trans h
  | 113 => fun (d : List Int × List Int × Int) y h => (eb113 rf rb d.1 d.2.1 d.2.2).trans h
  | 114 => fun (d : XT × List Int × Int) y h => (eb114 rf rb d.1 d.2.1 d.2.2).trans h
  | 115 => fun (d : List Int × List Int × Int × Int) y h => (eb115 rf rb d.1 d.2.1 d.2.2.1 d.2.2.2).trans h
  | 116 => fun (d : XT × List Int × Int) y h => (eb116 rf rb d.1 d.2.1 d.2.2).trans h
  | 117 => fun (d : XT × List Int × Int × Int) y h => (eb117 rf rb d.1 d.2.1 d.2.2.1 d.2.2.2).trans h
  | 118 => fun (d : List Int × Int × Int) y h => (eb118 rf rb d.1 d.2.1 d.2.2).trans h
  | n + 119 => fun _ _ h => by cases h

noncomputable def G : Nat → T.RF × T.RB
  | 0 => (fun _ _ => none, fun _ _ => none)
  | n + 1 => (gF (G n).1 (G n).2, gB (G n).1 (G n).2)
theorem run_F (n : Nat) {φ : Nat} {d} {y} (h : (G n).1 φ d = some y) : T.rf φ d = some y := (Tbl.approx gF_ok gB_ok rfl (fun _ => rfl) n).1 φ d y h
theorem run_B (n : Nat) {κ : Nat} {d} {y} (h : (G n).2 κ d = some y) : T.rb κ d = some y := (Tbl.approx gF_ok gB_ok rfl (fun _ => rfl) n).2 κ d y h
theorem live_run : c2 T.rf = some true := run_F 400 (φ := 2) (d := ()) (by kernel_rfl)
end Go.Proofs.Ytcdjidfdjlejdaa.R
