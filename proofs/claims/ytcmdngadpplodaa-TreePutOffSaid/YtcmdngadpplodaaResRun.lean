/-
  OUR OWN, PRINTED BY A PROGRAM OF OURS (table2.py): what a function comes to can be computed.
-/
import Derived.Test.YtcmdngadpplodaaRes
import Derived.Test.YtcmdngadpplodaaBmRun
import Derived.KernelRfl
namespace Go.Proofs.Ytcmdngadpplodaa.R
open Go Go.Bm Go.Proofs
set_option linter.unusedVariables false
set_option maxRecDepth 100000

noncomputable def gF (rf : T.RF) (rb : T.RB) : T.RF := fun φ => match φ with
  | 0 => fun (d : List (Int × Int × Int × Int × Int × List UInt8) × Int) => r0 rf rb d.1 d.2
  | 1 => fun (d : List (Int × Int × Int × Int × Int × List UInt8) × Int) => r1 rf rb d.1 d.2
  | 2 => fun (d : Unit) => r2 rf rb 
  | 3 => fun (d : Int × Int × List UInt8 × List (List (Int × Int × Int × Int × Int × List UInt8))) => r3 rf rb d.1 d.2.1 d.2.2.1 d.2.2.2
  | 4 => fun (d : Int × Int × Int × Int × Int × List UInt8) => r4 rf rb d
  | 5 => fun (d : List (Int × Int × Int × Int × Int × List UInt8) × List (Int × Int × Int × Int × Int × List UInt8)) => r5 rf rb d.1 d.2
  | 6 => fun (d : (Int × Int × Int × Int × Int × List UInt8) × List Int) => r6 rf rb d.1 d.2
  | 7 => fun (d : List (Int × Int × Int × Int × Int × List UInt8) × List (List UInt8) × List (List (Int × Int × Int × Int × Int × List UInt8))) => r7 rf rb d.1 d.2.1 d.2.2
  | 8 => fun (d : List (Int × Int × Int × Int × Int × List UInt8)) => r8 rf rb d
  | 9 => fun (d : Int × Int × Int × Int × Int × List UInt8) => r9 rf rb d
  | 10 => fun (d : List Bool × Bool) => r10 rf rb d.1 d.2
  | 11 => fun (d : List Bool × Bool) => r11 rf rb d.1 d.2
  | 12 => fun (d : List (Int × Int × Int × Int × Int × List UInt8)) => r12 rf rb d
  | 13 => fun (d : List (Int × Int × Int × Int × Int × List UInt8)) => r13 rf rb d
  | 14 => fun (d : List (List (Int × Int × Int × Int × Int × List UInt8))) => r14 rf rb d
  | 15 => fun (d : List (List (Int × Int × Int × Int × Int × List UInt8))) => r15 rf rb d
  | 16 => fun (d : List (Int × Int × Int × Int × Int × List UInt8)) => r16 rf rb d
  | 17 => fun (d : List (Int × Int × Int × Int × Int × List UInt8) × Int) => r17 rf rb d.1 d.2
  | 18 => fun (d : List (Int × Int × Int × Int × Int × List UInt8) × List (Int × Int × Int × Int × Int × List UInt8) × Int) => r18 rf rb d.1 d.2.1 d.2.2
  | 19 => fun (d : List (List UInt8) × List UInt8) => r19 rf rb d.1 d.2
  | 20 => fun (d : List (Int × Int × Int × Int × Int × List UInt8) × List (Int × Int × Int × Int × Int × List UInt8)) => r20 rf rb d.1 d.2
  | 21 => fun (d : List (Int × Int × Int × Int × Int × List UInt8)) => r21 rf rb d
  | 22 => fun (d : List (List UInt8) × List (List UInt8)) => r22 rf rb d.1 d.2
  | 23 => fun (d : Int × Int × Int × Int × Int × List UInt8) => r23 rf rb d
  | 24 => fun (d : List Int × List Int) => r24 rf rb d.1 d.2
  | 25 => fun (d : List (Int × Int × Int × Int × Int × List UInt8)) => r25 rf rb d
  | 26 => fun (d : Int × Int × Int × Int × Int × List UInt8) => r26 rf rb d
  | 27 => fun (d : Int × Int × Int × Int × Int × List UInt8) => r27 rf rb d
  | 28 => fun (d : List (Int × Int × Int × Int × Int × List UInt8) × Int) => r28 rf rb d.1 d.2
  | 29 => fun (d : List (Int × Int × Int × Int × Int × List UInt8)) => r29 rf rb d
  | 30 => fun (d : List (Int × Int × Int × Int × Int × List UInt8) × Int) => r30 rf rb d.1 d.2
  | 31 => fun (d : List (Int × Int × Int × Int × Int × List UInt8) × List (Int × Int × Int × Int × Int × List UInt8) × Int) => r31 rf rb d.1 d.2.1 d.2.2
  | 32 => fun (d : (Int × Int × Int × Int × Int × List UInt8) × List Int) => r32 rf rb d.1 d.2
  | 33 => fun (d : List (Int × Int × Int × Int × Int × List UInt8)) => r33 rf rb d
  | 34 => fun (d : List (Int × Int × Int × Int × Int × List UInt8)) => r34 rf rb d
  | 35 => fun (d : List (List UInt8) × List UInt8) => r35 rf rb d.1 d.2
  | 36 => fun (d : (Int × Int × Int × Int × Int × List UInt8) × List (List (Int × Int × Int × Int × Int × List UInt8))) => r36 rf rb d.1 d.2
  | 37 => fun (d : List (Int × Int × Int × Int × Int × List UInt8)) => r37 rf rb d
  | 38 => fun (d : Int × Int × List UInt8 × List (List (Int × Int × Int × Int × Int × List UInt8))) => r38 rf rb d.1 d.2.1 d.2.2.1 d.2.2.2
  | 39 => fun (d : Int × Int × List UInt8) => r39 rf rb d.1 d.2.1 d.2.2
  | 40 => fun (d : List (Int × Int × Int × Int × Int × List UInt8) × List (Int × Int × Int × Int × Int × List UInt8)) => r40 rf rb d.1 d.2
  | 41 => fun (d : (Int × Int × Int × Int × Int × List UInt8) × Int) => r41 rf rb d.1 d.2
  | 42 => fun (d : List (Int × Int × Int × Int × Int × List UInt8) × List (List UInt8) × List (List (Int × Int × Int × Int × Int × List UInt8))) => r42 rf rb d.1 d.2.1 d.2.2
  | 43 => fun (d : List (Int × Int × Int × Int × Int × List UInt8) × List (List UInt8) × List (List (Int × Int × Int × Int × Int × List UInt8))) => r43 rf rb d.1 d.2.1 d.2.2
  | 44 => fun (d : List (List UInt8) × List UInt8) => r44 rf rb d.1 d.2
  | 45 => fun (d : List (Int × Int × Int × Int × Int × List UInt8)) => r45 rf rb d
  | 46 => fun (d : List (Int × Int × Int × Int × Int × List UInt8) × List (Int × Int × Int × Int × Int × List UInt8)) => r46 rf rb d.1 d.2
  | 47 => fun (d : List (Int × Int × Int × Int × Int × List UInt8)) => r47 rf rb d
  | 48 => fun (d : List (Int × Int × Int × Int × Int × List UInt8) × List (Int × Int × Int × Int × Int × List UInt8)) => r48 rf rb d.1 d.2
  | 49 => fun (d : List (List UInt8) × List UInt8) => r49 rf rb d.1 d.2
  | 50 => fun (d : List (Int × Int × Int × Int × Int × List UInt8) × List (Int × Int × Int × Int × Int × List UInt8) × List UInt8) => r50 rf rb d.1 d.2.1 d.2.2
  | _ => fun _ => none
theorem gF_ok (rf : T.RF) (rb : T.RB) : ∀ φ d y, gF rf rb φ d = some y → T.stepF rf rb φ d = some y := fun φ => match φ with
  | 0 => fun (d : List (Int × Int × Int × Int × Int × List UInt8) × Int) y h => (er0 rf rb d.1 d.2).trans h
  | 1 => fun (d : List (Int × Int × Int × Int × Int × List UInt8) × Int) y h => (er1 rf rb d.1 d.2).trans h
  | 2 => fun (d : Unit) y h => (er2 rf rb ).trans h
  | 3 => fun (d : Int × Int × List UInt8 × List (List (Int × Int × Int × Int × Int × List UInt8))) y h => (er3 rf rb d.1 d.2.1 d.2.2.1 d.2.2.2).trans h
  | 4 => fun (d : Int × Int × Int × Int × Int × List UInt8) y h => (er4 rf rb d).trans h
  | 5 => fun (d : List (Int × Int × Int × Int × Int × List UInt8) × List (Int × Int × Int × Int × Int × List UInt8)) y h => (er5 rf rb d.1 d.2).trans h
  | 6 => fun (d : (Int × Int × Int × Int × Int × List UInt8) × List Int) y h => (er6 rf rb d.1 d.2).trans h
  | 7 => fun (d : List (Int × Int × Int × Int × Int × List UInt8) × List (List UInt8) × List (List (Int × Int × Int × Int × Int × List UInt8))) y h => (er7 rf rb d.1 d.2.1 d.2.2).trans h
  | 8 => fun (d : List (Int × Int × Int × Int × Int × List UInt8)) y h => (er8 rf rb d).trans h
  | 9 => fun (d : Int × Int × Int × Int × Int × List UInt8) y h => (er9 rf rb d).trans h
  | 10 => fun (d : List Bool × Bool) y h => (er10 rf rb d.1 d.2).trans h
  | 11 => fun (d : List Bool × Bool) y h => (er11 rf rb d.1 d.2).trans h
  | 12 => fun (d : List (Int × Int × Int × Int × Int × List UInt8)) y h => (er12 rf rb d).trans h
  | 13 => fun (d : List (Int × Int × Int × Int × Int × List UInt8)) y h => (er13 rf rb d).trans h
  | 14 => fun (d : List (List (Int × Int × Int × Int × Int × List UInt8))) y h => (er14 rf rb d).trans h
  | 15 => fun (d : List (List (Int × Int × Int × Int × Int × List UInt8))) y h => (er15 rf rb d).trans h
  | 16 => fun (d : List (Int × Int × Int × Int × Int × List UInt8)) y h => (er16 rf rb d).trans h
  | 17 => fun (d : List (Int × Int × Int × Int × Int × List UInt8) × Int) y h => (er17 rf rb d.1 d.2).trans h
  | 18 => fun (d : List (Int × Int × Int × Int × Int × List UInt8) × List (Int × Int × Int × Int × Int × List UInt8) × Int) y h => (er18 rf rb d.1 d.2.1 d.2.2).trans h
  | 19 => fun (d : List (List UInt8) × List UInt8) y h => (er19 rf rb d.1 d.2).trans h
  | 20 => fun (d : List (Int × Int × Int × Int × Int × List UInt8) × List (Int × Int × Int × Int × Int × List UInt8)) y h => (er20 rf rb d.1 d.2).trans h
  | 21 => fun (d : List (Int × Int × Int × Int × Int × List UInt8)) y h => (er21 rf rb d).trans h
  | 22 => fun (d : List (List UInt8) × List (List UInt8)) y h => (er22 rf rb d.1 d.2).trans h
  | 23 => fun (d : Int × Int × Int × Int × Int × List UInt8) y h => (er23 rf rb d).trans h
  | 24 => fun (d : List Int × List Int) y h => (er24 rf rb d.1 d.2).trans h
  | 25 => fun (d : List (Int × Int × Int × Int × Int × List UInt8)) y h => (er25 rf rb d).trans h
  | 26 => fun (d : Int × Int × Int × Int × Int × List UInt8) y h => (er26 rf rb d).trans h
  | 27 => fun (d : Int × Int × Int × Int × Int × List UInt8) y h => (er27 rf rb d).trans h
  | 28 => fun (d : List (Int × Int × Int × Int × Int × List UInt8) × Int) y h => (er28 rf rb d.1 d.2).trans h
  | 29 => fun (d : List (Int × Int × Int × Int × Int × List UInt8)) y h => (er29 rf rb d).trans h
  | 30 => fun (d : List (Int × Int × Int × Int × Int × List UInt8) × Int) y h => (er30 rf rb d.1 d.2).trans h
  | 31 => fun (d : List (Int × Int × Int × Int × Int × List UInt8) × List (Int × Int × Int × Int × Int × List UInt8) × Int) y h => (er31 rf rb d.1 d.2.1 d.2.2).trans h
  | 32 => fun (d : (Int × Int × Int × Int × Int × List UInt8) × List Int) y h => (er32 rf rb d.1 d.2).trans h
  | 33 => fun (d : List (Int × Int × Int × Int × Int × List UInt8)) y h => (er33 rf rb d).trans h
  | 34 => fun (d : List (Int × Int × Int × Int × Int × List UInt8)) y h => (er34 rf rb d).trans h
  | 35 => fun (d : List (List UInt8) × List UInt8) y h => (er35 rf rb d.1 d.2).trans h
  | 36 => fun (d : (Int × Int × Int × Int × Int × List UInt8) × List (List (Int × Int × Int × Int × Int × List UInt8))) y h => (er36 rf rb d.1 d.2).trans h
  | 37 => fun (d : List (Int × Int × Int × Int × Int × List UInt8)) y h => (er37 rf rb d).trans h
  | 38 => fun (d : Int × Int × List UInt8 × List (List (Int × Int × Int × Int × Int × List UInt8))) y h => (er38 rf rb d.1 d.2.1 d.2.2.1 d.2.2.2).trans h
  | 39 => fun (d : Int × Int × List UInt8) y h => (er39 rf rb d.1 d.2.1 d.2.2).trans h
  | 40 => fun (d : List (Int × Int × Int × Int × Int × List UInt8) × List (Int × Int × Int × Int × Int × List UInt8)) y h => (er40 rf rb d.1 d.2).trans h
  | 41 => fun (d : (Int × Int × Int × Int × Int × List UInt8) × Int) y h => (er41 rf rb d.1 d.2).trans h
  | 42 => fun (d : List (Int × Int × Int × Int × Int × List UInt8) × List (List UInt8) × List (List (Int × Int × Int × Int × Int × List UInt8))) y h => (er42 rf rb d.1 d.2.1 d.2.2).trans h
  | 43 => fun (d : List (Int × Int × Int × Int × Int × List UInt8) × List (List UInt8) × List (List (Int × Int × Int × Int × Int × List UInt8))) y h => (er43 rf rb d.1 d.2.1 d.2.2).trans h
  | 44 => fun (d : List (List UInt8) × List UInt8) y h => (er44 rf rb d.1 d.2).trans h
  | 45 => fun (d : List (Int × Int × Int × Int × Int × List UInt8)) y h => (er45 rf rb d).trans h
  | 46 => fun (d : List (Int × Int × Int × Int × Int × List UInt8) × List (Int × Int × Int × Int × Int × List UInt8)) y h => (er46 rf rb d.1 d.2).trans h
  | 47 => fun (d : List (Int × Int × Int × Int × Int × List UInt8)) y h => (er47 rf rb d).trans h
  | 48 => fun (d : List (Int × Int × Int × Int × Int × List UInt8) × List (Int × Int × Int × Int × Int × List UInt8)) y h => (er48 rf rb d.1 d.2).trans h
  | 49 => fun (d : List (List UInt8) × List UInt8) y h => (er49 rf rb d.1 d.2).trans h
  | 50 => fun (d : List (Int × Int × Int × Int × Int × List UInt8) × List (Int × Int × Int × Int × Int × List UInt8) × List UInt8) y h => (er50 rf rb d.1 d.2.1 d.2.2).trans h
  | n + 51 => fun _ _ h => by cases h

noncomputable def gB (rf : T.RF) (rb : T.RB) : T.RB := fun φ => match φ with
  | 2 => fun (d : List (Int × Int × Int × Int × Int × List UInt8) × Int × List (Int × Int × Int × Int × Int × List UInt8) × Int × Int) => b2 rf rb d.1 d.2.1 d.2.2.1 d.2.2.2.1 d.2.2.2.2
  | 3 => fun (d : List (Int × Int × Int × Int × Int × List UInt8) × List Int × Int × List (List (Int × Int × Int × Int × Int × List UInt8)) × Int × Int) => b3 rf rb d.1 d.2.1 d.2.2.1 d.2.2.2.1 d.2.2.2.2.1 d.2.2.2.2.2
  | 4 => fun (d : List Bool × List (Int × Int × Int × Int × Int × List UInt8) × List (Int × Int × Int × Int × Int × List UInt8) × Int × Int) => b4 rf rb d.1 d.2.1 d.2.2.1 d.2.2.2.1 d.2.2.2.2
  | 5 => fun (d : (Int × Int × Int × Int × Int × List UInt8) × Int) => b5 rf rb d.1 d.2
  | 6 => fun (d : (Int × Int × Int × Int × Int × List UInt8) × (Int × Int × Int × Int × Int × List UInt8) × Int) => b6 rf rb d.1 d.2.1 d.2.2
  | 7 => fun (d : List Bool × (Int × Int × Int × Int × Int × List UInt8) × List Int × List (Int × Int × Int × Int × Int × List UInt8) × Int × Int × Int) => b7 rf rb d.1 d.2.1 d.2.2.1 d.2.2.2.1 d.2.2.2.2.1 d.2.2.2.2.2.1 d.2.2.2.2.2.2
  | 8 => fun (d : List Bool × Bool × Int × Int) => b8 rf rb d.1 d.2.1 d.2.2.1 d.2.2.2
  | 15 => fun (d : List Int × List (Int × Int × Int × Int × Int × List UInt8) × Int × Int) => b15 rf rb d.1 d.2.1 d.2.2.1 d.2.2.2
  | 16 => fun (d : List Int × List Int × Int × Int × Int) => b16 rf rb d.1 d.2.1 d.2.2.1 d.2.2.2.1 d.2.2.2.2
  | 17 => fun (d : List (List (Int × Int × Int × Int × Int × List UInt8)) × Int × Int) => b17 rf rb d.1 d.2.1 d.2.2
  | 19 => fun (d : List (Int × Int × Int × Int × Int × List UInt8) × List Int × List (Int × Int × Int × Int × Int × List UInt8) × Int × Int) => b19 rf rb d.1 d.2.1 d.2.2.1 d.2.2.2.1 d.2.2.2.2
  | 21 => fun (d : List (List UInt8) × List UInt8 × Int × Int) => b21 rf rb d.1 d.2.1 d.2.2.1 d.2.2.2
  | 23 => fun (d : List (Int × Int × Int × Int × Int × List UInt8) × List Int × List (Int × Int × Int × Int × Int × List UInt8) × List (List UInt8) × List (List (Int × Int × Int × Int × Int × List UInt8)) × Int × Int) => b23 rf rb d.1 d.2.1 d.2.2.1 d.2.2.2.1 d.2.2.2.2.1 d.2.2.2.2.2.1 d.2.2.2.2.2.2
  | 24 => fun (d : List Int × List Int × Int × Int) => b24 rf rb d.1 d.2.1 d.2.2.1 d.2.2.2
  | 25 => fun (d : List (Int × Int × Int × Int × Int × List UInt8) × List (Int × Int × Int × Int × Int × List UInt8) × Int) => b25 rf rb d.1 d.2.1 d.2.2
  | 27 => fun (d : List (List UInt8) × List (List UInt8 × Bool) × List (Int × Int × Int × Int × Int × List UInt8) × Int × Int) => b27 rf rb d.1 d.2.1 d.2.2.1 d.2.2.2.1 d.2.2.2.2
  | 28 => fun (d : List (List UInt8) × List (List UInt8) × Int) => b28 rf rb d.1 d.2.1 d.2.2
  | 29 => fun (d : List (Int × Int × Int × Int × Int × List UInt8) × Int) => b29 rf rb d.1 d.2
  | 30 => fun (d : List Int × List Int × Int) => b30 rf rb d.1 d.2.1 d.2.2
  | 31 => fun (d : List Int × List (Int × Int × Int × Int × Int × List UInt8) × Int) => b31 rf rb d.1 d.2.1 d.2.2
  | 32 => fun (d : List Int × List Int × Int × Int) => b32 rf rb d.1 d.2.1 d.2.2.1 d.2.2.2
  | 33 => fun (d : (Int × Int × Int × Int × Int × List UInt8) × List Int × List (Int × Int × Int × Int × Int × List UInt8) × Int) => b33 rf rb d.1 d.2.1 d.2.2.1 d.2.2.2
  | 34 => fun (d : List Int × List (Int × Int × Int × Int × Int × List UInt8) × Int) => b34 rf rb d.1 d.2.1 d.2.2
  | 41 => fun (d : List Int × List (Int × Int × Int × Int × Int × List UInt8) × Int) => b41 rf rb d.1 d.2.1 d.2.2
  | 42 => fun (d : List Int × List Int × Int × Int) => b42 rf rb d.1 d.2.1 d.2.2.1 d.2.2.2
  | 44 => fun (d : List (Int × Int × Int × Int × Int × List UInt8) × List Int × List Int × List (Int × Int × Int × Int × Int × List UInt8) × Int) => b44 rf rb d.1 d.2.1 d.2.2.1 d.2.2.2.1 d.2.2.2.2
  | 46 => fun (d : List (List UInt8) × List UInt8 × Int) => b46 rf rb d.1 d.2.1 d.2.2
  | 47 => fun (d : List (Int × Int × Int × Int × Int × List UInt8) × List (List UInt8) × Int) => b47 rf rb d.1 d.2.1 d.2.2
  | 49 => fun (d : List (List (Int × Int × Int × Int × Int × List UInt8)) × List (List (Int × Int × Int × Int × Int × List UInt8)) × Int) => b49 rf rb d.1 d.2.1 d.2.2
  | 50 => fun (d : List (List (Int × Int × Int × Int × Int × List UInt8)) × List (List (Int × Int × Int × Int × Int × List UInt8)) × Int) => b50 rf rb d.1 d.2.1 d.2.2
  | 53 => fun (d : List (Int × Int × Int × Int × Int × List UInt8) × List (Int × Int × Int × Int × Int × List UInt8) × Int × Int) => b53 rf rb d.1 d.2.1 d.2.2.1 d.2.2.2
  | 54 => fun (d : List (Int × Int × Int × Int × Int × List UInt8) × List Int × Int × List (List (Int × Int × Int × Int × Int × List UInt8)) × Int × Int) => b54 rf rb d.1 d.2.1 d.2.2.1 d.2.2.2.1 d.2.2.2.2.1 d.2.2.2.2.2
  | 55 => fun (d : List (List (Int × Int × Int × Int × Int × List UInt8)) × Int) => b55 rf rb d.1 d.2
  | 58 => fun (d : List (List UInt8) × List UInt8 × Int) => b58 rf rb d.1 d.2.1 d.2.2
  | 65 => fun (d : List (List (Int × Int × Int × Int × Int × List UInt8)) × Int) => b65 rf rb d.1 d.2
  | 66 => fun (d : List (Int × Int × Int × Int × Int × List UInt8) × List (Int × Int × Int × Int × Int × List UInt8) × List Int × List (List UInt8) × List (List (Int × Int × Int × Int × Int × List UInt8)) × Int) => b66 rf rb d.1 d.2.1 d.2.2.1 d.2.2.2.1 d.2.2.2.2.1 d.2.2.2.2.2
  | 67 => fun (d : List (Int × Int × Int × Int × Int × List UInt8) × List (Int × Int × Int × Int × Int × List UInt8) × List Int × List (List (Int × Int × Int × Int × Int × List UInt8)) × Int × Int) => b67 rf rb d.1 d.2.1 d.2.2.1 d.2.2.2.1 d.2.2.2.2.1 d.2.2.2.2.2
  | 68 => fun (d : List Int × List Int × List Int × Int) => b68 rf rb d.1 d.2.1 d.2.2.1 d.2.2.2
  | 70 => fun (d : List (List UInt8) × List (List (Int × Int × Int × Int × Int × List UInt8)) × Int) => b70 rf rb d.1 d.2.1 d.2.2
  | 72 => fun (d : List (List UInt8) × List UInt8 × Int × Int) => b72 rf rb d.1 d.2.1 d.2.2.1 d.2.2.2
  | 73 => fun (d : List (Int × Int × Int × Int × Int × List UInt8) × List (List UInt8) × Int) => b73 rf rb d.1 d.2.1 d.2.2
  | 74 => fun (d : List (Int × Int × Int × Int × Int × List UInt8) × List (List UInt8) × List (List UInt8) × Int) => b74 rf rb d.1 d.2.1 d.2.2.1 d.2.2.2
  | _ => fun _ => none
theorem gB_ok (rf : T.RF) (rb : T.RB) : ∀ φ d y, gB rf rb φ d = some y → T.stepB rf rb φ d = some y := fun φ => match φ with
  | 0 => fun _ _ h => by cases h
  | 1 => fun _ _ h => by cases h
  | 2 => fun (d : List (Int × Int × Int × Int × Int × List UInt8) × Int × List (Int × Int × Int × Int × Int × List UInt8) × Int × Int) y h => (eb2 rf rb d.1 d.2.1 d.2.2.1 d.2.2.2.1 d.2.2.2.2).trans h
  | 3 => fun (d : List (Int × Int × Int × Int × Int × List UInt8) × List Int × Int × List (List (Int × Int × Int × Int × Int × List UInt8)) × Int × Int) y h => (eb3 rf rb d.1 d.2.1 d.2.2.1 d.2.2.2.1 d.2.2.2.2.1 d.2.2.2.2.2).trans h
  | 4 => fun (d : List Bool × List (Int × Int × Int × Int × Int × List UInt8) × List (Int × Int × Int × Int × Int × List UInt8) × Int × Int) y h => (eb4 rf rb d.1 d.2.1 d.2.2.1 d.2.2.2.1 d.2.2.2.2).trans h
  | 5 => fun (d : (Int × Int × Int × Int × Int × List UInt8) × Int) y h => ((eb5 rf rb d.1 d.2).trans (sb5 rf rb d.1 d.2)).trans h
  | 6 => fun (d : (Int × Int × Int × Int × Int × List UInt8) × (Int × Int × Int × Int × Int × List UInt8) × Int) y h => (eb6 rf rb d.1 d.2.1 d.2.2).trans h
  | 7 => fun (d : List Bool × (Int × Int × Int × Int × Int × List UInt8) × List Int × List (Int × Int × Int × Int × Int × List UInt8) × Int × Int × Int) y h => (eb7 rf rb d.1 d.2.1 d.2.2.1 d.2.2.2.1 d.2.2.2.2.1 d.2.2.2.2.2.1 d.2.2.2.2.2.2).trans h
  | 8 => fun (d : List Bool × Bool × Int × Int) y h => (eb8 rf rb d.1 d.2.1 d.2.2.1 d.2.2.2).trans h
  | 9 => fun _ _ h => by cases h
  | 10 => fun _ _ h => by cases h
  | 11 => fun _ _ h => by cases h
  | 12 => fun _ _ h => by cases h
  | 13 => fun _ _ h => by cases h
  | 14 => fun _ _ h => by cases h
  | 15 => fun (d : List Int × List (Int × Int × Int × Int × Int × List UInt8) × Int × Int) y h => (eb15 rf rb d.1 d.2.1 d.2.2.1 d.2.2.2).trans h
  | 16 => fun (d : List Int × List Int × Int × Int × Int) y h => ((eb16 rf rb d.1 d.2.1 d.2.2.1 d.2.2.2.1 d.2.2.2.2).trans (sb16 rf rb d.1 d.2.1 d.2.2.1 d.2.2.2.1 d.2.2.2.2)).trans h
  | 17 => fun (d : List (List (Int × Int × Int × Int × Int × List UInt8)) × Int × Int) y h => (eb17 rf rb d.1 d.2.1 d.2.2).trans h
  | 18 => fun _ _ h => by cases h
  | 19 => fun (d : List (Int × Int × Int × Int × Int × List UInt8) × List Int × List (Int × Int × Int × Int × Int × List UInt8) × Int × Int) y h => (eb19 rf rb d.1 d.2.1 d.2.2.1 d.2.2.2.1 d.2.2.2.2).trans h
  | 20 => fun _ _ h => by cases h
  | 21 => fun (d : List (List UInt8) × List UInt8 × Int × Int) y h => (eb21 rf rb d.1 d.2.1 d.2.2.1 d.2.2.2).trans h
  | 22 => fun _ _ h => by cases h
  | 23 => fun (d : List (Int × Int × Int × Int × Int × List UInt8) × List Int × List (Int × Int × Int × Int × Int × List UInt8) × List (List UInt8) × List (List (Int × Int × Int × Int × Int × List UInt8)) × Int × Int) y h => (eb23 rf rb d.1 d.2.1 d.2.2.1 d.2.2.2.1 d.2.2.2.2.1 d.2.2.2.2.2.1 d.2.2.2.2.2.2).trans h
  | 24 => fun (d : List Int × List Int × Int × Int) y h => (eb24 rf rb d.1 d.2.1 d.2.2.1 d.2.2.2).trans h
  | 25 => fun (d : List (Int × Int × Int × Int × Int × List UInt8) × List (Int × Int × Int × Int × Int × List UInt8) × Int) y h => (eb25 rf rb d.1 d.2.1 d.2.2).trans h
  | 26 => fun _ _ h => by cases h
  | 27 => fun (d : List (List UInt8) × List (List UInt8 × Bool) × List (Int × Int × Int × Int × Int × List UInt8) × Int × Int) y h => (eb27 rf rb d.1 d.2.1 d.2.2.1 d.2.2.2.1 d.2.2.2.2).trans h
  | 28 => fun (d : List (List UInt8) × List (List UInt8) × Int) y h => (eb28 rf rb d.1 d.2.1 d.2.2).trans h
  | 29 => fun (d : List (Int × Int × Int × Int × Int × List UInt8) × Int) y h => (eb29 rf rb d.1 d.2).trans h
  | 30 => fun (d : List Int × List Int × Int) y h => (eb30 rf rb d.1 d.2.1 d.2.2).trans h
  | 31 => fun (d : List Int × List (Int × Int × Int × Int × Int × List UInt8) × Int) y h => (eb31 rf rb d.1 d.2.1 d.2.2).trans h
  | 32 => fun (d : List Int × List Int × Int × Int) y h => (eb32 rf rb d.1 d.2.1 d.2.2.1 d.2.2.2).trans h
  | 33 => fun (d : (Int × Int × Int × Int × Int × List UInt8) × List Int × List (Int × Int × Int × Int × Int × List UInt8) × Int) y h => (eb33 rf rb d.1 d.2.1 d.2.2.1 d.2.2.2).trans h
  | 34 => fun (d : List Int × List (Int × Int × Int × Int × Int × List UInt8) × Int) y h => (eb34 rf rb d.1 d.2.1 d.2.2).trans h
  | 35 => fun _ _ h => by cases h
  | 36 => fun _ _ h => by cases h
  | 37 => fun _ _ h => by cases h
  | 38 => fun _ _ h => by cases h
  | 39 => fun _ _ h => by cases h
  | 40 => fun _ _ h => by cases h
  | 41 => fun (d : List Int × List (Int × Int × Int × Int × Int × List UInt8) × Int) y h => (eb41 rf rb d.1 d.2.1 d.2.2).trans h
  | 42 => fun (d : List Int × List Int × Int × Int) y h => ((eb42 rf rb d.1 d.2.1 d.2.2.1 d.2.2.2).trans (sb42 rf rb d.1 d.2.1 d.2.2.1 d.2.2.2)).trans h
  | 43 => fun _ _ h => by cases h
  | 44 => fun (d : List (Int × Int × Int × Int × Int × List UInt8) × List Int × List Int × List (Int × Int × Int × Int × Int × List UInt8) × Int) y h => (eb44 rf rb d.1 d.2.1 d.2.2.1 d.2.2.2.1 d.2.2.2.2).trans h
  | 45 => fun _ _ h => by cases h
  | 46 => fun (d : List (List UInt8) × List UInt8 × Int) y h => (eb46 rf rb d.1 d.2.1 d.2.2).trans h
  | 47 => fun (d : List (Int × Int × Int × Int × Int × List UInt8) × List (List UInt8) × Int) y h => (eb47 rf rb d.1 d.2.1 d.2.2).trans h
  | 48 => fun _ _ h => by cases h
  | 49 => fun (d : List (List (Int × Int × Int × Int × Int × List UInt8)) × List (List (Int × Int × Int × Int × Int × List UInt8)) × Int) y h => (eb49 rf rb d.1 d.2.1 d.2.2).trans h
  | 50 => fun (d : List (List (Int × Int × Int × Int × Int × List UInt8)) × List (List (Int × Int × Int × Int × Int × List UInt8)) × Int) y h => (eb50 rf rb d.1 d.2.1 d.2.2).trans h
  | 51 => fun _ _ h => by cases h
  | 52 => fun _ _ h => by cases h
  | 53 => fun (d : List (Int × Int × Int × Int × Int × List UInt8) × List (Int × Int × Int × Int × Int × List UInt8) × Int × Int) y h => (eb53 rf rb d.1 d.2.1 d.2.2.1 d.2.2.2).trans h
  | 54 => fun (d : List (Int × Int × Int × Int × Int × List UInt8) × List Int × Int × List (List (Int × Int × Int × Int × Int × List UInt8)) × Int × Int) y h => (eb54 rf rb d.1 d.2.1 d.2.2.1 d.2.2.2.1 d.2.2.2.2.1 d.2.2.2.2.2).trans h
  | 55 => fun (d : List (List (Int × Int × Int × Int × Int × List UInt8)) × Int) y h => (eb55 rf rb d.1 d.2).trans h
  | 56 => fun _ _ h => by cases h
  | 57 => fun _ _ h => by cases h
  | 58 => fun (d : List (List UInt8) × List UInt8 × Int) y h => (eb58 rf rb d.1 d.2.1 d.2.2).trans h
  | 59 => fun _ _ h => by cases h
  | 60 => fun _ _ h => by cases h
  | 61 => fun _ _ h => by cases h
  | 62 => fun _ _ h => by cases h
  | 63 => fun _ _ h => by cases h
  | 64 => fun _ _ h => by cases h
  | 65 => fun (d : List (List (Int × Int × Int × Int × Int × List UInt8)) × Int) y h => (eb65 rf rb d.1 d.2).trans h
  | 66 => fun (d : List (Int × Int × Int × Int × Int × List UInt8) × List (Int × Int × Int × Int × Int × List UInt8) × List Int × List (List UInt8) × List (List (Int × Int × Int × Int × Int × List UInt8)) × Int) y h => (eb66 rf rb d.1 d.2.1 d.2.2.1 d.2.2.2.1 d.2.2.2.2.1 d.2.2.2.2.2).trans h
  | 67 => fun (d : List (Int × Int × Int × Int × Int × List UInt8) × List (Int × Int × Int × Int × Int × List UInt8) × List Int × List (List (Int × Int × Int × Int × Int × List UInt8)) × Int × Int) y h => (eb67 rf rb d.1 d.2.1 d.2.2.1 d.2.2.2.1 d.2.2.2.2.1 d.2.2.2.2.2).trans h
  | 68 => fun (d : List Int × List Int × List Int × Int) y h => (eb68 rf rb d.1 d.2.1 d.2.2.1 d.2.2.2).trans h
  | 69 => fun _ _ h => by cases h
  | 70 => fun (d : List (List UInt8) × List (List (Int × Int × Int × Int × Int × List UInt8)) × Int) y h => (eb70 rf rb d.1 d.2.1 d.2.2).trans h
  | 71 => fun _ _ h => by cases h
  | 72 => fun (d : List (List UInt8) × List UInt8 × Int × Int) y h => (eb72 rf rb d.1 d.2.1 d.2.2.1 d.2.2.2).trans h
  | 73 => fun (d : List (Int × Int × Int × Int × Int × List UInt8) × List (List UInt8) × Int) y h => (eb73 rf rb d.1 d.2.1 d.2.2).trans h
  | 74 => fun (d : List (Int × Int × Int × Int × Int × List UInt8) × List (List UInt8) × List (List UInt8) × Int) y h => (eb74 rf rb d.1 d.2.1 d.2.2.1 d.2.2.2).trans h
  | n + 75 => fun _ _ h => by cases h

noncomputable def G : Nat → T.RF × T.RB
  | 0 => (fun _ _ => none, fun _ _ => none)
  | n + 1 => (gF (G n).1 (G n).2, gB (G n).1 (G n).2)
theorem run_F (n : Nat) {φ : Nat} {d} {y} (h : (G n).1 φ d = some y) : T.rf φ d = some y := (Tbl.approx gF_ok gB_ok rfl (fun _ => rfl) n).1 φ d y h
theorem run_B (n : Nat) {κ : Nat} {d} {y} (h : (G n).2 κ d = some y) : T.rb κ d = some y := (Tbl.approx gF_ok gB_ok rfl (fun _ => rfl) n).2 κ d y h
theorem live_run : c2 T.rf = some true := run_F 60 (φ := 2) (d := ()) (by kernel_rfl)
end Go.Proofs.Ytcmdngadpplodaa.R
