/-
  OUR OWN, PRINTED BY A PROGRAM OF OURS (table2.py): what a function comes to can be computed.
-/
import Derived.Test.YteifekbmmhpadaaRes
import Derived.Test.YteifekbmmhpadaaBmRun
import Derived.KernelRfl
namespace Go.Proofs.Yteifekbmmhpadaa.R
open Go Go.Bm Go.Proofs
set_option linter.unusedVariables false
set_option maxRecDepth 100000

noncomputable def gF (rf : T.RF) (rb : T.RB) : T.RF := fun φ => match φ with
  | 0 => fun (d : XC) => r0 rf rb d
  | 1 => fun (d : XC) => r1 rf rb d
  | 2 => fun (d : Unit) => r2 rf rb 
  | 3 => fun (d : XC) => r3 rf rb d
  | 4 => fun (d : XC) => r4 rf rb d
  | 5 => fun (d : XC × XI) => r5 rf rb d.1 d.2
  | 6 => fun (d : Int) => r6 rf rb d
  | 7 => fun (d : Int) => r7 rf rb d
  | 8 => fun (d : Int) => r8 rf rb d
  | 9 => fun (d : List (Int × Bool) × List Int) => r9 rf rb d.1 d.2
  | 10 => fun (d : List (Int × Bool) × List Int) => r10 rf rb d.1 d.2
  | 11 => fun (d : List (Int × Bool) × Int) => r11 rf rb d.1 d.2
  | 12 => fun (d : List Int × List Int) => r12 rf rb d.1 d.2
  | 13 => fun (d : XI) => r13 rf rb d
  | 14 => fun (d : List UInt8) => r14 rf rb d
  | 15 => fun (d : List UInt8 × List UInt8) => r15 rf rb d.1 d.2
  | 16 => fun (d : List UInt8 × List UInt8) => r16 rf rb d.1 d.2
  | 17 => fun (d : List UInt8 × List UInt8) => r17 rf rb d.1 d.2
  | 18 => fun (d : List UInt8 × List UInt8) => r18 rf rb d.1 d.2
  | 19 => fun (d : List UInt8 × Int) => r19 rf rb d
  | 20 => fun (d : List UInt8 × Int) => r20 rf rb d
  | 21 => fun (d : List UInt8 × Int) => r21 rf rb d
  | 22 => fun (d : XC) => r22 rf rb d
  | 23 => fun (d : XC × XC) => r23 rf rb d.1 d.2
  | 24 => fun (d : List Int × List Int) => r24 rf rb d.1 d.2
  | 25 => fun (d : XC) => r25 rf rb d
  | 26 => fun (d : XC) => r26 rf rb d
  | 27 => fun (d : XC) => r27 rf rb d
  | 28 => fun (d : XI) => r28 rf rb d
  | 29 => fun (d : Int) => r29 rf rb d
  | 30 => fun (d : XI × Int) => r30 rf rb d.1 d.2
  | 31 => fun (d : XC × XI) => r31 rf rb d.1 d.2
  | 32 => fun (d : Int) => r32 rf rb d
  | 33 => fun (d : List Bool × Int) => r33 rf rb d.1 d.2
  | 34 => fun (d : Int) => r34 rf rb d
  | 35 => fun (d : List Int) => r35 rf rb d
  | 36 => fun (d : Int) => r36 rf rb d
  | 37 => fun (d : Int) => r37 rf rb d
  | 38 => fun (d : XC × XC) => r38 rf rb d.1 d.2
  | 39 => fun (d : XC × Int × Int) => r39 rf rb d.1 d.2.1 d.2.2
  | _ => fun _ => none
theorem gF_ok (rf : T.RF) (rb : T.RB) : ∀ φ d y, gF rf rb φ d = some y → T.stepF rf rb φ d = some y := fun φ => match φ with
  | 0 => fun (d : XC) y h => (er0 rf rb d).trans h
  | 1 => fun (d : XC) y h => (er1 rf rb d).trans h
  | 2 => fun (d : Unit) y h => (er2 rf rb ).trans h
  | 3 => fun (d : XC) y h => (er3 rf rb d).trans h
  | 4 => fun (d : XC) y h => (er4 rf rb d).trans h
  | 5 => fun (d : XC × XI) y h => (er5 rf rb d.1 d.2).trans h
  | 6 => fun (d : Int) y h => (er6 rf rb d).trans h
  | 7 => fun (d : Int) y h => (er7 rf rb d).trans h
  | 8 => fun (d : Int) y h => (er8 rf rb d).trans h
  | 9 => fun (d : List (Int × Bool) × List Int) y h => (er9 rf rb d.1 d.2).trans h
  | 10 => fun (d : List (Int × Bool) × List Int) y h => (er10 rf rb d.1 d.2).trans h
  | 11 => fun (d : List (Int × Bool) × Int) y h => (er11 rf rb d.1 d.2).trans h
  | 12 => fun (d : List Int × List Int) y h => (er12 rf rb d.1 d.2).trans h
  | 13 => fun (d : XI) y h => (er13 rf rb d).trans h
  | 14 => fun (d : List UInt8) y h => (er14 rf rb d).trans h
  | 15 => fun (d : List UInt8 × List UInt8) y h => (er15 rf rb d.1 d.2).trans h
  | 16 => fun (d : List UInt8 × List UInt8) y h => (er16 rf rb d.1 d.2).trans h
  | 17 => fun (d : List UInt8 × List UInt8) y h => (er17 rf rb d.1 d.2).trans h
  | 18 => fun (d : List UInt8 × List UInt8) y h => (er18 rf rb d.1 d.2).trans h
  | 19 => fun (d : List UInt8 × Int) y h => (er19 rf rb d).trans h
  | 20 => fun (d : List UInt8 × Int) y h => (er20 rf rb d).trans h
  | 21 => fun (d : List UInt8 × Int) y h => (er21 rf rb d).trans h
  | 22 => fun (d : XC) y h => (er22 rf rb d).trans h
  | 23 => fun (d : XC × XC) y h => (er23 rf rb d.1 d.2).trans h
  | 24 => fun (d : List Int × List Int) y h => (er24 rf rb d.1 d.2).trans h
  | 25 => fun (d : XC) y h => (er25 rf rb d).trans h
  | 26 => fun (d : XC) y h => (er26 rf rb d).trans h
  | 27 => fun (d : XC) y h => (er27 rf rb d).trans h
  | 28 => fun (d : XI) y h => (er28 rf rb d).trans h
  | 29 => fun (d : Int) y h => (er29 rf rb d).trans h
  | 30 => fun (d : XI × Int) y h => (er30 rf rb d.1 d.2).trans h
  | 31 => fun (d : XC × XI) y h => (er31 rf rb d.1 d.2).trans h
  | 32 => fun (d : Int) y h => (er32 rf rb d).trans h
  | 33 => fun (d : List Bool × Int) y h => (er33 rf rb d.1 d.2).trans h
  | 34 => fun (d : Int) y h => ((er34 rf rb d).trans (sr34 rf rb d)).trans h
  | 35 => fun (d : List Int) y h => (er35 rf rb d).trans h
  | 36 => fun (d : Int) y h => (er36 rf rb d).trans h
  | 37 => fun (d : Int) y h => (er37 rf rb d).trans h
  | 38 => fun (d : XC × XC) y h => (er38 rf rb d.1 d.2).trans h
  | 39 => fun (d : XC × Int × Int) y h => (er39 rf rb d.1 d.2.1 d.2.2).trans h
  | n + 40 => fun _ _ h => by cases h

noncomputable def gB (rf : T.RF) (rb : T.RB) : T.RB := fun φ => match φ with
  | 0 => fun (d : XC × List (Int × Bool) × List (Int × Bool) × List XI × Int × Int) => b0 rf rb d.1 d.2.1 d.2.2.1 d.2.2.2.1 d.2.2.2.2.1 d.2.2.2.2.2
  | 1 => fun (d : List Int × List (Int × Bool) × Int × Int) => b1 rf rb d.1 d.2.1 d.2.2.1 d.2.2.2
  | 2 => fun (d : List (Int × Bool) × List Int × Int × Int) => b2 rf rb d.1 d.2.1 d.2.2.1 d.2.2.2
  | 8 => fun (d : List Int × List Int × Int × Int) => b8 rf rb d.1 d.2.1 d.2.2.1 d.2.2.2
  | 9 => fun (d : List Int × Int) => b9 rf rb d.1 d.2
  | 11 => fun (d : List Int × Int × Int) => b11 rf rb d.1 d.2.1 d.2.2
  | 12 => fun (d : List Int × List XI × Int × Int) => b12 rf rb d.1 d.2.1 d.2.2.1 d.2.2.2
  | 13 => fun (d : (List UInt8 × Int) × Int × Int) => b13 rf rb d.1 d.2.1 d.2.2
  | 15 => fun (d : (List UInt8 × Int) × List Int × Int) => b15 rf rb d.1 d.2.1 d.2.2
  | 21 => fun (d : (List UInt8 × Int) × Int × Int × List Int × List XI × List Int × Int) => b21 rf rb d.1 d.2.1 d.2.2.1 d.2.2.2.1 d.2.2.2.2.1 d.2.2.2.2.2.1 d.2.2.2.2.2.2
  | 23 => fun (d : XC × Int × Int × List Int × List Int × List XI × Int) => b23 rf rb d.1 d.2.1 d.2.2.1 d.2.2.2.1 d.2.2.2.2.1 d.2.2.2.2.2.1 d.2.2.2.2.2.2
  | 24 => fun (d : List Int × List Int × Int) => b24 rf rb d.1 d.2.1 d.2.2
  | 25 => fun (d : XC × XC × Int) => b25 rf rb d.1 d.2.1 d.2.2
  | 27 => fun (d : XC × Int × Int × List Int × List Int × List XI × Int) => b27 rf rb d.1 d.2.1 d.2.2.1 d.2.2.2.1 d.2.2.2.2.1 d.2.2.2.2.2.1 d.2.2.2.2.2.2
  | 28 => fun (d : XC × List Bool × List Bool × Bool × Int) => b28 rf rb d.1 d.2.1 d.2.2.1 d.2.2.2.1 d.2.2.2.2
  | 29 => fun (d : List Bool × List Int × Int) => b29 rf rb d.1 d.2.1 d.2.2
  | 30 => fun (d : XC × List Bool × Int) => b30 rf rb d.1 d.2.1 d.2.2
  | 31 => fun (d : XC × Int) => b31 rf rb d.1 d.2
  | 32 => fun (d : List Int × List UInt8 × Int) => b32 rf rb d.1 d.2.1 d.2.2
  | 33 => fun (d : XC × List UInt8 × Int) => b33 rf rb d.1 d.2.1 d.2.2
  | 34 => fun (d : XI × List UInt8) => b34 rf rb d.1 d.2
  | 35 => fun (d : List Int × List UInt8 × Int) => b35 rf rb d.1 d.2.1 d.2.2
  | _ => fun _ => none
theorem gB_ok (rf : T.RF) (rb : T.RB) : ∀ φ d y, gB rf rb φ d = some y → T.stepB rf rb φ d = some y := fun φ => match φ with
  | 0 => fun (d : XC × List (Int × Bool) × List (Int × Bool) × List XI × Int × Int) y h => ((eb0 rf rb d.1 d.2.1 d.2.2.1 d.2.2.2.1 d.2.2.2.2.1 d.2.2.2.2.2).trans (sb0 rf rb d.1 d.2.1 d.2.2.1 d.2.2.2.1 d.2.2.2.2.1 d.2.2.2.2.2)).trans h
  | 1 => fun (d : List Int × List (Int × Bool) × Int × Int) y h => (eb1 rf rb d.1 d.2.1 d.2.2.1 d.2.2.2).trans h
  | 2 => fun (d : List (Int × Bool) × List Int × Int × Int) y h => (eb2 rf rb d.1 d.2.1 d.2.2.1 d.2.2.2).trans h
  | 3 => fun _ _ h => by cases h
  | 4 => fun _ _ h => by cases h
  | 5 => fun _ _ h => by cases h
  | 6 => fun _ _ h => by cases h
  | 7 => fun _ _ h => by cases h
  | 8 => fun (d : List Int × List Int × Int × Int) y h => (eb8 rf rb d.1 d.2.1 d.2.2.1 d.2.2.2).trans h
  | 9 => fun (d : List Int × Int) y h => (eb9 rf rb d.1 d.2).trans h
  | 10 => fun _ _ h => by cases h
  | 11 => fun (d : List Int × Int × Int) y h => (eb11 rf rb d.1 d.2.1 d.2.2).trans h
  | 12 => fun (d : List Int × List XI × Int × Int) y h => (eb12 rf rb d.1 d.2.1 d.2.2.1 d.2.2.2).trans h
  | 13 => fun (d : (List UInt8 × Int) × Int × Int) y h => (eb13 rf rb d.1 d.2.1 d.2.2).trans h
  | 14 => fun _ _ h => by cases h
  | 15 => fun (d : (List UInt8 × Int) × List Int × Int) y h => (eb15 rf rb d.1 d.2.1 d.2.2).trans h
  | 16 => fun _ _ h => by cases h
  | 17 => fun _ _ h => by cases h
  | 18 => fun _ _ h => by cases h
  | 19 => fun _ _ h => by cases h
  | 20 => fun _ _ h => by cases h
  | 21 => fun (d : (List UInt8 × Int) × Int × Int × List Int × List XI × List Int × Int) y h => ((eb21 rf rb d.1 d.2.1 d.2.2.1 d.2.2.2.1 d.2.2.2.2.1 d.2.2.2.2.2.1 d.2.2.2.2.2.2).trans (sb21 rf rb d.1 d.2.1 d.2.2.1 d.2.2.2.1 d.2.2.2.2.1 d.2.2.2.2.2.1 d.2.2.2.2.2.2)).trans h
  | 22 => fun _ _ h => by cases h
  | 23 => fun (d : XC × Int × Int × List Int × List Int × List XI × Int) y h => (eb23 rf rb d.1 d.2.1 d.2.2.1 d.2.2.2.1 d.2.2.2.2.1 d.2.2.2.2.2.1 d.2.2.2.2.2.2).trans h
  | 24 => fun (d : List Int × List Int × Int) y h => (eb24 rf rb d.1 d.2.1 d.2.2).trans h
  | 25 => fun (d : XC × XC × Int) y h => (eb25 rf rb d.1 d.2.1 d.2.2).trans h
  | 26 => fun _ _ h => by cases h
  | 27 => fun (d : XC × Int × Int × List Int × List Int × List XI × Int) y h => (eb27 rf rb d.1 d.2.1 d.2.2.1 d.2.2.2.1 d.2.2.2.2.1 d.2.2.2.2.2.1 d.2.2.2.2.2.2).trans h
  | 28 => fun (d : XC × List Bool × List Bool × Bool × Int) y h => (eb28 rf rb d.1 d.2.1 d.2.2.1 d.2.2.2.1 d.2.2.2.2).trans h
  | 29 => fun (d : List Bool × List Int × Int) y h => (eb29 rf rb d.1 d.2.1 d.2.2).trans h
  | 30 => fun (d : XC × List Bool × Int) y h => (eb30 rf rb d.1 d.2.1 d.2.2).trans h
  | 31 => fun (d : XC × Int) y h => (eb31 rf rb d.1 d.2).trans h
  | 32 => fun (d : List Int × List UInt8 × Int) y h => (eb32 rf rb d.1 d.2.1 d.2.2).trans h
  | 33 => fun (d : XC × List UInt8 × Int) y h => (eb33 rf rb d.1 d.2.1 d.2.2).trans h
  | 34 => fun (d : XI × List UInt8) y h => (eb34 rf rb d.1 d.2).trans h
  | 35 => fun (d : List Int × List UInt8 × Int) y h => (eb35 rf rb d.1 d.2.1 d.2.2).trans h
  | n + 36 => fun _ _ h => by cases h

noncomputable def G : Nat → T.RF × T.RB
  | 0 => (fun _ _ => none, fun _ _ => none)
  | n + 1 => (gF (G n).1 (G n).2, gB (G n).1 (G n).2)
theorem run_F (n : Nat) {φ : Nat} {d} {y} (h : (G n).1 φ d = some y) : T.rf φ d = some y := (Tbl.approx gF_ok gB_ok rfl (fun _ => rfl) n).1 φ d y h
theorem run_B (n : Nat) {κ : Nat} {d} {y} (h : (G n).2 κ d = some y) : T.rb κ d = some y := (Tbl.approx gF_ok gB_ok rfl (fun _ => rfl) n).2 κ d y h
theorem live_run : c2 T.rf = some true := run_F 400 (φ := 2) (d := ()) (by kernel_rfl)
end Go.Proofs.Yteifekbmmhpadaa.R
