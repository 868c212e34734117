import Derived.Test.YtadonikkibahnaaGreatRes
import Derived.Test.YtadonikkibahnaaGreatBmF
import Derived.KernelRfl
namespace Go.Proofs.YtadonikkibahnaaGreat.R
open Go Go.Bm Go.Proofs
set_option linter.unusedVariables false
set_option maxRecDepth 100000
noncomputable def gF (rf : T.RF) (rb : T.RB) : T.RF := fun φ => match φ with
 | 0 => fun (d : List XS) => r0 rf rb d
 | 1 => fun (d : List XS × List (List Int)) => r1 rf rb d.1 d.2
 | 2 => fun (d : Unit) => r2 rf rb
 | 3 => fun (d : List UInt8) => r3 rf rb d
 | 4 => fun (d : List UInt8) => r4 rf rb d
 | 5 => fun (d : List UInt8 × Int) => r5 rf rb d.1 d.2
 | 6 => fun (d : Int) => r6 rf rb d
 | 7 => fun (d : List UInt8) => r7 rf rb d
 | 8 => fun (d : Int) => r8 rf rb d
 | 9 => fun (d : List UInt8 × Int) => r9 rf rb d.1 d.2
 | 10 => fun (d : List UInt8) => r10 rf rb d
 | 11 => fun (d : Unit) => r11 rf rb
 | 12 => fun (d : List UInt8) => r12 rf rb d
 | 13 => fun (d : List UInt8) => r13 rf rb d
 | 14 => fun (d : Unit) => r14 rf rb
 | 15 => fun (d : List (Int × List UInt8 × Int) × Int) => r15 rf rb d.1 d.2
 | 16 => fun (d : List (Int × List UInt8 × Int) × Int × Int × Int × Int) => r16 rf rb d
 | 17 => fun (d : List (Int × List UInt8 × Int) × Int × Int × Int × Int) => r17 rf rb d
 | 18 => fun (d : List (Int × List UInt8 × Int) × Int × Int × Int × Int) => r18 rf rb d
 | 19 => fun (d : List (Int × List UInt8 × Int) × Int × Int × Int × Int) => r19 rf rb d
 | 20 => fun (d : List (Int × List UInt8 × Int) × Int × Int × Int × Int) => r20 rf rb d
 | 21 => fun (d : List (Int × List UInt8 × Int) × Int × Int × Int × Int) => r21 rf rb d
 | 22 => fun (d : List (Int × List UInt8 × Int) × Int × Int × Int × Int) => r22 rf rb d
 | 23 => fun (d : List (Int × List UInt8 × Int) × Int × Int × Int × Int) => r23 rf rb d
 | 24 => fun (d : List (Int × List UInt8 × Int) × Int × Int × Int × Int) => r24 rf rb d
 | 25 => fun (d : (List (Int × List UInt8 × Int) × Int × Int × Int × Int) × Int) => r25 rf rb d.1 d.2
 | 26 => fun (d : List (Int × List UInt8 × Int) × Int) => r26 rf rb d.1 d.2
 | 27 => fun (d : (List (Int × List UInt8 × Int) × Int × Int × Int × Int) × Int × List UInt8 × Int) => r27 rf rb d.1 d.2
 | 28 => fun (d : Int × Int × List UInt8 × List XL) => r28 rf rb d.1 d.2.1 d.2.2.1 d.2.2.2
 | 29 => fun (d : Int × Int × List UInt8) => r29 rf rb d.1 d.2.1 d.2.2
 | 30 => fun (d : XN) => r30 rf rb d
 | 31 => fun (d : XL × XL) => r31 rf rb d.1 d.2
 | 32 => fun (d : XN × Int) => r32 rf rb d.1 d.2
 | 33 => fun (d : XN × List Int) => r33 rf rb d.1 d.2
 | 34 => fun (d : (List (Int × List UInt8 × Int) × Int × Int × Int × Int) × List UInt8) => r34 rf rb d.1 d.2
 | 35 => fun (d : (List (Int × List UInt8 × Int) × Int × Int × Int × Int) × List UInt8) => r35 rf rb d.1 d.2
 | 36 => fun (d : (List (Int × List UInt8 × Int) × Int × Int × Int × Int) × List UInt8) => r36 rf rb d.1 d.2
 | 37 => fun (d : List (Int × List UInt8 × Int) × Int × Int × Int × Int) => r37 rf rb d
 | 38 => fun (d : (List (Int × List UInt8 × Int) × Int × Int × Int × Int) × List UInt8) => r38 rf rb d.1 d.2
 | 39 => fun (d : List UInt8) => r39 rf rb d
 | 40 => fun (d : List (Int × List UInt8 × Int) × Int × Int × Int × Int) => r40 rf rb d
 | 41 => fun (d : List (Int × List UInt8 × Int) × Int × Int × Int × Int) => r41 rf rb d
 | 42 => fun (d : (List (Int × List UInt8 × Int) × Int × Int × Int × Int) × Int × XL × XL) => r42 rf rb d.1 d.2.1 d.2.2.1 d.2.2.2
 | 43 => fun (d : XL) => r43 rf rb d
 | 44 => fun (d : List XS) => r44 rf rb d
 | 45 => fun (d : List XS) => r45 rf rb d
 | 46 => fun (d : List XS) => r46 rf rb d
 | 47 => fun (d : XL) => r47 rf rb d
 | 48 => fun (d : XN) => r48 rf rb d
 | 49 => fun (d : XN) => r49 rf rb d
 | 50 => fun (d : XN × List Int) => r50 rf rb d.1 d.2
 | 51 => fun (d : List Bool × Bool) => r51 rf rb d.1 d.2
 | 52 => fun (d : List Bool × Bool) => r52 rf rb d.1 d.2
 | 53 => fun (d : XL) => r53 rf rb d
 | 54 => fun (d : XL) => r54 rf rb d
 | 55 => fun (d : XL) => r55 rf rb d
 | 56 => fun (d : XN) => r56 rf rb d
 | 57 => fun (d : List (List UInt8 × XL)) => r57 rf rb d
 | 58 => fun (d : XL) => r58 rf rb d
 | 59 => fun (d : XL × Int) => r59 rf rb d.1 d.2
 | 60 => fun (d : XL × XL × Int) => r60 rf rb d.1 d.2.1 d.2.2
 | 61 => fun (d : XL × List (List UInt8) × Int) => r61 rf rb d.1 d.2.1 d.2.2
 | 62 => fun (d : List (List UInt8) × List UInt8) => r62 rf rb d.1 d.2
 | 63 => fun (d : List (List UInt8) × List UInt8) => r63 rf rb d.1 d.2
 | 64 => fun (d : List Int × Int) => r64 rf rb d.1 d.2
 | 65 => fun (d : List Int × Int) => r65 rf rb d.1 d.2
 | 66 => fun (d : List Int) => r66 rf rb d
 | 67 => fun (d : List Int × Int) => r67 rf rb d.1 d.2
 | 68 => fun (d : List Int × Int × Int) => r68 rf rb d.1 d.2.1 d.2.2
 | 69 => fun (d : List Int × Int × Int) => r69 rf rb d.1 d.2.1 d.2.2
 | 70 => fun (d : List Int) => r70 rf rb d
 | 71 => fun (d : List Int × Int × Int) => r71 rf rb d.1 d.2.1 d.2.2
 | 72 => fun (d : List Int) => r72 rf rb d
 | 73 => fun (d : List XS) => r73 rf rb d
 | 74 => fun (d : List XS) => r74 rf rb d
 | 75 => fun (d : XS) => r75 rf rb d
 | 76 => fun (d : XL) => r76 rf rb d
 | 77 => fun (d : XL) => r77 rf rb d
 | 78 => fun (d : XL) => r78 rf rb d
 | 79 => fun (d : XN) => r79 rf rb d
 | 80 => fun (d : List (List Int) × List XL × List (List UInt8 × Int) × Int × Int) => r80 rf rb d.1 d.2.1 d.2.2.1 d.2.2.2.1 d.2.2.2.2
 | 81 => fun (d : XT) => r81 rf rb d.1 d.2.1 d.2.2
 | 82 => fun (d : XT) => r82 rf rb d
 | 83 => fun (d : XT × List XO) => r83 rf rb d.1 d.2
 | 84 => fun (d : XT × List XO) => r84 rf rb d.1 d.2
 | 85 => fun (d : XT × XO) => r85 rf rb d.1 d.2
 | 86 => fun (d : XT × XO) => r86 rf rb d.1 d.2
 | 87 => fun (d : XO) => r87 rf rb d
 | 88 => fun (d : Int) => r88 rf rb d
 | 89 => fun (d : Int) => r89 rf rb d
 | 90 => fun (d : XT × Int) => r90 rf rb d.1 d.2
 | 91 => fun (d : List Int) => r91 rf rb d
 | 92 => fun (d : List Int) => r92 rf rb d
 | 93 => fun (d : Int) => r93 rf rb d
 | 94 => fun (d : Int) => r94 rf rb d
 | 95 => fun (d : XT × List Int) => r95 rf rb d.1 d.2
 | 96 => fun (d : XT × List Int) => r96 rf rb d.1 d.2
 | 97 => fun (d : XT × Int) => r97 rf rb d.1 d.2
 | 98 => fun (d : XT) => r98 rf rb d
 | 99 => fun (d : XT) => r99 rf rb d
 | 100 => fun (d : XT × XT) => r100 rf rb d.1 d.2
 | 101 => fun (d : List Int × List Int) => r101 rf rb d.1 d.2
 | 102 => fun (d : List XS) => r102 rf rb d
 | 103 => fun (d : List XS) => r103 rf rb d
 | 104 => fun (d : List XS × List UInt8) => r104 rf rb d.1 d.2
 | 105 => fun (d : List XS × XL) => r105 rf rb d.1 d.2
 | 106 => fun (d : XL) => r106 rf rb d
 | 107 => fun (d : XN) => r107 rf rb d
 | 108 => fun (d : XN) => r108 rf rb d
 | 109 => fun (d : XL × Int) => r109 rf rb d.1 d.2
 | 110 => fun (d : List (List UInt8 × XL)) => r110 rf rb d
 | 111 => fun (d : XL) => r111 rf rb d
 | 112 => fun (d : XL) => r112 rf rb d
 | 113 => fun (d : XL × Int) => r113 rf rb d.1 d.2
 | 114 => fun (d : XL × XL × Int) => r114 rf rb d.1 d.2.1 d.2.2
 | 115 => fun (d : XL) => r115 rf rb d
 | 116 => fun (d : List (List UInt8) × List UInt8) => r116 rf rb d.1 d.2
 | 117 => fun (d : List Bool × List (List UInt8 × XL) × List (List UInt8)) => r117 rf rb d.1 d.2.1 d.2.2
 | 118 => fun (d : List (List UInt8) × List UInt8) => r118 rf rb d.1 d.2
 | 119 => fun (d : XL) => r119 rf rb d
 | 120 => fun (d : Int) => r120 rf rb d
 | 121 => fun (d : List XS × Int) => r121 rf rb d.1 d.2
 | 122 => fun (d : List XS × List (List Int) × Int) => r122 rf rb d.1 d.2.1 d.2.2
 | 123 => fun (d : List XS × List (List Int) × XL × Int × Int) => r123 rf rb d.1 d.2.1 d.2.2.1 d.2.2.2.1 d.2.2.2.2
 | 124 => fun (d : List XS × List (List Int) × XL × Int × Int) => r124 rf rb d.1 d.2.1 d.2.2.1 d.2.2.2.1 d.2.2.2.2
 | 125 => fun (d : XT) => r125 rf rb d
 | 126 => fun (d : XT) => r126 rf rb d
 | 127 => fun (d : XT) => r127 rf rb d
 | 128 => fun (d : XT) => r128 rf rb d
 | 129 => fun (d : XT) => r129 rf rb d
 | 130 => fun (d : Int) => r130 rf rb d
 | 131 => fun (d : Int) => r131 rf rb d
 | 132 => fun (d : XT × XO) => r132 rf rb d.1 d.2
 | 133 => fun (d : Int) => r133 rf rb d
 | 134 => fun (d : XT × Int × Int × Int) => r134 rf rb d.1 d.2.1 d.2.2.1 d.2.2.2
 | 135 => fun (d : XT) => r135 rf rb d
 | 136 => fun (d : XO) => r136 rf rb d
 | 137 => fun (d : List XS) => r137 rf rb d
 | 138 => fun (d : List XS) => r138 rf rb d
 | 139 => fun (d : XT × Int) => r139 rf rb d.1 d.2
 | _ => fun _ => none
set_option maxHeartbeats 4000000 in
theorem gF_ok (rf : T.RF) (rb : T.RB) : ∀ φ d y, gF rf rb φ d = some y → T.stepF rf rb φ d = some y := fun φ => match φ with
 | 0 => fun (d : List XS) y h => (er0 rf rb d).trans h
 | 1 => fun (d : List XS × List (List Int)) y h => (er1 rf rb d.1 d.2).trans h
 | 2 => fun (d : Unit) y h => (er2 rf rb ).trans h
 | 3 => fun (d : List UInt8) y h => (er3 rf rb d).trans h
 | 4 => fun (d : List UInt8) y h => (er4 rf rb d).trans h
 | 5 => fun (d : List UInt8 × Int) y h => (er5 rf rb d.1 d.2).trans h
 | 6 => fun (d : Int) y h => (er6 rf rb d).trans h
 | 7 => fun (d : List UInt8) y h => (er7 rf rb d).trans h
 | 8 => fun (d : Int) y h => (er8 rf rb d).trans h
 | 9 => fun (d : List UInt8 × Int) y h => (er9 rf rb d.1 d.2).trans h
 | 10 => fun (d : List UInt8) y h => (er10 rf rb d).trans h
 | 11 => fun (d : Unit) y h => (er11 rf rb ).trans h
 | 12 => fun (d : List UInt8) y h => (er12 rf rb d).trans h
 | 13 => fun (d : List UInt8) y h => (er13 rf rb d).trans h
 | 14 => fun (d : Unit) y h => (er14 rf rb ).trans h
 | 15 => fun (d : List (Int × List UInt8 × Int) × Int) y h => (er15 rf rb d.1 d.2).trans h
 | 16 => fun (d : List (Int × List UInt8 × Int) × Int × Int × Int × Int) y h => (er16 rf rb d).trans h
 | 17 => fun (d : List (Int × List UInt8 × Int) × Int × Int × Int × Int) y h => (er17 rf rb d).trans h
 | 18 => fun (d : List (Int × List UInt8 × Int) × Int × Int × Int × Int) y h => (er18 rf rb d).trans h
 | 19 => fun (d : List (Int × List UInt8 × Int) × Int × Int × Int × Int) y h => (er19 rf rb d).trans h
 | 20 => fun (d : List (Int × List UInt8 × Int) × Int × Int × Int × Int) y h => (er20 rf rb d).trans h
 | 21 => fun (d : List (Int × List UInt8 × Int) × Int × Int × Int × Int) y h => (er21 rf rb d).trans h
 | 22 => fun (d : List (Int × List UInt8 × Int) × Int × Int × Int × Int) y h => (er22 rf rb d).trans h
 | 23 => fun (d : List (Int × List UInt8 × Int) × Int × Int × Int × Int) y h => (er23 rf rb d).trans h
 | 24 => fun (d : List (Int × List UInt8 × Int) × Int × Int × Int × Int) y h => (er24 rf rb d).trans h
 | 25 => fun (d : (List (Int × List UInt8 × Int) × Int × Int × Int × Int) × Int) y h => ((er25 rf rb d.1 d.2).trans (sr25 rf rb d.1 d.2)).trans h
 | 26 => fun (d : List (Int × List UInt8 × Int) × Int) y h => (er26 rf rb d.1 d.2).trans h
 | 27 => fun (d : (List (Int × List UInt8 × Int) × Int × Int × Int × Int) × Int × List UInt8 × Int) y h => (er27 rf rb d.1 d.2).trans h
 | 28 => fun (d : Int × Int × List UInt8 × List XL) y h => (er28 rf rb d.1 d.2.1 d.2.2.1 d.2.2.2).trans h
 | 29 => fun (d : Int × Int × List UInt8) y h => (er29 rf rb d.1 d.2.1 d.2.2).trans h
 | 30 => fun (d : XN) y h => (er30 rf rb d).trans h
 | 31 => fun (d : XL × XL) y h => (er31 rf rb d.1 d.2).trans h
 | 32 => fun (d : XN × Int) y h => (er32 rf rb d.1 d.2).trans h
 | 33 => fun (d : XN × List Int) y h => (er33 rf rb d.1 d.2).trans h
 | 34 => fun (d : (List (Int × List UInt8 × Int) × Int × Int × Int × Int) × List UInt8) y h => (er34 rf rb d.1 d.2).trans h
 | 35 => fun (d : (List (Int × List UInt8 × Int) × Int × Int × Int × Int) × List UInt8) y h => (er35 rf rb d.1 d.2).trans h
 | 36 => fun (d : (List (Int × List UInt8 × Int) × Int × Int × Int × Int) × List UInt8) y h => (er36 rf rb d.1 d.2).trans h
 | 37 => fun (d : List (Int × List UInt8 × Int) × Int × Int × Int × Int) y h => (er37 rf rb d).trans h
 | 38 => fun (d : (List (Int × List UInt8 × Int) × Int × Int × Int × Int) × List UInt8) y h => (er38 rf rb d.1 d.2).trans h
 | 39 => fun (d : List UInt8) y h => (er39 rf rb d).trans h
 | 40 => fun (d : List (Int × List UInt8 × Int) × Int × Int × Int × Int) y h => (er40 rf rb d).trans h
 | 41 => fun (d : List (Int × List UInt8 × Int) × Int × Int × Int × Int) y h => (er41 rf rb d).trans h
 | 42 => fun (d : (List (Int × List UInt8 × Int) × Int × Int × Int × Int) × Int × XL × XL) y h => (er42 rf rb d.1 d.2.1 d.2.2.1 d.2.2.2).trans h
 | 43 => fun (d : XL) y h => (er43 rf rb d).trans h
 | 44 => fun (d : List XS) y h => (er44 rf rb d).trans h
 | 45 => fun (d : List XS) y h => (er45 rf rb d).trans h
 | 46 => fun (d : List XS) y h => (er46 rf rb d).trans h
 | 47 => fun (d : XL) y h => (er47 rf rb d).trans h
 | 48 => fun (d : XN) y h => (er48 rf rb d).trans h
 | 49 => fun (d : XN) y h => (er49 rf rb d).trans h
 | 50 => fun (d : XN × List Int) y h => (er50 rf rb d.1 d.2).trans h
 | 51 => fun (d : List Bool × Bool) y h => (er51 rf rb d.1 d.2).trans h
 | 52 => fun (d : List Bool × Bool) y h => (er52 rf rb d.1 d.2).trans h
 | 53 => fun (d : XL) y h => (er53 rf rb d).trans h
 | 54 => fun (d : XL) y h => (er54 rf rb d).trans h
 | 55 => fun (d : XL) y h => (er55 rf rb d).trans h
 | 56 => fun (d : XN) y h => (er56 rf rb d).trans h
 | 57 => fun (d : List (List UInt8 × XL)) y h => (er57 rf rb d).trans h
 | 58 => fun (d : XL) y h => (er58 rf rb d).trans h
 | 59 => fun (d : XL × Int) y h => (er59 rf rb d.1 d.2).trans h
 | 60 => fun (d : XL × XL × Int) y h => (er60 rf rb d.1 d.2.1 d.2.2).trans h
 | 61 => fun (d : XL × List (List UInt8) × Int) y h => (er61 rf rb d.1 d.2.1 d.2.2).trans h
 | 62 => fun (d : List (List UInt8) × List UInt8) y h => (er62 rf rb d.1 d.2).trans h
 | 63 => fun (d : List (List UInt8) × List UInt8) y h => (er63 rf rb d.1 d.2).trans h
 | 64 => fun (d : List Int × Int) y h => (er64 rf rb d.1 d.2).trans h
 | 65 => fun (d : List Int × Int) y h => ((er65 rf rb d.1 d.2).trans (sr65 rf rb d.1 d.2)).trans h
 | 66 => fun (d : List Int) y h => (er66 rf rb d).trans h
 | 67 => fun (d : List Int × Int) y h => (er67 rf rb d.1 d.2).trans h
 | 68 => fun (d : List Int × Int × Int) y h => (er68 rf rb d.1 d.2.1 d.2.2).trans h
 | 69 => fun (d : List Int × Int × Int) y h => ((er69 rf rb d.1 d.2.1 d.2.2).trans (sr69 rf rb d.1 d.2.1 d.2.2)).trans h
 | 70 => fun (d : List Int) y h => (er70 rf rb d).trans h
 | 71 => fun (d : List Int × Int × Int) y h => (er71 rf rb d.1 d.2.1 d.2.2).trans h
 | 72 => fun (d : List Int) y h => (er72 rf rb d).trans h
 | 73 => fun (d : List XS) y h => (er73 rf rb d).trans h
 | 74 => fun (d : List XS) y h => (er74 rf rb d).trans h
 | 75 => fun (d : XS) y h => (er75 rf rb d).trans h
 | 76 => fun (d : XL) y h => (er76 rf rb d).trans h
 | 77 => fun (d : XL) y h => (er77 rf rb d).trans h
 | 78 => fun (d : XL) y h => (er78 rf rb d).trans h
 | 79 => fun (d : XN) y h => (er79 rf rb d).trans h
 | 80 => fun (d : List (List Int) × List XL × List (List UInt8 × Int) × Int × Int) y h => ((er80 rf rb d.1 d.2.1 d.2.2.1 d.2.2.2.1 d.2.2.2.2).trans (sr80 rf rb d.1 d.2.1 d.2.2.1 d.2.2.2.1 d.2.2.2.2)).trans h
 | 81 => fun (d : XT) y h => (er81 rf rb d.1 d.2.1 d.2.2).trans h
 | 82 => fun (d : XT) y h => (er82 rf rb d).trans h
 | 83 => fun (d : XT × List XO) y h => (er83 rf rb d.1 d.2).trans h
 | 84 => fun (d : XT × List XO) y h => (er84 rf rb d.1 d.2).trans h
 | 85 => fun (d : XT × XO) y h => (er85 rf rb d.1 d.2).trans h
 | 86 => fun (d : XT × XO) y h => (er86 rf rb d.1 d.2).trans h
 | 87 => fun (d : XO) y h => (er87 rf rb d).trans h
 | 88 => fun (d : Int) y h => (er88 rf rb d).trans h
 | 89 => fun (d : Int) y h => (er89 rf rb d).trans h
 | 90 => fun (d : XT × Int) y h => (er90 rf rb d.1 d.2).trans h
 | 91 => fun (d : List Int) y h => (er91 rf rb d).trans h
 | 92 => fun (d : List Int) y h => (er92 rf rb d).trans h
 | 93 => fun (d : Int) y h => (er93 rf rb d).trans h
 | 94 => fun (d : Int) y h => (er94 rf rb d).trans h
 | 95 => fun (d : XT × List Int) y h => (er95 rf rb d.1 d.2).trans h
 | 96 => fun (d : XT × List Int) y h => (er96 rf rb d.1 d.2).trans h
 | 97 => fun (d : XT × Int) y h => (er97 rf rb d.1 d.2).trans h
 | 98 => fun (d : XT) y h => (er98 rf rb d).trans h
 | 99 => fun (d : XT) y h => (er99 rf rb d).trans h
 | 100 => fun (d : XT × XT) y h => (er100 rf rb d.1 d.2).trans h
 | 101 => fun (d : List Int × List Int) y h => (er101 rf rb d.1 d.2).trans h
 | 102 => fun (d : List XS) y h => (er102 rf rb d).trans h
 | 103 => fun (d : List XS) y h => (er103 rf rb d).trans h
 | 104 => fun (d : List XS × List UInt8) y h => (er104 rf rb d.1 d.2).trans h
 | 105 => fun (d : List XS × XL) y h => (er105 rf rb d.1 d.2).trans h
 | 106 => fun (d : XL) y h => (er106 rf rb d).trans h
 | 107 => fun (d : XN) y h => (er107 rf rb d).trans h
 | 108 => fun (d : XN) y h => (er108 rf rb d).trans h
 | 109 => fun (d : XL × Int) y h => (er109 rf rb d.1 d.2).trans h
 | 110 => fun (d : List (List UInt8 × XL)) y h => (er110 rf rb d).trans h
 | 111 => fun (d : XL) y h => (er111 rf rb d).trans h
 | 112 => fun (d : XL) y h => (er112 rf rb d).trans h
 | 113 => fun (d : XL × Int) y h => (er113 rf rb d.1 d.2).trans h
 | 114 => fun (d : XL × XL × Int) y h => (er114 rf rb d.1 d.2.1 d.2.2).trans h
 | 115 => fun (d : XL) y h => (er115 rf rb d).trans h
 | 116 => fun (d : List (List UInt8) × List UInt8) y h => (er116 rf rb d.1 d.2).trans h
 | 117 => fun (d : List Bool × List (List UInt8 × XL) × List (List UInt8)) y h => (er117 rf rb d.1 d.2.1 d.2.2).trans h
 | 118 => fun (d : List (List UInt8) × List UInt8) y h => (er118 rf rb d.1 d.2).trans h
 | 119 => fun (d : XL) y h => (er119 rf rb d).trans h
 | 120 => fun (d : Int) y h => (er120 rf rb d).trans h
 | 121 => fun (d : List XS × Int) y h => (er121 rf rb d.1 d.2).trans h
 | 122 => fun (d : List XS × List (List Int) × Int) y h => (er122 rf rb d.1 d.2.1 d.2.2).trans h
 | 123 => fun (d : List XS × List (List Int) × XL × Int × Int) y h => (er123 rf rb d.1 d.2.1 d.2.2.1 d.2.2.2.1 d.2.2.2.2).trans h
 | 124 => fun (d : List XS × List (List Int) × XL × Int × Int) y h => (er124 rf rb d.1 d.2.1 d.2.2.1 d.2.2.2.1 d.2.2.2.2).trans h
 | 125 => fun (d : XT) y h => (er125 rf rb d).trans h
 | 126 => fun (d : XT) y h => (er126 rf rb d).trans h
 | 127 => fun (d : XT) y h => (er127 rf rb d).trans h
 | 128 => fun (d : XT) y h => (er128 rf rb d).trans h
 | 129 => fun (d : XT) y h => (er129 rf rb d).trans h
 | 130 => fun (d : Int) y h => (er130 rf rb d).trans h
 | 131 => fun (d : Int) y h => (er131 rf rb d).trans h
 | 132 => fun (d : XT × XO) y h => (er132 rf rb d.1 d.2).trans h
 | 133 => fun (d : Int) y h => (er133 rf rb d).trans h
 | 134 => fun (d : XT × Int × Int × Int) y h => (er134 rf rb d.1 d.2.1 d.2.2.1 d.2.2.2).trans h
 | 135 => fun (d : XT) y h => (er135 rf rb d).trans h
 | 136 => fun (d : XO) y h => (er136 rf rb d).trans h
 | 137 => fun (d : List XS) y h => (er137 rf rb d).trans h
 | 138 => fun (d : List XS) y h => (er138 rf rb d).trans h
 | 139 => fun (d : XT × Int) y h => (er139 rf rb d.1 d.2).trans h
 | n + 140 => fun _ _ h => by cases h
noncomputable def gB (rf : T.RF) (rb : T.RB) : T.RB := fun φ => match φ with
 | 0 => fun (d : List XS × Int) => b0 rf rb d.1 d.2
 | 1 => fun (d : List (List Int) × Int) => b1 rf rb d.1 d.2
 | 4 => fun (d : List UInt8 × Int) => b4 rf rb d.1 d.2
 | 5 => fun (d : List UInt8 × Int × Int) => b5 rf rb d.1 d.2.1 d.2.2
 | 6 => fun (d : List UInt8 × Int) => b6 rf rb d.1 d.2
 | 7 => fun (d : List (List UInt8) × List UInt8 × Int) => b7 rf rb d.1 d.2.1 d.2.2
 | 8 => fun (d : List UInt8 × Int) => b8 rf rb d.1 d.2
 | 9 => fun (d : List (List UInt8) × List UInt8 × Int) => b9 rf rb d.1 d.2.1 d.2.2
 | 10 => fun (d : (Int × Int) × List (Int × List UInt8 × Int) × List UInt8 × Int) => b10 rf rb d.1 d.2.1 d.2.2.1 d.2.2.2
 | 11 => fun (d : List UInt8 × Int) => b11 rf rb d.1 d.2
 | 15 => fun (d : XL × XL × Int × Int) => b15 rf rb d.1 d.2.1 d.2.2.1 d.2.2.2
 | 16 => fun (d : XL × List Int × Int × List XL × Int × Int) => b16 rf rb d.1 d.2.1 d.2.2.1 d.2.2.2.1 d.2.2.2.2.1 d.2.2.2.2.2
 | 18 => fun (d : (List (Int × List UInt8 × Int) × Int × Int × Int × Int) × List XL) => b18 rf rb d.1 d.2
 | 20 => fun (d : (List (Int × List UInt8 × Int) × Int × Int × Int × Int) × XL) => b20 rf rb d.1 d.2
 | 22 => fun (d : (List (Int × List UInt8 × Int) × Int × Int × Int × Int) × XL) => b22 rf rb d.1 d.2
 | 24 => fun (d : (List (Int × List UInt8 × Int) × Int × Int × Int × Int) × XL) => b24 rf rb d.1 d.2
 | 26 => fun (d : (List (Int × List UInt8 × Int) × Int × Int × Int × Int) × XL) => b26 rf rb d.1 d.2
 | 28 => fun (d : (List (Int × List UInt8 × Int) × Int × Int × Int × Int) × XL) => b28 rf rb d.1 d.2
 | 36 => fun (d : List Int × XL × Int) => b36 rf rb d.1 d.2.1 d.2.2
 | 37 => fun (d : List Int × List Int × Int × Int) => b37 rf rb d.1 d.2.1 d.2.2.1 d.2.2.2
 | 39 => fun (d : (Int × Int) × List (Int × List UInt8 × Int) × Int) => b39 rf rb d.1 d.2.1 d.2.2
 | 57 => fun (d : List Bool × XL × XL × Int × Int) => b57 rf rb d.1 d.2.1 d.2.2.1 d.2.2.2.1 d.2.2.2.2
 | 58 => fun (d : XN × Int) => b58 rf rb d.1 d.2
 | 59 => fun (d : XN × XN × Int) => b59 rf rb d.1 d.2.1 d.2.2
 | 60 => fun (d : List Bool × XN × List Int × XL × Int × Int × Int) => b60 rf rb d.1 d.2.1 d.2.2.1 d.2.2.2.1 d.2.2.2.2.1 d.2.2.2.2.2.1 d.2.2.2.2.2.2
 | 61 => fun (d : List Bool × Bool × Int × Int) => b61 rf rb d.1 d.2.1 d.2.2.1 d.2.2.2
 | 68 => fun (d : List Int × XL × Int × Int) => b68 rf rb d.1 d.2.1 d.2.2.1 d.2.2.2
 | 69 => fun (d : List Int × List Int × Int × Int × Int) => b69 rf rb d.1 d.2.1 d.2.2.1 d.2.2.2.1 d.2.2.2.2
 | 161 => fun (d : XL × List Int × XL × Int × Int) => b161 rf rb d.1 d.2.1 d.2.2.1 d.2.2.2.1 d.2.2.2.2
 | 162 => fun (d : List (List UInt8) × List UInt8 × Int × Int) => b162 rf rb d.1 d.2.1 d.2.2.1 d.2.2.2
 | 164 => fun (d : List Int × XL × List (List UInt8) × Int × Int) => b164 rf rb d.1 d.2.1 d.2.2.1 d.2.2.2.1 d.2.2.2.2
 | 171 => fun (d : List Int × Int) => b171 rf rb d.1 d.2
 | 181 => fun (d : List Int × Int × Int) => b181 rf rb d.1 d.2.1 d.2.2
 | 201 => fun (d : List (List UInt8 × List Int) × List (List UInt8 × XL) × Int × Int) => b201 rf rb d.1 d.2.1 d.2.2.1 d.2.2.2
 | 202 => fun (d : List (List UInt8 × List Int) × List Int × List (List Int) × List Int × List (List UInt8 × XL) × Int × Int) => b202 rf rb d.1 d.2.1 d.2.2.1 d.2.2.2.1 d.2.2.2.2.1 d.2.2.2.2.2.1 d.2.2.2.2.2.2
 | 203 => fun (d : List (List UInt8 × List Int) × List Int × List (List Int) × Int × List (List UInt8) × Int × Int) => b203 rf rb d.1 d.2.1 d.2.2.1 d.2.2.2.1 d.2.2.2.2.1 d.2.2.2.2.2.1 d.2.2.2.2.2.2
 | 204 => fun (d : List Int × List (List Int) × Int × List Int × Int × Int) => b204 rf rb d.1 d.2.1 d.2.2.1 d.2.2.2.1 d.2.2.2.2.1 d.2.2.2.2.2
 | 205 => fun (d : List Int × List Int × List Int × List (List Int)) => b205 rf rb d.1 d.2.1 d.2.2.1 d.2.2.2
 | 206 => fun (d : List Int × List Int × List Int × Int × Int) => b206 rf rb d.1 d.2.1 d.2.2.1 d.2.2.2.1 d.2.2.2.2
 | 244 => fun (d : Int × Bool × Int × List Unit × List (List UInt8 × Int) × List Int × List XS × Int × Int) => b244 rf rb d.1 d.2.1 d.2.2.1 d.2.2.2.1 d.2.2.2.2.1 d.2.2.2.2.2.1 d.2.2.2.2.2.2.1 d.2.2.2.2.2.2.2.1 d.2.2.2.2.2.2.2.2
 | 245 => fun (d : Int × List (List UInt8 × XL) × List Int × Bool × Int × List Unit × List (List UInt8 × Int) × List Int × List XS × Int × Int) => b245 rf rb d.1 d.2.1 d.2.2.1 d.2.2.2.1 d.2.2.2.2.1 d.2.2.2.2.2.1 d.2.2.2.2.2.2.1 d.2.2.2.2.2.2.2.1 d.2.2.2.2.2.2.2.2.1 d.2.2.2.2.2.2.2.2.2.1 d.2.2.2.2.2.2.2.2.2.2
 | 246 => fun (d : Int × List (List UInt8 × XL) × List Int × XS × Bool × Int × List UInt8 × Int × XL × List Int × List Unit × List (List UInt8 × Int) × List Int × List Bool × List Int × List Unit × Int) => b246 rf rb d.1 d.2.1 d.2.2.1 d.2.2.2.1 d.2.2.2.2.1 d.2.2.2.2.2.1 d.2.2.2.2.2.2.1 d.2.2.2.2.2.2.2.1 d.2.2.2.2.2.2.2.2.1 d.2.2.2.2.2.2.2.2.2.1 d.2.2.2.2.2.2.2.2.2.2.1 d.2.2.2.2.2.2.2.2.2.2.2.1 d.2.2.2.2.2.2.2.2.2.2.2.2.1 d.2.2.2.2.2.2.2.2.2.2.2.2.2.1 d.2.2.2.2.2.2.2.2.2.2.2.2.2.2.1 d.2.2.2.2.2.2.2.2.2.2.2.2.2.2.2.1 d.2.2.2.2.2.2.2.2.2.2.2.2.2.2.2.2
 | 247 => fun (d : Int × List (List UInt8 × XL) × List Int × XS × Bool × Int × List UInt8 × Int × XL × List Int × List Unit × List (List UInt8 × Int) × List Int × List Bool × List Int × List Unit × Int) => b247 rf rb d.1 d.2.1 d.2.2.1 d.2.2.2.1 d.2.2.2.2.1 d.2.2.2.2.2.1 d.2.2.2.2.2.2.1 d.2.2.2.2.2.2.2.1 d.2.2.2.2.2.2.2.2.1 d.2.2.2.2.2.2.2.2.2.1 d.2.2.2.2.2.2.2.2.2.2.1 d.2.2.2.2.2.2.2.2.2.2.2.1 d.2.2.2.2.2.2.2.2.2.2.2.2.1 d.2.2.2.2.2.2.2.2.2.2.2.2.2.1 d.2.2.2.2.2.2.2.2.2.2.2.2.2.2.1 d.2.2.2.2.2.2.2.2.2.2.2.2.2.2.2.1 d.2.2.2.2.2.2.2.2.2.2.2.2.2.2.2.2
 | 248 => fun (d : Int × XL × Bool × Int × List UInt8 × Int × XL × List Int × List Unit × List (List UInt8 × Int) × List Int × List Bool × List Int × List Unit × Int × XN) => b248 rf rb d.1 d.2.1 d.2.2.1 d.2.2.2.1 d.2.2.2.2.1 d.2.2.2.2.2.1 d.2.2.2.2.2.2.1 d.2.2.2.2.2.2.2.1 d.2.2.2.2.2.2.2.2.1 d.2.2.2.2.2.2.2.2.2.1 d.2.2.2.2.2.2.2.2.2.2.1 d.2.2.2.2.2.2.2.2.2.2.2.1 d.2.2.2.2.2.2.2.2.2.2.2.2.1 d.2.2.2.2.2.2.2.2.2.2.2.2.2.1 d.2.2.2.2.2.2.2.2.2.2.2.2.2.2.1 d.2.2.2.2.2.2.2.2.2.2.2.2.2.2.2
 | 249 => fun (d : Int × XN × Bool × Int × List UInt8 × Int × XL × List Int × List Unit × List (List UInt8 × Int) × List Int × List Bool × List Int × List Unit × Int) => b249 rf rb d.1 d.2.1 d.2.2.1 d.2.2.2.1 d.2.2.2.2.1 d.2.2.2.2.2.1 d.2.2.2.2.2.2.1 d.2.2.2.2.2.2.2.1 d.2.2.2.2.2.2.2.2.1 d.2.2.2.2.2.2.2.2.2.1 d.2.2.2.2.2.2.2.2.2.2.1 d.2.2.2.2.2.2.2.2.2.2.2.1 d.2.2.2.2.2.2.2.2.2.2.2.2.1 d.2.2.2.2.2.2.2.2.2.2.2.2.2.1 d.2.2.2.2.2.2.2.2.2.2.2.2.2.2
 | 250 => fun (d : XN × List UInt8 × Int × XL × List Int × List Bool × List Int × List Unit × Int) => b250 rf rb d.1 d.2.1 d.2.2.1 d.2.2.2.1 d.2.2.2.2.1 d.2.2.2.2.2.1 d.2.2.2.2.2.2.1 d.2.2.2.2.2.2.2.1 d.2.2.2.2.2.2.2.2
 | 251 => fun (d : XN × List Int × List UInt8 × Int × XL × List Int × List Bool × List Int × List Unit × Int × Int × Int) => b251 rf rb d.1 d.2.1 d.2.2.1 d.2.2.2.1 d.2.2.2.2.1 d.2.2.2.2.2.1 d.2.2.2.2.2.2.1 d.2.2.2.2.2.2.2.1 d.2.2.2.2.2.2.2.2.1 d.2.2.2.2.2.2.2.2.2.1 d.2.2.2.2.2.2.2.2.2.2.1 d.2.2.2.2.2.2.2.2.2.2.2
 | 252 => fun (d : List Int × List Int × Bool × Int × List Unit × List (List UInt8 × Int) × List Int × Int × Int) => b252 rf rb d.1 d.2.1 d.2.2.1 d.2.2.2.1 d.2.2.2.2.1 d.2.2.2.2.2.1 d.2.2.2.2.2.2.1 d.2.2.2.2.2.2.2.1 d.2.2.2.2.2.2.2.2
 | 253 => fun (d : List XS × Int × Int) => b253 rf rb d.1 d.2.1 d.2.2
 | 254 => fun (d : XL × Int × Int) => b254 rf rb d.1 d.2.1 d.2.2
 | 362 => fun (d : List XO × List Int × List Int × List (List UInt8 × Int) × List (List Int) × List XS × Int × Int) => b362 rf rb d.1 d.2.1 d.2.2.1 d.2.2.2.1 d.2.2.2.2.1 d.2.2.2.2.2.1 d.2.2.2.2.2.2.1 d.2.2.2.2.2.2.2
 | 363 => fun (d : List XL × List (List Int) × Int × List XS × Int × Int) => b363 rf rb d.1 d.2.1 d.2.2.1 d.2.2.2.1 d.2.2.2.2.1 d.2.2.2.2.2
 | 364 => fun (d : List XL × List (List Int) × Int × Int) => b364 rf rb d.1 d.2.1 d.2.2.1 d.2.2.2
 | 365 => fun (d : List (List Int) × Int × Int × XL × Int × Int) => b365 rf rb d.1 d.2.1 d.2.2.1 d.2.2.2.1 d.2.2.2.2.1 d.2.2.2.2.2
 | 366 => fun (d : XN × Int) => b366 rf rb d.1 d.2
 | 367 => fun (d : List (List Int) × List XL × List XO × List Int × List Int × List (List UInt8 × Int) × Int × Int) => b367 rf rb d.1 d.2.1 d.2.2.1 d.2.2.2.1 d.2.2.2.2.1 d.2.2.2.2.2.1 d.2.2.2.2.2.2.1 d.2.2.2.2.2.2.2
 | 368 => fun (d : List XO × List Int × List Int × List (List Int) × List XL × List (List UInt8 × Int) × Int × XL) => b368 rf rb d.1 d.2.1 d.2.2.1 d.2.2.2.1 d.2.2.2.2.1 d.2.2.2.2.2.1 d.2.2.2.2.2.2.1 d.2.2.2.2.2.2.2
 | 369 => fun (d : List XO × List Int × List Int × List (List Int) × List XL × List (List UInt8 × Int) × Int × XL × Int × Int) => b369 rf rb d.1 d.2.1 d.2.2.1 d.2.2.2.1 d.2.2.2.2.1 d.2.2.2.2.2.1 d.2.2.2.2.2.2.1 d.2.2.2.2.2.2.2.1 d.2.2.2.2.2.2.2.2.1 d.2.2.2.2.2.2.2.2.2
 | 370 => fun (d : List Int × List (List Int) × XO × List XL × List (List UInt8 × Int) × Int × Int × Int) => b370 rf rb d.1 d.2.1 d.2.2.1 d.2.2.2.1 d.2.2.2.2.1 d.2.2.2.2.2.1 d.2.2.2.2.2.2.1 d.2.2.2.2.2.2.2
 | 372 => fun (d : List Int × List Int × List Int × List Int × List XO × List XO × Int) => b372 rf rb d.1 d.2.1 d.2.2.1 d.2.2.2.1 d.2.2.2.2.1 d.2.2.2.2.2.1 d.2.2.2.2.2.2
 | 373 => fun (d : XT × List XO × Int × Int) => b373 rf rb d.1 d.2.1 d.2.2.1 d.2.2.2
 | 374 => fun (d : XT × List Int × Int × Int) => b374 rf rb d.1 d.2.1 d.2.2.1 d.2.2.2
 | 375 => fun (d : List Int × Int × Int) => b375 rf rb d.1 d.2.1 d.2.2
 | 376 => fun (d : XT × List Int × Int × Int) => b376 rf rb d.1 d.2.1 d.2.2.1 d.2.2.2
 | 382 => fun (d : XT × List Int × Int × Int) => b382 rf rb d.1 d.2.1 d.2.2.1 d.2.2.2
 | 383 => fun (d : XT × List Int × List Int) => b383 rf rb d.1 d.2.1 d.2.2
 | 384 => fun (d : List Int × List Int × List Int × Int × Int) => b384 rf rb d.1 d.2.1 d.2.2.1 d.2.2.2.1 d.2.2.2.2
 | 386 => fun (d : XT × List Int × List Int × List XO × Int) => b386 rf rb d.1 d.2.1 d.2.2.1 d.2.2.2.1 d.2.2.2.2
 | 387 => fun (d : List Int × List Int × Int) => b387 rf rb d.1 d.2.1 d.2.2
 | 388 => fun (d : XT × XT × Int) => b388 rf rb d.1 d.2.1 d.2.2
 | 390 => fun (d : List XS × List UInt8 × Int) => b390 rf rb d.1 d.2.1 d.2.2
 | 391 => fun (d : List Int × XL × Int) => b391 rf rb d.1 d.2.1 d.2.2
 | 392 => fun (d : List Int × List Int × Int × Int) => b392 rf rb d.1 d.2.1 d.2.2.1 d.2.2.2
 | 393 => fun (d : XN × List Int × XL × Int) => b393 rf rb d.1 d.2.1 d.2.2.1 d.2.2.2
 | 394 => fun (d : List Int × XL × Int) => b394 rf rb d.1 d.2.1 d.2.2
 | 395 => fun (d : List XS × XL × Int) => b395 rf rb d.1 d.2.1 d.2.2
 | 397 => fun (d : List (List UInt8 × XL) × List XS × Int) => b397 rf rb d.1 d.2.1 d.2.2
 | 400 => fun (d : XL × List Int × List Int × XL × Int) => b400 rf rb d.1 d.2.1 d.2.2.1 d.2.2.2.1 d.2.2.2.2
 | 405 => fun (d : List Bool × XL × Int) => b405 rf rb d.1 d.2.1 d.2.2
 | 406 => fun (d : List Bool × List Int × XL × Int × Int) => b406 rf rb d.1 d.2.1 d.2.2.1 d.2.2.2.1 d.2.2.2.2
 | 408 => fun (d : List (List UInt8) × List UInt8 × Int) => b408 rf rb d.1 d.2.1 d.2.2
 | 409 => fun (d : List Bool × List (List UInt8) × XL × Int) => b409 rf rb d.1 d.2.1 d.2.2.1 d.2.2.2
 | 413 => fun (d : List Bool × List (List UInt8 × XL) × List (List UInt8) × Int) => b413 rf rb d.1 d.2.1 d.2.2.1 d.2.2.2
 | 414 => fun (d : List (List UInt8) × List UInt8 × Int) => b414 rf rb d.1 d.2.1 d.2.2
 | 415 => fun (d : List (List (List UInt8)) × List (List UInt8 × XL) × Int) => b415 rf rb d.1 d.2.1 d.2.2
 | 416 => fun (d : List (List (List UInt8)) × List Bool × List Int × List (List UInt8 × XL)) => b416 rf rb d.1 d.2.1 d.2.2.1 d.2.2.2
 | 417 => fun (d : List (List (List UInt8)) × List Bool × List (List UInt8 × XL) × Int × Int) => b417 rf rb d.1 d.2.1 d.2.2.1 d.2.2.2.1 d.2.2.2.2
 | 419 => fun (d : XL × Int) => b419 rf rb d.1 d.2
 | 432 => fun (d : List (List Int) × List XS × Int × Int × Int) => b432 rf rb d.1 d.2.1 d.2.2.1 d.2.2.2.1 d.2.2.2.2
 | 433 => fun (d : XL × List Int × Int × Int) => b433 rf rb d.1 d.2.1 d.2.2.1 d.2.2.2
 | 451 => fun (d : XO × List Int × List XS × List (List Int) × XL × Int × Int) => b451 rf rb d.1 d.2.1 d.2.2.1 d.2.2.2.1 d.2.2.2.2.1 d.2.2.2.2.2.1 d.2.2.2.2.2.2
 | 477 => fun (d : List XO × List Int × List Int × List XS × Int) => b477 rf rb d.1 d.2.1 d.2.2.1 d.2.2.2.1 d.2.2.2.2
 | 478 => fun (d : List XO × List Int × List Int × List XS × Int) => b478 rf rb d.1 d.2.1 d.2.2.1 d.2.2.2.1 d.2.2.2.2
 | 479 => fun (d : List XO × List Int × List Int × List XS × List (List Int) × Int) => b479 rf rb d.1 d.2.1 d.2.2.1 d.2.2.2.1 d.2.2.2.2.1 d.2.2.2.2.2
 | 480 => fun (d : List XO × List Int × List Int × List XS × List (List Int) × Int) => b480 rf rb d.1 d.2.1 d.2.2.1 d.2.2.2.1 d.2.2.2.2.1 d.2.2.2.2.2
 | 481 => fun (d : List XO × List Int × List Int × List XS × List (List Int) × Int × XL × Int) => b481 rf rb d.1 d.2.1 d.2.2.1 d.2.2.2.1 d.2.2.2.2.1 d.2.2.2.2.2.1 d.2.2.2.2.2.2.1 d.2.2.2.2.2.2.2
 | 483 => fun (d : XT × List Int × List Int × List XO × Int) => b483 rf rb d.1 d.2.1 d.2.2.1 d.2.2.2.1 d.2.2.2.2
 | 484 => fun (d : XT × Int) => b484 rf rb d.1 d.2
 | 485 => fun (d : XT × Int) => b485 rf rb d.1 d.2
 | 489 => fun (d : XT × List Bool × List Int) => b489 rf rb d.1 d.2.1 d.2.2
 | 490 => fun (d : XT × List Bool × Int × Int) => b490 rf rb d.1 d.2.1 d.2.2.1 d.2.2.2
 | 491 => fun (d : List Bool × List Int × Bool × Int) => b491 rf rb d.1 d.2.1 d.2.2.1 d.2.2.2
 | 492 => fun (d : List XS × Int × Int) => b492 rf rb d.1 d.2.1 d.2.2
 | 493 => fun (d : List XS × Int × Int × Int) => b493 rf rb d.1 d.2.1 d.2.2.1 d.2.2.2
 | 494 => fun (d : XT × Int) => b494 rf rb d.1 d.2
 | _ => fun _ => none
set_option maxHeartbeats 4000000 in
theorem gB_ok (rf : T.RF) (rb : T.RB) : ∀ φ d y, gB rf rb φ d = some y → T.stepB rf rb φ d = some y := fun φ => match φ with
 | 0 => fun (d : List XS × Int) y h => (eb0 rf rb d.1 d.2).trans h
 | 1 => fun (d : List (List Int) × Int) y h => (eb1 rf rb d.1 d.2).trans h
 | 2 => fun _ _ h => by cases h
 | 3 => fun _ _ h => by cases h
 | 4 => fun (d : List UInt8 × Int) y h => (eb4 rf rb d.1 d.2).trans h
 | 5 => fun (d : List UInt8 × Int × Int) y h => (eb5 rf rb d.1 d.2.1 d.2.2).trans h
 | 6 => fun (d : List UInt8 × Int) y h => (eb6 rf rb d.1 d.2).trans h
 | 7 => fun (d : List (List UInt8) × List UInt8 × Int) y h => (eb7 rf rb d.1 d.2.1 d.2.2).trans h
 | 8 => fun (d : List UInt8 × Int) y h => (eb8 rf rb d.1 d.2).trans h
 | 9 => fun (d : List (List UInt8) × List UInt8 × Int) y h => (eb9 rf rb d.1 d.2.1 d.2.2).trans h
 | 10 => fun (d : (Int × Int) × List (Int × List UInt8 × Int) × List UInt8 × Int) y h => (eb10 rf rb d.1 d.2.1 d.2.2.1 d.2.2.2).trans h
 | 11 => fun (d : List UInt8 × Int) y h => (eb11 rf rb d.1 d.2).trans h
 | 12 => fun _ _ h => by cases h
 | 13 => fun _ _ h => by cases h
 | 14 => fun _ _ h => by cases h
 | 15 => fun (d : XL × XL × Int × Int) y h => (eb15 rf rb d.1 d.2.1 d.2.2.1 d.2.2.2).trans h
 | 16 => fun (d : XL × List Int × Int × List XL × Int × Int) y h => (eb16 rf rb d.1 d.2.1 d.2.2.1 d.2.2.2.1 d.2.2.2.2.1 d.2.2.2.2.2).trans h
 | 17 => fun _ _ h => by cases h
 | 18 => fun (d : (List (Int × List UInt8 × Int) × Int × Int × Int × Int) × List XL) y h => (eb18 rf rb d.1 d.2).trans h
 | 19 => fun _ _ h => by cases h
 | 20 => fun (d : (List (Int × List UInt8 × Int) × Int × Int × Int × Int) × XL) y h => (eb20 rf rb d.1 d.2).trans h
 | 21 => fun _ _ h => by cases h
 | 22 => fun (d : (List (Int × List UInt8 × Int) × Int × Int × Int × Int) × XL) y h => (eb22 rf rb d.1 d.2).trans h
 | 23 => fun _ _ h => by cases h
 | 24 => fun (d : (List (Int × List UInt8 × Int) × Int × Int × Int × Int) × XL) y h => (eb24 rf rb d.1 d.2).trans h
 | 25 => fun _ _ h => by cases h
 | 26 => fun (d : (List (Int × List UInt8 × Int) × Int × Int × Int × Int) × XL) y h => (eb26 rf rb d.1 d.2).trans h
 | 27 => fun _ _ h => by cases h
 | 28 => fun (d : (List (Int × List UInt8 × Int) × Int × Int × Int × Int) × XL) y h => (eb28 rf rb d.1 d.2).trans h
 | 29 => fun _ _ h => by cases h
 | 30 => fun _ _ h => by cases h
 | 31 => fun _ _ h => by cases h
 | 32 => fun _ _ h => by cases h
 | 33 => fun _ _ h => by cases h
 | 34 => fun _ _ h => by cases h
 | 35 => fun _ _ h => by cases h
 | 36 => fun (d : List Int × XL × Int) y h => (eb36 rf rb d.1 d.2.1 d.2.2).trans h
 | 37 => fun (d : List Int × List Int × Int × Int) y h => ((eb37 rf rb d.1 d.2.1 d.2.2.1 d.2.2.2).trans (sb37 rf rb d.1 d.2.1 d.2.2.1 d.2.2.2)).trans h
 | 38 => fun _ _ h => by cases h
 | 39 => fun (d : (Int × Int) × List (Int × List UInt8 × Int) × Int) y h => (eb39 rf rb d.1 d.2.1 d.2.2).trans h
 | 40 => fun _ _ h => by cases h
 | 41 => fun _ _ h => by cases h
 | 42 => fun _ _ h => by cases h
 | 43 => fun _ _ h => by cases h
 | 44 => fun _ _ h => by cases h
 | 45 => fun _ _ h => by cases h
 | 46 => fun _ _ h => by cases h
 | 47 => fun _ _ h => by cases h
 | 48 => fun _ _ h => by cases h
 | 49 => fun _ _ h => by cases h
 | 50 => fun _ _ h => by cases h
 | 51 => fun _ _ h => by cases h
 | 52 => fun _ _ h => by cases h
 | 53 => fun _ _ h => by cases h
 | 54 => fun _ _ h => by cases h
 | 55 => fun _ _ h => by cases h
 | 56 => fun _ _ h => by cases h
 | 57 => fun (d : List Bool × XL × XL × Int × Int) y h => (eb57 rf rb d.1 d.2.1 d.2.2.1 d.2.2.2.1 d.2.2.2.2).trans h
 | 58 => fun (d : XN × Int) y h => ((eb58 rf rb d.1 d.2).trans (sb58 rf rb d.1 d.2)).trans h
 | 59 => fun (d : XN × XN × Int) y h => (eb59 rf rb d.1 d.2.1 d.2.2).trans h
 | 60 => fun (d : List Bool × XN × List Int × XL × Int × Int × Int) y h => (eb60 rf rb d.1 d.2.1 d.2.2.1 d.2.2.2.1 d.2.2.2.2.1 d.2.2.2.2.2.1 d.2.2.2.2.2.2).trans h
 | 61 => fun (d : List Bool × Bool × Int × Int) y h => (eb61 rf rb d.1 d.2.1 d.2.2.1 d.2.2.2).trans h
 | 62 => fun _ _ h => by cases h
 | 63 => fun _ _ h => by cases h
 | 64 => fun _ _ h => by cases h
 | 65 => fun _ _ h => by cases h
 | 66 => fun _ _ h => by cases h
 | 67 => fun _ _ h => by cases h
 | 68 => fun (d : List Int × XL × Int × Int) y h => (eb68 rf rb d.1 d.2.1 d.2.2.1 d.2.2.2).trans h
 | 69 => fun (d : List Int × List Int × Int × Int × Int) y h => ((eb69 rf rb d.1 d.2.1 d.2.2.1 d.2.2.2.1 d.2.2.2.2).trans (sb69 rf rb d.1 d.2.1 d.2.2.1 d.2.2.2.1 d.2.2.2.2)).trans h
 | 70 => fun _ _ h => by cases h
 | 71 => fun _ _ h => by cases h
 | 72 => fun _ _ h => by cases h
 | 73 => fun _ _ h => by cases h
 | 74 => fun _ _ h => by cases h
 | 75 => fun _ _ h => by cases h
 | 76 => fun _ _ h => by cases h
 | 77 => fun _ _ h => by cases h
 | 78 => fun _ _ h => by cases h
 | 79 => fun _ _ h => by cases h
 | 80 => fun _ _ h => by cases h
 | 81 => fun _ _ h => by cases h
 | 82 => fun _ _ h => by cases h
 | 83 => fun _ _ h => by cases h
 | 84 => fun _ _ h => by cases h
 | 85 => fun _ _ h => by cases h
 | 86 => fun _ _ h => by cases h
 | 87 => fun _ _ h => by cases h
 | 88 => fun _ _ h => by cases h
 | 89 => fun _ _ h => by cases h
 | 90 => fun _ _ h => by cases h
 | 91 => fun _ _ h => by cases h
 | 92 => fun _ _ h => by cases h
 | 93 => fun _ _ h => by cases h
 | 94 => fun _ _ h => by cases h
 | 95 => fun _ _ h => by cases h
 | 96 => fun _ _ h => by cases h
 | 97 => fun _ _ h => by cases h
 | 98 => fun _ _ h => by cases h
 | 99 => fun _ _ h => by cases h
 | 100 => fun _ _ h => by cases h
 | 101 => fun _ _ h => by cases h
 | 102 => fun _ _ h => by cases h
 | 103 => fun _ _ h => by cases h
 | 104 => fun _ _ h => by cases h
 | 105 => fun _ _ h => by cases h
 | 106 => fun _ _ h => by cases h
 | 107 => fun _ _ h => by cases h
 | 108 => fun _ _ h => by cases h
 | 109 => fun _ _ h => by cases h
 | 110 => fun _ _ h => by cases h
 | 111 => fun _ _ h => by cases h
 | 112 => fun _ _ h => by cases h
 | 113 => fun _ _ h => by cases h
 | 114 => fun _ _ h => by cases h
 | 115 => fun _ _ h => by cases h
 | 116 => fun _ _ h => by cases h
 | 117 => fun _ _ h => by cases h
 | 118 => fun _ _ h => by cases h
 | 119 => fun _ _ h => by cases h
 | 120 => fun _ _ h => by cases h
 | 121 => fun _ _ h => by cases h
 | 122 => fun _ _ h => by cases h
 | 123 => fun _ _ h => by cases h
 | 124 => fun _ _ h => by cases h
 | 125 => fun _ _ h => by cases h
 | 126 => fun _ _ h => by cases h
 | 127 => fun _ _ h => by cases h
 | 128 => fun _ _ h => by cases h
 | 129 => fun _ _ h => by cases h
 | 130 => fun _ _ h => by cases h
 | 131 => fun _ _ h => by cases h
 | 132 => fun _ _ h => by cases h
 | 133 => fun _ _ h => by cases h
 | 134 => fun _ _ h => by cases h
 | 135 => fun _ _ h => by cases h
 | 136 => fun _ _ h => by cases h
 | 137 => fun _ _ h => by cases h
 | 138 => fun _ _ h => by cases h
 | 139 => fun _ _ h => by cases h
 | 140 => fun _ _ h => by cases h
 | 141 => fun _ _ h => by cases h
 | 142 => fun _ _ h => by cases h
 | 143 => fun _ _ h => by cases h
 | 144 => fun _ _ h => by cases h
 | 145 => fun _ _ h => by cases h
 | 146 => fun _ _ h => by cases h
 | 147 => fun _ _ h => by cases h
 | 148 => fun _ _ h => by cases h
 | 149 => fun _ _ h => by cases h
 | 150 => fun _ _ h => by cases h
 | 151 => fun _ _ h => by cases h
 | 152 => fun _ _ h => by cases h
 | 153 => fun _ _ h => by cases h
 | 154 => fun _ _ h => by cases h
 | 155 => fun _ _ h => by cases h
 | 156 => fun _ _ h => by cases h
 | 157 => fun _ _ h => by cases h
 | 158 => fun _ _ h => by cases h
 | 159 => fun _ _ h => by cases h
 | 160 => fun _ _ h => by cases h
 | 161 => fun (d : XL × List Int × XL × Int × Int) y h => (eb161 rf rb d.1 d.2.1 d.2.2.1 d.2.2.2.1 d.2.2.2.2).trans h
 | 162 => fun (d : List (List UInt8) × List UInt8 × Int × Int) y h => (eb162 rf rb d.1 d.2.1 d.2.2.1 d.2.2.2).trans h
 | 163 => fun _ _ h => by cases h
 | 164 => fun (d : List Int × XL × List (List UInt8) × Int × Int) y h => (eb164 rf rb d.1 d.2.1 d.2.2.1 d.2.2.2.1 d.2.2.2.2).trans h
 | 165 => fun _ _ h => by cases h
 | 166 => fun _ _ h => by cases h
 | 167 => fun _ _ h => by cases h
 | 168 => fun _ _ h => by cases h
 | 169 => fun _ _ h => by cases h
 | 170 => fun _ _ h => by cases h
 | 171 => fun (d : List Int × Int) y h => (eb171 rf rb d.1 d.2).trans h
 | 172 => fun _ _ h => by cases h
 | 173 => fun _ _ h => by cases h
 | 174 => fun _ _ h => by cases h
 | 175 => fun _ _ h => by cases h
 | 176 => fun _ _ h => by cases h
 | 177 => fun _ _ h => by cases h
 | 178 => fun _ _ h => by cases h
 | 179 => fun _ _ h => by cases h
 | 180 => fun _ _ h => by cases h
 | 181 => fun (d : List Int × Int × Int) y h => (eb181 rf rb d.1 d.2.1 d.2.2).trans h
 | 182 => fun _ _ h => by cases h
 | 183 => fun _ _ h => by cases h
 | 184 => fun _ _ h => by cases h
 | 185 => fun _ _ h => by cases h
 | 186 => fun _ _ h => by cases h
 | 187 => fun _ _ h => by cases h
 | 188 => fun _ _ h => by cases h
 | 189 => fun _ _ h => by cases h
 | 190 => fun _ _ h => by cases h
 | 191 => fun _ _ h => by cases h
 | 192 => fun _ _ h => by cases h
 | 193 => fun _ _ h => by cases h
 | 194 => fun _ _ h => by cases h
 | 195 => fun _ _ h => by cases h
 | 196 => fun _ _ h => by cases h
 | 197 => fun _ _ h => by cases h
 | 198 => fun _ _ h => by cases h
 | 199 => fun _ _ h => by cases h
 | 200 => fun _ _ h => by cases h
 | 201 => fun (d : List (List UInt8 × List Int) × List (List UInt8 × XL) × Int × Int) y h => ((eb201 rf rb d.1 d.2.1 d.2.2.1 d.2.2.2).trans (sb201 rf rb d.1 d.2.1 d.2.2.1 d.2.2.2)).trans h
 | 202 => fun (d : List (List UInt8 × List Int) × List Int × List (List Int) × List Int × List (List UInt8 × XL) × Int × Int) y h => (eb202 rf rb d.1 d.2.1 d.2.2.1 d.2.2.2.1 d.2.2.2.2.1 d.2.2.2.2.2.1 d.2.2.2.2.2.2).trans h
 | 203 => fun (d : List (List UInt8 × List Int) × List Int × List (List Int) × Int × List (List UInt8) × Int × Int) y h => (eb203 rf rb d.1 d.2.1 d.2.2.1 d.2.2.2.1 d.2.2.2.2.1 d.2.2.2.2.2.1 d.2.2.2.2.2.2).trans h
 | 204 => fun (d : List Int × List (List Int) × Int × List Int × Int × Int) y h => (eb204 rf rb d.1 d.2.1 d.2.2.1 d.2.2.2.1 d.2.2.2.2.1 d.2.2.2.2.2).trans h
 | 205 => fun (d : List Int × List Int × List Int × List (List Int)) y h => (eb205 rf rb d.1 d.2.1 d.2.2.1 d.2.2.2).trans h
 | 206 => fun (d : List Int × List Int × List Int × Int × Int) y h => (eb206 rf rb d.1 d.2.1 d.2.2.1 d.2.2.2.1 d.2.2.2.2).trans h
 | 207 => fun _ _ h => by cases h
 | 208 => fun _ _ h => by cases h
 | 209 => fun _ _ h => by cases h
 | 210 => fun _ _ h => by cases h
 | 211 => fun _ _ h => by cases h
 | 212 => fun _ _ h => by cases h
 | 213 => fun _ _ h => by cases h
 | 214 => fun _ _ h => by cases h
 | 215 => fun _ _ h => by cases h
 | 216 => fun _ _ h => by cases h
 | 217 => fun _ _ h => by cases h
 | 218 => fun _ _ h => by cases h
 | 219 => fun _ _ h => by cases h
 | 220 => fun _ _ h => by cases h
 | 221 => fun _ _ h => by cases h
 | 222 => fun _ _ h => by cases h
 | 223 => fun _ _ h => by cases h
 | 224 => fun _ _ h => by cases h
 | 225 => fun _ _ h => by cases h
 | 226 => fun _ _ h => by cases h
 | 227 => fun _ _ h => by cases h
 | 228 => fun _ _ h => by cases h
 | 229 => fun _ _ h => by cases h
 | 230 => fun _ _ h => by cases h
 | 231 => fun _ _ h => by cases h
 | 232 => fun _ _ h => by cases h
 | 233 => fun _ _ h => by cases h
 | 234 => fun _ _ h => by cases h
 | 235 => fun _ _ h => by cases h
 | 236 => fun _ _ h => by cases h
 | 237 => fun _ _ h => by cases h
 | 238 => fun _ _ h => by cases h
 | 239 => fun _ _ h => by cases h
 | 240 => fun _ _ h => by cases h
 | 241 => fun _ _ h => by cases h
 | 242 => fun _ _ h => by cases h
 | 243 => fun _ _ h => by cases h
 | 244 => fun (d : Int × Bool × Int × List Unit × List (List UInt8 × Int) × List Int × List XS × Int × Int) y h => (eb244 rf rb d.1 d.2.1 d.2.2.1 d.2.2.2.1 d.2.2.2.2.1 d.2.2.2.2.2.1 d.2.2.2.2.2.2.1 d.2.2.2.2.2.2.2.1 d.2.2.2.2.2.2.2.2).trans h
 | 245 => fun (d : Int × List (List UInt8 × XL) × List Int × Bool × Int × List Unit × List (List UInt8 × Int) × List Int × List XS × Int × Int) y h => ((eb245 rf rb d.1 d.2.1 d.2.2.1 d.2.2.2.1 d.2.2.2.2.1 d.2.2.2.2.2.1 d.2.2.2.2.2.2.1 d.2.2.2.2.2.2.2.1 d.2.2.2.2.2.2.2.2.1 d.2.2.2.2.2.2.2.2.2.1 d.2.2.2.2.2.2.2.2.2.2).trans (sb245 rf rb d.1 d.2.1 d.2.2.1 d.2.2.2.1 d.2.2.2.2.1 d.2.2.2.2.2.1 d.2.2.2.2.2.2.1 d.2.2.2.2.2.2.2.1 d.2.2.2.2.2.2.2.2.1 d.2.2.2.2.2.2.2.2.2.1 d.2.2.2.2.2.2.2.2.2.2)).trans h
 | 246 => fun (d : Int × List (List UInt8 × XL) × List Int × XS × Bool × Int × List UInt8 × Int × XL × List Int × List Unit × List (List UInt8 × Int) × List Int × List Bool × List Int × List Unit × Int) y h => ((eb246 rf rb d.1 d.2.1 d.2.2.1 d.2.2.2.1 d.2.2.2.2.1 d.2.2.2.2.2.1 d.2.2.2.2.2.2.1 d.2.2.2.2.2.2.2.1 d.2.2.2.2.2.2.2.2.1 d.2.2.2.2.2.2.2.2.2.1 d.2.2.2.2.2.2.2.2.2.2.1 d.2.2.2.2.2.2.2.2.2.2.2.1 d.2.2.2.2.2.2.2.2.2.2.2.2.1 d.2.2.2.2.2.2.2.2.2.2.2.2.2.1 d.2.2.2.2.2.2.2.2.2.2.2.2.2.2.1 d.2.2.2.2.2.2.2.2.2.2.2.2.2.2.2.1 d.2.2.2.2.2.2.2.2.2.2.2.2.2.2.2.2).trans (sb246 rf rb d.1 d.2.1 d.2.2.1 d.2.2.2.1 d.2.2.2.2.1 d.2.2.2.2.2.1 d.2.2.2.2.2.2.1 d.2.2.2.2.2.2.2.1 d.2.2.2.2.2.2.2.2.1 d.2.2.2.2.2.2.2.2.2.1 d.2.2.2.2.2.2.2.2.2.2.1 d.2.2.2.2.2.2.2.2.2.2.2.1 d.2.2.2.2.2.2.2.2.2.2.2.2.1 d.2.2.2.2.2.2.2.2.2.2.2.2.2.1 d.2.2.2.2.2.2.2.2.2.2.2.2.2.2.1 d.2.2.2.2.2.2.2.2.2.2.2.2.2.2.2.1 d.2.2.2.2.2.2.2.2.2.2.2.2.2.2.2.2)).trans h
 | 247 => fun (d : Int × List (List UInt8 × XL) × List Int × XS × Bool × Int × List UInt8 × Int × XL × List Int × List Unit × List (List UInt8 × Int) × List Int × List Bool × List Int × List Unit × Int) y h => (eb247 rf rb d.1 d.2.1 d.2.2.1 d.2.2.2.1 d.2.2.2.2.1 d.2.2.2.2.2.1 d.2.2.2.2.2.2.1 d.2.2.2.2.2.2.2.1 d.2.2.2.2.2.2.2.2.1 d.2.2.2.2.2.2.2.2.2.1 d.2.2.2.2.2.2.2.2.2.2.1 d.2.2.2.2.2.2.2.2.2.2.2.1 d.2.2.2.2.2.2.2.2.2.2.2.2.1 d.2.2.2.2.2.2.2.2.2.2.2.2.2.1 d.2.2.2.2.2.2.2.2.2.2.2.2.2.2.1 d.2.2.2.2.2.2.2.2.2.2.2.2.2.2.2.1 d.2.2.2.2.2.2.2.2.2.2.2.2.2.2.2.2).trans h
 | 248 => fun (d : Int × XL × Bool × Int × List UInt8 × Int × XL × List Int × List Unit × List (List UInt8 × Int) × List Int × List Bool × List Int × List Unit × Int × XN) y h => (eb248 rf rb d.1 d.2.1 d.2.2.1 d.2.2.2.1 d.2.2.2.2.1 d.2.2.2.2.2.1 d.2.2.2.2.2.2.1 d.2.2.2.2.2.2.2.1 d.2.2.2.2.2.2.2.2.1 d.2.2.2.2.2.2.2.2.2.1 d.2.2.2.2.2.2.2.2.2.2.1 d.2.2.2.2.2.2.2.2.2.2.2.1 d.2.2.2.2.2.2.2.2.2.2.2.2.1 d.2.2.2.2.2.2.2.2.2.2.2.2.2.1 d.2.2.2.2.2.2.2.2.2.2.2.2.2.2.1 d.2.2.2.2.2.2.2.2.2.2.2.2.2.2.2).trans h
 | 249 => fun (d : Int × XN × Bool × Int × List UInt8 × Int × XL × List Int × List Unit × List (List UInt8 × Int) × List Int × List Bool × List Int × List Unit × Int) y h => ((eb249 rf rb d.1 d.2.1 d.2.2.1 d.2.2.2.1 d.2.2.2.2.1 d.2.2.2.2.2.1 d.2.2.2.2.2.2.1 d.2.2.2.2.2.2.2.1 d.2.2.2.2.2.2.2.2.1 d.2.2.2.2.2.2.2.2.2.1 d.2.2.2.2.2.2.2.2.2.2.1 d.2.2.2.2.2.2.2.2.2.2.2.1 d.2.2.2.2.2.2.2.2.2.2.2.2.1 d.2.2.2.2.2.2.2.2.2.2.2.2.2.1 d.2.2.2.2.2.2.2.2.2.2.2.2.2.2).trans (sb249 rf rb d.1 d.2.1 d.2.2.1 d.2.2.2.1 d.2.2.2.2.1 d.2.2.2.2.2.1 d.2.2.2.2.2.2.1 d.2.2.2.2.2.2.2.1 d.2.2.2.2.2.2.2.2.1 d.2.2.2.2.2.2.2.2.2.1 d.2.2.2.2.2.2.2.2.2.2.1 d.2.2.2.2.2.2.2.2.2.2.2.1 d.2.2.2.2.2.2.2.2.2.2.2.2.1 d.2.2.2.2.2.2.2.2.2.2.2.2.2.1 d.2.2.2.2.2.2.2.2.2.2.2.2.2.2)).trans h
 | 250 => fun (d : XN × List UInt8 × Int × XL × List Int × List Bool × List Int × List Unit × Int) y h => (eb250 rf rb d.1 d.2.1 d.2.2.1 d.2.2.2.1 d.2.2.2.2.1 d.2.2.2.2.2.1 d.2.2.2.2.2.2.1 d.2.2.2.2.2.2.2.1 d.2.2.2.2.2.2.2.2).trans h
 | 251 => fun (d : XN × List Int × List UInt8 × Int × XL × List Int × List Bool × List Int × List Unit × Int × Int × Int) y h => ((eb251 rf rb d.1 d.2.1 d.2.2.1 d.2.2.2.1 d.2.2.2.2.1 d.2.2.2.2.2.1 d.2.2.2.2.2.2.1 d.2.2.2.2.2.2.2.1 d.2.2.2.2.2.2.2.2.1 d.2.2.2.2.2.2.2.2.2.1 d.2.2.2.2.2.2.2.2.2.2.1 d.2.2.2.2.2.2.2.2.2.2.2).trans (sb251 rf rb d.1 d.2.1 d.2.2.1 d.2.2.2.1 d.2.2.2.2.1 d.2.2.2.2.2.1 d.2.2.2.2.2.2.1 d.2.2.2.2.2.2.2.1 d.2.2.2.2.2.2.2.2.1 d.2.2.2.2.2.2.2.2.2.1 d.2.2.2.2.2.2.2.2.2.2.1 d.2.2.2.2.2.2.2.2.2.2.2)).trans h
 | 252 => fun (d : List Int × List Int × Bool × Int × List Unit × List (List UInt8 × Int) × List Int × Int × Int) y h => ((eb252 rf rb d.1 d.2.1 d.2.2.1 d.2.2.2.1 d.2.2.2.2.1 d.2.2.2.2.2.1 d.2.2.2.2.2.2.1 d.2.2.2.2.2.2.2.1 d.2.2.2.2.2.2.2.2).trans (sb252 rf rb d.1 d.2.1 d.2.2.1 d.2.2.2.1 d.2.2.2.2.1 d.2.2.2.2.2.1 d.2.2.2.2.2.2.1 d.2.2.2.2.2.2.2.1 d.2.2.2.2.2.2.2.2)).trans h
 | 253 => fun (d : List XS × Int × Int) y h => (eb253 rf rb d.1 d.2.1 d.2.2).trans h
 | 254 => fun (d : XL × Int × Int) y h => (eb254 rf rb d.1 d.2.1 d.2.2).trans h
 | 255 => fun _ _ h => by cases h
 | 256 => fun _ _ h => by cases h
 | 257 => fun _ _ h => by cases h
 | 258 => fun _ _ h => by cases h
 | 259 => fun _ _ h => by cases h
 | 260 => fun _ _ h => by cases h
 | 261 => fun _ _ h => by cases h
 | 262 => fun _ _ h => by cases h
 | 263 => fun _ _ h => by cases h
 | 264 => fun _ _ h => by cases h
 | 265 => fun _ _ h => by cases h
 | 266 => fun _ _ h => by cases h
 | 267 => fun _ _ h => by cases h
 | 268 => fun _ _ h => by cases h
 | 269 => fun _ _ h => by cases h
 | 270 => fun _ _ h => by cases h
 | 271 => fun _ _ h => by cases h
 | 272 => fun _ _ h => by cases h
 | 273 => fun _ _ h => by cases h
 | 274 => fun _ _ h => by cases h
 | 275 => fun _ _ h => by cases h
 | 276 => fun _ _ h => by cases h
 | 277 => fun _ _ h => by cases h
 | 278 => fun _ _ h => by cases h
 | 279 => fun _ _ h => by cases h
 | 280 => fun _ _ h => by cases h
 | 281 => fun _ _ h => by cases h
 | 282 => fun _ _ h => by cases h
 | 283 => fun _ _ h => by cases h
 | 284 => fun _ _ h => by cases h
 | 285 => fun _ _ h => by cases h
 | 286 => fun _ _ h => by cases h
 | 287 => fun _ _ h => by cases h
 | 288 => fun _ _ h => by cases h
 | 289 => fun _ _ h => by cases h
 | 290 => fun _ _ h => by cases h
 | 291 => fun _ _ h => by cases h
 | 292 => fun _ _ h => by cases h
 | 293 => fun _ _ h => by cases h
 | 294 => fun _ _ h => by cases h
 | 295 => fun _ _ h => by cases h
 | 296 => fun _ _ h => by cases h
 | 297 => fun _ _ h => by cases h
 | 298 => fun _ _ h => by cases h
 | 299 => fun _ _ h => by cases h
 | 300 => fun _ _ h => by cases h
 | 301 => fun _ _ h => by cases h
 | 302 => fun _ _ h => by cases h
 | 303 => fun _ _ h => by cases h
 | 304 => fun _ _ h => by cases h
 | 305 => fun _ _ h => by cases h
 | 306 => fun _ _ h => by cases h
 | 307 => fun _ _ h => by cases h
 | 308 => fun _ _ h => by cases h
 | 309 => fun _ _ h => by cases h
 | 310 => fun _ _ h => by cases h
 | 311 => fun _ _ h => by cases h
 | 312 => fun _ _ h => by cases h
 | 313 => fun _ _ h => by cases h
 | 314 => fun _ _ h => by cases h
 | 315 => fun _ _ h => by cases h
 | 316 => fun _ _ h => by cases h
 | 317 => fun _ _ h => by cases h
 | 318 => fun _ _ h => by cases h
 | 319 => fun _ _ h => by cases h
 | 320 => fun _ _ h => by cases h
 | 321 => fun _ _ h => by cases h
 | 322 => fun _ _ h => by cases h
 | 323 => fun _ _ h => by cases h
 | 324 => fun _ _ h => by cases h
 | 325 => fun _ _ h => by cases h
 | 326 => fun _ _ h => by cases h
 | 327 => fun _ _ h => by cases h
 | 328 => fun _ _ h => by cases h
 | 329 => fun _ _ h => by cases h
 | 330 => fun _ _ h => by cases h
 | 331 => fun _ _ h => by cases h
 | 332 => fun _ _ h => by cases h
 | 333 => fun _ _ h => by cases h
 | 334 => fun _ _ h => by cases h
 | 335 => fun _ _ h => by cases h
 | 336 => fun _ _ h => by cases h
 | 337 => fun _ _ h => by cases h
 | 338 => fun _ _ h => by cases h
 | 339 => fun _ _ h => by cases h
 | 340 => fun _ _ h => by cases h
 | 341 => fun _ _ h => by cases h
 | 342 => fun _ _ h => by cases h
 | 343 => fun _ _ h => by cases h
 | 344 => fun _ _ h => by cases h
 | 345 => fun _ _ h => by cases h
 | 346 => fun _ _ h => by cases h
 | 347 => fun _ _ h => by cases h
 | 348 => fun _ _ h => by cases h
 | 349 => fun _ _ h => by cases h
 | 350 => fun _ _ h => by cases h
 | 351 => fun _ _ h => by cases h
 | 352 => fun _ _ h => by cases h
 | 353 => fun _ _ h => by cases h
 | 354 => fun _ _ h => by cases h
 | 355 => fun _ _ h => by cases h
 | 356 => fun _ _ h => by cases h
 | 357 => fun _ _ h => by cases h
 | 358 => fun _ _ h => by cases h
 | 359 => fun _ _ h => by cases h
 | 360 => fun _ _ h => by cases h
 | 361 => fun _ _ h => by cases h
 | 362 => fun (d : List XO × List Int × List Int × List (List UInt8 × Int) × List (List Int) × List XS × Int × Int) y h => (eb362 rf rb d.1 d.2.1 d.2.2.1 d.2.2.2.1 d.2.2.2.2.1 d.2.2.2.2.2.1 d.2.2.2.2.2.2.1 d.2.2.2.2.2.2.2).trans h
 | 363 => fun (d : List XL × List (List Int) × Int × List XS × Int × Int) y h => ((eb363 rf rb d.1 d.2.1 d.2.2.1 d.2.2.2.1 d.2.2.2.2.1 d.2.2.2.2.2).trans (sb363 rf rb d.1 d.2.1 d.2.2.1 d.2.2.2.1 d.2.2.2.2.1 d.2.2.2.2.2)).trans h
 | 364 => fun (d : List XL × List (List Int) × Int × Int) y h => (eb364 rf rb d.1 d.2.1 d.2.2.1 d.2.2.2).trans h
 | 365 => fun (d : List (List Int) × Int × Int × XL × Int × Int) y h => ((eb365 rf rb d.1 d.2.1 d.2.2.1 d.2.2.2.1 d.2.2.2.2.1 d.2.2.2.2.2).trans (sb365 rf rb d.1 d.2.1 d.2.2.1 d.2.2.2.1 d.2.2.2.2.1 d.2.2.2.2.2)).trans h
 | 366 => fun (d : XN × Int) y h => (eb366 rf rb d.1 d.2).trans h
 | 367 => fun (d : List (List Int) × List XL × List XO × List Int × List Int × List (List UInt8 × Int) × Int × Int) y h => ((eb367 rf rb d.1 d.2.1 d.2.2.1 d.2.2.2.1 d.2.2.2.2.1 d.2.2.2.2.2.1 d.2.2.2.2.2.2.1 d.2.2.2.2.2.2.2).trans (sb367 rf rb d.1 d.2.1 d.2.2.1 d.2.2.2.1 d.2.2.2.2.1 d.2.2.2.2.2.1 d.2.2.2.2.2.2.1 d.2.2.2.2.2.2.2)).trans h
 | 368 => fun (d : List XO × List Int × List Int × List (List Int) × List XL × List (List UInt8 × Int) × Int × XL) y h => (eb368 rf rb d.1 d.2.1 d.2.2.1 d.2.2.2.1 d.2.2.2.2.1 d.2.2.2.2.2.1 d.2.2.2.2.2.2.1 d.2.2.2.2.2.2.2).trans h
 | 369 => fun (d : List XO × List Int × List Int × List (List Int) × List XL × List (List UInt8 × Int) × Int × XL × Int × Int) y h => (eb369 rf rb d.1 d.2.1 d.2.2.1 d.2.2.2.1 d.2.2.2.2.1 d.2.2.2.2.2.1 d.2.2.2.2.2.2.1 d.2.2.2.2.2.2.2.1 d.2.2.2.2.2.2.2.2.1 d.2.2.2.2.2.2.2.2.2).trans h
 | 370 => fun (d : List Int × List (List Int) × XO × List XL × List (List UInt8 × Int) × Int × Int × Int) y h => ((eb370 rf rb d.1 d.2.1 d.2.2.1 d.2.2.2.1 d.2.2.2.2.1 d.2.2.2.2.2.1 d.2.2.2.2.2.2.1 d.2.2.2.2.2.2.2).trans (sb370 rf rb d.1 d.2.1 d.2.2.1 d.2.2.2.1 d.2.2.2.2.1 d.2.2.2.2.2.1 d.2.2.2.2.2.2.1 d.2.2.2.2.2.2.2)).trans h
 | 371 => fun _ _ h => by cases h
 | 372 => fun (d : List Int × List Int × List Int × List Int × List XO × List XO × Int) y h => (eb372 rf rb d.1 d.2.1 d.2.2.1 d.2.2.2.1 d.2.2.2.2.1 d.2.2.2.2.2.1 d.2.2.2.2.2.2).trans h
 | 373 => fun (d : XT × List XO × Int × Int) y h => (eb373 rf rb d.1 d.2.1 d.2.2.1 d.2.2.2).trans h
 | 374 => fun (d : XT × List Int × Int × Int) y h => (eb374 rf rb d.1 d.2.1 d.2.2.1 d.2.2.2).trans h
 | 375 => fun (d : List Int × Int × Int) y h => (eb375 rf rb d.1 d.2.1 d.2.2).trans h
 | 376 => fun (d : XT × List Int × Int × Int) y h => (eb376 rf rb d.1 d.2.1 d.2.2.1 d.2.2.2).trans h
 | 377 => fun _ _ h => by cases h
 | 378 => fun _ _ h => by cases h
 | 379 => fun _ _ h => by cases h
 | 380 => fun _ _ h => by cases h
 | 381 => fun _ _ h => by cases h
 | 382 => fun (d : XT × List Int × Int × Int) y h => (eb382 rf rb d.1 d.2.1 d.2.2.1 d.2.2.2).trans h
 | 383 => fun (d : XT × List Int × List Int) y h => (eb383 rf rb d.1 d.2.1 d.2.2).trans h
 | 384 => fun (d : List Int × List Int × List Int × Int × Int) y h => (eb384 rf rb d.1 d.2.1 d.2.2.1 d.2.2.2.1 d.2.2.2.2).trans h
 | 385 => fun _ _ h => by cases h
 | 386 => fun (d : XT × List Int × List Int × List XO × Int) y h => (eb386 rf rb d.1 d.2.1 d.2.2.1 d.2.2.2.1 d.2.2.2.2).trans h
 | 387 => fun (d : List Int × List Int × Int) y h => (eb387 rf rb d.1 d.2.1 d.2.2).trans h
 | 388 => fun (d : XT × XT × Int) y h => (eb388 rf rb d.1 d.2.1 d.2.2).trans h
 | 389 => fun _ _ h => by cases h
 | 390 => fun (d : List XS × List UInt8 × Int) y h => (eb390 rf rb d.1 d.2.1 d.2.2).trans h
 | 391 => fun (d : List Int × XL × Int) y h => (eb391 rf rb d.1 d.2.1 d.2.2).trans h
 | 392 => fun (d : List Int × List Int × Int × Int) y h => (eb392 rf rb d.1 d.2.1 d.2.2.1 d.2.2.2).trans h
 | 393 => fun (d : XN × List Int × XL × Int) y h => (eb393 rf rb d.1 d.2.1 d.2.2.1 d.2.2.2).trans h
 | 394 => fun (d : List Int × XL × Int) y h => (eb394 rf rb d.1 d.2.1 d.2.2).trans h
 | 395 => fun (d : List XS × XL × Int) y h => (eb395 rf rb d.1 d.2.1 d.2.2).trans h
 | 396 => fun _ _ h => by cases h
 | 397 => fun (d : List (List UInt8 × XL) × List XS × Int) y h => (eb397 rf rb d.1 d.2.1 d.2.2).trans h
 | 398 => fun _ _ h => by cases h
 | 399 => fun _ _ h => by cases h
 | 400 => fun (d : XL × List Int × List Int × XL × Int) y h => (eb400 rf rb d.1 d.2.1 d.2.2.1 d.2.2.2.1 d.2.2.2.2).trans h
 | 401 => fun _ _ h => by cases h
 | 402 => fun _ _ h => by cases h
 | 403 => fun _ _ h => by cases h
 | 404 => fun _ _ h => by cases h
 | 405 => fun (d : List Bool × XL × Int) y h => (eb405 rf rb d.1 d.2.1 d.2.2).trans h
 | 406 => fun (d : List Bool × List Int × XL × Int × Int) y h => (eb406 rf rb d.1 d.2.1 d.2.2.1 d.2.2.2.1 d.2.2.2.2).trans h
 | 407 => fun _ _ h => by cases h
 | 408 => fun (d : List (List UInt8) × List UInt8 × Int) y h => (eb408 rf rb d.1 d.2.1 d.2.2).trans h
 | 409 => fun (d : List Bool × List (List UInt8) × XL × Int) y h => (eb409 rf rb d.1 d.2.1 d.2.2.1 d.2.2.2).trans h
 | 410 => fun _ _ h => by cases h
 | 411 => fun _ _ h => by cases h
 | 412 => fun _ _ h => by cases h
 | 413 => fun (d : List Bool × List (List UInt8 × XL) × List (List UInt8) × Int) y h => (eb413 rf rb d.1 d.2.1 d.2.2.1 d.2.2.2).trans h
 | 414 => fun (d : List (List UInt8) × List UInt8 × Int) y h => (eb414 rf rb d.1 d.2.1 d.2.2).trans h
 | 415 => fun (d : List (List (List UInt8)) × List (List UInt8 × XL) × Int) y h => (eb415 rf rb d.1 d.2.1 d.2.2).trans h
 | 416 => fun (d : List (List (List UInt8)) × List Bool × List Int × List (List UInt8 × XL)) y h => (eb416 rf rb d.1 d.2.1 d.2.2.1 d.2.2.2).trans h
 | 417 => fun (d : List (List (List UInt8)) × List Bool × List (List UInt8 × XL) × Int × Int) y h => (eb417 rf rb d.1 d.2.1 d.2.2.1 d.2.2.2.1 d.2.2.2.2).trans h
 | 418 => fun _ _ h => by cases h
 | 419 => fun (d : XL × Int) y h => (eb419 rf rb d.1 d.2).trans h
 | 420 => fun _ _ h => by cases h
 | 421 => fun _ _ h => by cases h
 | 422 => fun _ _ h => by cases h
 | 423 => fun _ _ h => by cases h
 | 424 => fun _ _ h => by cases h
 | 425 => fun _ _ h => by cases h
 | 426 => fun _ _ h => by cases h
 | 427 => fun _ _ h => by cases h
 | 428 => fun _ _ h => by cases h
 | 429 => fun _ _ h => by cases h
 | 430 => fun _ _ h => by cases h
 | 431 => fun _ _ h => by cases h
 | 432 => fun (d : List (List Int) × List XS × Int × Int × Int) y h => (eb432 rf rb d.1 d.2.1 d.2.2.1 d.2.2.2.1 d.2.2.2.2).trans h
 | 433 => fun (d : XL × List Int × Int × Int) y h => (eb433 rf rb d.1 d.2.1 d.2.2.1 d.2.2.2).trans h
 | 434 => fun _ _ h => by cases h
 | 435 => fun _ _ h => by cases h
 | 436 => fun _ _ h => by cases h
 | 437 => fun _ _ h => by cases h
 | 438 => fun _ _ h => by cases h
 | 439 => fun _ _ h => by cases h
 | 440 => fun _ _ h => by cases h
 | 441 => fun _ _ h => by cases h
 | 442 => fun _ _ h => by cases h
 | 443 => fun _ _ h => by cases h
 | 444 => fun _ _ h => by cases h
 | 445 => fun _ _ h => by cases h
 | 446 => fun _ _ h => by cases h
 | 447 => fun _ _ h => by cases h
 | 448 => fun _ _ h => by cases h
 | 449 => fun _ _ h => by cases h
 | 450 => fun _ _ h => by cases h
 | 451 => fun (d : XO × List Int × List XS × List (List Int) × XL × Int × Int) y h => (eb451 rf rb d.1 d.2.1 d.2.2.1 d.2.2.2.1 d.2.2.2.2.1 d.2.2.2.2.2.1 d.2.2.2.2.2.2).trans h
 | 452 => fun _ _ h => by cases h
 | 453 => fun _ _ h => by cases h
 | 454 => fun _ _ h => by cases h
 | 455 => fun _ _ h => by cases h
 | 456 => fun _ _ h => by cases h
 | 457 => fun _ _ h => by cases h
 | 458 => fun _ _ h => by cases h
 | 459 => fun _ _ h => by cases h
 | 460 => fun _ _ h => by cases h
 | 461 => fun _ _ h => by cases h
 | 462 => fun _ _ h => by cases h
 | 463 => fun _ _ h => by cases h
 | 464 => fun _ _ h => by cases h
 | 465 => fun _ _ h => by cases h
 | 466 => fun _ _ h => by cases h
 | 467 => fun _ _ h => by cases h
 | 468 => fun _ _ h => by cases h
 | 469 => fun _ _ h => by cases h
 | 470 => fun _ _ h => by cases h
 | 471 => fun _ _ h => by cases h
 | 472 => fun _ _ h => by cases h
 | 473 => fun _ _ h => by cases h
 | 474 => fun _ _ h => by cases h
 | 475 => fun _ _ h => by cases h
 | 476 => fun _ _ h => by cases h
 | 477 => fun (d : List XO × List Int × List Int × List XS × Int) y h => (eb477 rf rb d.1 d.2.1 d.2.2.1 d.2.2.2.1 d.2.2.2.2).trans h
 | 478 => fun (d : List XO × List Int × List Int × List XS × Int) y h => ((eb478 rf rb d.1 d.2.1 d.2.2.1 d.2.2.2.1 d.2.2.2.2).trans (sb478 rf rb d.1 d.2.1 d.2.2.1 d.2.2.2.1 d.2.2.2.2)).trans h
 | 479 => fun (d : List XO × List Int × List Int × List XS × List (List Int) × Int) y h => ((eb479 rf rb d.1 d.2.1 d.2.2.1 d.2.2.2.1 d.2.2.2.2.1 d.2.2.2.2.2).trans (sb479 rf rb d.1 d.2.1 d.2.2.1 d.2.2.2.1 d.2.2.2.2.1 d.2.2.2.2.2)).trans h
 | 480 => fun (d : List XO × List Int × List Int × List XS × List (List Int) × Int) y h => (eb480 rf rb d.1 d.2.1 d.2.2.1 d.2.2.2.1 d.2.2.2.2.1 d.2.2.2.2.2).trans h
 | 481 => fun (d : List XO × List Int × List Int × List XS × List (List Int) × Int × XL × Int) y h => ((eb481 rf rb d.1 d.2.1 d.2.2.1 d.2.2.2.1 d.2.2.2.2.1 d.2.2.2.2.2.1 d.2.2.2.2.2.2.1 d.2.2.2.2.2.2.2).trans (sb481 rf rb d.1 d.2.1 d.2.2.1 d.2.2.2.1 d.2.2.2.2.1 d.2.2.2.2.2.1 d.2.2.2.2.2.2.1 d.2.2.2.2.2.2.2)).trans h
 | 482 => fun _ _ h => by cases h
 | 483 => fun (d : XT × List Int × List Int × List XO × Int) y h => (eb483 rf rb d.1 d.2.1 d.2.2.1 d.2.2.2.1 d.2.2.2.2).trans h
 | 484 => fun (d : XT × Int) y h => (eb484 rf rb d.1 d.2).trans h
 | 485 => fun (d : XT × Int) y h => (eb485 rf rb d.1 d.2).trans h
 | 486 => fun _ _ h => by cases h
 | 487 => fun _ _ h => by cases h
 | 488 => fun _ _ h => by cases h
 | 489 => fun (d : XT × List Bool × List Int) y h => (eb489 rf rb d.1 d.2.1 d.2.2).trans h
 | 490 => fun (d : XT × List Bool × Int × Int) y h => (eb490 rf rb d.1 d.2.1 d.2.2.1 d.2.2.2).trans h
 | 491 => fun (d : List Bool × List Int × Bool × Int) y h => (eb491 rf rb d.1 d.2.1 d.2.2.1 d.2.2.2).trans h
 | 492 => fun (d : List XS × Int × Int) y h => (eb492 rf rb d.1 d.2.1 d.2.2).trans h
 | 493 => fun (d : List XS × Int × Int × Int) y h => (eb493 rf rb d.1 d.2.1 d.2.2.1 d.2.2.2).trans h
 | 494 => fun (d : XT × Int) y h => (eb494 rf rb d.1 d.2).trans h
 | n + 495 => fun _ _ h => by cases h
noncomputable def G : Nat → T.RF × T.RB
 | 0 => (fun _ _ => none, fun _ _ => none)
 | n + 1 => (gF (G n).1 (G n).2, gB (G n).1 (G n).2)
theorem run_F (n : Nat) {φ : Nat} {d} {y} (h : (G n).1 φ d = some y) : T.rf φ d = some y := (Tbl.approx gF_ok gB_ok rfl (fun _ => rfl) n).1 φ d y h
theorem live_run : c2 T.rf = some true := run_F 400 (φ := 2) (d := ()) (by kernel_rfl)
end Go.Proofs.YtadonikkibahnaaGreat.R
