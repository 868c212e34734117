import Derived.Test.YtlobhcgbmpcdlaaGreatDoorRes
import Derived.Test.YtlobhcgbmpcdlaaGreatDoorBmX3
import Derived.KernelRfl
namespace Go.Proofs.YtlobhcgbmpcdlaaGreatDoor.R
open Go Go.Bm Go.Proofs
set_option linter.unusedVariables false
set_option maxRecDepth 100000
noncomputable def gF (rf : T.RF) (rb : T.RB) : T.RF := fun φ => match φ with
 | 0 => fun (d : XPg) => r0 rf rb d
 | 1 => fun (d : XPg) => r1 rf rb d
 | 2 => fun (d : Unit) => r2 rf rb
 | 3 => fun (d : List UInt8) => r3 rf rb d
 | 4 => fun (d : List UInt8) => r4 rf rb d
 | 5 => fun (d : XPm) => r5 rf rb d.1 d.2
 | 6 => fun (d : Int) => r6 rf rb d
 | 7 => fun (d : List UInt8) => r7 rf rb d
 | 8 => fun (d : Int) => r8 rf rb d
 | 9 => fun (d : XPm) => r9 rf rb d.1 d.2
 | 10 => fun (d : List UInt8) => r10 rf rb d
 | 11 => fun (d : Unit) => r11 rf rb
 | 12 => fun (d : List UInt8) => r12 rf rb d
 | 13 => fun (d : List UInt8) => r13 rf rb d
 | 14 => fun (d : Unit) => r14 rf rb
 | 15 => fun (d : Int × Int × Int × List XK × List UInt8) => r15 rf rb d.1 d.2.1 d.2.2.1 d.2.2.2.1 d.2.2.2.2
 | 16 => fun (d : Int × Int × Int × List XK) => r16 rf rb d.1 d.2.1 d.2.2.1 d.2.2.2
 | 17 => fun (d : Int × Int × Int × List XK × Int) => r17 rf rb d.1 d.2.1 d.2.2.1 d.2.2.2.1 d.2.2.2.2
 | 18 => fun (d : Int × Int × Int × List XK × Int) => r18 rf rb d.1 d.2.1 d.2.2.1 d.2.2.2.1 d.2.2.2.2
 | 19 => fun (d : List XK × Int) => r19 rf rb d.1 d.2
 | 20 => fun (d : XR) => r20 rf rb d
 | 21 => fun (d : XR × List UInt8) => r21 rf rb d.1 d.2
 | 22 => fun (d : XR × List UInt8) => r22 rf rb d.1 d.2
 | 23 => fun (d : XR) => r23 rf rb d
 | 24 => fun (d : XR) => r24 rf rb d
 | 25 => fun (d : XR) => r25 rf rb d
 | 26 => fun (d : XR × Int) => r26 rf rb d.1 d.2
 | 27 => fun (d : XR) => r27 rf rb d
 | 28 => fun (d : XR × List UInt8) => r28 rf rb d.1 d.2
 | 29 => fun (d : XR × Int) => r29 rf rb d.1 d.2
 | 30 => fun (d : XR) => r30 rf rb d
 | 31 => fun (d : XR) => r31 rf rb d
 | 32 => fun (d : XR) => r32 rf rb d
 | 33 => fun (d : XR) => r33 rf rb d
 | 34 => fun (d : XR) => r34 rf rb d
 | 35 => fun (d : List XK × Int) => r35 rf rb d.1 d.2
 | 36 => fun (d : XS) => r36 rf rb d
 | 37 => fun (d : XS) => r37 rf rb d
 | 38 => fun (d : XS) => r38 rf rb d
 | 39 => fun (d : XS) => r39 rf rb d
 | 40 => fun (d : XS) => r40 rf rb d
 | 41 => fun (d : XS) => r41 rf rb d
 | 42 => fun (d : XS) => r42 rf rb d
 | 43 => fun (d : XS) => r43 rf rb d
 | 44 => fun (d : XS) => r44 rf rb d
 | 45 => fun (d : XS × Int) => r45 rf rb d.1 d.2
 | 46 => fun (d : XS × XK) => r46 rf rb d.1 d.2
 | 47 => fun (d : Int × Int × List UInt8 × List (List XN)) => r47 rf rb d.1 d.2.1 d.2.2.1 d.2.2.2
 | 48 => fun (d : Int × Int × List UInt8) => r48 rf rb d.1 d.2.1 d.2.2
 | 49 => fun (d : XN) => r49 rf rb d
 | 50 => fun (d : List XN × List XN) => r50 rf rb d.1 d.2
 | 51 => fun (d : XN × Int) => r51 rf rb d.1 d.2
 | 52 => fun (d : XN × List Int) => r52 rf rb d.1 d.2
 | 53 => fun (d : XS × List UInt8) => r53 rf rb d.1 d.2
 | 54 => fun (d : XS × List UInt8) => r54 rf rb d.1 d.2
 | 55 => fun (d : XS × List UInt8) => r55 rf rb d.1 d.2
 | 56 => fun (d : XS) => r56 rf rb d
 | 57 => fun (d : XS × List UInt8) => r57 rf rb d.1 d.2
 | 58 => fun (d : List UInt8) => r58 rf rb d
 | 59 => fun (d : XS) => r59 rf rb d
 | 60 => fun (d : XS) => r60 rf rb d
 | 61 => fun (d : XS × Int × List XN × List XN) => r61 rf rb d.1 d.2.1 d.2.2.1 d.2.2.2
 | 62 => fun (d : List XN) => r62 rf rb d
 | 63 => fun (d : XR) => r63 rf rb d
 | 64 => fun (d : XR) => r64 rf rb d
 | 65 => fun (d : XR) => r65 rf rb d
 | 66 => fun (d : XPg) => r66 rf rb d
 | 67 => fun (d : XPg) => r67 rf rb d
 | 68 => fun (d : List UInt8) => r68 rf rb d
 | 69 => fun (d : List UInt8) => r69 rf rb d
 | 70 => fun (d : Int) => r70 rf rb d
 | 71 => fun (d : List UInt8) => r71 rf rb d
 | 72 => fun (d : List (List UInt8) × List UInt8) => r72 rf rb d.1 d.2
 | 73 => fun (d : List UInt8 × List UInt8) => r73 rf rb d.1 d.2
 | 74 => fun (d : List UInt8) => r74 rf rb d
 | 75 => fun (d : List UInt8) => r75 rf rb d
 | 76 => fun (d : List XUn) => r76 rf rb d
 | 77 => fun (d : List XUn) => r77 rf rb d
 | 78 => fun (d : List XUn) => r78 rf rb d
 | 79 => fun (d : XUn) => r79 rf rb d
 | 80 => fun (d : XUn) => r80 rf rb d
 | 81 => fun (d : List XPm) => r81 rf rb d
 | 82 => fun (d : List XPm) => r82 rf rb d
 | 83 => fun (d : List XPm) => r83 rf rb d
 | 84 => fun (d : XPm) => r84 rf rb d
 | 85 => fun (d : XPm) => r85 rf rb d
 | 86 => fun (d : List XEq) => r86 rf rb d
 | 87 => fun (d : List XEq) => r87 rf rb d
 | 88 => fun (d : List XEq) => r88 rf rb d
 | 89 => fun (d : XEq) => r89 rf rb d
 | 90 => fun (d : XEq) => r90 rf rb d
 | 91 => fun (d : List XN) => r91 rf rb d
 | 92 => fun (d : List XN) => r92 rf rb d
 | 93 => fun (d : XN) => r93 rf rb d
 | 94 => fun (d : XN) => r94 rf rb d
 | 95 => fun (d : XN × List Int) => r95 rf rb d.1 d.2
 | 96 => fun (d : List Bool × Bool) => r96 rf rb d.1 d.2
 | 97 => fun (d : List Bool × Bool) => r97 rf rb d.1 d.2
 | 98 => fun (d : List XN) => r98 rf rb d
 | 99 => fun (d : List XN) => r99 rf rb d
 | 100 => fun (d : List XN) => r100 rf rb d
 | 101 => fun (d : List XN) => r101 rf rb d
 | 102 => fun (d : XN) => r102 rf rb d
 | 103 => fun (d : List XIt) => r103 rf rb d
 | 104 => fun (d : List XIt) => r104 rf rb d
 | 105 => fun (d : List XIt) => r105 rf rb d
 | 106 => fun (d : XIt) => r106 rf rb d
 | 107 => fun (d : XIt) => r107 rf rb d
 | 108 => fun (d : List (List XN)) => r108 rf rb d
 | 109 => fun (d : List (List XN)) => r109 rf rb d
 | 110 => fun (d : List (List XN)) => r110 rf rb d
 | 111 => fun (d : List XN) => r111 rf rb d
 | 112 => fun (d : List XK × XUn) => r112 rf rb d.1 d.2
 | 113 => fun (d : List XK × List (List UInt8)) => r113 rf rb d.1 d.2
 | 114 => fun (d : List XK × List XPm) => r114 rf rb d.1 d.2
 | 115 => fun (d : List XK × List XPm × List UInt8) => r115 rf rb d.1 d.2.1 d.2.2
 | 116 => fun (d : List XK × XPm) => r116 rf rb d.1 d.2
 | 117 => fun (d : List XK × XIt) => r117 rf rb d.1 d.2
 | 118 => fun (d : List XK × List XN) => r118 rf rb d.1 d.2
 | 119 => fun (d : List XN) => r119 rf rb d
 | 120 => fun (d : List XN × List XK × Int) => r120 rf rb d.1 d.2.1 d.2.2
 | 121 => fun (d : Int) => r121 rf rb d
 | 122 => fun (d : Unit) => r122 rf rb
 | 123 => fun (d : Int) => r123 rf rb d
 | 124 => fun (d : List XN × List XK × List (List UInt8)) => r124 rf rb d.1 d.2.1 d.2.2
 | 125 => fun (d : Bool) => r125 rf rb d
 | 126 => fun (d : Bool) => r126 rf rb d
 | 127 => fun (d : List XN × List XK × Int) => r127 rf rb d.1 d.2.1 d.2.2
 | 128 => fun (d : List XN × List XK × Int × Int) => r128 rf rb d.1 d.2.1 d.2.2.1 d.2.2.2
 | 129 => fun (d : Int) => r129 rf rb d
 | 130 => fun (d : List XK) => r130 rf rb d
 | 131 => fun (d : List XK × List (List XN) × List UInt8) => r131 rf rb d.1 d.2.1 d.2.2
 | 132 => fun (d : XPg) => r132 rf rb d
 | 133 => fun (d : List XUn) => r133 rf rb d
 | 134 => fun (d : List XPm) => r134 rf rb d
 | 135 => fun (d : List XEq) => r135 rf rb d
 | 136 => fun (d : List XIt) => r136 rf rb d
 | 137 => fun (d : List XN) => r137 rf rb d
 | 138 => fun (d : List XN × Int) => r138 rf rb d.1 d.2
 | 139 => fun (d : List XN × List XN × Int) => r139 rf rb d.1 d.2.1 d.2.2
 | 140 => fun (d : List (List XN)) => r140 rf rb d
 | 141 => fun (d : XPg) => r141 rf rb d
 | 142 => fun (d : XUn) => r142 rf rb d
 | 143 => fun (d : List XN) => r143 rf rb d
 | 144 => fun (d : List XN × Int) => r144 rf rb d.1 d.2
 | 145 => fun (d : List XN) => r145 rf rb d
 | 146 => fun (d : XN) => r146 rf rb d
 | 147 => fun (d : XN) => r147 rf rb d
 | 148 => fun (d : List XN × Int) => r148 rf rb d.1 d.2
 | 149 => fun (d : List XN × List XN × Int) => r149 rf rb d.1 d.2.1 d.2.2
 | 150 => fun (d : XPg × XPg) => r150 rf rb d.1 d.2
 | 151 => fun (d : XUn × XUn) => r151 rf rb d.1 d.2
 | 152 => fun (d : List XPm × List XPm) => r152 rf rb d.1 d.2
 | 153 => fun (d : List XN × List XN) => r153 rf rb d.1 d.2
 | 154 => fun (d : List (List XN) × List (List XN)) => r154 rf rb d.1 d.2
 | 155 => fun (d : List UInt8) => r155 rf rb d
 | 156 => fun (d : XPg) => r156 rf rb d
 | 157 => fun (d : XPg × XPg) => r157 rf rb d.1 d.2
 | 158 => fun (d : XPg) => r158 rf rb d
 | _ => fun _ => none
theorem gF_ok (rf : T.RF) (rb : T.RB) : ∀ φ d y, gF rf rb φ d = some y → T.stepF rf rb φ d = some y := fun φ => match φ with
 | 0 => fun (d : XPg) y h => (er0 rf rb d).symm.trans h
 | 1 => fun (d : XPg) y h => (er1 rf rb d).symm.trans h
 | 2 => fun (d : Unit) y h => (er2 rf rb ).symm.trans h
 | 3 => fun (d : List UInt8) y h => (er3 rf rb d).symm.trans h
 | 4 => fun (d : List UInt8) y h => (er4 rf rb d).symm.trans h
 | 5 => fun (d : XPm) y h => (er5 rf rb d.1 d.2).symm.trans h
 | 6 => fun (d : Int) y h => (er6 rf rb d).symm.trans h
 | 7 => fun (d : List UInt8) y h => (er7 rf rb d).symm.trans h
 | 8 => fun (d : Int) y h => (er8 rf rb d).symm.trans h
 | 9 => fun (d : XPm) y h => (er9 rf rb d.1 d.2).symm.trans h
 | 10 => fun (d : List UInt8) y h => (er10 rf rb d).symm.trans h
 | 11 => fun (d : Unit) y h => (er11 rf rb ).symm.trans h
 | 12 => fun (d : List UInt8) y h => (er12 rf rb d).symm.trans h
 | 13 => fun (d : List UInt8) y h => (er13 rf rb d).symm.trans h
 | 14 => fun (d : Unit) y h => (er14 rf rb ).symm.trans h
 | 15 => fun (d : Int × Int × Int × List XK × List UInt8) y h => ((er15 rf rb d.1 d.2.1 d.2.2.1 d.2.2.2.1 d.2.2.2.2).symm.trans (sr15 rf rb d.1 d.2.1 d.2.2.1 d.2.2.2.1 d.2.2.2.2)).trans h
 | 16 => fun (d : Int × Int × Int × List XK) y h => (er16 rf rb d.1 d.2.1 d.2.2.1 d.2.2.2).symm.trans h
 | 17 => fun (d : Int × Int × Int × List XK × Int) y h => (er17 rf rb d.1 d.2.1 d.2.2.1 d.2.2.2.1 d.2.2.2.2).symm.trans h
 | 18 => fun (d : Int × Int × Int × List XK × Int) y h => ((er18 rf rb d.1 d.2.1 d.2.2.1 d.2.2.2.1 d.2.2.2.2).symm.trans (sr18 rf rb d.1 d.2.1 d.2.2.1 d.2.2.2.1 d.2.2.2.2)).trans h
 | 19 => fun (d : List XK × Int) y h => (er19 rf rb d.1 d.2).symm.trans h
 | 20 => fun (d : XR) y h => (er20 rf rb d).symm.trans h
 | 21 => fun (d : XR × List UInt8) y h => (er21 rf rb d.1 d.2).symm.trans h
 | 22 => fun (d : XR × List UInt8) y h => ((er22 rf rb d.1 d.2).symm.trans (sr22 rf rb d.1 d.2)).trans h
 | 23 => fun (d : XR) y h => (er23 rf rb d).symm.trans h
 | 24 => fun (d : XR) y h => (er24 rf rb d).symm.trans h
 | 25 => fun (d : XR) y h => ((er25 rf rb d).symm.trans (sr25 rf rb d)).trans h
 | 26 => fun (d : XR × Int) y h => ((er26 rf rb d.1 d.2).symm.trans (sr26 rf rb d.1 d.2)).trans h
 | 27 => fun (d : XR) y h => (er27 rf rb d).symm.trans h
 | 28 => fun (d : XR × List UInt8) y h => (er28 rf rb d.1 d.2).symm.trans h
 | 29 => fun (d : XR × Int) y h => (er29 rf rb d.1 d.2).symm.trans h
 | 30 => fun (d : XR) y h => (er30 rf rb d).symm.trans h
 | 31 => fun (d : XR) y h => (er31 rf rb d).symm.trans h
 | 32 => fun (d : XR) y h => (er32 rf rb d).symm.trans h
 | 33 => fun (d : XR) y h => (er33 rf rb d).symm.trans h
 | 34 => fun (d : XR) y h => ((er34 rf rb d).symm.trans (sr34 rf rb d)).trans h
 | 35 => fun (d : List XK × Int) y h => (er35 rf rb d.1 d.2).symm.trans h
 | 36 => fun (d : XS) y h => (er36 rf rb d).symm.trans h
 | 37 => fun (d : XS) y h => (er37 rf rb d).symm.trans h
 | 38 => fun (d : XS) y h => (er38 rf rb d).symm.trans h
 | 39 => fun (d : XS) y h => (er39 rf rb d).symm.trans h
 | 40 => fun (d : XS) y h => (er40 rf rb d).symm.trans h
 | 41 => fun (d : XS) y h => (er41 rf rb d).symm.trans h
 | 42 => fun (d : XS) y h => (er42 rf rb d).symm.trans h
 | 43 => fun (d : XS) y h => (er43 rf rb d).symm.trans h
 | 44 => fun (d : XS) y h => (er44 rf rb d).symm.trans h
 | 45 => fun (d : XS × Int) y h => ((er45 rf rb d.1 d.2).symm.trans (sr45 rf rb d.1 d.2)).trans h
 | 46 => fun (d : XS × XK) y h => (er46 rf rb d.1 d.2).symm.trans h
 | 47 => fun (d : Int × Int × List UInt8 × List (List XN)) y h => (er47 rf rb d.1 d.2.1 d.2.2.1 d.2.2.2).symm.trans h
 | 48 => fun (d : Int × Int × List UInt8) y h => (er48 rf rb d.1 d.2.1 d.2.2).symm.trans h
 | 49 => fun (d : XN) y h => (er49 rf rb d).symm.trans h
 | 50 => fun (d : List XN × List XN) y h => (er50 rf rb d.1 d.2).symm.trans h
 | 51 => fun (d : XN × Int) y h => (er51 rf rb d.1 d.2).symm.trans h
 | 52 => fun (d : XN × List Int) y h => (er52 rf rb d.1 d.2).symm.trans h
 | 53 => fun (d : XS × List UInt8) y h => (er53 rf rb d.1 d.2).symm.trans h
 | 54 => fun (d : XS × List UInt8) y h => (er54 rf rb d.1 d.2).symm.trans h
 | 55 => fun (d : XS × List UInt8) y h => (er55 rf rb d.1 d.2).symm.trans h
 | 56 => fun (d : XS) y h => (er56 rf rb d).symm.trans h
 | 57 => fun (d : XS × List UInt8) y h => (er57 rf rb d.1 d.2).symm.trans h
 | 58 => fun (d : List UInt8) y h => (er58 rf rb d).symm.trans h
 | 59 => fun (d : XS) y h => (er59 rf rb d).symm.trans h
 | 60 => fun (d : XS) y h => (er60 rf rb d).symm.trans h
 | 61 => fun (d : XS × Int × List XN × List XN) y h => (er61 rf rb d.1 d.2.1 d.2.2.1 d.2.2.2).symm.trans h
 | 62 => fun (d : List XN) y h => (er62 rf rb d).symm.trans h
 | 63 => fun (d : XR) y h => (er63 rf rb d).symm.trans h
 | 64 => fun (d : XR) y h => (er64 rf rb d).symm.trans h
 | 65 => fun (d : XR) y h => (er65 rf rb d).symm.trans h
 | 66 => fun (d : XPg) y h => (er66 rf rb d).symm.trans h
 | 67 => fun (d : XPg) y h => (er67 rf rb d).symm.trans h
 | 68 => fun (d : List UInt8) y h => (er68 rf rb d).symm.trans h
 | 69 => fun (d : List UInt8) y h => (er69 rf rb d).symm.trans h
 | 70 => fun (d : Int) y h => (er70 rf rb d).symm.trans h
 | 71 => fun (d : List UInt8) y h => (er71 rf rb d).symm.trans h
 | 72 => fun (d : List (List UInt8) × List UInt8) y h => (er72 rf rb d.1 d.2).symm.trans h
 | 73 => fun (d : List UInt8 × List UInt8) y h => (er73 rf rb d.1 d.2).symm.trans h
 | 74 => fun (d : List UInt8) y h => (er74 rf rb d).symm.trans h
 | 75 => fun (d : List UInt8) y h => (er75 rf rb d).symm.trans h
 | 76 => fun (d : List XUn) y h => (er76 rf rb d).symm.trans h
 | 77 => fun (d : List XUn) y h => (er77 rf rb d).symm.trans h
 | 78 => fun (d : List XUn) y h => (er78 rf rb d).symm.trans h
 | 79 => fun (d : XUn) y h => (er79 rf rb d).symm.trans h
 | 80 => fun (d : XUn) y h => (er80 rf rb d).symm.trans h
 | 81 => fun (d : List XPm) y h => (er81 rf rb d).symm.trans h
 | 82 => fun (d : List XPm) y h => (er82 rf rb d).symm.trans h
 | 83 => fun (d : List XPm) y h => (er83 rf rb d).symm.trans h
 | 84 => fun (d : XPm) y h => (er84 rf rb d).symm.trans h
 | 85 => fun (d : XPm) y h => (er85 rf rb d).symm.trans h
 | 86 => fun (d : List XEq) y h => (er86 rf rb d).symm.trans h
 | 87 => fun (d : List XEq) y h => (er87 rf rb d).symm.trans h
 | 88 => fun (d : List XEq) y h => (er88 rf rb d).symm.trans h
 | 89 => fun (d : XEq) y h => (er89 rf rb d).symm.trans h
 | 90 => fun (d : XEq) y h => (er90 rf rb d).symm.trans h
 | 91 => fun (d : List XN) y h => (er91 rf rb d).symm.trans h
 | 92 => fun (d : List XN) y h => (er92 rf rb d).symm.trans h
 | 93 => fun (d : XN) y h => (er93 rf rb d).symm.trans h
 | 94 => fun (d : XN) y h => (er94 rf rb d).symm.trans h
 | 95 => fun (d : XN × List Int) y h => (er95 rf rb d.1 d.2).symm.trans h
 | 96 => fun (d : List Bool × Bool) y h => (er96 rf rb d.1 d.2).symm.trans h
 | 97 => fun (d : List Bool × Bool) y h => (er97 rf rb d.1 d.2).symm.trans h
 | 98 => fun (d : List XN) y h => (er98 rf rb d).symm.trans h
 | 99 => fun (d : List XN) y h => (er99 rf rb d).symm.trans h
 | 100 => fun (d : List XN) y h => (er100 rf rb d).symm.trans h
 | 101 => fun (d : List XN) y h => (er101 rf rb d).symm.trans h
 | 102 => fun (d : XN) y h => (er102 rf rb d).symm.trans h
 | 103 => fun (d : List XIt) y h => (er103 rf rb d).symm.trans h
 | 104 => fun (d : List XIt) y h => (er104 rf rb d).symm.trans h
 | 105 => fun (d : List XIt) y h => (er105 rf rb d).symm.trans h
 | 106 => fun (d : XIt) y h => (er106 rf rb d).symm.trans h
 | 107 => fun (d : XIt) y h => (er107 rf rb d).symm.trans h
 | 108 => fun (d : List (List XN)) y h => (er108 rf rb d).symm.trans h
 | 109 => fun (d : List (List XN)) y h => (er109 rf rb d).symm.trans h
 | 110 => fun (d : List (List XN)) y h => (er110 rf rb d).symm.trans h
 | 111 => fun (d : List XN) y h => (er111 rf rb d).symm.trans h
 | 112 => fun (d : List XK × XUn) y h => (er112 rf rb d.1 d.2).symm.trans h
 | 113 => fun (d : List XK × List (List UInt8)) y h => (er113 rf rb d.1 d.2).symm.trans h
 | 114 => fun (d : List XK × List XPm) y h => (er114 rf rb d.1 d.2).symm.trans h
 | 115 => fun (d : List XK × List XPm × List UInt8) y h => (er115 rf rb d.1 d.2.1 d.2.2).symm.trans h
 | 116 => fun (d : List XK × XPm) y h => (er116 rf rb d.1 d.2).symm.trans h
 | 117 => fun (d : List XK × XIt) y h => (er117 rf rb d.1 d.2).symm.trans h
 | 118 => fun (d : List XK × List XN) y h => (er118 rf rb d.1 d.2).symm.trans h
 | 119 => fun (d : List XN) y h => (er119 rf rb d).symm.trans h
 | 120 => fun (d : List XN × List XK × Int) y h => (er120 rf rb d.1 d.2.1 d.2.2).symm.trans h
 | 121 => fun (d : Int) y h => (er121 rf rb d).symm.trans h
 | 122 => fun (d : Unit) y h => (er122 rf rb ).symm.trans h
 | 123 => fun (d : Int) y h => (er123 rf rb d).symm.trans h
 | 124 => fun (d : List XN × List XK × List (List UInt8)) y h => (er124 rf rb d.1 d.2.1 d.2.2).symm.trans h
 | 125 => fun (d : Bool) y h => (er125 rf rb d).symm.trans h
 | 126 => fun (d : Bool) y h => (er126 rf rb d).symm.trans h
 | 127 => fun (d : List XN × List XK × Int) y h => (er127 rf rb d.1 d.2.1 d.2.2).symm.trans h
 | 128 => fun (d : List XN × List XK × Int × Int) y h => (er128 rf rb d.1 d.2.1 d.2.2.1 d.2.2.2).symm.trans h
 | 129 => fun (d : Int) y h => (er129 rf rb d).symm.trans h
 | 130 => fun (d : List XK) y h => (er130 rf rb d).symm.trans h
 | 131 => fun (d : List XK × List (List XN) × List UInt8) y h => (er131 rf rb d.1 d.2.1 d.2.2).symm.trans h
 | 132 => fun (d : XPg) y h => (er132 rf rb d).symm.trans h
 | 133 => fun (d : List XUn) y h => ((er133 rf rb d).symm.trans (sr133 rf rb d)).trans h
 | 134 => fun (d : List XPm) y h => ((er134 rf rb d).symm.trans (sr134 rf rb d)).trans h
 | 135 => fun (d : List XEq) y h => ((er135 rf rb d).symm.trans (sr135 rf rb d)).trans h
 | 136 => fun (d : List XIt) y h => ((er136 rf rb d).symm.trans (sr136 rf rb d)).trans h
 | 137 => fun (d : List XN) y h => (er137 rf rb d).symm.trans h
 | 138 => fun (d : List XN × Int) y h => (er138 rf rb d.1 d.2).symm.trans h
 | 139 => fun (d : List XN × List XN × Int) y h => (er139 rf rb d.1 d.2.1 d.2.2).symm.trans h
 | 140 => fun (d : List (List XN)) y h => ((er140 rf rb d).symm.trans (sr140 rf rb d)).trans h
 | 141 => fun (d : XPg) y h => (er141 rf rb d).symm.trans h
 | 142 => fun (d : XUn) y h => (er142 rf rb d).symm.trans h
 | 143 => fun (d : List XN) y h => (er143 rf rb d).symm.trans h
 | 144 => fun (d : List XN × Int) y h => (er144 rf rb d.1 d.2).symm.trans h
 | 145 => fun (d : List XN) y h => (er145 rf rb d).symm.trans h
 | 146 => fun (d : XN) y h => (er146 rf rb d).symm.trans h
 | 147 => fun (d : XN) y h => (er147 rf rb d).symm.trans h
 | 148 => fun (d : List XN × Int) y h => (er148 rf rb d.1 d.2).symm.trans h
 | 149 => fun (d : List XN × List XN × Int) y h => (er149 rf rb d.1 d.2.1 d.2.2).symm.trans h
 | 150 => fun (d : XPg × XPg) y h => (er150 rf rb d.1 d.2).symm.trans h
 | 151 => fun (d : XUn × XUn) y h => (er151 rf rb d.1 d.2).symm.trans h
 | 152 => fun (d : List XPm × List XPm) y h => (er152 rf rb d.1 d.2).symm.trans h
 | 153 => fun (d : List XN × List XN) y h => (er153 rf rb d.1 d.2).symm.trans h
 | 154 => fun (d : List (List XN) × List (List XN)) y h => (er154 rf rb d.1 d.2).symm.trans h
 | 155 => fun (d : List UInt8) y h => (er155 rf rb d).symm.trans h
 | 156 => fun (d : XPg) y h => (er156 rf rb d).symm.trans h
 | 157 => fun (d : XPg × XPg) y h => (er157 rf rb d.1 d.2).symm.trans h
 | 158 => fun (d : XPg) y h => (er158 rf rb d).symm.trans h
 | n + 159 => fun _ _ h => by cases h
noncomputable def gB (rf : T.RF) (rb : T.RB) : T.RB := fun φ => match φ with
 | 0 => fun (d : XPg × Int) => b0 rf rb d.1 d.2
 | 1 => fun (d : XUn × Int) => b1 rf rb d.1 d.2
 | 2 => fun (d : XUn × Int) => b2 rf rb d.1 d.2
 | 3 => fun (d : XIt × Int) => b3 rf rb d.1 d.2
 | 6 => fun (d : XPm) => b6 rf rb d.1 d.2
 | 7 => fun (d : List UInt8 × Int × Int) => b7 rf rb d.1 d.2.1 d.2.2
 | 8 => fun (d : XPm) => b8 rf rb d.1 d.2
 | 9 => fun (d : List (List UInt8) × XPm) => b9 rf rb d.1 d.2.1 d.2.2
 | 10 => fun (d : XPm) => b10 rf rb d.1 d.2
 | 11 => fun (d : List (List UInt8) × XPm) => b11 rf rb d.1 d.2.1 d.2.2
 | 12 => fun (d : (Int × Int) × List XK × XPm) => b12 rf rb d.1 d.2.1 d.2.2.1 d.2.2.2
 | 13 => fun (d : XPm) => b13 rf rb d.1 d.2
 | 17 => fun (d : XR × List XPm) => b17 rf rb d.1 d.2
 | 22 => fun (d : List XN × List XN × Int × Int) => b22 rf rb d.1 d.2.1 d.2.2.1 d.2.2.2
 | 23 => fun (d : List XN × List Int × Int × List (List XN) × Int × Int) => b23 rf rb d.1 d.2.1 d.2.2.1 d.2.2.2.1 d.2.2.2.2.1 d.2.2.2.2.2
 | 25 => fun (d : XS × List (List XN)) => b25 rf rb d.1 d.2
 | 27 => fun (d : XS × List XN) => b27 rf rb d.1 d.2
 | 29 => fun (d : XS × List XN) => b29 rf rb d.1 d.2
 | 31 => fun (d : XS × List XN) => b31 rf rb d.1 d.2
 | 33 => fun (d : XS × List XN) => b33 rf rb d.1 d.2
 | 35 => fun (d : XS × List XN) => b35 rf rb d.1 d.2
 | 43 => fun (d : List Int × List XN × Int) => b43 rf rb d.1 d.2.1 d.2.2
 | 44 => fun (d : List Int × List Int × Int × Int) => b44 rf rb d.1 d.2.1 d.2.2.1 d.2.2.2
 | 46 => fun (d : (Int × Int) × List XK × Int) => b46 rf rb d.1 d.2.1 d.2.2
 | 47 => fun (d : XR × (Int × Int) × List XN × Int) => b47 rf rb d.1 d.2.1 d.2.2.1 d.2.2.2
 | 49 => fun (d : XR × List (List XN)) => b49 rf rb d.1 d.2
 | 50 => fun (d : XR × List XIt) => b50 rf rb d.1 d.2
 | 52 => fun (d : XR × List XPm) => b52 rf rb d.1 d.2
 | 54 => fun (d : XR × List XEq) => b54 rf rb d.1 d.2
 | 69 => fun (d : XR × List UInt8 × List UInt8 × List XUn) => b69 rf rb d.1 d.2.1 d.2.2.1 d.2.2.2
 | 70 => fun (d : List UInt8 × List UInt8 × (Int × Int) × XR × List UInt8 × List UInt8 × List XUn × List XUn) => b70 rf rb d.1 d.2.1 d.2.2.1 d.2.2.2.1 d.2.2.2.2.1 d.2.2.2.2.2.1 d.2.2.2.2.2.2.1 d.2.2.2.2.2.2.2
 | 71 => fun (d : List (List UInt8) × List UInt8 × Int × Int) => b71 rf rb d.1 d.2.1 d.2.2.1 d.2.2.2
 | 72 => fun (d : List XUn × Int × Int) => b72 rf rb d.1 d.2.1 d.2.2
 | 73 => fun (d : List XPm × Int × Int) => b73 rf rb d.1 d.2.1 d.2.2
 | 74 => fun (d : List XEq × Int × Int) => b74 rf rb d.1 d.2.1 d.2.2
 | 75 => fun (d : List Bool × List XN × List XN × Int × Int) => b75 rf rb d.1 d.2.1 d.2.2.1 d.2.2.2.1 d.2.2.2.2
 | 76 => fun (d : XN × Int) => b76 rf rb d.1 d.2
 | 77 => fun (d : XN × XN × Int) => b77 rf rb d.1 d.2.1 d.2.2
 | 78 => fun (d : List Bool × XN × List Int × List XN × Int × Int × Int) => b78 rf rb d.1 d.2.1 d.2.2.1 d.2.2.2.1 d.2.2.2.2.1 d.2.2.2.2.2.1 d.2.2.2.2.2.2
 | 79 => fun (d : List Bool × Bool × Int × Int) => b79 rf rb d.1 d.2.1 d.2.2.1 d.2.2.2
 | 86 => fun (d : List Int × List XN × Int × Int) => b86 rf rb d.1 d.2.1 d.2.2.1 d.2.2.2
 | 87 => fun (d : List Int × List Int × Int × Int × Int) => b87 rf rb d.1 d.2.1 d.2.2.1 d.2.2.2.1 d.2.2.2.2
 | 88 => fun (d : List XN × Int × Int) => b88 rf rb d.1 d.2.1 d.2.2
 | 89 => fun (d : List XIt × Int × Int) => b89 rf rb d.1 d.2.1 d.2.2
 | 90 => fun (d : List (List XN) × Int × Int) => b90 rf rb d.1 d.2.1 d.2.2
 | 93 => fun (d : List XK × List (List UInt8) × Int × Int) => b93 rf rb d.1 d.2.1 d.2.2.1 d.2.2.2
 | 95 => fun (d : List XK × List UInt8 × List XPm × Int × Int) => b95 rf rb d.1 d.2.1 d.2.2.1 d.2.2.2.1 d.2.2.2.2
 | 99 => fun (d : List XN × List XK × List (List UInt8) × Int × Int) => b99 rf rb d.1 d.2.1 d.2.2.1 d.2.2.2.1 d.2.2.2.2
 | 101 => fun (d : List XK × List UInt8 × List (List XN) × Int × Int) => b101 rf rb d.1 d.2.1 d.2.2.1 d.2.2.2.1 d.2.2.2.2
 | 106 => fun (d : XUn × List XK) => b106 rf rb d.1 d.2
 | 107 => fun (d : List XK × List XIt × Int × Int) => b107 rf rb d.1 d.2.1 d.2.2.1 d.2.2.2
 | 108 => fun (d : XUn × List XK) => b108 rf rb d.1 d.2
 | 109 => fun (d : List XK × List XEq × Int × Int) => b109 rf rb d.1 d.2.1 d.2.2.1 d.2.2.2
 | 110 => fun (d : List XK × List XUn × Int × Int) => b110 rf rb d.1 d.2.1 d.2.2.1 d.2.2.2
 | 120 => fun (d : List XN × List Int × List XN × Int × Int) => b120 rf rb d.1 d.2.1 d.2.2.1 d.2.2.2.1 d.2.2.2.2
 | 170 => fun (d : List UInt8 × List UInt8 × List XUn × Int × Int) => b170 rf rb d.1 d.2.1 d.2.2.1 d.2.2.2.1 d.2.2.2.2
 | 171 => fun (d : List XUn × Bool × List UInt8 × List UInt8 × Int × List XUn × List XPm × List XPm × List XEq × List XIt × Int) => b171 rf rb d.1 d.2.1 d.2.2.1 d.2.2.2.1 d.2.2.2.2.1 d.2.2.2.2.2.1 d.2.2.2.2.2.2.1 d.2.2.2.2.2.2.2.1 d.2.2.2.2.2.2.2.2.1 d.2.2.2.2.2.2.2.2.2.1 d.2.2.2.2.2.2.2.2.2.2
 | 172 => fun (d : List XUn × Bool × List UInt8 × List UInt8 × Int × List XUn × List XPm × List XPm × List XEq × List XIt × Int × Int × Int) => b172 rf rb d.1 d.2.1 d.2.2.1 d.2.2.2.1 d.2.2.2.2.1 d.2.2.2.2.2.1 d.2.2.2.2.2.2.1 d.2.2.2.2.2.2.2.1 d.2.2.2.2.2.2.2.2.1 d.2.2.2.2.2.2.2.2.2.1 d.2.2.2.2.2.2.2.2.2.2.1 d.2.2.2.2.2.2.2.2.2.2.2.1 d.2.2.2.2.2.2.2.2.2.2.2.2
 | 173 => fun (d : List XUn × Bool × List UInt8 × List UInt8 × Int × List XUn × List XPm × List XPm × List XEq × List XIt × Int × Int × Int) => b173 rf rb d.1 d.2.1 d.2.2.1 d.2.2.2.1 d.2.2.2.2.1 d.2.2.2.2.2.1 d.2.2.2.2.2.2.1 d.2.2.2.2.2.2.2.1 d.2.2.2.2.2.2.2.2.1 d.2.2.2.2.2.2.2.2.2.1 d.2.2.2.2.2.2.2.2.2.2.1 d.2.2.2.2.2.2.2.2.2.2.2.1 d.2.2.2.2.2.2.2.2.2.2.2.2
 | 174 => fun (d : List XIt × Int × List UInt8 × Int × List XIt × List XN × List XN × List (List XN) × Int) => b174 rf rb d.1 d.2.1 d.2.2.1 d.2.2.2.1 d.2.2.2.2.1 d.2.2.2.2.2.1 d.2.2.2.2.2.2.1 d.2.2.2.2.2.2.2.1 d.2.2.2.2.2.2.2.2
 | 175 => fun (d : List XIt × Int × List UInt8 × Int × List XIt × List XN × List XN × List (List XN) × Int × Int × Int) => b175 rf rb d.1 d.2.1 d.2.2.1 d.2.2.2.1 d.2.2.2.2.1 d.2.2.2.2.2.1 d.2.2.2.2.2.2.1 d.2.2.2.2.2.2.2.1 d.2.2.2.2.2.2.2.2.1 d.2.2.2.2.2.2.2.2.2.1 d.2.2.2.2.2.2.2.2.2.2
 | 178 => fun (d : List Int × List XN × Int) => b178 rf rb d.1 d.2.1 d.2.2
 | 179 => fun (d : List Int × List Int × Int × Int) => b179 rf rb d.1 d.2.1 d.2.2.1 d.2.2.2
 | 180 => fun (d : XN × List Int × List XN × Int) => b180 rf rb d.1 d.2.1 d.2.2.1 d.2.2.2
 | 181 => fun (d : List Int × List XN × Int) => b181 rf rb d.1 d.2.1 d.2.2
 | 183 => fun (d : List XN × List Int × List Int × List XN × Int) => b183 rf rb d.1 d.2.1 d.2.2.1 d.2.2.2.1 d.2.2.2.2
 | 198 => fun (d : XUn × Bool × List UInt8 × List UInt8 × Int × List XPm × List XPm × List XEq × List XIt × Int) => b198 rf rb d.1 d.2.1 d.2.2.1 d.2.2.2.1 d.2.2.2.2.1 d.2.2.2.2.2.1 d.2.2.2.2.2.2.1 d.2.2.2.2.2.2.2.1 d.2.2.2.2.2.2.2.2.1 d.2.2.2.2.2.2.2.2.2
 | 199 => fun (d : XUn × Bool × List UInt8 × List UInt8 × Int × List XPm × List XPm × List XEq × List XIt × Int) => b199 rf rb d.1 d.2.1 d.2.2.1 d.2.2.2.1 d.2.2.2.2.1 d.2.2.2.2.2.1 d.2.2.2.2.2.2.1 d.2.2.2.2.2.2.2.1 d.2.2.2.2.2.2.2.2.1 d.2.2.2.2.2.2.2.2.2
 | 200 => fun (d : XUn × Int × List UInt8 × Int × List XN × List XN × List (List XN) × Int × Int) => b200 rf rb d.1 d.2.1 d.2.2.1 d.2.2.2.1 d.2.2.2.2.1 d.2.2.2.2.2.1 d.2.2.2.2.2.2.1 d.2.2.2.2.2.2.2.1 d.2.2.2.2.2.2.2.2
 | 203 => fun (d : XPg × List UInt8 × List UInt8 × List XUn × Int) => b203 rf rb d.1 d.2.1 d.2.2.1 d.2.2.2.1 d.2.2.2.2
 | 204 => fun (d : XPg × XPg × Int) => b204 rf rb d.1 d.2.1 d.2.2
 | 205 => fun (d : List XPm × List XPm × Int) => b205 rf rb d.1 d.2.1 d.2.2
 | 206 => fun (d : XUn × XUn × Int) => b206 rf rb d.1 d.2.1 d.2.2
 | 207 => fun (d : List XN × List XN × Int) => b207 rf rb d.1 d.2.1 d.2.2
 | 208 => fun (d : XUn × XUn × Int) => b208 rf rb d.1 d.2.1 d.2.2
 | 209 => fun (d : List (List XN) × List (List XN) × Int) => b209 rf rb d.1 d.2.1 d.2.2
 | _ => fun _ => none
theorem gB_ok (rf : T.RF) (rb : T.RB) : ∀ φ d y, gB rf rb φ d = some y → T.stepB rf rb φ d = some y := fun φ => match φ with
 | 0 => fun (d : XPg × Int) y h => (eb0 rf rb d.1 d.2).symm.trans h
 | 1 => fun (d : XUn × Int) y h => (eb1 rf rb d.1 d.2).symm.trans h
 | 2 => fun (d : XUn × Int) y h => (eb2 rf rb d.1 d.2).symm.trans h
 | 3 => fun (d : XIt × Int) y h => (eb3 rf rb d.1 d.2).symm.trans h
 | 4 => fun _ _ h => by cases h
 | 5 => fun _ _ h => by cases h
 | 6 => fun (d : XPm) y h => (eb6 rf rb d.1 d.2).symm.trans h
 | 7 => fun (d : List UInt8 × Int × Int) y h => (eb7 rf rb d.1 d.2.1 d.2.2).symm.trans h
 | 8 => fun (d : XPm) y h => (eb8 rf rb d.1 d.2).symm.trans h
 | 9 => fun (d : List (List UInt8) × XPm) y h => (eb9 rf rb d.1 d.2.1 d.2.2).symm.trans h
 | 10 => fun (d : XPm) y h => (eb10 rf rb d.1 d.2).symm.trans h
 | 11 => fun (d : List (List UInt8) × XPm) y h => (eb11 rf rb d.1 d.2.1 d.2.2).symm.trans h
 | 12 => fun (d : (Int × Int) × List XK × XPm) y h => (eb12 rf rb d.1 d.2.1 d.2.2.1 d.2.2.2).symm.trans h
 | 13 => fun (d : XPm) y h => (eb13 rf rb d.1 d.2).symm.trans h
 | 14 => fun _ _ h => by cases h
 | 15 => fun _ _ h => by cases h
 | 16 => fun _ _ h => by cases h
 | 17 => fun (d : XR × List XPm) y h => (eb17 rf rb d.1 d.2).symm.trans h
 | 18 => fun _ _ h => by cases h
 | 19 => fun _ _ h => by cases h
 | 20 => fun _ _ h => by cases h
 | 21 => fun _ _ h => by cases h
 | 22 => fun (d : List XN × List XN × Int × Int) y h => (eb22 rf rb d.1 d.2.1 d.2.2.1 d.2.2.2).symm.trans h
 | 23 => fun (d : List XN × List Int × Int × List (List XN) × Int × Int) y h => (eb23 rf rb d.1 d.2.1 d.2.2.1 d.2.2.2.1 d.2.2.2.2.1 d.2.2.2.2.2).symm.trans h
 | 24 => fun _ _ h => by cases h
 | 25 => fun (d : XS × List (List XN)) y h => (eb25 rf rb d.1 d.2).symm.trans h
 | 26 => fun _ _ h => by cases h
 | 27 => fun (d : XS × List XN) y h => (eb27 rf rb d.1 d.2).symm.trans h
 | 28 => fun _ _ h => by cases h
 | 29 => fun (d : XS × List XN) y h => (eb29 rf rb d.1 d.2).symm.trans h
 | 30 => fun _ _ h => by cases h
 | 31 => fun (d : XS × List XN) y h => (eb31 rf rb d.1 d.2).symm.trans h
 | 32 => fun _ _ h => by cases h
 | 33 => fun (d : XS × List XN) y h => (eb33 rf rb d.1 d.2).symm.trans h
 | 34 => fun _ _ h => by cases h
 | 35 => fun (d : XS × List XN) y h => (eb35 rf rb d.1 d.2).symm.trans h
 | 36 => fun _ _ h => by cases h
 | 37 => fun _ _ h => by cases h
 | 38 => fun _ _ h => by cases h
 | 39 => fun _ _ h => by cases h
 | 40 => fun _ _ h => by cases h
 | 41 => fun _ _ h => by cases h
 | 42 => fun _ _ h => by cases h
 | 43 => fun (d : List Int × List XN × Int) y h => (eb43 rf rb d.1 d.2.1 d.2.2).symm.trans h
 | 44 => fun (d : List Int × List Int × Int × Int) y h => ((eb44 rf rb d.1 d.2.1 d.2.2.1 d.2.2.2).symm.trans (sb44 rf rb d.1 d.2.1 d.2.2.1 d.2.2.2)).trans h
 | 45 => fun _ _ h => by cases h
 | 46 => fun (d : (Int × Int) × List XK × Int) y h => (eb46 rf rb d.1 d.2.1 d.2.2).symm.trans h
 | 47 => fun (d : XR × (Int × Int) × List XN × Int) y h => (eb47 rf rb d.1 d.2.1 d.2.2.1 d.2.2.2).symm.trans h
 | 48 => fun _ _ h => by cases h
 | 49 => fun (d : XR × List (List XN)) y h => (eb49 rf rb d.1 d.2).symm.trans h
 | 50 => fun (d : XR × List XIt) y h => (eb50 rf rb d.1 d.2).symm.trans h
 | 51 => fun _ _ h => by cases h
 | 52 => fun (d : XR × List XPm) y h => (eb52 rf rb d.1 d.2).symm.trans h
 | 53 => fun _ _ h => by cases h
 | 54 => fun (d : XR × List XEq) y h => (eb54 rf rb d.1 d.2).symm.trans h
 | 55 => fun _ _ h => by cases h
 | 56 => fun _ _ h => by cases h
 | 57 => fun _ _ h => by cases h
 | 58 => fun _ _ h => by cases h
 | 59 => fun _ _ h => by cases h
 | 60 => fun _ _ h => by cases h
 | 61 => fun _ _ h => by cases h
 | 62 => fun _ _ h => by cases h
 | 63 => fun _ _ h => by cases h
 | 64 => fun _ _ h => by cases h
 | 65 => fun _ _ h => by cases h
 | 66 => fun _ _ h => by cases h
 | 67 => fun _ _ h => by cases h
 | 68 => fun _ _ h => by cases h
 | 69 => fun (d : XR × List UInt8 × List UInt8 × List XUn) y h => ((eb69 rf rb d.1 d.2.1 d.2.2.1 d.2.2.2).symm.trans (sb69 rf rb d.1 d.2.1 d.2.2.1 d.2.2.2)).trans h
 | 70 => fun (d : List UInt8 × List UInt8 × (Int × Int) × XR × List UInt8 × List UInt8 × List XUn × List XUn) y h => ((eb70 rf rb d.1 d.2.1 d.2.2.1 d.2.2.2.1 d.2.2.2.2.1 d.2.2.2.2.2.1 d.2.2.2.2.2.2.1 d.2.2.2.2.2.2.2).symm.trans (sb70 rf rb d.1 d.2.1 d.2.2.1 d.2.2.2.1 d.2.2.2.2.1 d.2.2.2.2.2.1 d.2.2.2.2.2.2.1 d.2.2.2.2.2.2.2)).trans h
 | 71 => fun (d : List (List UInt8) × List UInt8 × Int × Int) y h => (eb71 rf rb d.1 d.2.1 d.2.2.1 d.2.2.2).symm.trans h
 | 72 => fun (d : List XUn × Int × Int) y h => (eb72 rf rb d.1 d.2.1 d.2.2).symm.trans h
 | 73 => fun (d : List XPm × Int × Int) y h => (eb73 rf rb d.1 d.2.1 d.2.2).symm.trans h
 | 74 => fun (d : List XEq × Int × Int) y h => (eb74 rf rb d.1 d.2.1 d.2.2).symm.trans h
 | 75 => fun (d : List Bool × List XN × List XN × Int × Int) y h => (eb75 rf rb d.1 d.2.1 d.2.2.1 d.2.2.2.1 d.2.2.2.2).symm.trans h
 | 76 => fun (d : XN × Int) y h => ((eb76 rf rb d.1 d.2).symm.trans (sb76 rf rb d.1 d.2)).trans h
 | 77 => fun (d : XN × XN × Int) y h => (eb77 rf rb d.1 d.2.1 d.2.2).symm.trans h
 | 78 => fun (d : List Bool × XN × List Int × List XN × Int × Int × Int) y h => (eb78 rf rb d.1 d.2.1 d.2.2.1 d.2.2.2.1 d.2.2.2.2.1 d.2.2.2.2.2.1 d.2.2.2.2.2.2).symm.trans h
 | 79 => fun (d : List Bool × Bool × Int × Int) y h => (eb79 rf rb d.1 d.2.1 d.2.2.1 d.2.2.2).symm.trans h
 | 80 => fun _ _ h => by cases h
 | 81 => fun _ _ h => by cases h
 | 82 => fun _ _ h => by cases h
 | 83 => fun _ _ h => by cases h
 | 84 => fun _ _ h => by cases h
 | 85 => fun _ _ h => by cases h
 | 86 => fun (d : List Int × List XN × Int × Int) y h => (eb86 rf rb d.1 d.2.1 d.2.2.1 d.2.2.2).symm.trans h
 | 87 => fun (d : List Int × List Int × Int × Int × Int) y h => ((eb87 rf rb d.1 d.2.1 d.2.2.1 d.2.2.2.1 d.2.2.2.2).symm.trans (sb87 rf rb d.1 d.2.1 d.2.2.1 d.2.2.2.1 d.2.2.2.2)).trans h
 | 88 => fun (d : List XN × Int × Int) y h => (eb88 rf rb d.1 d.2.1 d.2.2).symm.trans h
 | 89 => fun (d : List XIt × Int × Int) y h => (eb89 rf rb d.1 d.2.1 d.2.2).symm.trans h
 | 90 => fun (d : List (List XN) × Int × Int) y h => (eb90 rf rb d.1 d.2.1 d.2.2).symm.trans h
 | 91 => fun _ _ h => by cases h
 | 92 => fun _ _ h => by cases h
 | 93 => fun (d : List XK × List (List UInt8) × Int × Int) y h => (eb93 rf rb d.1 d.2.1 d.2.2.1 d.2.2.2).symm.trans h
 | 94 => fun _ _ h => by cases h
 | 95 => fun (d : List XK × List UInt8 × List XPm × Int × Int) y h => (eb95 rf rb d.1 d.2.1 d.2.2.1 d.2.2.2.1 d.2.2.2.2).symm.trans h
 | 96 => fun _ _ h => by cases h
 | 97 => fun _ _ h => by cases h
 | 98 => fun _ _ h => by cases h
 | 99 => fun (d : List XN × List XK × List (List UInt8) × Int × Int) y h => (eb99 rf rb d.1 d.2.1 d.2.2.1 d.2.2.2.1 d.2.2.2.2).symm.trans h
 | 100 => fun _ _ h => by cases h
 | 101 => fun (d : List XK × List UInt8 × List (List XN) × Int × Int) y h => (eb101 rf rb d.1 d.2.1 d.2.2.1 d.2.2.2.1 d.2.2.2.2).symm.trans h
 | 102 => fun _ _ h => by cases h
 | 103 => fun _ _ h => by cases h
 | 104 => fun _ _ h => by cases h
 | 105 => fun _ _ h => by cases h
 | 106 => fun (d : XUn × List XK) y h => (eb106 rf rb d.1 d.2).symm.trans h
 | 107 => fun (d : List XK × List XIt × Int × Int) y h => (eb107 rf rb d.1 d.2.1 d.2.2.1 d.2.2.2).symm.trans h
 | 108 => fun (d : XUn × List XK) y h => (eb108 rf rb d.1 d.2).symm.trans h
 | 109 => fun (d : List XK × List XEq × Int × Int) y h => (eb109 rf rb d.1 d.2.1 d.2.2.1 d.2.2.2).symm.trans h
 | 110 => fun (d : List XK × List XUn × Int × Int) y h => (eb110 rf rb d.1 d.2.1 d.2.2.1 d.2.2.2).symm.trans h
 | 111 => fun _ _ h => by cases h
 | 112 => fun _ _ h => by cases h
 | 113 => fun _ _ h => by cases h
 | 114 => fun _ _ h => by cases h
 | 115 => fun _ _ h => by cases h
 | 116 => fun _ _ h => by cases h
 | 117 => fun _ _ h => by cases h
 | 118 => fun _ _ h => by cases h
 | 119 => fun _ _ h => by cases h
 | 120 => fun (d : List XN × List Int × List XN × Int × Int) y h => (eb120 rf rb d.1 d.2.1 d.2.2.1 d.2.2.2.1 d.2.2.2.2).symm.trans h
 | 121 => fun _ _ h => by cases h
 | 122 => fun _ _ h => by cases h
 | 123 => fun _ _ h => by cases h
 | 124 => fun _ _ h => by cases h
 | 125 => fun _ _ h => by cases h
 | 126 => fun _ _ h => by cases h
 | 127 => fun _ _ h => by cases h
 | 128 => fun _ _ h => by cases h
 | 129 => fun _ _ h => by cases h
 | 130 => fun _ _ h => by cases h
 | 131 => fun _ _ h => by cases h
 | 132 => fun _ _ h => by cases h
 | 133 => fun _ _ h => by cases h
 | 134 => fun _ _ h => by cases h
 | 135 => fun _ _ h => by cases h
 | 136 => fun _ _ h => by cases h
 | 137 => fun _ _ h => by cases h
 | 138 => fun _ _ h => by cases h
 | 139 => fun _ _ h => by cases h
 | 140 => fun _ _ h => by cases h
 | 141 => fun _ _ h => by cases h
 | 142 => fun _ _ h => by cases h
 | 143 => fun _ _ h => by cases h
 | 144 => fun _ _ h => by cases h
 | 145 => fun _ _ h => by cases h
 | 146 => fun _ _ h => by cases h
 | 147 => fun _ _ h => by cases h
 | 148 => fun _ _ h => by cases h
 | 149 => fun _ _ h => by cases h
 | 150 => fun _ _ h => by cases h
 | 151 => fun _ _ h => by cases h
 | 152 => fun _ _ h => by cases h
 | 153 => fun _ _ h => by cases h
 | 154 => fun _ _ h => by cases h
 | 155 => fun _ _ h => by cases h
 | 156 => fun _ _ h => by cases h
 | 157 => fun _ _ h => by cases h
 | 158 => fun _ _ h => by cases h
 | 159 => fun _ _ h => by cases h
 | 160 => fun _ _ h => by cases h
 | 161 => fun _ _ h => by cases h
 | 162 => fun _ _ h => by cases h
 | 163 => fun _ _ h => by cases h
 | 164 => fun _ _ h => by cases h
 | 165 => fun _ _ h => by cases h
 | 166 => fun _ _ h => by cases h
 | 167 => fun _ _ h => by cases h
 | 168 => fun _ _ h => by cases h
 | 169 => fun _ _ h => by cases h
 | 170 => fun (d : List UInt8 × List UInt8 × List XUn × Int × Int) y h => ((eb170 rf rb d.1 d.2.1 d.2.2.1 d.2.2.2.1 d.2.2.2.2).symm.trans (sb170 rf rb d.1 d.2.1 d.2.2.1 d.2.2.2.1 d.2.2.2.2)).trans h
 | 171 => fun (d : List XUn × Bool × List UInt8 × List UInt8 × Int × List XUn × List XPm × List XPm × List XEq × List XIt × Int) y h => (eb171 rf rb d.1 d.2.1 d.2.2.1 d.2.2.2.1 d.2.2.2.2.1 d.2.2.2.2.2.1 d.2.2.2.2.2.2.1 d.2.2.2.2.2.2.2.1 d.2.2.2.2.2.2.2.2.1 d.2.2.2.2.2.2.2.2.2.1 d.2.2.2.2.2.2.2.2.2.2).symm.trans h
 | 172 => fun (d : List XUn × Bool × List UInt8 × List UInt8 × Int × List XUn × List XPm × List XPm × List XEq × List XIt × Int × Int × Int) y h => ((eb172 rf rb d.1 d.2.1 d.2.2.1 d.2.2.2.1 d.2.2.2.2.1 d.2.2.2.2.2.1 d.2.2.2.2.2.2.1 d.2.2.2.2.2.2.2.1 d.2.2.2.2.2.2.2.2.1 d.2.2.2.2.2.2.2.2.2.1 d.2.2.2.2.2.2.2.2.2.2.1 d.2.2.2.2.2.2.2.2.2.2.2.1 d.2.2.2.2.2.2.2.2.2.2.2.2).symm.trans (sb172 rf rb d.1 d.2.1 d.2.2.1 d.2.2.2.1 d.2.2.2.2.1 d.2.2.2.2.2.1 d.2.2.2.2.2.2.1 d.2.2.2.2.2.2.2.1 d.2.2.2.2.2.2.2.2.1 d.2.2.2.2.2.2.2.2.2.1 d.2.2.2.2.2.2.2.2.2.2.1 d.2.2.2.2.2.2.2.2.2.2.2.1 d.2.2.2.2.2.2.2.2.2.2.2.2)).trans h
 | 173 => fun (d : List XUn × Bool × List UInt8 × List UInt8 × Int × List XUn × List XPm × List XPm × List XEq × List XIt × Int × Int × Int) y h => ((eb173 rf rb d.1 d.2.1 d.2.2.1 d.2.2.2.1 d.2.2.2.2.1 d.2.2.2.2.2.1 d.2.2.2.2.2.2.1 d.2.2.2.2.2.2.2.1 d.2.2.2.2.2.2.2.2.1 d.2.2.2.2.2.2.2.2.2.1 d.2.2.2.2.2.2.2.2.2.2.1 d.2.2.2.2.2.2.2.2.2.2.2.1 d.2.2.2.2.2.2.2.2.2.2.2.2).symm.trans (sb173 rf rb d.1 d.2.1 d.2.2.1 d.2.2.2.1 d.2.2.2.2.1 d.2.2.2.2.2.1 d.2.2.2.2.2.2.1 d.2.2.2.2.2.2.2.1 d.2.2.2.2.2.2.2.2.1 d.2.2.2.2.2.2.2.2.2.1 d.2.2.2.2.2.2.2.2.2.2.1 d.2.2.2.2.2.2.2.2.2.2.2.1 d.2.2.2.2.2.2.2.2.2.2.2.2)).trans h
 | 174 => fun (d : List XIt × Int × List UInt8 × Int × List XIt × List XN × List XN × List (List XN) × Int) y h => (eb174 rf rb d.1 d.2.1 d.2.2.1 d.2.2.2.1 d.2.2.2.2.1 d.2.2.2.2.2.1 d.2.2.2.2.2.2.1 d.2.2.2.2.2.2.2.1 d.2.2.2.2.2.2.2.2).symm.trans h
 | 175 => fun (d : List XIt × Int × List UInt8 × Int × List XIt × List XN × List XN × List (List XN) × Int × Int × Int) y h => ((eb175 rf rb d.1 d.2.1 d.2.2.1 d.2.2.2.1 d.2.2.2.2.1 d.2.2.2.2.2.1 d.2.2.2.2.2.2.1 d.2.2.2.2.2.2.2.1 d.2.2.2.2.2.2.2.2.1 d.2.2.2.2.2.2.2.2.2.1 d.2.2.2.2.2.2.2.2.2.2).symm.trans (sb175 rf rb d.1 d.2.1 d.2.2.1 d.2.2.2.1 d.2.2.2.2.1 d.2.2.2.2.2.1 d.2.2.2.2.2.2.1 d.2.2.2.2.2.2.2.1 d.2.2.2.2.2.2.2.2.1 d.2.2.2.2.2.2.2.2.2.1 d.2.2.2.2.2.2.2.2.2.2)).trans h
 | 176 => fun _ _ h => by cases h
 | 177 => fun _ _ h => by cases h
 | 178 => fun (d : List Int × List XN × Int) y h => (eb178 rf rb d.1 d.2.1 d.2.2).symm.trans h
 | 179 => fun (d : List Int × List Int × Int × Int) y h => (eb179 rf rb d.1 d.2.1 d.2.2.1 d.2.2.2).symm.trans h
 | 180 => fun (d : XN × List Int × List XN × Int) y h => (eb180 rf rb d.1 d.2.1 d.2.2.1 d.2.2.2).symm.trans h
 | 181 => fun (d : List Int × List XN × Int) y h => (eb181 rf rb d.1 d.2.1 d.2.2).symm.trans h
 | 182 => fun _ _ h => by cases h
 | 183 => fun (d : List XN × List Int × List Int × List XN × Int) y h => (eb183 rf rb d.1 d.2.1 d.2.2.1 d.2.2.2.1 d.2.2.2.2).symm.trans h
 | 184 => fun _ _ h => by cases h
 | 185 => fun _ _ h => by cases h
 | 186 => fun _ _ h => by cases h
 | 187 => fun _ _ h => by cases h
 | 188 => fun _ _ h => by cases h
 | 189 => fun _ _ h => by cases h
 | 190 => fun _ _ h => by cases h
 | 191 => fun _ _ h => by cases h
 | 192 => fun _ _ h => by cases h
 | 193 => fun _ _ h => by cases h
 | 194 => fun _ _ h => by cases h
 | 195 => fun _ _ h => by cases h
 | 196 => fun _ _ h => by cases h
 | 197 => fun _ _ h => by cases h
 | 198 => fun (d : XUn × Bool × List UInt8 × List UInt8 × Int × List XPm × List XPm × List XEq × List XIt × Int) y h => ((eb198 rf rb d.1 d.2.1 d.2.2.1 d.2.2.2.1 d.2.2.2.2.1 d.2.2.2.2.2.1 d.2.2.2.2.2.2.1 d.2.2.2.2.2.2.2.1 d.2.2.2.2.2.2.2.2.1 d.2.2.2.2.2.2.2.2.2).symm.trans (sb198 rf rb d.1 d.2.1 d.2.2.1 d.2.2.2.1 d.2.2.2.2.1 d.2.2.2.2.2.1 d.2.2.2.2.2.2.1 d.2.2.2.2.2.2.2.1 d.2.2.2.2.2.2.2.2.1 d.2.2.2.2.2.2.2.2.2)).trans h
 | 199 => fun (d : XUn × Bool × List UInt8 × List UInt8 × Int × List XPm × List XPm × List XEq × List XIt × Int) y h => (eb199 rf rb d.1 d.2.1 d.2.2.1 d.2.2.2.1 d.2.2.2.2.1 d.2.2.2.2.2.1 d.2.2.2.2.2.2.1 d.2.2.2.2.2.2.2.1 d.2.2.2.2.2.2.2.2.1 d.2.2.2.2.2.2.2.2.2).symm.trans h
 | 200 => fun (d : XUn × Int × List UInt8 × Int × List XN × List XN × List (List XN) × Int × Int) y h => ((eb200 rf rb d.1 d.2.1 d.2.2.1 d.2.2.2.1 d.2.2.2.2.1 d.2.2.2.2.2.1 d.2.2.2.2.2.2.1 d.2.2.2.2.2.2.2.1 d.2.2.2.2.2.2.2.2).symm.trans (sb200 rf rb d.1 d.2.1 d.2.2.1 d.2.2.2.1 d.2.2.2.2.1 d.2.2.2.2.2.1 d.2.2.2.2.2.2.1 d.2.2.2.2.2.2.2.1 d.2.2.2.2.2.2.2.2)).trans h
 | 201 => fun _ _ h => by cases h
 | 202 => fun _ _ h => by cases h
 | 203 => fun (d : XPg × List UInt8 × List UInt8 × List XUn × Int) y h => ((eb203 rf rb d.1 d.2.1 d.2.2.1 d.2.2.2.1 d.2.2.2.2).symm.trans (sb203 rf rb d.1 d.2.1 d.2.2.1 d.2.2.2.1 d.2.2.2.2)).trans h
 | 204 => fun (d : XPg × XPg × Int) y h => (eb204 rf rb d.1 d.2.1 d.2.2).symm.trans h
 | 205 => fun (d : List XPm × List XPm × Int) y h => (eb205 rf rb d.1 d.2.1 d.2.2).symm.trans h
 | 206 => fun (d : XUn × XUn × Int) y h => (eb206 rf rb d.1 d.2.1 d.2.2).symm.trans h
 | 207 => fun (d : List XN × List XN × Int) y h => (eb207 rf rb d.1 d.2.1 d.2.2).symm.trans h
 | 208 => fun (d : XUn × XUn × Int) y h => (eb208 rf rb d.1 d.2.1 d.2.2).symm.trans h
 | 209 => fun (d : List (List XN) × List (List XN) × Int) y h => (eb209 rf rb d.1 d.2.1 d.2.2).symm.trans h
 | n + 210 => fun _ _ h => by cases h
noncomputable def G : Nat → T.RF × T.RB
 | 0 => (fun _ _ => none, fun _ _ => none)
 | n + 1 => (gF (G n).1 (G n).2, gB (G n).1 (G n).2)
theorem run_F (n : Nat) {φ : Nat} {d} {y} (h : (G n).1 φ d = some y) : T.rf φ d = some y := (Tbl.approx gF_ok gB_ok rfl (fun _ => rfl) n).1 φ d y h
theorem live_run : c2 T.rf = some true := run_F 400 (φ := 2) (d := ()) (by kernel_rfl)
end Go.Proofs.YtlobhcgbmpcdlaaGreatDoor.R
