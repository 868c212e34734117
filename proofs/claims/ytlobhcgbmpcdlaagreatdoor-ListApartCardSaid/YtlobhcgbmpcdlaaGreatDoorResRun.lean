import Derived.Test.YtlobhcgbmpcdlaaGreatDoorRes
import Derived.Test.YtlobhcgbmpcdlaaGreatDoorBmX3
import Derived.KernelRfl
namespace Go.Proofs.YtlobhcgbmpcdlaaGreatDoor.R
open Go Go.Bm Go.Proofs
set_option linter.unusedVariables false
set_option maxRecDepth 100000
noncomputable def gF (rf : T.RF) (rb : T.RB) : T.RF := fun φ => match φ with
 | 0 => r0 rf rb
 | 1 => r1 rf rb
 | 2 => U0 (r2 rf rb)
 | 3 => r3 rf rb
 | 4 => r4 rf rb
 | 5 => U2 (r5 rf rb)
 | 6 => r6 rf rb
 | 7 => r7 rf rb
 | 8 => r8 rf rb
 | 9 => U2 (r9 rf rb)
 | 10 => r10 rf rb
 | 11 => U0 (r11 rf rb)
 | 12 => r12 rf rb
 | 13 => r13 rf rb
 | 14 => U0 (r14 rf rb)
 | 15 => U5 (r15 rf rb)
 | 16 => U4 (r16 rf rb)
 | 17 => U5 (r17 rf rb)
 | 18 => U5 (r18 rf rb)
 | 19 => U2 (r19 rf rb)
 | 20 => r20 rf rb
 | 21 => U2 (r21 rf rb)
 | 22 => U2 (r22 rf rb)
 | 23 => r23 rf rb
 | 24 => r24 rf rb
 | 25 => r25 rf rb
 | 26 => U2 (r26 rf rb)
 | 27 => r27 rf rb
 | 28 => U2 (r28 rf rb)
 | 29 => U2 (r29 rf rb)
 | 30 => r30 rf rb
 | 31 => r31 rf rb
 | 32 => r32 rf rb
 | 33 => r33 rf rb
 | 34 => r34 rf rb
 | 35 => U2 (r35 rf rb)
 | 36 => r36 rf rb
 | 37 => r37 rf rb
 | 38 => r38 rf rb
 | 39 => r39 rf rb
 | 40 => r40 rf rb
 | 41 => r41 rf rb
 | 42 => r42 rf rb
 | 43 => r43 rf rb
 | 44 => r44 rf rb
 | 45 => U2 (r45 rf rb)
 | 46 => U2 (r46 rf rb)
 | 47 => U4 (r47 rf rb)
 | 48 => U3 (r48 rf rb)
 | 49 => r49 rf rb
 | 50 => U2 (r50 rf rb)
 | 51 => U2 (r51 rf rb)
 | 52 => U2 (r52 rf rb)
 | 53 => U2 (r53 rf rb)
 | 54 => U2 (r54 rf rb)
 | 55 => U2 (r55 rf rb)
 | 56 => r56 rf rb
 | 57 => U2 (r57 rf rb)
 | 58 => r58 rf rb
 | 59 => r59 rf rb
 | 60 => r60 rf rb
 | 61 => U4 (r61 rf rb)
 | 62 => r62 rf rb
 | 63 => r63 rf rb
 | 64 => r64 rf rb
 | 65 => r65 rf rb
 | 66 => r66 rf rb
 | 67 => r67 rf rb
 | 68 => r68 rf rb
 | 69 => r69 rf rb
 | 70 => r70 rf rb
 | 71 => r71 rf rb
 | 72 => U2 (r72 rf rb)
 | 73 => U2 (r73 rf rb)
 | 74 => r74 rf rb
 | 75 => r75 rf rb
 | 76 => r76 rf rb
 | 77 => r77 rf rb
 | 78 => r78 rf rb
 | 79 => r79 rf rb
 | 80 => r80 rf rb
 | 81 => r81 rf rb
 | 82 => r82 rf rb
 | 83 => r83 rf rb
 | 84 => r84 rf rb
 | 85 => r85 rf rb
 | 86 => r86 rf rb
 | 87 => r87 rf rb
 | 88 => r88 rf rb
 | 89 => r89 rf rb
 | 90 => r90 rf rb
 | 91 => r91 rf rb
 | 92 => r92 rf rb
 | 93 => r93 rf rb
 | 94 => r94 rf rb
 | 95 => U2 (r95 rf rb)
 | 96 => U2 (r96 rf rb)
 | 97 => U2 (r97 rf rb)
 | 98 => r98 rf rb
 | 99 => r99 rf rb
 | 100 => r100 rf rb
 | 101 => r101 rf rb
 | 102 => r102 rf rb
 | 103 => r103 rf rb
 | 104 => r104 rf rb
 | 105 => r105 rf rb
 | 106 => r106 rf rb
 | 107 => r107 rf rb
 | 108 => r108 rf rb
 | 109 => r109 rf rb
 | 110 => r110 rf rb
 | 111 => r111 rf rb
 | 112 => U2 (r112 rf rb)
 | 113 => U2 (r113 rf rb)
 | 114 => U2 (r114 rf rb)
 | 115 => U3 (r115 rf rb)
 | 116 => U2 (r116 rf rb)
 | 117 => U2 (r117 rf rb)
 | 118 => U2 (r118 rf rb)
 | 119 => r119 rf rb
 | 120 => U3 (r120 rf rb)
 | 121 => r121 rf rb
 | 122 => U0 (r122 rf rb)
 | 123 => r123 rf rb
 | 124 => U3 (r124 rf rb)
 | 125 => r125 rf rb
 | 126 => r126 rf rb
 | 127 => U3 (r127 rf rb)
 | 128 => U4 (r128 rf rb)
 | 129 => r129 rf rb
 | 130 => r130 rf rb
 | 131 => U3 (r131 rf rb)
 | 132 => r132 rf rb
 | 133 => r133 rf rb
 | 134 => r134 rf rb
 | 135 => r135 rf rb
 | 136 => r136 rf rb
 | 137 => r137 rf rb
 | 138 => U2 (r138 rf rb)
 | 139 => U3 (r139 rf rb)
 | 140 => r140 rf rb
 | 141 => r141 rf rb
 | 142 => r142 rf rb
 | 143 => r143 rf rb
 | 144 => U2 (r144 rf rb)
 | 145 => r145 rf rb
 | 146 => r146 rf rb
 | 147 => r147 rf rb
 | 148 => U2 (r148 rf rb)
 | 149 => U3 (r149 rf rb)
 | 150 => U2 (r150 rf rb)
 | 151 => U2 (r151 rf rb)
 | 152 => U2 (r152 rf rb)
 | 153 => U2 (r153 rf rb)
 | 154 => U2 (r154 rf rb)
 | 155 => r155 rf rb
 | 156 => r156 rf rb
 | 157 => U2 (r157 rf rb)
 | 158 => r158 rf rb
 | _ => fun _ => none
theorem gF_ok (rf : T.RF) (rb : T.RB) : ∀ φ d y, gF rf rb φ d = some y → T.stepF rf rb φ d = some y := fun φ => match φ with
 | 0 => fun d _ h => (er0 rf rb d).symm.trans h
 | 1 => fun d _ h => (er1 rf rb d).symm.trans h
 | 2 => fun d _ h => (er2 rf rb d).symm.trans h
 | 3 => fun d _ h => (er3 rf rb d).symm.trans h
 | 4 => fun d _ h => (er4 rf rb d).symm.trans h
 | 5 => fun d _ h => (er5 rf rb d).symm.trans h
 | 6 => fun d _ h => (er6 rf rb d).symm.trans h
 | 7 => fun d _ h => (er7 rf rb d).symm.trans h
 | 8 => fun d _ h => (er8 rf rb d).symm.trans h
 | 9 => fun d _ h => (er9 rf rb d).symm.trans h
 | 10 => fun d _ h => (er10 rf rb d).symm.trans h
 | 11 => fun d _ h => (er11 rf rb d).symm.trans h
 | 12 => fun d _ h => (er12 rf rb d).symm.trans h
 | 13 => fun d _ h => (er13 rf rb d).symm.trans h
 | 14 => fun d _ h => (er14 rf rb d).symm.trans h
 | 15 => fun d _ h => (er15 rf rb d).symm.trans ((sr15 rf rb d.1 d.2.1 d.2.2.1 d.2.2.2.1 d.2.2.2.2).trans h)
 | 16 => fun d _ h => (er16 rf rb d).symm.trans h
 | 17 => fun d _ h => (er17 rf rb d).symm.trans h
 | 18 => fun d _ h => (er18 rf rb d).symm.trans ((sr18 rf rb d.1 d.2.1 d.2.2.1 d.2.2.2.1 d.2.2.2.2).trans h)
 | 19 => fun d _ h => (er19 rf rb d).symm.trans h
 | 20 => fun d _ h => (er20 rf rb d).symm.trans h
 | 21 => fun d _ h => (er21 rf rb d).symm.trans h
 | 22 => fun d _ h => (er22 rf rb d).symm.trans ((sr22 rf rb d.1 d.2).trans h)
 | 23 => fun d _ h => (er23 rf rb d).symm.trans h
 | 24 => fun d _ h => (er24 rf rb d).symm.trans h
 | 25 => fun d _ h => (er25 rf rb d).symm.trans ((sr25 rf rb d).trans h)
 | 26 => fun d _ h => (er26 rf rb d).symm.trans ((sr26 rf rb d.1 d.2).trans h)
 | 27 => fun d _ h => (er27 rf rb d).symm.trans h
 | 28 => fun d _ h => (er28 rf rb d).symm.trans h
 | 29 => fun d _ h => (er29 rf rb d).symm.trans h
 | 30 => fun d _ h => (er30 rf rb d).symm.trans h
 | 31 => fun d _ h => (er31 rf rb d).symm.trans h
 | 32 => fun d _ h => (er32 rf rb d).symm.trans h
 | 33 => fun d _ h => (er33 rf rb d).symm.trans h
 | 34 => fun d _ h => (er34 rf rb d).symm.trans ((sr34 rf rb d).trans h)
 | 35 => fun d _ h => (er35 rf rb d).symm.trans h
 | 36 => fun d _ h => (er36 rf rb d).symm.trans h
 | 37 => fun d _ h => (er37 rf rb d).symm.trans h
 | 38 => fun d _ h => (er38 rf rb d).symm.trans h
 | 39 => fun d _ h => (er39 rf rb d).symm.trans h
 | 40 => fun d _ h => (er40 rf rb d).symm.trans h
 | 41 => fun d _ h => (er41 rf rb d).symm.trans h
 | 42 => fun d _ h => (er42 rf rb d).symm.trans h
 | 43 => fun d _ h => (er43 rf rb d).symm.trans h
 | 44 => fun d _ h => (er44 rf rb d).symm.trans h
 | 45 => fun d _ h => (er45 rf rb d).symm.trans ((sr45 rf rb d.1 d.2).trans h)
 | 46 => fun d _ h => (er46 rf rb d).symm.trans h
 | 47 => fun d _ h => (er47 rf rb d).symm.trans h
 | 48 => fun d _ h => (er48 rf rb d).symm.trans h
 | 49 => fun d _ h => (er49 rf rb d).symm.trans h
 | 50 => fun d _ h => (er50 rf rb d).symm.trans h
 | 51 => fun d _ h => (er51 rf rb d).symm.trans h
 | 52 => fun d _ h => (er52 rf rb d).symm.trans h
 | 53 => fun d _ h => (er53 rf rb d).symm.trans h
 | 54 => fun d _ h => (er54 rf rb d).symm.trans h
 | 55 => fun d _ h => (er55 rf rb d).symm.trans h
 | 56 => fun d _ h => (er56 rf rb d).symm.trans h
 | 57 => fun d _ h => (er57 rf rb d).symm.trans h
 | 58 => fun d _ h => (er58 rf rb d).symm.trans h
 | 59 => fun d _ h => (er59 rf rb d).symm.trans h
 | 60 => fun d _ h => (er60 rf rb d).symm.trans h
 | 61 => fun d _ h => (er61 rf rb d).symm.trans h
 | 62 => fun d _ h => (er62 rf rb d).symm.trans h
 | 63 => fun d _ h => (er63 rf rb d).symm.trans h
 | 64 => fun d _ h => (er64 rf rb d).symm.trans h
 | 65 => fun d _ h => (er65 rf rb d).symm.trans h
 | 66 => fun d _ h => (er66 rf rb d).symm.trans h
 | 67 => fun d _ h => (er67 rf rb d).symm.trans h
 | 68 => fun d _ h => (er68 rf rb d).symm.trans h
 | 69 => fun d _ h => (er69 rf rb d).symm.trans h
 | 70 => fun d _ h => (er70 rf rb d).symm.trans h
 | 71 => fun d _ h => (er71 rf rb d).symm.trans h
 | 72 => fun d _ h => (er72 rf rb d).symm.trans h
 | 73 => fun d _ h => (er73 rf rb d).symm.trans h
 | 74 => fun d _ h => (er74 rf rb d).symm.trans h
 | 75 => fun d _ h => (er75 rf rb d).symm.trans h
 | 76 => fun d _ h => (er76 rf rb d).symm.trans h
 | 77 => fun d _ h => (er77 rf rb d).symm.trans h
 | 78 => fun d _ h => (er78 rf rb d).symm.trans h
 | 79 => fun d _ h => (er79 rf rb d).symm.trans h
 | 80 => fun d _ h => (er80 rf rb d).symm.trans h
 | 81 => fun d _ h => (er81 rf rb d).symm.trans h
 | 82 => fun d _ h => (er82 rf rb d).symm.trans h
 | 83 => fun d _ h => (er83 rf rb d).symm.trans h
 | 84 => fun d _ h => (er84 rf rb d).symm.trans h
 | 85 => fun d _ h => (er85 rf rb d).symm.trans h
 | 86 => fun d _ h => (er86 rf rb d).symm.trans h
 | 87 => fun d _ h => (er87 rf rb d).symm.trans h
 | 88 => fun d _ h => (er88 rf rb d).symm.trans h
 | 89 => fun d _ h => (er89 rf rb d).symm.trans h
 | 90 => fun d _ h => (er90 rf rb d).symm.trans h
 | 91 => fun d _ h => (er91 rf rb d).symm.trans h
 | 92 => fun d _ h => (er92 rf rb d).symm.trans h
 | 93 => fun d _ h => (er93 rf rb d).symm.trans h
 | 94 => fun d _ h => (er94 rf rb d).symm.trans h
 | 95 => fun d _ h => (er95 rf rb d).symm.trans h
 | 96 => fun d _ h => (er96 rf rb d).symm.trans h
 | 97 => fun d _ h => (er97 rf rb d).symm.trans h
 | 98 => fun d _ h => (er98 rf rb d).symm.trans h
 | 99 => fun d _ h => (er99 rf rb d).symm.trans h
 | 100 => fun d _ h => (er100 rf rb d).symm.trans h
 | 101 => fun d _ h => (er101 rf rb d).symm.trans h
 | 102 => fun d _ h => (er102 rf rb d).symm.trans h
 | 103 => fun d _ h => (er103 rf rb d).symm.trans h
 | 104 => fun d _ h => (er104 rf rb d).symm.trans h
 | 105 => fun d _ h => (er105 rf rb d).symm.trans h
 | 106 => fun d _ h => (er106 rf rb d).symm.trans h
 | 107 => fun d _ h => (er107 rf rb d).symm.trans h
 | 108 => fun d _ h => (er108 rf rb d).symm.trans h
 | 109 => fun d _ h => (er109 rf rb d).symm.trans h
 | 110 => fun d _ h => (er110 rf rb d).symm.trans h
 | 111 => fun d _ h => (er111 rf rb d).symm.trans h
 | 112 => fun d _ h => (er112 rf rb d).symm.trans h
 | 113 => fun d _ h => (er113 rf rb d).symm.trans h
 | 114 => fun d _ h => (er114 rf rb d).symm.trans h
 | 115 => fun d _ h => (er115 rf rb d).symm.trans h
 | 116 => fun d _ h => (er116 rf rb d).symm.trans h
 | 117 => fun d _ h => (er117 rf rb d).symm.trans h
 | 118 => fun d _ h => (er118 rf rb d).symm.trans h
 | 119 => fun d _ h => (er119 rf rb d).symm.trans h
 | 120 => fun d _ h => (er120 rf rb d).symm.trans h
 | 121 => fun d _ h => (er121 rf rb d).symm.trans h
 | 122 => fun d _ h => (er122 rf rb d).symm.trans h
 | 123 => fun d _ h => (er123 rf rb d).symm.trans h
 | 124 => fun d _ h => (er124 rf rb d).symm.trans h
 | 125 => fun d _ h => (er125 rf rb d).symm.trans h
 | 126 => fun d _ h => (er126 rf rb d).symm.trans h
 | 127 => fun d _ h => (er127 rf rb d).symm.trans h
 | 128 => fun d _ h => (er128 rf rb d).symm.trans h
 | 129 => fun d _ h => (er129 rf rb d).symm.trans h
 | 130 => fun d _ h => (er130 rf rb d).symm.trans h
 | 131 => fun d _ h => (er131 rf rb d).symm.trans h
 | 132 => fun d _ h => (er132 rf rb d).symm.trans h
 | 133 => fun d _ h => (er133 rf rb d).symm.trans ((sr133 rf rb d).trans h)
 | 134 => fun d _ h => (er134 rf rb d).symm.trans ((sr134 rf rb d).trans h)
 | 135 => fun d _ h => (er135 rf rb d).symm.trans ((sr135 rf rb d).trans h)
 | 136 => fun d _ h => (er136 rf rb d).symm.trans ((sr136 rf rb d).trans h)
 | 137 => fun d _ h => (er137 rf rb d).symm.trans h
 | 138 => fun d _ h => (er138 rf rb d).symm.trans h
 | 139 => fun d _ h => (er139 rf rb d).symm.trans h
 | 140 => fun d _ h => (er140 rf rb d).symm.trans ((sr140 rf rb d).trans h)
 | 141 => fun d _ h => (er141 rf rb d).symm.trans h
 | 142 => fun d _ h => (er142 rf rb d).symm.trans h
 | 143 => fun d _ h => (er143 rf rb d).symm.trans h
 | 144 => fun d _ h => (er144 rf rb d).symm.trans h
 | 145 => fun d _ h => (er145 rf rb d).symm.trans h
 | 146 => fun d _ h => (er146 rf rb d).symm.trans h
 | 147 => fun d _ h => (er147 rf rb d).symm.trans h
 | 148 => fun d _ h => (er148 rf rb d).symm.trans h
 | 149 => fun d _ h => (er149 rf rb d).symm.trans h
 | 150 => fun d _ h => (er150 rf rb d).symm.trans h
 | 151 => fun d _ h => (er151 rf rb d).symm.trans h
 | 152 => fun d _ h => (er152 rf rb d).symm.trans h
 | 153 => fun d _ h => (er153 rf rb d).symm.trans h
 | 154 => fun d _ h => (er154 rf rb d).symm.trans h
 | 155 => fun d _ h => (er155 rf rb d).symm.trans h
 | 156 => fun d _ h => (er156 rf rb d).symm.trans h
 | 157 => fun d _ h => (er157 rf rb d).symm.trans h
 | 158 => fun d _ h => (er158 rf rb d).symm.trans h
 | n + 159 => fun _ _ h => by cases h
noncomputable def gB (rf : T.RF) (rb : T.RB) : T.RB := fun φ => match φ with
 | 0 => U2 (b0 rf rb)
 | 1 => U2 (b1 rf rb)
 | 2 => U2 (b2 rf rb)
 | 3 => U2 (b3 rf rb)
 | 6 => U2 (b6 rf rb)
 | 7 => U3 (b7 rf rb)
 | 8 => U2 (b8 rf rb)
 | 9 => U3 (b9 rf rb)
 | 10 => U2 (b10 rf rb)
 | 11 => U3 (b11 rf rb)
 | 12 => U4 (b12 rf rb)
 | 13 => U2 (b13 rf rb)
 | 17 => U2 (b17 rf rb)
 | 22 => U4 (b22 rf rb)
 | 23 => U6 (b23 rf rb)
 | 25 => U2 (b25 rf rb)
 | 27 => U2 (b27 rf rb)
 | 29 => U2 (b29 rf rb)
 | 31 => U2 (b31 rf rb)
 | 33 => U2 (b33 rf rb)
 | 35 => U2 (b35 rf rb)
 | 43 => U3 (b43 rf rb)
 | 44 => U4 (b44 rf rb)
 | 46 => U3 (b46 rf rb)
 | 47 => U4 (b47 rf rb)
 | 49 => U2 (b49 rf rb)
 | 50 => U2 (b50 rf rb)
 | 52 => U2 (b52 rf rb)
 | 54 => U2 (b54 rf rb)
 | 69 => U4 (b69 rf rb)
 | 70 => U8 (b70 rf rb)
 | 71 => U4 (b71 rf rb)
 | 72 => U3 (b72 rf rb)
 | 73 => U3 (b73 rf rb)
 | 74 => U3 (b74 rf rb)
 | 75 => U5 (b75 rf rb)
 | 76 => U2 (b76 rf rb)
 | 77 => U3 (b77 rf rb)
 | 78 => U7 (b78 rf rb)
 | 79 => U4 (b79 rf rb)
 | 86 => U4 (b86 rf rb)
 | 87 => U5 (b87 rf rb)
 | 88 => U3 (b88 rf rb)
 | 89 => U3 (b89 rf rb)
 | 90 => U3 (b90 rf rb)
 | 93 => U4 (b93 rf rb)
 | 95 => U5 (b95 rf rb)
 | 99 => U5 (b99 rf rb)
 | 101 => U5 (b101 rf rb)
 | 106 => U2 (b106 rf rb)
 | 107 => U4 (b107 rf rb)
 | 108 => U2 (b108 rf rb)
 | 109 => U4 (b109 rf rb)
 | 110 => U4 (b110 rf rb)
 | 120 => U5 (b120 rf rb)
 | 170 => U5 (b170 rf rb)
 | 171 => U11 (b171 rf rb)
 | 172 => U13 (b172 rf rb)
 | 173 => U13 (b173 rf rb)
 | 174 => U9 (b174 rf rb)
 | 175 => U11 (b175 rf rb)
 | 178 => U3 (b178 rf rb)
 | 179 => U4 (b179 rf rb)
 | 180 => U4 (b180 rf rb)
 | 181 => U3 (b181 rf rb)
 | 183 => U5 (b183 rf rb)
 | 198 => U10 (b198 rf rb)
 | 199 => U10 (b199 rf rb)
 | 200 => U9 (b200 rf rb)
 | 203 => U5 (b203 rf rb)
 | 204 => U3 (b204 rf rb)
 | 205 => U3 (b205 rf rb)
 | 206 => U3 (b206 rf rb)
 | 207 => U3 (b207 rf rb)
 | 208 => U3 (b208 rf rb)
 | 209 => U3 (b209 rf rb)
 | _ => fun _ => none
theorem gB_ok (rf : T.RF) (rb : T.RB) : ∀ φ d y, gB rf rb φ d = some y → T.stepB rf rb φ d = some y := fun φ => match φ with
 | 0 => fun d _ h => (eb0 rf rb d).symm.trans h
 | 1 => fun d _ h => (eb1 rf rb d).symm.trans h
 | 2 => fun d _ h => (eb2 rf rb d).symm.trans h
 | 3 => fun d _ h => (eb3 rf rb d).symm.trans h
 | 4 => fun _ _ h => by cases h
 | 5 => fun _ _ h => by cases h
 | 6 => fun d _ h => (eb6 rf rb d).symm.trans h
 | 7 => fun d _ h => (eb7 rf rb d).symm.trans h
 | 8 => fun d _ h => (eb8 rf rb d).symm.trans h
 | 9 => fun d _ h => (eb9 rf rb d).symm.trans h
 | 10 => fun d _ h => (eb10 rf rb d).symm.trans h
 | 11 => fun d _ h => (eb11 rf rb d).symm.trans h
 | 12 => fun d _ h => (eb12 rf rb d).symm.trans h
 | 13 => fun d _ h => (eb13 rf rb d).symm.trans h
 | 14 => fun _ _ h => by cases h
 | 15 => fun _ _ h => by cases h
 | 16 => fun _ _ h => by cases h
 | 17 => fun d _ h => (eb17 rf rb d).symm.trans h
 | 18 => fun _ _ h => by cases h
 | 19 => fun _ _ h => by cases h
 | 20 => fun _ _ h => by cases h
 | 21 => fun _ _ h => by cases h
 | 22 => fun d _ h => (eb22 rf rb d).symm.trans h
 | 23 => fun d _ h => (eb23 rf rb d).symm.trans h
 | 24 => fun _ _ h => by cases h
 | 25 => fun d _ h => (eb25 rf rb d).symm.trans h
 | 26 => fun _ _ h => by cases h
 | 27 => fun d _ h => (eb27 rf rb d).symm.trans h
 | 28 => fun _ _ h => by cases h
 | 29 => fun d _ h => (eb29 rf rb d).symm.trans h
 | 30 => fun _ _ h => by cases h
 | 31 => fun d _ h => (eb31 rf rb d).symm.trans h
 | 32 => fun _ _ h => by cases h
 | 33 => fun d _ h => (eb33 rf rb d).symm.trans h
 | 34 => fun _ _ h => by cases h
 | 35 => fun d _ h => (eb35 rf rb d).symm.trans h
 | 36 => fun _ _ h => by cases h
 | 37 => fun _ _ h => by cases h
 | 38 => fun _ _ h => by cases h
 | 39 => fun _ _ h => by cases h
 | 40 => fun _ _ h => by cases h
 | 41 => fun _ _ h => by cases h
 | 42 => fun _ _ h => by cases h
 | 43 => fun d _ h => (eb43 rf rb d).symm.trans h
 | 44 => fun d _ h => (eb44 rf rb d).symm.trans ((sb44 rf rb d.1 d.2.1 d.2.2.1 d.2.2.2).trans h)
 | 45 => fun _ _ h => by cases h
 | 46 => fun d _ h => (eb46 rf rb d).symm.trans h
 | 47 => fun d _ h => (eb47 rf rb d).symm.trans h
 | 48 => fun _ _ h => by cases h
 | 49 => fun d _ h => (eb49 rf rb d).symm.trans h
 | 50 => fun d _ h => (eb50 rf rb d).symm.trans h
 | 51 => fun _ _ h => by cases h
 | 52 => fun d _ h => (eb52 rf rb d).symm.trans h
 | 53 => fun _ _ h => by cases h
 | 54 => fun d _ h => (eb54 rf rb d).symm.trans h
 | 55 => fun _ _ h => by cases h
 | 56 => fun _ _ h => by cases h
 | 57 => fun _ _ h => by cases h
 | 58 => fun _ _ h => by cases h
 | 59 => fun _ _ h => by cases h
 | 60 => fun _ _ h => by cases h
 | 61 => fun _ _ h => by cases h
 | 62 => fun _ _ h => by cases h
 | 63 => fun _ _ h => by cases h
 | 64 => fun _ _ h => by cases h
 | 65 => fun _ _ h => by cases h
 | 66 => fun _ _ h => by cases h
 | 67 => fun _ _ h => by cases h
 | 68 => fun _ _ h => by cases h
 | 69 => fun d _ h => (eb69 rf rb d).symm.trans ((sb69 rf rb d.1 d.2.1 d.2.2.1 d.2.2.2).trans h)
 | 70 => fun d _ h => (eb70 rf rb d).symm.trans ((sb70 rf rb d.1 d.2.1 d.2.2.1 d.2.2.2.1 d.2.2.2.2.1 d.2.2.2.2.2.1 d.2.2.2.2.2.2.1 d.2.2.2.2.2.2.2).trans h)
 | 71 => fun d _ h => (eb71 rf rb d).symm.trans h
 | 72 => fun d _ h => (eb72 rf rb d).symm.trans h
 | 73 => fun d _ h => (eb73 rf rb d).symm.trans h
 | 74 => fun d _ h => (eb74 rf rb d).symm.trans h
 | 75 => fun d _ h => (eb75 rf rb d).symm.trans h
 | 76 => fun d _ h => (eb76 rf rb d).symm.trans ((sb76 rf rb d.1 d.2).trans h)
 | 77 => fun d _ h => (eb77 rf rb d).symm.trans h
 | 78 => fun d _ h => (eb78 rf rb d).symm.trans h
 | 79 => fun d _ h => (eb79 rf rb d).symm.trans h
 | 80 => fun _ _ h => by cases h
 | 81 => fun _ _ h => by cases h
 | 82 => fun _ _ h => by cases h
 | 83 => fun _ _ h => by cases h
 | 84 => fun _ _ h => by cases h
 | 85 => fun _ _ h => by cases h
 | 86 => fun d _ h => (eb86 rf rb d).symm.trans h
 | 87 => fun d _ h => (eb87 rf rb d).symm.trans ((sb87 rf rb d.1 d.2.1 d.2.2.1 d.2.2.2.1 d.2.2.2.2).trans h)
 | 88 => fun d _ h => (eb88 rf rb d).symm.trans h
 | 89 => fun d _ h => (eb89 rf rb d).symm.trans h
 | 90 => fun d _ h => (eb90 rf rb d).symm.trans h
 | 91 => fun _ _ h => by cases h
 | 92 => fun _ _ h => by cases h
 | 93 => fun d _ h => (eb93 rf rb d).symm.trans h
 | 94 => fun _ _ h => by cases h
 | 95 => fun d _ h => (eb95 rf rb d).symm.trans h
 | 96 => fun _ _ h => by cases h
 | 97 => fun _ _ h => by cases h
 | 98 => fun _ _ h => by cases h
 | 99 => fun d _ h => (eb99 rf rb d).symm.trans h
 | 100 => fun _ _ h => by cases h
 | 101 => fun d _ h => (eb101 rf rb d).symm.trans h
 | 102 => fun _ _ h => by cases h
 | 103 => fun _ _ h => by cases h
 | 104 => fun _ _ h => by cases h
 | 105 => fun _ _ h => by cases h
 | 106 => fun d _ h => (eb106 rf rb d).symm.trans h
 | 107 => fun d _ h => (eb107 rf rb d).symm.trans h
 | 108 => fun d _ h => (eb108 rf rb d).symm.trans h
 | 109 => fun d _ h => (eb109 rf rb d).symm.trans h
 | 110 => fun d _ h => (eb110 rf rb d).symm.trans h
 | 111 => fun _ _ h => by cases h
 | 112 => fun _ _ h => by cases h
 | 113 => fun _ _ h => by cases h
 | 114 => fun _ _ h => by cases h
 | 115 => fun _ _ h => by cases h
 | 116 => fun _ _ h => by cases h
 | 117 => fun _ _ h => by cases h
 | 118 => fun _ _ h => by cases h
 | 119 => fun _ _ h => by cases h
 | 120 => fun d _ h => (eb120 rf rb d).symm.trans h
 | 121 => fun _ _ h => by cases h
 | 122 => fun _ _ h => by cases h
 | 123 => fun _ _ h => by cases h
 | 124 => fun _ _ h => by cases h
 | 125 => fun _ _ h => by cases h
 | 126 => fun _ _ h => by cases h
 | 127 => fun _ _ h => by cases h
 | 128 => fun _ _ h => by cases h
 | 129 => fun _ _ h => by cases h
 | 130 => fun _ _ h => by cases h
 | 131 => fun _ _ h => by cases h
 | 132 => fun _ _ h => by cases h
 | 133 => fun _ _ h => by cases h
 | 134 => fun _ _ h => by cases h
 | 135 => fun _ _ h => by cases h
 | 136 => fun _ _ h => by cases h
 | 137 => fun _ _ h => by cases h
 | 138 => fun _ _ h => by cases h
 | 139 => fun _ _ h => by cases h
 | 140 => fun _ _ h => by cases h
 | 141 => fun _ _ h => by cases h
 | 142 => fun _ _ h => by cases h
 | 143 => fun _ _ h => by cases h
 | 144 => fun _ _ h => by cases h
 | 145 => fun _ _ h => by cases h
 | 146 => fun _ _ h => by cases h
 | 147 => fun _ _ h => by cases h
 | 148 => fun _ _ h => by cases h
 | 149 => fun _ _ h => by cases h
 | 150 => fun _ _ h => by cases h
 | 151 => fun _ _ h => by cases h
 | 152 => fun _ _ h => by cases h
 | 153 => fun _ _ h => by cases h
 | 154 => fun _ _ h => by cases h
 | 155 => fun _ _ h => by cases h
 | 156 => fun _ _ h => by cases h
 | 157 => fun _ _ h => by cases h
 | 158 => fun _ _ h => by cases h
 | 159 => fun _ _ h => by cases h
 | 160 => fun _ _ h => by cases h
 | 161 => fun _ _ h => by cases h
 | 162 => fun _ _ h => by cases h
 | 163 => fun _ _ h => by cases h
 | 164 => fun _ _ h => by cases h
 | 165 => fun _ _ h => by cases h
 | 166 => fun _ _ h => by cases h
 | 167 => fun _ _ h => by cases h
 | 168 => fun _ _ h => by cases h
 | 169 => fun _ _ h => by cases h
 | 170 => fun d _ h => (eb170 rf rb d).symm.trans ((sb170 rf rb d.1 d.2.1 d.2.2.1 d.2.2.2.1 d.2.2.2.2).trans h)
 | 171 => fun d _ h => (eb171 rf rb d).symm.trans h
 | 172 => fun d _ h => (eb172 rf rb d).symm.trans ((sb172 rf rb d.1 d.2.1 d.2.2.1 d.2.2.2.1 d.2.2.2.2.1 d.2.2.2.2.2.1 d.2.2.2.2.2.2.1 d.2.2.2.2.2.2.2.1 d.2.2.2.2.2.2.2.2.1 d.2.2.2.2.2.2.2.2.2.1 d.2.2.2.2.2.2.2.2.2.2.1 d.2.2.2.2.2.2.2.2.2.2.2.1 d.2.2.2.2.2.2.2.2.2.2.2.2).trans h)
 | 173 => fun d _ h => (eb173 rf rb d).symm.trans ((sb173 rf rb d.1 d.2.1 d.2.2.1 d.2.2.2.1 d.2.2.2.2.1 d.2.2.2.2.2.1 d.2.2.2.2.2.2.1 d.2.2.2.2.2.2.2.1 d.2.2.2.2.2.2.2.2.1 d.2.2.2.2.2.2.2.2.2.1 d.2.2.2.2.2.2.2.2.2.2.1 d.2.2.2.2.2.2.2.2.2.2.2.1 d.2.2.2.2.2.2.2.2.2.2.2.2).trans h)
 | 174 => fun d _ h => (eb174 rf rb d).symm.trans h
 | 175 => fun d _ h => (eb175 rf rb d).symm.trans ((sb175 rf rb d.1 d.2.1 d.2.2.1 d.2.2.2.1 d.2.2.2.2.1 d.2.2.2.2.2.1 d.2.2.2.2.2.2.1 d.2.2.2.2.2.2.2.1 d.2.2.2.2.2.2.2.2.1 d.2.2.2.2.2.2.2.2.2.1 d.2.2.2.2.2.2.2.2.2.2).trans h)
 | 176 => fun _ _ h => by cases h
 | 177 => fun _ _ h => by cases h
 | 178 => fun d _ h => (eb178 rf rb d).symm.trans h
 | 179 => fun d _ h => (eb179 rf rb d).symm.trans h
 | 180 => fun d _ h => (eb180 rf rb d).symm.trans h
 | 181 => fun d _ h => (eb181 rf rb d).symm.trans h
 | 182 => fun _ _ h => by cases h
 | 183 => fun d _ h => (eb183 rf rb d).symm.trans h
 | 184 => fun _ _ h => by cases h
 | 185 => fun _ _ h => by cases h
 | 186 => fun _ _ h => by cases h
 | 187 => fun _ _ h => by cases h
 | 188 => fun _ _ h => by cases h
 | 189 => fun _ _ h => by cases h
 | 190 => fun _ _ h => by cases h
 | 191 => fun _ _ h => by cases h
 | 192 => fun _ _ h => by cases h
 | 193 => fun _ _ h => by cases h
 | 194 => fun _ _ h => by cases h
 | 195 => fun _ _ h => by cases h
 | 196 => fun _ _ h => by cases h
 | 197 => fun _ _ h => by cases h
 | 198 => fun d _ h => (eb198 rf rb d).symm.trans ((sb198 rf rb d.1 d.2.1 d.2.2.1 d.2.2.2.1 d.2.2.2.2.1 d.2.2.2.2.2.1 d.2.2.2.2.2.2.1 d.2.2.2.2.2.2.2.1 d.2.2.2.2.2.2.2.2.1 d.2.2.2.2.2.2.2.2.2).trans h)
 | 199 => fun d _ h => (eb199 rf rb d).symm.trans h
 | 200 => fun d _ h => (eb200 rf rb d).symm.trans ((sb200 rf rb d.1 d.2.1 d.2.2.1 d.2.2.2.1 d.2.2.2.2.1 d.2.2.2.2.2.1 d.2.2.2.2.2.2.1 d.2.2.2.2.2.2.2.1 d.2.2.2.2.2.2.2.2).trans h)
 | 201 => fun _ _ h => by cases h
 | 202 => fun _ _ h => by cases h
 | 203 => fun d _ h => (eb203 rf rb d).symm.trans ((sb203 rf rb d.1 d.2.1 d.2.2.1 d.2.2.2.1 d.2.2.2.2).trans h)
 | 204 => fun d _ h => (eb204 rf rb d).symm.trans h
 | 205 => fun d _ h => (eb205 rf rb d).symm.trans h
 | 206 => fun d _ h => (eb206 rf rb d).symm.trans h
 | 207 => fun d _ h => (eb207 rf rb d).symm.trans h
 | 208 => fun d _ h => (eb208 rf rb d).symm.trans h
 | 209 => fun d _ h => (eb209 rf rb d).symm.trans h
 | n + 210 => fun _ _ h => by cases h
noncomputable def G : Nat → T.RF × T.RB
 | 0 => (fun _ _ => none, fun _ _ => none)
 | n + 1 => (gF (G n).1 (G n).2, gB (G n).1 (G n).2)
theorem run_F (n : Nat) {φ : Nat} {d} {y} (h : (G n).1 φ d = some y) : T.rf φ d = some y := (Tbl.approx gF_ok gB_ok rfl (fun _ => rfl) n).1 φ d y h
theorem live_run : c2 T.rf = some true := run_F 400 (φ := 2) (d := ()) (by kernel_rfl)
end Go.Proofs.YtlobhcgbmpcdlaaGreatDoor.R
