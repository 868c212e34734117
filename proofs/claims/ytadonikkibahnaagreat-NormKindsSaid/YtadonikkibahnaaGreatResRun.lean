import Derived.Test.YtadonikkibahnaaGreatRes
import Derived.Test.YtadonikkibahnaaGreatBmF
import Derived.KernelRfl
namespace Go.Proofs.YtadonikkibahnaaGreat.R
open Go Go.Bm Go.Proofs
set_option linter.unusedVariables false
set_option maxRecDepth 100000
noncomputable def gF (rf:T.RF) (rb:T.RB):T.RF:=fun φ => match φ with
 | 0 => r0 rf rb
 | 1 => U2 (r1 rf rb)
 | 2 => U0 (r2 rf rb)
 | 3 => r3 rf rb
 | 4 => r4 rf rb
 | 5 => U2 (r5 rf rb)
 | 6 => r6 rf rb
 | 7 => r7 rf rb
 | 8 => r8 rf rb
 | 9 => U2 (r9 rf rb)
 | 10 => r10 rf rb
 | 11 => U0 (r11 rf rb)
 | 12 => r12 rf rb
 | 13 => r13 rf rb
 | 14 => U0 (r14 rf rb)
 | 15 => U2 (r15 rf rb)
 | 16 => r16 rf rb
 | 17 => r17 rf rb
 | 18 => r18 rf rb
 | 19 => r19 rf rb
 | 20 => r20 rf rb
 | 21 => r21 rf rb
 | 22 => r22 rf rb
 | 23 => r23 rf rb
 | 24 => r24 rf rb
 | 25 => U2 (r25 rf rb)
 | 26 => U2 (r26 rf rb)
 | 27 => U2 (r27 rf rb)
 | 28 => U4 (r28 rf rb)
 | 29 => U3 (r29 rf rb)
 | 30 => r30 rf rb
 | 31 => U2 (r31 rf rb)
 | 32 => U2 (r32 rf rb)
 | 33 => U2 (r33 rf rb)
 | 34 => U2 (r34 rf rb)
 | 35 => U2 (r35 rf rb)
 | 36 => U2 (r36 rf rb)
 | 37 => r37 rf rb
 | 38 => U2 (r38 rf rb)
 | 39 => r39 rf rb
 | 40 => r40 rf rb
 | 41 => r41 rf rb
 | 42 => U4 (r42 rf rb)
 | 43 => r43 rf rb
 | 44 => r44 rf rb
 | 45 => r45 rf rb
 | 46 => r46 rf rb
 | 47 => r47 rf rb
 | 48 => r48 rf rb
 | 49 => r49 rf rb
 | 50 => U2 (r50 rf rb)
 | 51 => U2 (r51 rf rb)
 | 52 => U2 (r52 rf rb)
 | 53 => r53 rf rb
 | 54 => r54 rf rb
 | 55 => r55 rf rb
 | 56 => r56 rf rb
 | 57 => r57 rf rb
 | 58 => r58 rf rb
 | 59 => U2 (r59 rf rb)
 | 60 => U3 (r60 rf rb)
 | 61 => U3 (r61 rf rb)
 | 62 => U2 (r62 rf rb)
 | 63 => U2 (r63 rf rb)
 | 64 => U2 (r64 rf rb)
 | 65 => U2 (r65 rf rb)
 | 66 => r66 rf rb
 | 67 => U2 (r67 rf rb)
 | 68 => U3 (r68 rf rb)
 | 69 => U3 (r69 rf rb)
 | 70 => r70 rf rb
 | 71 => U3 (r71 rf rb)
 | 72 => r72 rf rb
 | 73 => r73 rf rb
 | 74 => r74 rf rb
 | 75 => r75 rf rb
 | 76 => r76 rf rb
 | 77 => r77 rf rb
 | 78 => r78 rf rb
 | 79 => r79 rf rb
 | 80 => U5 (r80 rf rb)
 | 81 => U3 (r81 rf rb)
 | 82 => r82 rf rb
 | 83 => U2 (r83 rf rb)
 | 84 => U2 (r84 rf rb)
 | 85 => U2 (r85 rf rb)
 | 86 => U2 (r86 rf rb)
 | 87 => r87 rf rb
 | 88 => r88 rf rb
 | 89 => r89 rf rb
 | 90 => U2 (r90 rf rb)
 | 91 => r91 rf rb
 | 92 => r92 rf rb
 | 93 => r93 rf rb
 | 94 => r94 rf rb
 | 95 => U2 (r95 rf rb)
 | 96 => U2 (r96 rf rb)
 | 97 => U2 (r97 rf rb)
 | 98 => r98 rf rb
 | 99 => r99 rf rb
 | 100 => U2 (r100 rf rb)
 | 101 => U2 (r101 rf rb)
 | 102 => r102 rf rb
 | 103 => r103 rf rb
 | 104 => U2 (r104 rf rb)
 | 105 => U2 (r105 rf rb)
 | 106 => r106 rf rb
 | 107 => r107 rf rb
 | 108 => r108 rf rb
 | 109 => U2 (r109 rf rb)
 | 110 => r110 rf rb
 | 111 => r111 rf rb
 | 112 => r112 rf rb
 | 113 => U2 (r113 rf rb)
 | 114 => U3 (r114 rf rb)
 | 115 => r115 rf rb
 | 116 => U2 (r116 rf rb)
 | 117 => U3 (r117 rf rb)
 | 118 => U2 (r118 rf rb)
 | 119 => r119 rf rb
 | 120 => r120 rf rb
 | 121 => U2 (r121 rf rb)
 | 122 => U3 (r122 rf rb)
 | 123 => U5 (r123 rf rb)
 | 124 => U5 (r124 rf rb)
 | 125 => r125 rf rb
 | 126 => r126 rf rb
 | 127 => r127 rf rb
 | 128 => r128 rf rb
 | 129 => r129 rf rb
 | 130 => r130 rf rb
 | 131 => r131 rf rb
 | 132 => U2 (r132 rf rb)
 | 133 => r133 rf rb
 | 134 => U4 (r134 rf rb)
 | 135 => r135 rf rb
 | 136 => r136 rf rb
 | 137 => r137 rf rb
 | 138 => r138 rf rb
 | 139 => U2 (r139 rf rb)
 | _ => fun _ => none
set_option maxHeartbeats 4000000 in
theorem gF_ok (rf:T.RF) (rb:T.RB):∀ φ d y,gF rf rb φ d = some y → T.stepF rf rb φ d = some y:=fun φ => match φ with
 | 0 => er0.g
 | 1 => er1.g
 | 2 => er2.g
 | 3 => er3.g
 | 4 => er4.g
 | 5 => er5.g
 | 6 => er6.g
 | 7 => er7.g
 | 8 => er8.g
 | 9 => er9.g
 | 10 => er10.g
 | 11 => er11.g
 | 12 => er12.g
 | 13 => er13.g
 | 14 => er14.g
 | 15 => er15.g
 | 16 => er16.g
 | 17 => er17.g
 | 18 => er18.g
 | 19 => er19.g
 | 20 => er20.g
 | 21 => er21.g
 | 22 => er22.g
 | 23 => er23.g
 | 24 => er24.g
 | 25 => fun d _ h => (er25 rf rb d).symm.trans ((sr25 rf rb d.1 d.2).trans h)
 | 26 => er26.g
 | 27 => er27.g
 | 28 => er28.g
 | 29 => er29.g
 | 30 => er30.g
 | 31 => er31.g
 | 32 => er32.g
 | 33 => er33.g
 | 34 => er34.g
 | 35 => er35.g
 | 36 => er36.g
 | 37 => er37.g
 | 38 => er38.g
 | 39 => er39.g
 | 40 => er40.g
 | 41 => er41.g
 | 42 => er42.g
 | 43 => er43.g
 | 44 => er44.g
 | 45 => er45.g
 | 46 => er46.g
 | 47 => er47.g
 | 48 => er48.g
 | 49 => er49.g
 | 50 => er50.g
 | 51 => er51.g
 | 52 => er52.g
 | 53 => er53.g
 | 54 => er54.g
 | 55 => er55.g
 | 56 => er56.g
 | 57 => er57.g
 | 58 => er58.g
 | 59 => er59.g
 | 60 => er60.g
 | 61 => er61.g
 | 62 => er62.g
 | 63 => er63.g
 | 64 => er64.g
 | 65 => fun d _ h => (er65 rf rb d).symm.trans ((sr65 rf rb d.1 d.2).trans h)
 | 66 => er66.g
 | 67 => er67.g
 | 68 => er68.g
 | 69 => fun d _ h => (er69 rf rb d).symm.trans ((sr69 rf rb d.1 d.2.1 d.2.2).trans h)
 | 70 => er70.g
 | 71 => er71.g
 | 72 => er72.g
 | 73 => er73.g
 | 74 => er74.g
 | 75 => er75.g
 | 76 => er76.g
 | 77 => er77.g
 | 78 => er78.g
 | 79 => er79.g
 | 80 => fun d _ h => (er80 rf rb d).symm.trans ((sr80 rf rb d.1 d.2.1 d.2.2.1 d.2.2.2.1 d.2.2.2.2).trans h)
 | 81 => er81.g
 | 82 => er82.g
 | 83 => er83.g
 | 84 => er84.g
 | 85 => er85.g
 | 86 => er86.g
 | 87 => er87.g
 | 88 => er88.g
 | 89 => er89.g
 | 90 => er90.g
 | 91 => er91.g
 | 92 => er92.g
 | 93 => er93.g
 | 94 => er94.g
 | 95 => er95.g
 | 96 => er96.g
 | 97 => er97.g
 | 98 => er98.g
 | 99 => er99.g
 | 100 => er100.g
 | 101 => er101.g
 | 102 => er102.g
 | 103 => er103.g
 | 104 => er104.g
 | 105 => er105.g
 | 106 => er106.g
 | 107 => er107.g
 | 108 => er108.g
 | 109 => er109.g
 | 110 => er110.g
 | 111 => er111.g
 | 112 => er112.g
 | 113 => er113.g
 | 114 => er114.g
 | 115 => er115.g
 | 116 => er116.g
 | 117 => er117.g
 | 118 => er118.g
 | 119 => er119.g
 | 120 => er120.g
 | 121 => er121.g
 | 122 => er122.g
 | 123 => er123.g
 | 124 => er124.g
 | 125 => er125.g
 | 126 => er126.g
 | 127 => er127.g
 | 128 => er128.g
 | 129 => er129.g
 | 130 => er130.g
 | 131 => er131.g
 | 132 => er132.g
 | 133 => er133.g
 | 134 => er134.g
 | 135 => er135.g
 | 136 => er136.g
 | 137 => er137.g
 | 138 => er138.g
 | 139 => er139.g
 | n + 140 => fun _ _ h => by cases h
noncomputable def gB (rf:T.RF) (rb:T.RB):T.RB:=fun φ => match φ with
 | 0 => U2 (b0 rf rb)
 | 1 => U2 (b1 rf rb)
 | 4 => U2 (b4 rf rb)
 | 5 => U3 (b5 rf rb)
 | 6 => U2 (b6 rf rb)
 | 7 => U3 (b7 rf rb)
 | 8 => U2 (b8 rf rb)
 | 9 => U3 (b9 rf rb)
 | 10 => U4 (b10 rf rb)
 | 11 => U2 (b11 rf rb)
 | 15 => U4 (b15 rf rb)
 | 16 => U6 (b16 rf rb)
 | 18 => U2 (b18 rf rb)
 | 20 => U2 (b20 rf rb)
 | 22 => U2 (b22 rf rb)
 | 24 => U2 (b24 rf rb)
 | 26 => U2 (b26 rf rb)
 | 28 => U2 (b28 rf rb)
 | 36 => U3 (b36 rf rb)
 | 37 => U4 (b37 rf rb)
 | 39 => U3 (b39 rf rb)
 | 57 => U5 (b57 rf rb)
 | 58 => U2 (b58 rf rb)
 | 59 => U3 (b59 rf rb)
 | 60 => U7 (b60 rf rb)
 | 61 => U4 (b61 rf rb)
 | 68 => U4 (b68 rf rb)
 | 69 => U5 (b69 rf rb)
 | 161 => U5 (b161 rf rb)
 | 162 => U4 (b162 rf rb)
 | 164 => U5 (b164 rf rb)
 | 171 => U2 (b171 rf rb)
 | 181 => U3 (b181 rf rb)
 | 201 => U4 (b201 rf rb)
 | 202 => U7 (b202 rf rb)
 | 203 => U7 (b203 rf rb)
 | 204 => U6 (b204 rf rb)
 | 205 => U4 (b205 rf rb)
 | 206 => U5 (b206 rf rb)
 | 244 => U9 (b244 rf rb)
 | 245 => U11 (b245 rf rb)
 | 246 => U17 (b246 rf rb)
 | 247 => U17 (b247 rf rb)
 | 248 => U16 (b248 rf rb)
 | 249 => U15 (b249 rf rb)
 | 250 => U9 (b250 rf rb)
 | 251 => U12 (b251 rf rb)
 | 252 => U9 (b252 rf rb)
 | 253 => U3 (b253 rf rb)
 | 254 => U3 (b254 rf rb)
 | 362 => U8 (b362 rf rb)
 | 363 => U6 (b363 rf rb)
 | 364 => U4 (b364 rf rb)
 | 365 => U6 (b365 rf rb)
 | 366 => U2 (b366 rf rb)
 | 367 => U8 (b367 rf rb)
 | 368 => U8 (b368 rf rb)
 | 369 => U10 (b369 rf rb)
 | 370 => U8 (b370 rf rb)
 | 372 => U7 (b372 rf rb)
 | 373 => U4 (b373 rf rb)
 | 374 => U4 (b374 rf rb)
 | 375 => U3 (b375 rf rb)
 | 376 => U4 (b376 rf rb)
 | 382 => U4 (b382 rf rb)
 | 383 => U3 (b383 rf rb)
 | 384 => U5 (b384 rf rb)
 | 386 => U5 (b386 rf rb)
 | 387 => U3 (b387 rf rb)
 | 388 => U3 (b388 rf rb)
 | 390 => U3 (b390 rf rb)
 | 391 => U3 (b391 rf rb)
 | 392 => U4 (b392 rf rb)
 | 393 => U4 (b393 rf rb)
 | 394 => U3 (b394 rf rb)
 | 395 => U3 (b395 rf rb)
 | 397 => U3 (b397 rf rb)
 | 400 => U5 (b400 rf rb)
 | 405 => U3 (b405 rf rb)
 | 406 => U5 (b406 rf rb)
 | 408 => U3 (b408 rf rb)
 | 409 => U4 (b409 rf rb)
 | 413 => U4 (b413 rf rb)
 | 414 => U3 (b414 rf rb)
 | 415 => U3 (b415 rf rb)
 | 416 => U4 (b416 rf rb)
 | 417 => U5 (b417 rf rb)
 | 419 => U2 (b419 rf rb)
 | 432 => U5 (b432 rf rb)
 | 433 => U4 (b433 rf rb)
 | 451 => U7 (b451 rf rb)
 | 477 => U5 (b477 rf rb)
 | 478 => U5 (b478 rf rb)
 | 479 => U6 (b479 rf rb)
 | 480 => U6 (b480 rf rb)
 | 481 => U8 (b481 rf rb)
 | 483 => U5 (b483 rf rb)
 | 484 => U2 (b484 rf rb)
 | 485 => U2 (b485 rf rb)
 | 489 => U3 (b489 rf rb)
 | 490 => U4 (b490 rf rb)
 | 491 => U4 (b491 rf rb)
 | 492 => U3 (b492 rf rb)
 | 493 => U4 (b493 rf rb)
 | 494 => U2 (b494 rf rb)
 | _ => fun _ => none
set_option maxHeartbeats 4000000 in
theorem gB_ok (rf:T.RF) (rb:T.RB):∀ φ d y,gB rf rb φ d = some y → T.stepB rf rb φ d = some y:=fun φ => match φ with
 | 0 => eb0.g
 | 1 => eb1.g
 | 2 => fun _ _ h => by cases h
 | 3 => fun _ _ h => by cases h
 | 4 => eb4.g
 | 5 => eb5.g
 | 6 => eb6.g
 | 7 => eb7.g
 | 8 => eb8.g
 | 9 => eb9.g
 | 10 => eb10.g
 | 11 => eb11.g
 | 12 => fun _ _ h => by cases h
 | 13 => fun _ _ h => by cases h
 | 14 => fun _ _ h => by cases h
 | 15 => eb15.g
 | 16 => eb16.g
 | 17 => fun _ _ h => by cases h
 | 18 => eb18.g
 | 19 => fun _ _ h => by cases h
 | 20 => eb20.g
 | 21 => fun _ _ h => by cases h
 | 22 => eb22.g
 | 23 => fun _ _ h => by cases h
 | 24 => eb24.g
 | 25 => fun _ _ h => by cases h
 | 26 => eb26.g
 | 27 => fun _ _ h => by cases h
 | 28 => eb28.g
 | 29 => fun _ _ h => by cases h
 | 30 => fun _ _ h => by cases h
 | 31 => fun _ _ h => by cases h
 | 32 => fun _ _ h => by cases h
 | 33 => fun _ _ h => by cases h
 | 34 => fun _ _ h => by cases h
 | 35 => fun _ _ h => by cases h
 | 36 => eb36.g
 | 37 => fun d _ h => (eb37 rf rb d).symm.trans ((sb37 rf rb d.1 d.2.1 d.2.2.1 d.2.2.2).trans h)
 | 38 => fun _ _ h => by cases h
 | 39 => eb39.g
 | 40 => fun _ _ h => by cases h
 | 41 => fun _ _ h => by cases h
 | 42 => fun _ _ h => by cases h
 | 43 => fun _ _ h => by cases h
 | 44 => fun _ _ h => by cases h
 | 45 => fun _ _ h => by cases h
 | 46 => fun _ _ h => by cases h
 | 47 => fun _ _ h => by cases h
 | 48 => fun _ _ h => by cases h
 | 49 => fun _ _ h => by cases h
 | 50 => fun _ _ h => by cases h
 | 51 => fun _ _ h => by cases h
 | 52 => fun _ _ h => by cases h
 | 53 => fun _ _ h => by cases h
 | 54 => fun _ _ h => by cases h
 | 55 => fun _ _ h => by cases h
 | 56 => fun _ _ h => by cases h
 | 57 => eb57.g
 | 58 => fun d _ h => (eb58 rf rb d).symm.trans ((sb58 rf rb d.1 d.2).trans h)
 | 59 => eb59.g
 | 60 => eb60.g
 | 61 => eb61.g
 | 62 => fun _ _ h => by cases h
 | 63 => fun _ _ h => by cases h
 | 64 => fun _ _ h => by cases h
 | 65 => fun _ _ h => by cases h
 | 66 => fun _ _ h => by cases h
 | 67 => fun _ _ h => by cases h
 | 68 => eb68.g
 | 69 => fun d _ h => (eb69 rf rb d).symm.trans ((sb69 rf rb d.1 d.2.1 d.2.2.1 d.2.2.2.1 d.2.2.2.2).trans h)
 | 70 => fun _ _ h => by cases h
 | 71 => fun _ _ h => by cases h
 | 72 => fun _ _ h => by cases h
 | 73 => fun _ _ h => by cases h
 | 74 => fun _ _ h => by cases h
 | 75 => fun _ _ h => by cases h
 | 76 => fun _ _ h => by cases h
 | 77 => fun _ _ h => by cases h
 | 78 => fun _ _ h => by cases h
 | 79 => fun _ _ h => by cases h
 | 80 => fun _ _ h => by cases h
 | 81 => fun _ _ h => by cases h
 | 82 => fun _ _ h => by cases h
 | 83 => fun _ _ h => by cases h
 | 84 => fun _ _ h => by cases h
 | 85 => fun _ _ h => by cases h
 | 86 => fun _ _ h => by cases h
 | 87 => fun _ _ h => by cases h
 | 88 => fun _ _ h => by cases h
 | 89 => fun _ _ h => by cases h
 | 90 => fun _ _ h => by cases h
 | 91 => fun _ _ h => by cases h
 | 92 => fun _ _ h => by cases h
 | 93 => fun _ _ h => by cases h
 | 94 => fun _ _ h => by cases h
 | 95 => fun _ _ h => by cases h
 | 96 => fun _ _ h => by cases h
 | 97 => fun _ _ h => by cases h
 | 98 => fun _ _ h => by cases h
 | 99 => fun _ _ h => by cases h
 | 100 => fun _ _ h => by cases h
 | 101 => fun _ _ h => by cases h
 | 102 => fun _ _ h => by cases h
 | 103 => fun _ _ h => by cases h
 | 104 => fun _ _ h => by cases h
 | 105 => fun _ _ h => by cases h
 | 106 => fun _ _ h => by cases h
 | 107 => fun _ _ h => by cases h
 | 108 => fun _ _ h => by cases h
 | 109 => fun _ _ h => by cases h
 | 110 => fun _ _ h => by cases h
 | 111 => fun _ _ h => by cases h
 | 112 => fun _ _ h => by cases h
 | 113 => fun _ _ h => by cases h
 | 114 => fun _ _ h => by cases h
 | 115 => fun _ _ h => by cases h
 | 116 => fun _ _ h => by cases h
 | 117 => fun _ _ h => by cases h
 | 118 => fun _ _ h => by cases h
 | 119 => fun _ _ h => by cases h
 | 120 => fun _ _ h => by cases h
 | 121 => fun _ _ h => by cases h
 | 122 => fun _ _ h => by cases h
 | 123 => fun _ _ h => by cases h
 | 124 => fun _ _ h => by cases h
 | 125 => fun _ _ h => by cases h
 | 126 => fun _ _ h => by cases h
 | 127 => fun _ _ h => by cases h
 | 128 => fun _ _ h => by cases h
 | 129 => fun _ _ h => by cases h
 | 130 => fun _ _ h => by cases h
 | 131 => fun _ _ h => by cases h
 | 132 => fun _ _ h => by cases h
 | 133 => fun _ _ h => by cases h
 | 134 => fun _ _ h => by cases h
 | 135 => fun _ _ h => by cases h
 | 136 => fun _ _ h => by cases h
 | 137 => fun _ _ h => by cases h
 | 138 => fun _ _ h => by cases h
 | 139 => fun _ _ h => by cases h
 | 140 => fun _ _ h => by cases h
 | 141 => fun _ _ h => by cases h
 | 142 => fun _ _ h => by cases h
 | 143 => fun _ _ h => by cases h
 | 144 => fun _ _ h => by cases h
 | 145 => fun _ _ h => by cases h
 | 146 => fun _ _ h => by cases h
 | 147 => fun _ _ h => by cases h
 | 148 => fun _ _ h => by cases h
 | 149 => fun _ _ h => by cases h
 | 150 => fun _ _ h => by cases h
 | 151 => fun _ _ h => by cases h
 | 152 => fun _ _ h => by cases h
 | 153 => fun _ _ h => by cases h
 | 154 => fun _ _ h => by cases h
 | 155 => fun _ _ h => by cases h
 | 156 => fun _ _ h => by cases h
 | 157 => fun _ _ h => by cases h
 | 158 => fun _ _ h => by cases h
 | 159 => fun _ _ h => by cases h
 | 160 => fun _ _ h => by cases h
 | 161 => eb161.g
 | 162 => eb162.g
 | 163 => fun _ _ h => by cases h
 | 164 => eb164.g
 | 165 => fun _ _ h => by cases h
 | 166 => fun _ _ h => by cases h
 | 167 => fun _ _ h => by cases h
 | 168 => fun _ _ h => by cases h
 | 169 => fun _ _ h => by cases h
 | 170 => fun _ _ h => by cases h
 | 171 => eb171.g
 | 172 => fun _ _ h => by cases h
 | 173 => fun _ _ h => by cases h
 | 174 => fun _ _ h => by cases h
 | 175 => fun _ _ h => by cases h
 | 176 => fun _ _ h => by cases h
 | 177 => fun _ _ h => by cases h
 | 178 => fun _ _ h => by cases h
 | 179 => fun _ _ h => by cases h
 | 180 => fun _ _ h => by cases h
 | 181 => eb181.g
 | 182 => fun _ _ h => by cases h
 | 183 => fun _ _ h => by cases h
 | 184 => fun _ _ h => by cases h
 | 185 => fun _ _ h => by cases h
 | 186 => fun _ _ h => by cases h
 | 187 => fun _ _ h => by cases h
 | 188 => fun _ _ h => by cases h
 | 189 => fun _ _ h => by cases h
 | 190 => fun _ _ h => by cases h
 | 191 => fun _ _ h => by cases h
 | 192 => fun _ _ h => by cases h
 | 193 => fun _ _ h => by cases h
 | 194 => fun _ _ h => by cases h
 | 195 => fun _ _ h => by cases h
 | 196 => fun _ _ h => by cases h
 | 197 => fun _ _ h => by cases h
 | 198 => fun _ _ h => by cases h
 | 199 => fun _ _ h => by cases h
 | 200 => fun _ _ h => by cases h
 | 201 => fun d _ h => (eb201 rf rb d).symm.trans ((sb201 rf rb d.1 d.2.1 d.2.2.1 d.2.2.2).trans h)
 | 202 => eb202.g
 | 203 => eb203.g
 | 204 => eb204.g
 | 205 => eb205.g
 | 206 => eb206.g
 | 207 => fun _ _ h => by cases h
 | 208 => fun _ _ h => by cases h
 | 209 => fun _ _ h => by cases h
 | 210 => fun _ _ h => by cases h
 | 211 => fun _ _ h => by cases h
 | 212 => fun _ _ h => by cases h
 | 213 => fun _ _ h => by cases h
 | 214 => fun _ _ h => by cases h
 | 215 => fun _ _ h => by cases h
 | 216 => fun _ _ h => by cases h
 | 217 => fun _ _ h => by cases h
 | 218 => fun _ _ h => by cases h
 | 219 => fun _ _ h => by cases h
 | 220 => fun _ _ h => by cases h
 | 221 => fun _ _ h => by cases h
 | 222 => fun _ _ h => by cases h
 | 223 => fun _ _ h => by cases h
 | 224 => fun _ _ h => by cases h
 | 225 => fun _ _ h => by cases h
 | 226 => fun _ _ h => by cases h
 | 227 => fun _ _ h => by cases h
 | 228 => fun _ _ h => by cases h
 | 229 => fun _ _ h => by cases h
 | 230 => fun _ _ h => by cases h
 | 231 => fun _ _ h => by cases h
 | 232 => fun _ _ h => by cases h
 | 233 => fun _ _ h => by cases h
 | 234 => fun _ _ h => by cases h
 | 235 => fun _ _ h => by cases h
 | 236 => fun _ _ h => by cases h
 | 237 => fun _ _ h => by cases h
 | 238 => fun _ _ h => by cases h
 | 239 => fun _ _ h => by cases h
 | 240 => fun _ _ h => by cases h
 | 241 => fun _ _ h => by cases h
 | 242 => fun _ _ h => by cases h
 | 243 => fun _ _ h => by cases h
 | 244 => eb244.g
 | 245 => fun d _ h => (eb245 rf rb d).symm.trans ((sb245 rf rb d.1 d.2.1 d.2.2.1 d.2.2.2.1 d.2.2.2.2.1 d.2.2.2.2.2.1 d.2.2.2.2.2.2.1 d.2.2.2.2.2.2.2.1 d.2.2.2.2.2.2.2.2.1 d.2.2.2.2.2.2.2.2.2.1 d.2.2.2.2.2.2.2.2.2.2).trans h)
 | 246 => fun d _ h => (eb246 rf rb d).symm.trans ((sb246 rf rb d.1 d.2.1 d.2.2.1 d.2.2.2.1 d.2.2.2.2.1 d.2.2.2.2.2.1 d.2.2.2.2.2.2.1 d.2.2.2.2.2.2.2.1 d.2.2.2.2.2.2.2.2.1 d.2.2.2.2.2.2.2.2.2.1 d.2.2.2.2.2.2.2.2.2.2.1 d.2.2.2.2.2.2.2.2.2.2.2.1 d.2.2.2.2.2.2.2.2.2.2.2.2.1 d.2.2.2.2.2.2.2.2.2.2.2.2.2.1 d.2.2.2.2.2.2.2.2.2.2.2.2.2.2.1 d.2.2.2.2.2.2.2.2.2.2.2.2.2.2.2.1 d.2.2.2.2.2.2.2.2.2.2.2.2.2.2.2.2).trans h)
 | 247 => eb247.g
 | 248 => eb248.g
 | 249 => fun d _ h => (eb249 rf rb d).symm.trans ((sb249 rf rb d.1 d.2.1 d.2.2.1 d.2.2.2.1 d.2.2.2.2.1 d.2.2.2.2.2.1 d.2.2.2.2.2.2.1 d.2.2.2.2.2.2.2.1 d.2.2.2.2.2.2.2.2.1 d.2.2.2.2.2.2.2.2.2.1 d.2.2.2.2.2.2.2.2.2.2.1 d.2.2.2.2.2.2.2.2.2.2.2.1 d.2.2.2.2.2.2.2.2.2.2.2.2.1 d.2.2.2.2.2.2.2.2.2.2.2.2.2.1 d.2.2.2.2.2.2.2.2.2.2.2.2.2.2).trans h)
 | 250 => eb250.g
 | 251 => fun d _ h => (eb251 rf rb d).symm.trans ((sb251 rf rb d.1 d.2.1 d.2.2.1 d.2.2.2.1 d.2.2.2.2.1 d.2.2.2.2.2.1 d.2.2.2.2.2.2.1 d.2.2.2.2.2.2.2.1 d.2.2.2.2.2.2.2.2.1 d.2.2.2.2.2.2.2.2.2.1 d.2.2.2.2.2.2.2.2.2.2.1 d.2.2.2.2.2.2.2.2.2.2.2).trans h)
 | 252 => fun d _ h => (eb252 rf rb d).symm.trans ((sb252 rf rb d.1 d.2.1 d.2.2.1 d.2.2.2.1 d.2.2.2.2.1 d.2.2.2.2.2.1 d.2.2.2.2.2.2.1 d.2.2.2.2.2.2.2.1 d.2.2.2.2.2.2.2.2).trans h)
 | 253 => eb253.g
 | 254 => eb254.g
 | 255 => fun _ _ h => by cases h
 | 256 => fun _ _ h => by cases h
 | 257 => fun _ _ h => by cases h
 | 258 => fun _ _ h => by cases h
 | 259 => fun _ _ h => by cases h
 | 260 => fun _ _ h => by cases h
 | 261 => fun _ _ h => by cases h
 | 262 => fun _ _ h => by cases h
 | 263 => fun _ _ h => by cases h
 | 264 => fun _ _ h => by cases h
 | 265 => fun _ _ h => by cases h
 | 266 => fun _ _ h => by cases h
 | 267 => fun _ _ h => by cases h
 | 268 => fun _ _ h => by cases h
 | 269 => fun _ _ h => by cases h
 | 270 => fun _ _ h => by cases h
 | 271 => fun _ _ h => by cases h
 | 272 => fun _ _ h => by cases h
 | 273 => fun _ _ h => by cases h
 | 274 => fun _ _ h => by cases h
 | 275 => fun _ _ h => by cases h
 | 276 => fun _ _ h => by cases h
 | 277 => fun _ _ h => by cases h
 | 278 => fun _ _ h => by cases h
 | 279 => fun _ _ h => by cases h
 | 280 => fun _ _ h => by cases h
 | 281 => fun _ _ h => by cases h
 | 282 => fun _ _ h => by cases h
 | 283 => fun _ _ h => by cases h
 | 284 => fun _ _ h => by cases h
 | 285 => fun _ _ h => by cases h
 | 286 => fun _ _ h => by cases h
 | 287 => fun _ _ h => by cases h
 | 288 => fun _ _ h => by cases h
 | 289 => fun _ _ h => by cases h
 | 290 => fun _ _ h => by cases h
 | 291 => fun _ _ h => by cases h
 | 292 => fun _ _ h => by cases h
 | 293 => fun _ _ h => by cases h
 | 294 => fun _ _ h => by cases h
 | 295 => fun _ _ h => by cases h
 | 296 => fun _ _ h => by cases h
 | 297 => fun _ _ h => by cases h
 | 298 => fun _ _ h => by cases h
 | 299 => fun _ _ h => by cases h
 | 300 => fun _ _ h => by cases h
 | 301 => fun _ _ h => by cases h
 | 302 => fun _ _ h => by cases h
 | 303 => fun _ _ h => by cases h
 | 304 => fun _ _ h => by cases h
 | 305 => fun _ _ h => by cases h
 | 306 => fun _ _ h => by cases h
 | 307 => fun _ _ h => by cases h
 | 308 => fun _ _ h => by cases h
 | 309 => fun _ _ h => by cases h
 | 310 => fun _ _ h => by cases h
 | 311 => fun _ _ h => by cases h
 | 312 => fun _ _ h => by cases h
 | 313 => fun _ _ h => by cases h
 | 314 => fun _ _ h => by cases h
 | 315 => fun _ _ h => by cases h
 | 316 => fun _ _ h => by cases h
 | 317 => fun _ _ h => by cases h
 | 318 => fun _ _ h => by cases h
 | 319 => fun _ _ h => by cases h
 | 320 => fun _ _ h => by cases h
 | 321 => fun _ _ h => by cases h
 | 322 => fun _ _ h => by cases h
 | 323 => fun _ _ h => by cases h
 | 324 => fun _ _ h => by cases h
 | 325 => fun _ _ h => by cases h
 | 326 => fun _ _ h => by cases h
 | 327 => fun _ _ h => by cases h
 | 328 => fun _ _ h => by cases h
 | 329 => fun _ _ h => by cases h
 | 330 => fun _ _ h => by cases h
 | 331 => fun _ _ h => by cases h
 | 332 => fun _ _ h => by cases h
 | 333 => fun _ _ h => by cases h
 | 334 => fun _ _ h => by cases h
 | 335 => fun _ _ h => by cases h
 | 336 => fun _ _ h => by cases h
 | 337 => fun _ _ h => by cases h
 | 338 => fun _ _ h => by cases h
 | 339 => fun _ _ h => by cases h
 | 340 => fun _ _ h => by cases h
 | 341 => fun _ _ h => by cases h
 | 342 => fun _ _ h => by cases h
 | 343 => fun _ _ h => by cases h
 | 344 => fun _ _ h => by cases h
 | 345 => fun _ _ h => by cases h
 | 346 => fun _ _ h => by cases h
 | 347 => fun _ _ h => by cases h
 | 348 => fun _ _ h => by cases h
 | 349 => fun _ _ h => by cases h
 | 350 => fun _ _ h => by cases h
 | 351 => fun _ _ h => by cases h
 | 352 => fun _ _ h => by cases h
 | 353 => fun _ _ h => by cases h
 | 354 => fun _ _ h => by cases h
 | 355 => fun _ _ h => by cases h
 | 356 => fun _ _ h => by cases h
 | 357 => fun _ _ h => by cases h
 | 358 => fun _ _ h => by cases h
 | 359 => fun _ _ h => by cases h
 | 360 => fun _ _ h => by cases h
 | 361 => fun _ _ h => by cases h
 | 362 => eb362.g
 | 363 => fun d _ h => (eb363 rf rb d).symm.trans ((sb363 rf rb d.1 d.2.1 d.2.2.1 d.2.2.2.1 d.2.2.2.2.1 d.2.2.2.2.2).trans h)
 | 364 => eb364.g
 | 365 => fun d _ h => (eb365 rf rb d).symm.trans ((sb365 rf rb d.1 d.2.1 d.2.2.1 d.2.2.2.1 d.2.2.2.2.1 d.2.2.2.2.2).trans h)
 | 366 => eb366.g
 | 367 => fun d _ h => (eb367 rf rb d).symm.trans ((sb367 rf rb d.1 d.2.1 d.2.2.1 d.2.2.2.1 d.2.2.2.2.1 d.2.2.2.2.2.1 d.2.2.2.2.2.2.1 d.2.2.2.2.2.2.2).trans h)
 | 368 => eb368.g
 | 369 => eb369.g
 | 370 => fun d _ h => (eb370 rf rb d).symm.trans ((sb370 rf rb d.1 d.2.1 d.2.2.1 d.2.2.2.1 d.2.2.2.2.1 d.2.2.2.2.2.1 d.2.2.2.2.2.2.1 d.2.2.2.2.2.2.2).trans h)
 | 371 => fun _ _ h => by cases h
 | 372 => eb372.g
 | 373 => eb373.g
 | 374 => eb374.g
 | 375 => eb375.g
 | 376 => eb376.g
 | 377 => fun _ _ h => by cases h
 | 378 => fun _ _ h => by cases h
 | 379 => fun _ _ h => by cases h
 | 380 => fun _ _ h => by cases h
 | 381 => fun _ _ h => by cases h
 | 382 => eb382.g
 | 383 => eb383.g
 | 384 => eb384.g
 | 385 => fun _ _ h => by cases h
 | 386 => eb386.g
 | 387 => eb387.g
 | 388 => eb388.g
 | 389 => fun _ _ h => by cases h
 | 390 => eb390.g
 | 391 => eb391.g
 | 392 => eb392.g
 | 393 => eb393.g
 | 394 => eb394.g
 | 395 => eb395.g
 | 396 => fun _ _ h => by cases h
 | 397 => eb397.g
 | 398 => fun _ _ h => by cases h
 | 399 => fun _ _ h => by cases h
 | 400 => eb400.g
 | 401 => fun _ _ h => by cases h
 | 402 => fun _ _ h => by cases h
 | 403 => fun _ _ h => by cases h
 | 404 => fun _ _ h => by cases h
 | 405 => eb405.g
 | 406 => eb406.g
 | 407 => fun _ _ h => by cases h
 | 408 => eb408.g
 | 409 => eb409.g
 | 410 => fun _ _ h => by cases h
 | 411 => fun _ _ h => by cases h
 | 412 => fun _ _ h => by cases h
 | 413 => eb413.g
 | 414 => eb414.g
 | 415 => eb415.g
 | 416 => eb416.g
 | 417 => eb417.g
 | 418 => fun _ _ h => by cases h
 | 419 => eb419.g
 | 420 => fun _ _ h => by cases h
 | 421 => fun _ _ h => by cases h
 | 422 => fun _ _ h => by cases h
 | 423 => fun _ _ h => by cases h
 | 424 => fun _ _ h => by cases h
 | 425 => fun _ _ h => by cases h
 | 426 => fun _ _ h => by cases h
 | 427 => fun _ _ h => by cases h
 | 428 => fun _ _ h => by cases h
 | 429 => fun _ _ h => by cases h
 | 430 => fun _ _ h => by cases h
 | 431 => fun _ _ h => by cases h
 | 432 => eb432.g
 | 433 => eb433.g
 | 434 => fun _ _ h => by cases h
 | 435 => fun _ _ h => by cases h
 | 436 => fun _ _ h => by cases h
 | 437 => fun _ _ h => by cases h
 | 438 => fun _ _ h => by cases h
 | 439 => fun _ _ h => by cases h
 | 440 => fun _ _ h => by cases h
 | 441 => fun _ _ h => by cases h
 | 442 => fun _ _ h => by cases h
 | 443 => fun _ _ h => by cases h
 | 444 => fun _ _ h => by cases h
 | 445 => fun _ _ h => by cases h
 | 446 => fun _ _ h => by cases h
 | 447 => fun _ _ h => by cases h
 | 448 => fun _ _ h => by cases h
 | 449 => fun _ _ h => by cases h
 | 450 => fun _ _ h => by cases h
 | 451 => eb451.g
 | 452 => fun _ _ h => by cases h
 | 453 => fun _ _ h => by cases h
 | 454 => fun _ _ h => by cases h
 | 455 => fun _ _ h => by cases h
 | 456 => fun _ _ h => by cases h
 | 457 => fun _ _ h => by cases h
 | 458 => fun _ _ h => by cases h
 | 459 => fun _ _ h => by cases h
 | 460 => fun _ _ h => by cases h
 | 461 => fun _ _ h => by cases h
 | 462 => fun _ _ h => by cases h
 | 463 => fun _ _ h => by cases h
 | 464 => fun _ _ h => by cases h
 | 465 => fun _ _ h => by cases h
 | 466 => fun _ _ h => by cases h
 | 467 => fun _ _ h => by cases h
 | 468 => fun _ _ h => by cases h
 | 469 => fun _ _ h => by cases h
 | 470 => fun _ _ h => by cases h
 | 471 => fun _ _ h => by cases h
 | 472 => fun _ _ h => by cases h
 | 473 => fun _ _ h => by cases h
 | 474 => fun _ _ h => by cases h
 | 475 => fun _ _ h => by cases h
 | 476 => fun _ _ h => by cases h
 | 477 => eb477.g
 | 478 => fun d _ h => (eb478 rf rb d).symm.trans ((sb478 rf rb d.1 d.2.1 d.2.2.1 d.2.2.2.1 d.2.2.2.2).trans h)
 | 479 => fun d _ h => (eb479 rf rb d).symm.trans ((sb479 rf rb d.1 d.2.1 d.2.2.1 d.2.2.2.1 d.2.2.2.2.1 d.2.2.2.2.2).trans h)
 | 480 => eb480.g
 | 481 => fun d _ h => (eb481 rf rb d).symm.trans ((sb481 rf rb d.1 d.2.1 d.2.2.1 d.2.2.2.1 d.2.2.2.2.1 d.2.2.2.2.2.1 d.2.2.2.2.2.2.1 d.2.2.2.2.2.2.2).trans h)
 | 482 => fun _ _ h => by cases h
 | 483 => eb483.g
 | 484 => eb484.g
 | 485 => eb485.g
 | 486 => fun _ _ h => by cases h
 | 487 => fun _ _ h => by cases h
 | 488 => fun _ _ h => by cases h
 | 489 => eb489.g
 | 490 => eb490.g
 | 491 => eb491.g
 | 492 => eb492.g
 | 493 => eb493.g
 | 494 => eb494.g
 | n + 495 => fun _ _ h => by cases h
noncomputable def G:Nat → T.RF × T.RB
 | 0 => (fun _ _ => none,fun _ _ => none)
 | n + 1 => (gF (G n).1 (G n).2,gB (G n).1 (G n).2)
theorem run_F (n:Nat) {φ:Nat} {d} {y} (h:(G n).1 φ d = some y):T.rf φ d = some y:=(Tbl.approx gF_ok gB_ok rfl (fun _ => rfl) n).1 φ d y h
theorem live_run:c2 T.rf = some true:=run_F 400 (φ:=2) (d:=()) (by kernel_rfl)
end Go.Proofs.YtadonikkibahnaaGreat.R
