import Derived.Test.YtlobhcgbmpcdlaaGreatDoorRes
import Derived.Test.YtlobhcgbmpcdlaaGreatDoorBmF
import Derived.KernelRfl
namespace Go.Proofs.YtlobhcgbmpcdlaaGreatDoor.R
open Go Go.Bm Go.Proofs
set_option linter.unusedVariables false
set_option maxRecDepth 100000
noncomputable def gF (rf : T.RF) (rb : T.RB) : T.RF := fun φ => match φ with
 | 0 => r0 rf rb
 | 1 => r1 rf rb
 | 2 => U0 (r2 rf rb)
 | 3 => r3 rf rb
 | 4 => r4 rf rb
 | 5 => U2 (r5 rf rb)
 | 6 => r6 rf rb
 | 7 => r7 rf rb
 | 8 => r8 rf rb
 | 9 => U2 (r9 rf rb)
 | 10 => r10 rf rb
 | 11 => U0 (r11 rf rb)
 | 12 => r12 rf rb
 | 13 => r13 rf rb
 | 14 => U0 (r14 rf rb)
 | 15 => U5 (r15 rf rb)
 | 16 => U4 (r16 rf rb)
 | 17 => U5 (r17 rf rb)
 | 18 => U5 (r18 rf rb)
 | 19 => U2 (r19 rf rb)
 | 20 => r20 rf rb
 | 21 => U2 (r21 rf rb)
 | 22 => U2 (r22 rf rb)
 | 23 => r23 rf rb
 | 24 => r24 rf rb
 | 25 => r25 rf rb
 | 26 => U2 (r26 rf rb)
 | 27 => r27 rf rb
 | 28 => U2 (r28 rf rb)
 | 29 => U2 (r29 rf rb)
 | 30 => r30 rf rb
 | 31 => r31 rf rb
 | 32 => r32 rf rb
 | 33 => r33 rf rb
 | 34 => r34 rf rb
 | 35 => U2 (r35 rf rb)
 | 36 => r36 rf rb
 | 37 => r37 rf rb
 | 38 => r38 rf rb
 | 39 => r39 rf rb
 | 40 => r40 rf rb
 | 41 => r41 rf rb
 | 42 => r42 rf rb
 | 43 => r43 rf rb
 | 44 => r44 rf rb
 | 45 => U2 (r45 rf rb)
 | 46 => U2 (r46 rf rb)
 | 47 => U4 (r47 rf rb)
 | 48 => U3 (r48 rf rb)
 | 49 => r49 rf rb
 | 50 => U2 (r50 rf rb)
 | 51 => U2 (r51 rf rb)
 | 52 => U2 (r52 rf rb)
 | 53 => U2 (r53 rf rb)
 | 54 => U2 (r54 rf rb)
 | 55 => U2 (r55 rf rb)
 | 56 => r56 rf rb
 | 57 => U2 (r57 rf rb)
 | 58 => r58 rf rb
 | 59 => r59 rf rb
 | 60 => r60 rf rb
 | 61 => U4 (r61 rf rb)
 | 62 => r62 rf rb
 | 63 => r63 rf rb
 | 64 => r64 rf rb
 | 65 => r65 rf rb
 | 66 => r66 rf rb
 | 67 => r67 rf rb
 | 68 => r68 rf rb
 | 69 => r69 rf rb
 | 70 => r70 rf rb
 | 71 => r71 rf rb
 | 72 => U2 (r72 rf rb)
 | 73 => U2 (r73 rf rb)
 | 74 => r74 rf rb
 | 75 => r75 rf rb
 | 76 => r76 rf rb
 | 77 => r77 rf rb
 | 78 => r78 rf rb
 | 79 => r79 rf rb
 | 80 => r80 rf rb
 | 81 => r81 rf rb
 | 82 => r82 rf rb
 | 83 => r83 rf rb
 | 84 => r84 rf rb
 | 85 => r85 rf rb
 | 86 => r86 rf rb
 | 87 => r87 rf rb
 | 88 => r88 rf rb
 | 89 => r89 rf rb
 | 90 => r90 rf rb
 | 91 => r91 rf rb
 | 92 => r92 rf rb
 | 93 => r93 rf rb
 | 94 => r94 rf rb
 | 95 => U2 (r95 rf rb)
 | 96 => U2 (r96 rf rb)
 | 97 => U2 (r97 rf rb)
 | 98 => r98 rf rb
 | 99 => r99 rf rb
 | 100 => b9o rf rb
 | 101 => b9p rf rb
 | 102 => c1w rf rb
 | 103 => b9q rf rb
 | 104 => b9r rf rb
 | 105 => b9s rf rb
 | 106 => c1x rf rb
 | 107 => c1y rf rb
 | 108 => b9t rf rb
 | 109 => b9u rf rb
 | 110 => b9v rf rb
 | 111 => c1z rf rb
 | 112 => U2 (c1A rf rb)
 | 113 => U2 (c1B rf rb)
 | 114 => U2 (c1C rf rb)
 | 115 => U3 (c1D rf rb)
 | 116 => U2 (c1E rf rb)
 | 117 => U2 (b2V rf rb)
 | 118 => U2 (c1F rf rb)
 | 119 => c1G rf rb
 | 120 => U3 (a5L rf rb)
 | 121 => b6P rf rb
 | 122 => U0 (c6b rf rb)
 | 123 => c1H rf rb
 | 124 => U3 (c1I rf rb)
 | 125 => c1J rf rb
 | 126 => c6c rf rb
 | 127 => U3 (b9w rf rb)
 | 128 => U4 (c1K rf rb)
 | 129 => c1L rf rb
 | 130 => b9x rf rb
 | 131 => U3 (c1M rf rb)
 | 132 => c6d rf rb
 | 133 => c1N rf rb
 | 134 => c1O rf rb
 | 135 => c1P rf rb
 | 136 => c1Q rf rb
 | 137 => c6e rf rb
 | 138 => U2 (c6f rf rb)
 | 139 => U3 (c6g rf rb)
 | 140 => c1R rf rb
 | 141 => d2O rf rb
 | 142 => d2P rf rb
 | 143 => d2Q rf rb
 | 144 => U2 (d2R rf rb)
 | 145 => d2S rf rb
 | 146 => d2T rf rb
 | 147 => c1S rf rb
 | 148 => U2 (d2U rf rb)
 | 149 => U3 (d2V rf rb)
 | 150 => U2 (c6h rf rb)
 | 151 => U2 (c6i rf rb)
 | 152 => U2 (c6j rf rb)
 | 153 => U2 (c6k rf rb)
 | 154 => U2 (c6l rf rb)
 | 155 => c1T rf rb
 | 156 => c6m rf rb
 | 157 => U2 (c6n rf rb)
 | 158 => c6o rf rb
 | _ => fun _ => none
theorem d1m (rf : T.RF) (rb : T.RB) : ∀ φ d y, gF rf rb φ d = some y → T.a3D rf rb φ d = some y := fun φ => match φ with
 | 0 => fun d _ h => (er0 rf rb d).symm.trans h
 | 1 => fun d _ h => (er1 rf rb d).symm.trans h
 | 2 => fun d _ h => (er2 rf rb d).symm.trans h
 | 3 => fun d _ h => (er3 rf rb d).symm.trans h
 | 4 => fun d _ h => (er4 rf rb d).symm.trans h
 | 5 => fun d _ h => (er5 rf rb d).symm.trans h
 | 6 => fun d _ h => (er6 rf rb d).symm.trans h
 | 7 => fun d _ h => (er7 rf rb d).symm.trans h
 | 8 => fun d _ h => (er8 rf rb d).symm.trans h
 | 9 => fun d _ h => (er9 rf rb d).symm.trans h
 | 10 => fun d _ h => (c8m rf rb d).symm.trans h
 | 11 => fun d _ h => (c8n rf rb d).symm.trans h
 | 12 => fun d _ h => (c8o rf rb d).symm.trans h
 | 13 => fun d _ h => (c8p rf rb d).symm.trans h
 | 14 => fun d _ h => (c8q rf rb d).symm.trans h
 | 15 => fun d _ h => (d3D rf rb d).symm.trans ((d6s rf rb d.1 d.2.1 d.2.2.1 d.2.2.2.1 d.2.2.2.2).trans h)
 | 16 => fun d _ h => (d3E rf rb d).symm.trans h
 | 17 => fun d _ h => (d3F rf rb d).symm.trans h
 | 18 => fun d _ h => (d3G rf rb d).symm.trans ((d6t rf rb d.1 d.2.1 d.2.2.1 d.2.2.2.1 d.2.2.2.2).trans h)
 | 19 => fun d _ h => (c8z rf rb d).symm.trans h
 | 20 => fun d _ h => (c8A rf rb d).symm.trans h
 | 21 => fun d _ h => (c8B rf rb d).symm.trans h
 | 22 => fun d _ h => (c8C rf rb d).symm.trans ((d3i rf rb d.1 d.2).trans h)
 | 23 => fun d _ h => (c8D rf rb d).symm.trans h
 | 24 => fun d _ h => (c8E rf rb d).symm.trans h
 | 25 => fun d _ h => (c8F rf rb d).symm.trans ((d3j rf rb d).trans h)
 | 26 => fun d _ h => (c8G rf rb d).symm.trans ((d3k rf rb d.1 d.2).trans h)
 | 27 => fun d _ h => (c8H rf rb d).symm.trans h
 | 28 => fun d _ h => (c8I rf rb d).symm.trans h
 | 29 => fun d _ h => (c8J rf rb d).symm.trans h
 | 30 => fun d _ h => (c8K rf rb d).symm.trans h
 | 31 => fun d _ h => (c8L rf rb d).symm.trans h
 | 32 => fun d _ h => (c8M rf rb d).symm.trans h
 | 33 => fun d _ h => (c8N rf rb d).symm.trans h
 | 34 => fun d _ h => (c8O rf rb d).symm.trans ((d3l rf rb d).trans h)
 | 35 => fun d _ h => (c8P rf rb d).symm.trans h
 | 36 => fun d _ h => (c8Q rf rb d).symm.trans h
 | 37 => fun d _ h => (c8R rf rb d).symm.trans h
 | 38 => fun d _ h => (c8S rf rb d).symm.trans h
 | 39 => fun d _ h => (c8T rf rb d).symm.trans h
 | 40 => fun d _ h => (c8U rf rb d).symm.trans h
 | 41 => fun d _ h => (c8V rf rb d).symm.trans h
 | 42 => fun d _ h => (c8W rf rb d).symm.trans h
 | 43 => fun d _ h => (c8X rf rb d).symm.trans h
 | 44 => fun d _ h => (c8Y rf rb d).symm.trans h
 | 45 => fun d _ h => (c8Z rf rb d).symm.trans ((d3m rf rb d.1 d.2).trans h)
 | 46 => fun d _ h => (c9a rf rb d).symm.trans h
 | 47 => fun d _ h => (c9b rf rb d).symm.trans h
 | 48 => fun d _ h => (c9c rf rb d).symm.trans h
 | 49 => fun d _ h => (c9d rf rb d).symm.trans h
 | 50 => fun d _ h => (c9e rf rb d).symm.trans h
 | 51 => fun d _ h => (c9f rf rb d).symm.trans h
 | 52 => fun d _ h => (c9g rf rb d).symm.trans h
 | 53 => fun d _ h => (c9h rf rb d).symm.trans h
 | 54 => fun d _ h => (c9i rf rb d).symm.trans h
 | 55 => fun d _ h => (c9j rf rb d).symm.trans h
 | 56 => fun d _ h => (c9k rf rb d).symm.trans h
 | 57 => fun d _ h => (c9l rf rb d).symm.trans h
 | 58 => fun d _ h => (c9m rf rb d).symm.trans h
 | 59 => fun d _ h => (c9n rf rb d).symm.trans h
 | 60 => fun d _ h => (c9o rf rb d).symm.trans h
 | 61 => fun d _ h => (c9p rf rb d).symm.trans h
 | 62 => fun d _ h => (c9q rf rb d).symm.trans h
 | 63 => fun d _ h => (c9r rf rb d).symm.trans h
 | 64 => fun d _ h => (c9s rf rb d).symm.trans h
 | 65 => fun d _ h => (c9t rf rb d).symm.trans h
 | 66 => fun d _ h => (c9u rf rb d).symm.trans h
 | 67 => fun d _ h => (c9v rf rb d).symm.trans h
 | 68 => fun d _ h => (c9w rf rb d).symm.trans h
 | 69 => fun d _ h => (c9x rf rb d).symm.trans h
 | 70 => fun d _ h => (c9y rf rb d).symm.trans h
 | 71 => fun d _ h => (c9z rf rb d).symm.trans h
 | 72 => fun d _ h => (c9A rf rb d).symm.trans h
 | 73 => fun d _ h => (c9B rf rb d).symm.trans h
 | 74 => fun d _ h => (c9C rf rb d).symm.trans h
 | 75 => fun d _ h => (c9D rf rb d).symm.trans h
 | 76 => fun d _ h => (c9E rf rb d).symm.trans h
 | 77 => fun d _ h => (c9F rf rb d).symm.trans h
 | 78 => fun d _ h => (c9G rf rb d).symm.trans h
 | 79 => fun d _ h => (c9H rf rb d).symm.trans h
 | 80 => fun d _ h => (c9I rf rb d).symm.trans h
 | 81 => fun d _ h => (c9J rf rb d).symm.trans h
 | 82 => fun d _ h => (c9K rf rb d).symm.trans h
 | 83 => fun d _ h => (c9L rf rb d).symm.trans h
 | 84 => fun d _ h => (c9M rf rb d).symm.trans h
 | 85 => fun d _ h => (c9N rf rb d).symm.trans h
 | 86 => fun d _ h => (c9O rf rb d).symm.trans h
 | 87 => fun d _ h => (c9P rf rb d).symm.trans h
 | 88 => fun d _ h => (c9Q rf rb d).symm.trans h
 | 89 => fun d _ h => (c9R rf rb d).symm.trans h
 | 90 => fun d _ h => (c9S rf rb d).symm.trans h
 | 91 => fun d _ h => (c9T rf rb d).symm.trans h
 | 92 => fun d _ h => (c9U rf rb d).symm.trans h
 | 93 => fun d _ h => (c9V rf rb d).symm.trans h
 | 94 => fun d _ h => (c9W rf rb d).symm.trans h
 | 95 => fun d _ h => (c9X rf rb d).symm.trans h
 | 96 => fun d _ h => (c9Y rf rb d).symm.trans h
 | 97 => fun d _ h => (c9Z rf rb d).symm.trans h
 | 98 => fun d _ h => (d0a rf rb d).symm.trans h
 | 99 => fun d _ h => (d0b rf rb d).symm.trans h
 | 100 => fun d _ h => (c2K rf rb d).symm.trans h
 | 101 => fun d _ h => (c2L rf rb d).symm.trans h
 | 102 => fun d _ h => (c2M rf rb d).symm.trans h
 | 103 => fun d _ h => (c2N rf rb d).symm.trans h
 | 104 => fun d _ h => (c2O rf rb d).symm.trans h
 | 105 => fun d _ h => (c2P rf rb d).symm.trans h
 | 106 => fun d _ h => (c2Q rf rb d).symm.trans h
 | 107 => fun d _ h => (c2R rf rb d).symm.trans h
 | 108 => fun d _ h => (c2S rf rb d).symm.trans h
 | 109 => fun d _ h => (c2T rf rb d).symm.trans h
 | 110 => fun d _ h => (c2U rf rb d).symm.trans h
 | 111 => fun d _ h => (c2V rf rb d).symm.trans h
 | 112 => fun d _ h => (c2W rf rb d).symm.trans h
 | 113 => fun d _ h => (c2X rf rb d).symm.trans h
 | 114 => fun d _ h => (c2Y rf rb d).symm.trans h
 | 115 => fun d _ h => (c2Z rf rb d).symm.trans h
 | 116 => fun d _ h => (c3a rf rb d).symm.trans h
 | 117 => fun d _ h => (c3b rf rb d).symm.trans h
 | 118 => fun d _ h => (c3c rf rb d).symm.trans h
 | 119 => fun d _ h => (c3d rf rb d).symm.trans h
 | 120 => fun d _ h => (c3e rf rb d).symm.trans h
 | 121 => fun d _ h => (c3f rf rb d).symm.trans h
 | 122 => fun d _ h => (c3g rf rb d).symm.trans h
 | 123 => fun d _ h => (c3h rf rb d).symm.trans h
 | 124 => fun d _ h => (c3i rf rb d).symm.trans h
 | 125 => fun d _ h => (c3j rf rb d).symm.trans h
 | 126 => fun d _ h => (c3k rf rb d).symm.trans h
 | 127 => fun d _ h => (c3l rf rb d).symm.trans h
 | 128 => fun d _ h => (c3m rf rb d).symm.trans h
 | 129 => fun d _ h => (c3n rf rb d).symm.trans h
 | 130 => fun d _ h => (c3o rf rb d).symm.trans h
 | 131 => fun d _ h => (c3p rf rb d).symm.trans h
 | 132 => fun d _ h => (c3q rf rb d).symm.trans h
 | 133 => fun d _ h => (c3r rf rb d).symm.trans ((c4h rf rb d).trans h)
 | 134 => fun d _ h => (c3s rf rb d).symm.trans ((c4i rf rb d).trans h)
 | 135 => fun d _ h => (c3t rf rb d).symm.trans ((c4j rf rb d).trans h)
 | 136 => fun d _ h => (c3u rf rb d).symm.trans ((c4k rf rb d).trans h)
 | 137 => fun d _ h => (c3v rf rb d).symm.trans h
 | 138 => fun d _ h => (c3w rf rb d).symm.trans h
 | 139 => fun d _ h => (c3x rf rb d).symm.trans h
 | 140 => fun d _ h => (c3y rf rb d).symm.trans ((c4l rf rb d).trans h)
 | 141 => fun d _ h => (c8r rf rb d).symm.trans h
 | 142 => fun d _ h => (c8s rf rb d).symm.trans h
 | 143 => fun d _ h => (c8t rf rb d).symm.trans h
 | 144 => fun d _ h => (c8u rf rb d).symm.trans h
 | 145 => fun d _ h => (c8v rf rb d).symm.trans h
 | 146 => fun d _ h => (c8w rf rb d).symm.trans h
 | 147 => fun d _ h => (c3z rf rb d).symm.trans h
 | 148 => fun d _ h => (c8x rf rb d).symm.trans h
 | 149 => fun d _ h => (c8y rf rb d).symm.trans h
 | 150 => fun d _ h => (c3A rf rb d).symm.trans h
 | 151 => fun d _ h => (c3B rf rb d).symm.trans h
 | 152 => fun d _ h => (c3C rf rb d).symm.trans h
 | 153 => fun d _ h => (c3D rf rb d).symm.trans h
 | 154 => fun d _ h => (c3E rf rb d).symm.trans h
 | 155 => fun d _ h => (c3F rf rb d).symm.trans h
 | 156 => fun d _ h => (c3G rf rb d).symm.trans h
 | 157 => fun d _ h => (c3H rf rb d).symm.trans h
 | 158 => fun d _ h => (c3I rf rb d).symm.trans h
 | n + 159 => fun _ _ h => by cases h
noncomputable def gB (rf : T.RF) (rb : T.RB) : T.RB := fun φ => match φ with
 | 0 => U2 (b0 rf rb)
 | 1 => U2 (b1 rf rb)
 | 2 => U2 (b2 rf rb)
 | 3 => U2 (b3 rf rb)
 | 6 => U2 (b6 rf rb)
 | 7 => U3 (b7 rf rb)
 | 8 => U2 (b8 rf rb)
 | 9 => U3 (b9 rf rb)
 | 10 => U2 (b10 rf rb)
 | 11 => U3 (b11 rf rb)
 | 12 => U4 (b12 rf rb)
 | 13 => U2 (b13 rf rb)
 | 17 => U2 (b17 rf rb)
 | 22 => U4 (b22 rf rb)
 | 23 => U6 (b23 rf rb)
 | 25 => U2 (b25 rf rb)
 | 27 => U2 (b27 rf rb)
 | 29 => U2 (b29 rf rb)
 | 31 => U2 (b31 rf rb)
 | 33 => U2 (b33 rf rb)
 | 35 => U2 (b35 rf rb)
 | 43 => U3 (b43 rf rb)
 | 44 => U4 (b44 rf rb)
 | 46 => U3 (b46 rf rb)
 | 47 => U4 (b47 rf rb)
 | 49 => U2 (b49 rf rb)
 | 50 => U2 (b50 rf rb)
 | 52 => U2 (b52 rf rb)
 | 54 => U2 (b54 rf rb)
 | 69 => U4 (b69 rf rb)
 | 70 => U8 (b70 rf rb)
 | 71 => U4 (b71 rf rb)
 | 72 => U3 (b72 rf rb)
 | 73 => U3 (b73 rf rb)
 | 74 => U3 (b74 rf rb)
 | 75 => U5 (b75 rf rb)
 | 76 => U2 (b76 rf rb)
 | 77 => U3 (b77 rf rb)
 | 78 => U7 (b78 rf rb)
 | 79 => U4 (b79 rf rb)
 | 86 => U4 (b86 rf rb)
 | 87 => U5 (b87 rf rb)
 | 88 => U3 (b88 rf rb)
 | 89 => U3 (b89 rf rb)
 | 90 => U3 (b90 rf rb)
 | 93 => U4 (b93 rf rb)
 | 95 => U5 (b95 rf rb)
 | 99 => U5 (b99 rf rb)
 | 101 => U5 (b7A rf rb)
 | 106 => U2 (b7B rf rb)
 | 107 => U4 (b7C rf rb)
 | 108 => U2 (b5Z rf rb)
 | 109 => U4 (b7D rf rb)
 | 110 => U4 (b7E rf rb)
 | 120 => U5 (c4x rf rb)
 | 170 => U5 (c0v rf rb)
 | 171 => U11 (c4y rf rb)
 | 172 => U13 (c0w rf rb)
 | 173 => U13 (c0x rf rb)
 | 174 => U9 (c4z rf rb)
 | 175 => U11 (c0y rf rb)
 | 178 => U3 (c6I rf rb)
 | 179 => U4 (c6J rf rb)
 | 180 => U4 (c6K rf rb)
 | 181 => U3 (c6L rf rb)
 | 183 => U5 (c6M rf rb)
 | 198 => U10 (c4A rf rb)
 | 199 => U10 (c6N rf rb)
 | 200 => U9 (c4B rf rb)
 | 203 => U5 (c4C rf rb)
 | 204 => U3 (c4D rf rb)
 | 205 => U3 (c4E rf rb)
 | 206 => U3 (c4F rf rb)
 | 207 => U3 (c4G rf rb)
 | 208 => U3 (c4H rf rb)
 | 209 => U3 (c4I rf rb)
 | _ => fun _ => none
theorem d1l (rf : T.RF) (rb : T.RB) : ∀ φ d y, gB rf rb φ d = some y → T.a1D rf rb φ d = some y := fun φ => match φ with
 | 0 => fun d _ h => (eb0 rf rb d).symm.trans h
 | 1 => fun d _ h => (eb1 rf rb d).symm.trans h
 | 2 => fun d _ h => (eb2 rf rb d).symm.trans h
 | 3 => fun d _ h => (eb3 rf rb d).symm.trans h
 | 4 => fun _ _ h => by cases h
 | 5 => fun _ _ h => by cases h
 | 6 => fun d _ h => (eb6 rf rb d).symm.trans h
 | 7 => fun d _ h => (eb7 rf rb d).symm.trans h
 | 8 => fun d _ h => (eb8 rf rb d).symm.trans h
 | 9 => fun d _ h => (eb9 rf rb d).symm.trans h
 | 10 => fun d _ h => (c7o rf rb d).symm.trans h
 | 11 => fun d _ h => (c7p rf rb d).symm.trans h
 | 12 => fun d _ h => (c7q rf rb d).symm.trans h
 | 13 => fun d _ h => (c7r rf rb d).symm.trans h
 | 14 => fun _ _ h => by cases h
 | 15 => fun _ _ h => by cases h
 | 16 => fun _ _ h => by cases h
 | 17 => fun d _ h => (c7s rf rb d).symm.trans h
 | 18 => fun _ _ h => by cases h
 | 19 => fun _ _ h => by cases h
 | 20 => fun _ _ h => by cases h
 | 21 => fun _ _ h => by cases h
 | 22 => fun d _ h => (c7C rf rb d).symm.trans h
 | 23 => fun d _ h => (c7D rf rb d).symm.trans h
 | 24 => fun _ _ h => by cases h
 | 25 => fun d _ h => (c7E rf rb d).symm.trans h
 | 26 => fun _ _ h => by cases h
 | 27 => fun d _ h => (c7F rf rb d).symm.trans h
 | 28 => fun _ _ h => by cases h
 | 29 => fun d _ h => (c7G rf rb d).symm.trans h
 | 30 => fun _ _ h => by cases h
 | 31 => fun d _ h => (c7H rf rb d).symm.trans h
 | 32 => fun _ _ h => by cases h
 | 33 => fun d _ h => (c7I rf rb d).symm.trans h
 | 34 => fun _ _ h => by cases h
 | 35 => fun d _ h => (c7J rf rb d).symm.trans h
 | 36 => fun _ _ h => by cases h
 | 37 => fun _ _ h => by cases h
 | 38 => fun _ _ h => by cases h
 | 39 => fun _ _ h => by cases h
 | 40 => fun _ _ h => by cases h
 | 41 => fun _ _ h => by cases h
 | 42 => fun _ _ h => by cases h
 | 43 => fun d _ h => (c7K rf rb d).symm.trans h
 | 44 => fun d _ h => (c7L rf rb d).symm.trans ((d3c rf rb d.1 d.2.1 d.2.2.1 d.2.2.2).trans h)
 | 45 => fun _ _ h => by cases h
 | 46 => fun d _ h => (c7M rf rb d).symm.trans h
 | 47 => fun d _ h => (c7N rf rb d).symm.trans h
 | 48 => fun _ _ h => by cases h
 | 49 => fun d _ h => (c7O rf rb d).symm.trans h
 | 50 => fun d _ h => (c7P rf rb d).symm.trans h
 | 51 => fun _ _ h => by cases h
 | 52 => fun d _ h => (c7Q rf rb d).symm.trans h
 | 53 => fun _ _ h => by cases h
 | 54 => fun d _ h => (c7R rf rb d).symm.trans h
 | 55 => fun _ _ h => by cases h
 | 56 => fun _ _ h => by cases h
 | 57 => fun _ _ h => by cases h
 | 58 => fun _ _ h => by cases h
 | 59 => fun _ _ h => by cases h
 | 60 => fun _ _ h => by cases h
 | 61 => fun _ _ h => by cases h
 | 62 => fun _ _ h => by cases h
 | 63 => fun _ _ h => by cases h
 | 64 => fun _ _ h => by cases h
 | 65 => fun _ _ h => by cases h
 | 66 => fun _ _ h => by cases h
 | 67 => fun _ _ h => by cases h
 | 68 => fun _ _ h => by cases h
 | 69 => fun d _ h => (c7S rf rb d).symm.trans ((d3d rf rb d.1 d.2.1 d.2.2.1 d.2.2.2).trans h)
 | 70 => fun d _ h => (c7T rf rb d).symm.trans ((d3e rf rb d.1 d.2.1 d.2.2.1 d.2.2.2.1 d.2.2.2.2.1 d.2.2.2.2.2.1 d.2.2.2.2.2.2.1 d.2.2.2.2.2.2.2).trans h)
 | 71 => fun d _ h => (c7U rf rb d).symm.trans h
 | 72 => fun d _ h => (c7V rf rb d).symm.trans h
 | 73 => fun d _ h => (c7W rf rb d).symm.trans h
 | 74 => fun d _ h => (c7X rf rb d).symm.trans h
 | 75 => fun d _ h => (c7Y rf rb d).symm.trans h
 | 76 => fun d _ h => (c7Z rf rb d).symm.trans ((d3f rf rb d.1 d.2).trans h)
 | 77 => fun d _ h => (c8a rf rb d).symm.trans h
 | 78 => fun d _ h => (c8b rf rb d).symm.trans h
 | 79 => fun d _ h => (c8c rf rb d).symm.trans h
 | 80 => fun _ _ h => by cases h
 | 81 => fun _ _ h => by cases h
 | 82 => fun _ _ h => by cases h
 | 83 => fun _ _ h => by cases h
 | 84 => fun _ _ h => by cases h
 | 85 => fun _ _ h => by cases h
 | 86 => fun d _ h => (c8d rf rb d).symm.trans h
 | 87 => fun d _ h => (c8e rf rb d).symm.trans ((d3g rf rb d.1 d.2.1 d.2.2.1 d.2.2.2.1 d.2.2.2.2).trans h)
 | 88 => fun d _ h => (c8f rf rb d).symm.trans h
 | 89 => fun d _ h => (c8g rf rb d).symm.trans h
 | 90 => fun d _ h => (c8h rf rb d).symm.trans h
 | 91 => fun _ _ h => by cases h
 | 92 => fun _ _ h => by cases h
 | 93 => fun d _ h => (c8i rf rb d).symm.trans h
 | 94 => fun _ _ h => by cases h
 | 95 => fun d _ h => (c8j rf rb d).symm.trans h
 | 96 => fun _ _ h => by cases h
 | 97 => fun _ _ h => by cases h
 | 98 => fun _ _ h => by cases h
 | 99 => fun d _ h => (c8k rf rb d).symm.trans h
 | 100 => fun _ _ h => by cases h
 | 101 => fun d _ h => (c2r rf rb d).symm.trans h
 | 102 => fun _ _ h => by cases h
 | 103 => fun _ _ h => by cases h
 | 104 => fun _ _ h => by cases h
 | 105 => fun _ _ h => by cases h
 | 106 => fun d _ h => (c2s rf rb d).symm.trans h
 | 107 => fun d _ h => (c2t rf rb d).symm.trans h
 | 108 => fun d _ h => (c2u rf rb d).symm.trans h
 | 109 => fun d _ h => (c2v rf rb d).symm.trans h
 | 110 => fun d _ h => (c2w rf rb d).symm.trans h
 | 111 => fun _ _ h => by cases h
 | 112 => fun _ _ h => by cases h
 | 113 => fun _ _ h => by cases h
 | 114 => fun _ _ h => by cases h
 | 115 => fun _ _ h => by cases h
 | 116 => fun _ _ h => by cases h
 | 117 => fun _ _ h => by cases h
 | 118 => fun _ _ h => by cases h
 | 119 => fun _ _ h => by cases h
 | 120 => fun d _ h => (c2x rf rb d).symm.trans h
 | 121 => fun _ _ h => by cases h
 | 122 => fun _ _ h => by cases h
 | 123 => fun _ _ h => by cases h
 | 124 => fun _ _ h => by cases h
 | 125 => fun _ _ h => by cases h
 | 126 => fun _ _ h => by cases h
 | 127 => fun _ _ h => by cases h
 | 128 => fun _ _ h => by cases h
 | 129 => fun _ _ h => by cases h
 | 130 => fun _ _ h => by cases h
 | 131 => fun _ _ h => by cases h
 | 132 => fun _ _ h => by cases h
 | 133 => fun _ _ h => by cases h
 | 134 => fun _ _ h => by cases h
 | 135 => fun _ _ h => by cases h
 | 136 => fun _ _ h => by cases h
 | 137 => fun _ _ h => by cases h
 | 138 => fun _ _ h => by cases h
 | 139 => fun _ _ h => by cases h
 | 140 => fun _ _ h => by cases h
 | 141 => fun _ _ h => by cases h
 | 142 => fun _ _ h => by cases h
 | 143 => fun _ _ h => by cases h
 | 144 => fun _ _ h => by cases h
 | 145 => fun _ _ h => by cases h
 | 146 => fun _ _ h => by cases h
 | 147 => fun _ _ h => by cases h
 | 148 => fun _ _ h => by cases h
 | 149 => fun _ _ h => by cases h
 | 150 => fun _ _ h => by cases h
 | 151 => fun _ _ h => by cases h
 | 152 => fun _ _ h => by cases h
 | 153 => fun _ _ h => by cases h
 | 154 => fun _ _ h => by cases h
 | 155 => fun _ _ h => by cases h
 | 156 => fun _ _ h => by cases h
 | 157 => fun _ _ h => by cases h
 | 158 => fun _ _ h => by cases h
 | 159 => fun _ _ h => by cases h
 | 160 => fun _ _ h => by cases h
 | 161 => fun _ _ h => by cases h
 | 162 => fun _ _ h => by cases h
 | 163 => fun _ _ h => by cases h
 | 164 => fun _ _ h => by cases h
 | 165 => fun _ _ h => by cases h
 | 166 => fun _ _ h => by cases h
 | 167 => fun _ _ h => by cases h
 | 168 => fun _ _ h => by cases h
 | 169 => fun _ _ h => by cases h
 | 170 => fun d _ h => (c2y rf rb d).symm.trans ((c4d rf rb d.1 d.2.1 d.2.2.1 d.2.2.2.1 d.2.2.2.2).trans h)
 | 171 => fun d _ h => (c2z rf rb d).symm.trans h
 | 172 => fun d _ h => (c2A rf rb d).symm.trans ((c4e rf rb d.1 d.2.1 d.2.2.1 d.2.2.2.1 d.2.2.2.2.1 d.2.2.2.2.2.1 d.2.2.2.2.2.2.1 d.2.2.2.2.2.2.2.1 d.2.2.2.2.2.2.2.2.1 d.2.2.2.2.2.2.2.2.2.1 d.2.2.2.2.2.2.2.2.2.2.1 d.2.2.2.2.2.2.2.2.2.2.2.1 d.2.2.2.2.2.2.2.2.2.2.2.2).trans h)
 | 173 => fun d _ h => (c2B rf rb d).symm.trans ((c4f rf rb d.1 d.2.1 d.2.2.1 d.2.2.2.1 d.2.2.2.2.1 d.2.2.2.2.2.1 d.2.2.2.2.2.2.1 d.2.2.2.2.2.2.2.1 d.2.2.2.2.2.2.2.2.1 d.2.2.2.2.2.2.2.2.2.1 d.2.2.2.2.2.2.2.2.2.2.1 d.2.2.2.2.2.2.2.2.2.2.2.1 d.2.2.2.2.2.2.2.2.2.2.2.2).trans h)
 | 174 => fun d _ h => (c2C rf rb d).symm.trans h
 | 175 => fun d _ h => (c2D rf rb d).symm.trans ((c4g rf rb d.1 d.2.1 d.2.2.1 d.2.2.2.1 d.2.2.2.2.1 d.2.2.2.2.2.1 d.2.2.2.2.2.2.1 d.2.2.2.2.2.2.2.1 d.2.2.2.2.2.2.2.2.1 d.2.2.2.2.2.2.2.2.2.1 d.2.2.2.2.2.2.2.2.2.2).trans h)
 | 176 => fun _ _ h => by cases h
 | 177 => fun _ _ h => by cases h
 | 178 => fun d _ h => (c7t rf rb d).symm.trans h
 | 179 => fun d _ h => (c7u rf rb d).symm.trans h
 | 180 => fun d _ h => (c7v rf rb d).symm.trans h
 | 181 => fun d _ h => (c7w rf rb d).symm.trans h
 | 182 => fun _ _ h => by cases h
 | 183 => fun d _ h => (c7x rf rb d).symm.trans h
 | 184 => fun _ _ h => by cases h
 | 185 => fun _ _ h => by cases h
 | 186 => fun _ _ h => by cases h
 | 187 => fun _ _ h => by cases h
 | 188 => fun _ _ h => by cases h
 | 189 => fun _ _ h => by cases h
 | 190 => fun _ _ h => by cases h
 | 191 => fun _ _ h => by cases h
 | 192 => fun _ _ h => by cases h
 | 193 => fun _ _ h => by cases h
 | 194 => fun _ _ h => by cases h
 | 195 => fun _ _ h => by cases h
 | 196 => fun _ _ h => by cases h
 | 197 => fun _ _ h => by cases h
 | 198 => fun d _ h => (c7y rf rb d).symm.trans ((d2Z rf rb d.1 d.2.1 d.2.2.1 d.2.2.2.1 d.2.2.2.2.1 d.2.2.2.2.2.1 d.2.2.2.2.2.2.1 d.2.2.2.2.2.2.2.1 d.2.2.2.2.2.2.2.2.1 d.2.2.2.2.2.2.2.2.2).trans h)
 | 199 => fun d _ h => (c7z rf rb d).symm.trans h
 | 200 => fun d _ h => (c7A rf rb d).symm.trans ((d3a rf rb d.1 d.2.1 d.2.2.1 d.2.2.2.1 d.2.2.2.2.1 d.2.2.2.2.2.1 d.2.2.2.2.2.2.1 d.2.2.2.2.2.2.2.1 d.2.2.2.2.2.2.2.2).trans h)
 | 201 => fun _ _ h => by cases h
 | 202 => fun _ _ h => by cases h
 | 203 => fun d _ h => (c7B rf rb d).symm.trans ((d3b rf rb d.1 d.2.1 d.2.2.1 d.2.2.2.1 d.2.2.2.2).trans h)
 | 204 => fun d _ h => (c2E rf rb d).symm.trans h
 | 205 => fun d _ h => (c2F rf rb d).symm.trans h
 | 206 => fun d _ h => (c2G rf rb d).symm.trans h
 | 207 => fun d _ h => (c2H rf rb d).symm.trans h
 | 208 => fun d _ h => (c2I rf rb d).symm.trans h
 | 209 => fun d _ h => (c2J rf rb d).symm.trans h
 | n + 210 => fun _ _ h => by cases h
noncomputable def G : Nat → T.RF × T.RB
 | 0 => (fun _ _ => none, fun _ _ => none)
 | n + 1 => (gF (G n).1 (G n).2, gB (G n).1 (G n).2)
theorem d2Y (n : Nat) {φ : Nat} {d} {y} (h : (G n).1 φ d = some y) : T.rf φ d = some y := (Tbl.approx d1m d1l rfl (fun _ => rfl) n).1 φ d y h
theorem b8L : c2 T.rf = some true := d2Y 400 (φ := 2) (d := ()) (by kernel_rfl)
end Go.Proofs.YtlobhcgbmpcdlaaGreatDoor.R
