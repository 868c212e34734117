import Derived.Test.YtelpjfihadaomaaGreatDoorRes
import Derived.Test.YtelpjfihadaomaaGreatDoorBmF
import Derived.KernelRfl
namespace Go.Proofs.YtelpjfihadaomaaGreatDoor.R
open Go Go.Bm Go.Proofs
set_option linter.unusedVariables false
set_option maxRecDepth 100000
noncomputable def gF (rf:T.RF) (rb:T.RB):T.RF:=fun φ => match φ with
 | 0 => U2 (r0 rf rb)
 | 1 => r1 rf rb
 | 2 => U0 (r2 rf rb)
 | 3 => r3 rf rb
 | 4 => r4 rf rb
 | 5 => U2 (r5 rf rb)
 | 6 => r6 rf rb
 | 7 => r7 rf rb
 | 8 => r8 rf rb
 | 9 => U2 (r9 rf rb)
 | 10 => r10 rf rb
 | 11 => U0 (r11 rf rb)
 | 12 => r12 rf rb
 | 13 => r13 rf rb
 | 14 => U0 (r14 rf rb)
 | 15 => U5 (r15 rf rb)
 | 16 => U4 (r16 rf rb)
 | 17 => U5 (r17 rf rb)
 | 18 => U5 (r18 rf rb)
 | 19 => U2 (r19 rf rb)
 | 20 => r20 rf rb
 | 21 => U2 (r21 rf rb)
 | 22 => U2 (r22 rf rb)
 | 23 => r23 rf rb
 | 24 => r24 rf rb
 | 25 => r25 rf rb
 | 26 => U2 (r26 rf rb)
 | 27 => r27 rf rb
 | 28 => U2 (r28 rf rb)
 | 29 => U2 (r29 rf rb)
 | 30 => r30 rf rb
 | 31 => r31 rf rb
 | 32 => r32 rf rb
 | 33 => r33 rf rb
 | 34 => r34 rf rb
 | 35 => U2 (r35 rf rb)
 | 36 => r36 rf rb
 | 37 => r37 rf rb
 | 38 => r38 rf rb
 | 39 => r39 rf rb
 | 40 => r40 rf rb
 | 41 => r41 rf rb
 | 42 => r42 rf rb
 | 43 => r43 rf rb
 | 44 => r44 rf rb
 | 45 => U2 (r45 rf rb)
 | 46 => U2 (r46 rf rb)
 | 47 => U4 (r47 rf rb)
 | 48 => U3 (r48 rf rb)
 | 49 => r49 rf rb
 | 50 => U2 (r50 rf rb)
 | 51 => U2 (r51 rf rb)
 | 52 => U2 (r52 rf rb)
 | 53 => U2 (r53 rf rb)
 | 54 => U2 (r54 rf rb)
 | 55 => U2 (r55 rf rb)
 | 56 => r56 rf rb
 | 57 => U2 (r57 rf rb)
 | 58 => r58 rf rb
 | 59 => r59 rf rb
 | 60 => r60 rf rb
 | 61 => U4 (r61 rf rb)
 | 62 => r62 rf rb
 | 63 => r63 rf rb
 | 64 => r64 rf rb
 | 65 => r65 rf rb
 | 66 => r66 rf rb
 | 67 => U0 (r67 rf rb)
 | 68 => r68 rf rb
 | 69 => r69 rf rb
 | 70 => r70 rf rb
 | 71 => r71 rf rb
 | 72 => r72 rf rb
 | 73 => U2 (r73 rf rb)
 | 74 => U2 (r74 rf rb)
 | 75 => r75 rf rb
 | 76 => r76 rf rb
 | 77 => r77 rf rb
 | 78 => r78 rf rb
 | 79 => r79 rf rb
 | 80 => r80 rf rb
 | 81 => r81 rf rb
 | 82 => r82 rf rb
 | 83 => r83 rf rb
 | 84 => r84 rf rb
 | 85 => r85 rf rb
 | 86 => r86 rf rb
 | 87 => r87 rf rb
 | 88 => r88 rf rb
 | 89 => r89 rf rb
 | 90 => r90 rf rb
 | 91 => r91 rf rb
 | 92 => r92 rf rb
 | 93 => r93 rf rb
 | 94 => r94 rf rb
 | 95 => r95 rf rb
 | 96 => U2 (r96 rf rb)
 | 97 => U2 (r97 rf rb)
 | 98 => U2 (r98 rf rb)
 | 99 => r99 rf rb
 | 100 => c4H rf rb
 | 101 => c1J rf rb
 | 102 => c1K rf rb
 | 103 => c4I rf rb
 | 104 => c1L rf rb
 | 105 => c1M rf rb
 | 106 => c1N rf rb
 | 107 => c4J rf rb
 | 108 => c4K rf rb
 | 109 => c1O rf rb
 | 110 => c1P rf rb
 | 111 => c1Q rf rb
 | 112 => c4L rf rb
 | 113 => c4M rf rb
 | 114 => c1R rf rb
 | 115 => c1T rf rb
 | 116 => c1V rf rb
 | 117 => c1X rf rb
 | 118 => c4N rf rb
 | 119 => U2 (c4O rf rb)
 | 120 => U3 (c4P rf rb)
 | 121 => c1Z rf rb
 | 122 => U5 (c2b rf rb)
 | 123 => U2 (c4Q rf rb)
 | 124 => U5 (c4R rf rb)
 | 125 => U5 (c2c rf rb)
 | 126 => U4 (c4S rf rb)
 | 127 => U2 (c4T rf rb)
 | 128 => U3 (d9e rf rb)
 | 129 => U3 (c4U rf rb)
 | 130 => c4V rf rb
 | 131 => c4W rf rb
 | 132 => c4X rf rb
 | 133 => U2 (c4Y rf rb)
 | 134 => U5 (c2d rf rb)
 | 135 => U3 (d9f rf rb)
 | 136 => U3 (c4Z rf rb)
 | 137 => d2G rf rb
 | 138 => U5 (c5a rf rb)
 | 139 => U2 (c5b rf rb)
 | 140 => U2 (c2f rf rb)
 | 141 => U2 (c5c rf rb)
 | 142 => U2 (c5d rf rb)
 | 143 => U2 (d2H rf rb)
 | 144 => c5e rf rb
 | 145 => c5f rf rb
 | 146 => c5g rf rb
 | 147 => c5h rf rb
 | 148 => c5i rf rb
 | 149 => c5j rf rb
 | 150 => c5k rf rb
 | 151 => c5l rf rb
 | 152 => c5m rf rb
 | 153 => U2 (c5n rf rb)
 | 154 => c5o rf rb
 | 155 => c5p rf rb
 | 156 => c5q rf rb
 | 157 => c5r rf rb
 | 158 => U2 (c5s rf rb)
 | 159 => U3 (c5t rf rb)
 | 160 => U4 (c2g rf rb)
 | 161 => U4 (c5u rf rb)
 | 162 => c5v rf rb
 | 163 => U2 (c5w rf rb)
 | 164 => U4 (c2h rf rb)
 | 165 => U3 (c5x rf rb)
 | 166 => c5y rf rb
 | 167 => U3 (c5z rf rb)
 | 168 => U4 (b8n rf rb)
 | 169 => c5A rf rb
 | 170 => U4 (c2i rf rb)
 | 171 => U3 (c5B rf rb)
 | 172 => U3 (c5C rf rb)
 | 173 => U2 (c5D rf rb)
 | 174 => U3 (c5E rf rb)
 | 175 => U4 (c2j rf rb)
 | 176 => U5 (c5F rf rb)
 | 177 => U2 (c5G rf rb)
 | 178 => U2 (b8o rf rb)
 | 179 => U2 (b3M rf rb)
 | 180 => U2 (a8W rf rb)
 | 181 => U2 (c5H rf rb)
 | 182 => U2 (b8p rf rb)
 | 183 => U2 (c5I rf rb)
 | 184 => c5J rf rb
 | 185 => c5K rf rb
 | 186 => U2 (c5L rf rb)
 | 187 => c5M rf rb
 | 188 => U2 (c5N rf rb)
 | _ => fun _ => none
theorem d6u (rf:T.RF) (rb:T.RB):∀ φ d y,gF rf rb φ d = some y → T.a2H rf rb φ d = some y:=fun φ => match φ with
 | 0 => er0.g
 | 1 => er1.g
 | 2 => er2.g
 | 3 => er3.g
 | 4 => er4.g
 | 5 => er5.g
 | 6 => er6.g
 | 7 => er7.g
 | 8 => er8.g
 | 9 => er9.g
 | 10 => d3N.g
 | 11 => d3O.g
 | 12 => d3P.g
 | 13 => d9N.g
 | 14 => d9O.g
 | 15 => fun d _ h => (d9P rf rb d).symm.trans ((e3n rf rb d.1 d.2.1 d.2.2.1 d.2.2.2.1 d.2.2.2.2).trans h)
 | 16 => d9Q.g
 | 17 => d9R.g
 | 18 => fun d _ h => (d9S rf rb d).symm.trans ((e3o rf rb d.1 d.2.1 d.2.2.1 d.2.2.2.1 d.2.2.2.2).trans h)
 | 19 => d9T.g
 | 20 => d9U.g
 | 21 => d9V.g
 | 22 => fun d _ h => (d9W rf rb d).symm.trans ((e3p rf rb d.1 d.2).trans h)
 | 23 => d9X.g
 | 24 => d9Y.g
 | 25 => fun d _ h => (d9Z rf rb d).symm.trans ((e3q rf rb d).trans h)
 | 26 => fun d _ h => (e0a rf rb d).symm.trans ((e3r rf rb d.1 d.2).trans h)
 | 27 => e0b.g
 | 28 => e0c.g
 | 29 => e0d.g
 | 30 => e0e.g
 | 31 => e0f.g
 | 32 => e0g.g
 | 33 => e0h.g
 | 34 => fun d _ h => (e0i rf rb d).symm.trans ((e3s rf rb d).trans h)
 | 35 => e0j.g
 | 36 => e0k.g
 | 37 => e0l.g
 | 38 => e0m.g
 | 39 => e0n.g
 | 40 => e0o.g
 | 41 => e0p.g
 | 42 => e0q.g
 | 43 => e0r.g
 | 44 => e0s.g
 | 45 => fun d _ h => (e0t rf rb d).symm.trans ((e3t rf rb d.1 d.2).trans h)
 | 46 => e0u.g
 | 47 => d3S.g
 | 48 => d3T.g
 | 49 => d3U.g
 | 50 => d3V.g
 | 51 => d3W.g
 | 52 => d3X.g
 | 53 => e0v.g
 | 54 => e0w.g
 | 55 => e0x.g
 | 56 => e0y.g
 | 57 => e0z.g
 | 58 => e0A.g
 | 59 => e0B.g
 | 60 => e0C.g
 | 61 => e0D.g
 | 62 => d3Y.g
 | 63 => e0E.g
 | 64 => e0F.g
 | 65 => e0G.g
 | 66 => d3Z.g
 | 67 => e0H.g
 | 68 => d4a.g
 | 69 => d4b.g
 | 70 => d4c.g
 | 71 => d4d.g
 | 72 => d4e.g
 | 73 => d4f.g
 | 74 => d4g.g
 | 75 => d4h.g
 | 76 => d4i.g
 | 77 => d4j.g
 | 78 => d4k.g
 | 79 => d4l.g
 | 80 => d4m.g
 | 81 => d4n.g
 | 82 => d4o.g
 | 83 => d4p.g
 | 84 => d4q.g
 | 85 => d4r.g
 | 86 => d4s.g
 | 87 => d4t.g
 | 88 => d4u.g
 | 89 => d4v.g
 | 90 => d4w.g
 | 91 => d4x.g
 | 92 => d4y.g
 | 93 => d4z.g
 | 94 => d4A.g
 | 95 => d4B.g
 | 96 => d4C.g
 | 97 => d4D.g
 | 98 => d4E.g
 | 99 => d4F.g
 | 100 => c7A.g
 | 101 => c7B.g
 | 102 => c7C.g
 | 103 => c7D.g
 | 104 => c7E.g
 | 105 => c7F.g
 | 106 => c7G.g
 | 107 => c7H.g
 | 108 => c7I.g
 | 109 => c7J.g
 | 110 => c7K.g
 | 111 => c7L.g
 | 112 => c7M.g
 | 113 => c7N.g
 | 114 => fun d _ h => (c7O rf rb d).symm.trans ((d0V rf rb d).trans h)
 | 115 => fun d _ h => (c7P rf rb d).symm.trans ((d0W rf rb d).trans h)
 | 116 => fun d _ h => (c7Q rf rb d).symm.trans ((d0X rf rb d).trans h)
 | 117 => fun d _ h => (c7R rf rb d).symm.trans ((d0Y rf rb d).trans h)
 | 118 => c7S.g
 | 119 => c7T.g
 | 120 => c7U.g
 | 121 => fun d _ h => (c7V rf rb d).symm.trans ((d0Z rf rb d).trans h)
 | 122 => c7W.g
 | 123 => c7X.g
 | 124 => c7Y.g
 | 125 => c7Z.g
 | 126 => c8a.g
 | 127 => c8b.g
 | 128 => d3Q.g
 | 129 => c8c.g
 | 130 => c8d.g
 | 131 => c8e.g
 | 132 => c8f.g
 | 133 => c8g.g
 | 134 => fun d _ h => (c8h rf rb d).symm.trans ((d1a rf rb d.1 d.2.1 d.2.2.1 d.2.2.2.1 d.2.2.2.2).trans h)
 | 135 => d3R.g
 | 136 => c8i.g
 | 137 => c8j.g
 | 138 => c8k.g
 | 139 => c8l.g
 | 140 => c8m.g
 | 141 => c8n.g
 | 142 => c8o.g
 | 143 => c8p.g
 | 144 => c8q.g
 | 145 => c8r.g
 | 146 => c8s.g
 | 147 => c8t.g
 | 148 => c8u.g
 | 149 => c8v.g
 | 150 => c8w.g
 | 151 => c8x.g
 | 152 => c8y.g
 | 153 => c8z.g
 | 154 => c8A.g
 | 155 => c8B.g
 | 156 => c8C.g
 | 157 => c8D.g
 | 158 => c8E.g
 | 159 => c8F.g
 | 160 => c8G.g
 | 161 => c8H.g
 | 162 => c8I.g
 | 163 => c8J.g
 | 164 => c8K.g
 | 165 => c8L.g
 | 166 => c8M.g
 | 167 => c8N.g
 | 168 => c8O.g
 | 169 => c8P.g
 | 170 => c8Q.g
 | 171 => c8R.g
 | 172 => c8S.g
 | 173 => c8T.g
 | 174 => c8U.g
 | 175 => c8V.g
 | 176 => c8W.g
 | 177 => c8X.g
 | 178 => c8Y.g
 | 179 => c8Z.g
 | 180 => c9a.g
 | 181 => c9b.g
 | 182 => c9c.g
 | 183 => c9d.g
 | 184 => c9e.g
 | 185 => c9f.g
 | 186 => c9g.g
 | 187 => c9h.g
 | 188 => c9i.g
 | n + 189 => fun _ _ h => by cases h
noncomputable def gB (rf:T.RF) (rb:T.RB):T.RB:=fun φ => match φ with
 | 0 => U2 (b0 rf rb)
 | 1 => U2 (b1 rf rb)
 | 2 => U2 (b2 rf rb)
 | 3 => U2 (b3 rf rb)
 | 6 => U2 (b6 rf rb)
 | 7 => U3 (b7 rf rb)
 | 8 => U2 (b8 rf rb)
 | 9 => U3 (b9 rf rb)
 | 10 => U2 (b10 rf rb)
 | 11 => U3 (b11 rf rb)
 | 12 => U4 (b12 rf rb)
 | 13 => U2 (b13 rf rb)
 | 17 => U2 (b17 rf rb)
 | 22 => U4 (b22 rf rb)
 | 23 => U6 (b23 rf rb)
 | 25 => U2 (b25 rf rb)
 | 27 => U2 (b27 rf rb)
 | 29 => U2 (b29 rf rb)
 | 31 => U2 (b31 rf rb)
 | 33 => U2 (b33 rf rb)
 | 35 => U2 (b35 rf rb)
 | 43 => U3 (b43 rf rb)
 | 44 => U4 (b44 rf rb)
 | 46 => U3 (b46 rf rb)
 | 47 => U4 (b47 rf rb)
 | 49 => U2 (b49 rf rb)
 | 50 => U2 (b50 rf rb)
 | 52 => U2 (b52 rf rb)
 | 54 => U2 (b54 rf rb)
 | 69 => U4 (b69 rf rb)
 | 70 => U8 (b70 rf rb)
 | 71 => U4 (b71 rf rb)
 | 72 => U3 (b72 rf rb)
 | 73 => U3 (b73 rf rb)
 | 74 => U3 (b74 rf rb)
 | 75 => U5 (b75 rf rb)
 | 76 => U2 (b76 rf rb)
 | 77 => U3 (b77 rf rb)
 | 78 => U7 (b78 rf rb)
 | 79 => U4 (b79 rf rb)
 | 86 => U4 (b86 rf rb)
 | 87 => U5 (b87 rf rb)
 | 88 => U3 (b88 rf rb)
 | 89 => U3 (b89 rf rb)
 | 90 => U3 (b90 rf rb)
 | 100 => U5 (b8R rf rb)
 | 150 => U5 (b6U rf rb)
 | 151 => U11 (c3a rf rb)
 | 152 => U13 (b6V rf rb)
 | 153 => U13 (b6W rf rb)
 | 154 => U9 (c3b rf rb)
 | 155 => U11 (b6X rf rb)
 | 162 => U7 (b8W rf rb)
 | 169 => U5 (b8X rf rb)
 | 170 => U6 (b8Y rf rb)
 | 178 => U3 (b6Y rf rb)
 | 180 => U4 (b8Z rf rb)
 | 182 => U7 (b2H rf rb)
 | 183 => U4 (b9a rf rb)
 | 190 => U4 (b9b rf rb)
 | 191 => U6 (b6Z rf rb)
 | 192 => U10 (b7a rf rb)
 | 193 => U15 (b9d rf rb)
 | 194 => U9 (b7b rf rb)
 | 195 => U7 (b7c rf rb)
 | 196 => U7 (b9e rf rb)
 | 197 => U9 (b7d rf rb)
 | 198 => U8 (b9f rf rb)
 | 199 => U3 (b7e rf rb)
 | 201 => U5 (b7f rf rb)
 | 202 => U4 (b9g rf rb)
 | 203 => U4 (b9h rf rb)
 | 204 => U2 (b9i rf rb)
 | 205 => U2 (b9j rf rb)
 | 206 => U2 (b9k rf rb)
 | 207 => U3 (a7I rf rb)
 | 208 => U4 (b2I rf rb)
 | 209 => U4 (b7g rf rb)
 | 210 => U3 (b4z rf rb)
 | 211 => U2 (b9l rf rb)
 | 212 => U2 (b9m rf rb)
 | 213 => U2 (b9n rf rb)
 | 217 => U5 (b9o rf rb)
 | 232 => U10 (b7h rf rb)
 | 233 => U10 (b9q rf rb)
 | 234 => U9 (b7i rf rb)
 | 237 => U5 (b7j rf rb)
 | 238 => U8 (b7k rf rb)
 | 239 => U5 (b9t rf rb)
 | 243 => U3 (b9u rf rb)
 | 247 => U3 (b9v rf rb)
 | 248 => U4 (b9w rf rb)
 | 250 => U5 (b9x rf rb)
 | 256 => U3 (b9y rf rb)
 | 271 => U3 (b9z rf rb)
 | 278 => U2 (b9A rf rb)
 | 279 => U6 (b4A rf rb)
 | 280 => U6 (b9B rf rb)
 | 281 => U4 (b9C rf rb)
 | 291 => U5 (b9D rf rb)
 | 292 => U5 (b9E rf rb)
 | 293 => U7 (b4B rf rb)
 | 294 => U4 (c3c rf rb)
 | 296 => U8 (b7l rf rb)
 | 301 => U7 (b9G rf rb)
 | 302 => U3 (b7m rf rb)
 | 303 => U7 (b7n rf rb)
 | 304 => U11 (b9H rf rb)
 | 305 => U3 (b7o rf rb)
 | 306 => U3 (b7p rf rb)
 | 307 => U3 (b4C rf rb)
 | 308 => U3 (b9I rf rb)
 | 309 => U3 (a7J rf rb)
 | 310 => U3 (b7q rf rb)
 | 311 => U3 (b9J rf rb)
 | 312 => U2 (b9K rf rb)
 | 313 => U3 (b9L rf rb)
 | 318 => U3 (b9M rf rb)
 | 319 => U4 (b9N rf rb)
 | 320 => U3 (b9O rf rb)
 | 321 => U5 (b9P rf rb)
 | _ => fun _ => none
theorem d6t (rf:T.RF) (rb:T.RB):∀ φ d y,gB rf rb φ d = some y → T.a0R rf rb φ d = some y:=fun φ => match φ with
 | 0 => eb0.g
 | 1 => eb1.g
 | 2 => eb2.g
 | 3 => eb3.g
 | 4 => fun _ _ h => by cases h
 | 5 => fun _ _ h => by cases h
 | 6 => eb6.g
 | 7 => eb7.g
 | 8 => eb8.g
 | 9 => eb9.g
 | 10 => d3s.g
 | 11 => d9u.g
 | 12 => d9v.g
 | 13 => d9w.g
 | 14 => fun _ _ h => by cases h
 | 15 => fun _ _ h => by cases h
 | 16 => fun _ _ h => by cases h
 | 17 => d9x.g
 | 18 => fun _ _ h => by cases h
 | 19 => fun _ _ h => by cases h
 | 20 => fun _ _ h => by cases h
 | 21 => fun _ _ h => by cases h
 | 22 => d3t.g
 | 23 => d3u.g
 | 24 => fun _ _ h => by cases h
 | 25 => d9y.g
 | 26 => fun _ _ h => by cases h
 | 27 => d9z.g
 | 28 => fun _ _ h => by cases h
 | 29 => d9A.g
 | 30 => fun _ _ h => by cases h
 | 31 => d9B.g
 | 32 => fun _ _ h => by cases h
 | 33 => d9C.g
 | 34 => fun _ _ h => by cases h
 | 35 => d9D.g
 | 36 => fun _ _ h => by cases h
 | 37 => fun _ _ h => by cases h
 | 38 => fun _ _ h => by cases h
 | 39 => fun _ _ h => by cases h
 | 40 => fun _ _ h => by cases h
 | 41 => fun _ _ h => by cases h
 | 42 => fun _ _ h => by cases h
 | 43 => d3v.g
 | 44 => fun d _ h => (d3w rf rb d).symm.trans ((d9l rf rb d.1 d.2.1 d.2.2.1 d.2.2.2).trans h)
 | 45 => fun _ _ h => by cases h
 | 46 => d9E.g
 | 47 => d9F.g
 | 48 => fun _ _ h => by cases h
 | 49 => d9G.g
 | 50 => d9H.g
 | 51 => fun _ _ h => by cases h
 | 52 => d9I.g
 | 53 => fun _ _ h => by cases h
 | 54 => d9J.g
 | 55 => fun _ _ h => by cases h
 | 56 => fun _ _ h => by cases h
 | 57 => fun _ _ h => by cases h
 | 58 => fun _ _ h => by cases h
 | 59 => fun _ _ h => by cases h
 | 60 => fun _ _ h => by cases h
 | 61 => fun _ _ h => by cases h
 | 62 => fun _ _ h => by cases h
 | 63 => fun _ _ h => by cases h
 | 64 => fun _ _ h => by cases h
 | 65 => fun _ _ h => by cases h
 | 66 => fun _ _ h => by cases h
 | 67 => fun _ _ h => by cases h
 | 68 => fun _ _ h => by cases h
 | 69 => fun d _ h => (d9K rf rb d).symm.trans ((e3l rf rb d.1 d.2.1 d.2.2.1 d.2.2.2).trans h)
 | 70 => fun d _ h => (d9L rf rb d).symm.trans ((e3m rf rb d.1 d.2.1 d.2.2.1 d.2.2.2.1 d.2.2.2.2.1 d.2.2.2.2.2.1 d.2.2.2.2.2.2.1 d.2.2.2.2.2.2.2).trans h)
 | 71 => d3x.g
 | 72 => d3y.g
 | 73 => d3z.g
 | 74 => d3A.g
 | 75 => d3B.g
 | 76 => fun d _ h => (d3C rf rb d).symm.trans ((d9m rf rb d.1 d.2).trans h)
 | 77 => d3D.g
 | 78 => d3E.g
 | 79 => d3F.g
 | 80 => fun _ _ h => by cases h
 | 81 => fun _ _ h => by cases h
 | 82 => fun _ _ h => by cases h
 | 83 => fun _ _ h => by cases h
 | 84 => fun _ _ h => by cases h
 | 85 => fun _ _ h => by cases h
 | 86 => d3G.g
 | 87 => fun d _ h => (d3H rf rb d).symm.trans ((d9n rf rb d.1 d.2.1 d.2.2.1 d.2.2.2.1 d.2.2.2.2).trans h)
 | 88 => d3I.g
 | 89 => d3J.g
 | 90 => d3K.g
 | 91 => fun _ _ h => by cases h
 | 92 => fun _ _ h => by cases h
 | 93 => fun _ _ h => by cases h
 | 94 => fun _ _ h => by cases h
 | 95 => fun _ _ h => by cases h
 | 96 => fun _ _ h => by cases h
 | 97 => fun _ _ h => by cases h
 | 98 => fun _ _ h => by cases h
 | 99 => fun _ _ h => by cases h
 | 100 => c6c.g
 | 101 => fun _ _ h => by cases h
 | 102 => fun _ _ h => by cases h
 | 103 => fun _ _ h => by cases h
 | 104 => fun _ _ h => by cases h
 | 105 => fun _ _ h => by cases h
 | 106 => fun _ _ h => by cases h
 | 107 => fun _ _ h => by cases h
 | 108 => fun _ _ h => by cases h
 | 109 => fun _ _ h => by cases h
 | 110 => fun _ _ h => by cases h
 | 111 => fun _ _ h => by cases h
 | 112 => fun _ _ h => by cases h
 | 113 => fun _ _ h => by cases h
 | 114 => fun _ _ h => by cases h
 | 115 => fun _ _ h => by cases h
 | 116 => fun _ _ h => by cases h
 | 117 => fun _ _ h => by cases h
 | 118 => fun _ _ h => by cases h
 | 119 => fun _ _ h => by cases h
 | 120 => fun _ _ h => by cases h
 | 121 => fun _ _ h => by cases h
 | 122 => fun _ _ h => by cases h
 | 123 => fun _ _ h => by cases h
 | 124 => fun _ _ h => by cases h
 | 125 => fun _ _ h => by cases h
 | 126 => fun _ _ h => by cases h
 | 127 => fun _ _ h => by cases h
 | 128 => fun _ _ h => by cases h
 | 129 => fun _ _ h => by cases h
 | 130 => fun _ _ h => by cases h
 | 131 => fun _ _ h => by cases h
 | 132 => fun _ _ h => by cases h
 | 133 => fun _ _ h => by cases h
 | 134 => fun _ _ h => by cases h
 | 135 => fun _ _ h => by cases h
 | 136 => fun _ _ h => by cases h
 | 137 => fun _ _ h => by cases h
 | 138 => fun _ _ h => by cases h
 | 139 => fun _ _ h => by cases h
 | 140 => fun _ _ h => by cases h
 | 141 => fun _ _ h => by cases h
 | 142 => fun _ _ h => by cases h
 | 143 => fun _ _ h => by cases h
 | 144 => fun _ _ h => by cases h
 | 145 => fun _ _ h => by cases h
 | 146 => fun _ _ h => by cases h
 | 147 => fun _ _ h => by cases h
 | 148 => fun _ _ h => by cases h
 | 149 => fun _ _ h => by cases h
 | 150 => fun d _ h => (c6d rf rb d).symm.trans ((d0L rf rb d.1 d.2.1 d.2.2.1 d.2.2.2.1 d.2.2.2.2).trans h)
 | 151 => c6e.g
 | 152 => fun d _ h => (c6f rf rb d).symm.trans ((d0M rf rb d.1 d.2.1 d.2.2.1 d.2.2.2.1 d.2.2.2.2.1 d.2.2.2.2.2.1 d.2.2.2.2.2.2.1 d.2.2.2.2.2.2.2.1 d.2.2.2.2.2.2.2.2.1 d.2.2.2.2.2.2.2.2.2.1 d.2.2.2.2.2.2.2.2.2.2.1 d.2.2.2.2.2.2.2.2.2.2.2.1 d.2.2.2.2.2.2.2.2.2.2.2.2).trans h)
 | 153 => fun d _ h => (c6g rf rb d).symm.trans ((d0N rf rb d.1 d.2.1 d.2.2.1 d.2.2.2.1 d.2.2.2.2.1 d.2.2.2.2.2.1 d.2.2.2.2.2.2.1 d.2.2.2.2.2.2.2.1 d.2.2.2.2.2.2.2.2.1 d.2.2.2.2.2.2.2.2.2.1 d.2.2.2.2.2.2.2.2.2.2.1 d.2.2.2.2.2.2.2.2.2.2.2.1 d.2.2.2.2.2.2.2.2.2.2.2.2).trans h)
 | 154 => c6h.g
 | 155 => fun d _ h => (c6i rf rb d).symm.trans ((d0O rf rb d.1 d.2.1 d.2.2.1 d.2.2.2.1 d.2.2.2.2.1 d.2.2.2.2.2.1 d.2.2.2.2.2.2.1 d.2.2.2.2.2.2.2.1 d.2.2.2.2.2.2.2.2.1 d.2.2.2.2.2.2.2.2.2.1 d.2.2.2.2.2.2.2.2.2.2).trans h)
 | 156 => fun _ _ h => by cases h
 | 157 => fun _ _ h => by cases h
 | 158 => fun _ _ h => by cases h
 | 159 => fun _ _ h => by cases h
 | 160 => fun _ _ h => by cases h
 | 161 => fun _ _ h => by cases h
 | 162 => c6j.g
 | 163 => fun _ _ h => by cases h
 | 164 => fun _ _ h => by cases h
 | 165 => fun _ _ h => by cases h
 | 166 => fun _ _ h => by cases h
 | 167 => fun _ _ h => by cases h
 | 168 => fun _ _ h => by cases h
 | 169 => c6k.g
 | 170 => c6l.g
 | 171 => fun _ _ h => by cases h
 | 172 => fun _ _ h => by cases h
 | 173 => fun _ _ h => by cases h
 | 174 => fun _ _ h => by cases h
 | 175 => fun _ _ h => by cases h
 | 176 => fun _ _ h => by cases h
 | 177 => fun _ _ h => by cases h
 | 178 => c6m.g
 | 179 => fun _ _ h => by cases h
 | 180 => c6n.g
 | 181 => fun _ _ h => by cases h
 | 182 => c6o.g
 | 183 => c6p.g
 | 184 => fun _ _ h => by cases h
 | 185 => fun _ _ h => by cases h
 | 186 => fun _ _ h => by cases h
 | 187 => fun _ _ h => by cases h
 | 188 => fun _ _ h => by cases h
 | 189 => fun _ _ h => by cases h
 | 190 => c6q.g
 | 191 => fun d _ h => (c6r rf rb d).symm.trans ((d0P rf rb d.1 d.2.1 d.2.2.1 d.2.2.2.1 d.2.2.2.2.1 d.2.2.2.2.2).trans h)
 | 192 => c6s.g
 | 193 => c6t.g
 | 194 => c6u.g
 | 195 => c6v.g
 | 196 => c6w.g
 | 197 => c6x.g
 | 198 => c6y.g
 | 199 => c6z.g
 | 200 => fun _ _ h => by cases h
 | 201 => c6A.g
 | 202 => c6B.g
 | 203 => c6C.g
 | 204 => c6D.g
 | 205 => c6E.g
 | 206 => c6F.g
 | 207 => c6G.g
 | 208 => c6H.g
 | 209 => c6I.g
 | 210 => c6J.g
 | 211 => c6K.g
 | 212 => c6L.g
 | 213 => c6M.g
 | 214 => fun _ _ h => by cases h
 | 215 => fun _ _ h => by cases h
 | 216 => fun _ _ h => by cases h
 | 217 => c6N.g
 | 218 => fun _ _ h => by cases h
 | 219 => fun _ _ h => by cases h
 | 220 => fun _ _ h => by cases h
 | 221 => fun _ _ h => by cases h
 | 222 => fun _ _ h => by cases h
 | 223 => fun _ _ h => by cases h
 | 224 => fun _ _ h => by cases h
 | 225 => fun _ _ h => by cases h
 | 226 => fun _ _ h => by cases h
 | 227 => fun _ _ h => by cases h
 | 228 => fun _ _ h => by cases h
 | 229 => fun _ _ h => by cases h
 | 230 => fun _ _ h => by cases h
 | 231 => fun _ _ h => by cases h
 | 232 => fun d _ h => (c6O rf rb d).symm.trans ((d0Q rf rb d.1 d.2.1 d.2.2.1 d.2.2.2.1 d.2.2.2.2.1 d.2.2.2.2.2.1 d.2.2.2.2.2.2.1 d.2.2.2.2.2.2.2.1 d.2.2.2.2.2.2.2.2.1 d.2.2.2.2.2.2.2.2.2).trans h)
 | 233 => c6P.g
 | 234 => fun d _ h => (c6Q rf rb d).symm.trans ((d0R rf rb d.1 d.2.1 d.2.2.1 d.2.2.2.1 d.2.2.2.2.1 d.2.2.2.2.2.1 d.2.2.2.2.2.2.1 d.2.2.2.2.2.2.2.1 d.2.2.2.2.2.2.2.2).trans h)
 | 235 => fun _ _ h => by cases h
 | 236 => fun _ _ h => by cases h
 | 237 => fun d _ h => (c6R rf rb d).symm.trans ((d0S rf rb d.1 d.2.1 d.2.2.1 d.2.2.2.1 d.2.2.2.2).trans h)
 | 238 => c6S.g
 | 239 => c6T.g
 | 240 => fun _ _ h => by cases h
 | 241 => fun _ _ h => by cases h
 | 242 => fun _ _ h => by cases h
 | 243 => c6U.g
 | 244 => fun _ _ h => by cases h
 | 245 => fun _ _ h => by cases h
 | 246 => fun _ _ h => by cases h
 | 247 => c6V.g
 | 248 => c6W.g
 | 249 => fun _ _ h => by cases h
 | 250 => c6X.g
 | 251 => fun _ _ h => by cases h
 | 252 => fun _ _ h => by cases h
 | 253 => fun _ _ h => by cases h
 | 254 => fun _ _ h => by cases h
 | 255 => fun _ _ h => by cases h
 | 256 => c6Y.g
 | 257 => fun _ _ h => by cases h
 | 258 => fun _ _ h => by cases h
 | 259 => fun _ _ h => by cases h
 | 260 => fun _ _ h => by cases h
 | 261 => fun _ _ h => by cases h
 | 262 => fun _ _ h => by cases h
 | 263 => fun _ _ h => by cases h
 | 264 => fun _ _ h => by cases h
 | 265 => fun _ _ h => by cases h
 | 266 => fun _ _ h => by cases h
 | 267 => fun _ _ h => by cases h
 | 268 => fun _ _ h => by cases h
 | 269 => fun _ _ h => by cases h
 | 270 => fun _ _ h => by cases h
 | 271 => c6Z.g
 | 272 => fun _ _ h => by cases h
 | 273 => fun _ _ h => by cases h
 | 274 => fun _ _ h => by cases h
 | 275 => fun _ _ h => by cases h
 | 276 => fun _ _ h => by cases h
 | 277 => fun _ _ h => by cases h
 | 278 => c7a.g
 | 279 => c7b.g
 | 280 => c7c.g
 | 281 => c7d.g
 | 282 => fun _ _ h => by cases h
 | 283 => fun _ _ h => by cases h
 | 284 => fun _ _ h => by cases h
 | 285 => fun _ _ h => by cases h
 | 286 => fun _ _ h => by cases h
 | 287 => fun _ _ h => by cases h
 | 288 => fun _ _ h => by cases h
 | 289 => fun _ _ h => by cases h
 | 290 => fun _ _ h => by cases h
 | 291 => c7e.g
 | 292 => c7f.g
 | 293 => fun d _ h => (c7g rf rb d).symm.trans ((d0T rf rb d.1 d.2.1 d.2.2.1 d.2.2.2.1 d.2.2.2.2.1 d.2.2.2.2.2.1 d.2.2.2.2.2.2).trans h)
 | 294 => c7h.g
 | 295 => fun _ _ h => by cases h
 | 296 => c7i.g
 | 297 => fun _ _ h => by cases h
 | 298 => fun _ _ h => by cases h
 | 299 => fun _ _ h => by cases h
 | 300 => fun _ _ h => by cases h
 | 301 => c7j.g
 | 302 => c7k.g
 | 303 => c7l.g
 | 304 => c7m.g
 | 305 => c7n.g
 | 306 => c7o.g
 | 307 => c7p.g
 | 308 => c7q.g
 | 309 => c7r.g
 | 310 => c7s.g
 | 311 => c7t.g
 | 312 => c7u.g
 | 313 => c7v.g
 | 314 => fun _ _ h => by cases h
 | 315 => fun _ _ h => by cases h
 | 316 => fun _ _ h => by cases h
 | 317 => fun _ _ h => by cases h
 | 318 => c7w.g
 | 319 => c7x.g
 | 320 => c7y.g
 | 321 => c7z.g
 | n + 322 => fun _ _ h => by cases h
noncomputable def G:Nat → T.RF × T.RB
 | 0 => (fun _ _ => none,fun _ _ => none)
 | n + 1 => (gF (G n).1 (G n).2,gB (G n).1 (G n).2)
theorem d9k (n:Nat) {φ:Nat} {d} {y} (h:(G n).1 φ d = some y):T.rf φ d = some y:=(Tbl.approx d6u d6t rfl (fun _ => rfl) n).1 φ d y h
theorem c0T:c2 T.rf = some true:=d9k 400 (φ:=2) (d:=()) (by kernel_rfl)
end Go.Proofs.YtelpjfihadaomaaGreatDoor.R
