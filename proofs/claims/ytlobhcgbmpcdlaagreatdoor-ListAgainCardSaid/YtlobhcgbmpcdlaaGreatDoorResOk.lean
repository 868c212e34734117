import Derived.Test.YtlobhcgbmpcdlaaGreatDoorRes
import Derived.KernelRfl
namespace Go.Proofs.YtlobhcgbmpcdlaaGreatDoor.R
open Go Go.Bm Go.Proofs
set_option linter.unusedVariables false
set_option maxRecDepth 100000
theorem fn0 : e8 T 0 Tryz.f4 := by kernel_rfl
theorem fn1 : e8 T 1 Tryz.f9 := by kernel_rfl
theorem fn2 : e8 T 2 Tryz.f10 := by kernel_rfl
theorem fn3 : e8 T 3 Tryz.f18 := by kernel_rfl
theorem fn4 : e8 T 4 Tryz.f36 := by kernel_rfl
theorem fn5 : e8 T 5 Tryz.f81 := by kernel_rfl
theorem fn6 : e8 T 6 Tryz.f71 := by kernel_rfl
theorem fn7 : e8 T 7 Tryz.f111 := by kernel_rfl
theorem fn8 : e8 T 8 Tryz.f69 := by kernel_rfl
theorem fn9 : e8 T 9 Tryz.f112 := by kernel_rfl
theorem d3H : e8 T 10 Tryz.f70 := by kernel_rfl
theorem d3I : e8 T 11 Tryz.f106 := by kernel_rfl
theorem d3J : e8 T 12 Tryz.f26 := by kernel_rfl
theorem d3K : e8 T 13 Tryz.f113 := by kernel_rfl
theorem d3L : e8 T 14 Tryz.f145 := by kernel_rfl
theorem d3M : e8 T 15 Tryz.f37 := by kernel_rfl
theorem d3N : e8 T 16 Tryz.f43 := by kernel_rfl
theorem d3O : e8 T 17 Tryz.f38 := by kernel_rfl
theorem d3P : e8 T 18 Tryz.f44 := by kernel_rfl
theorem d3Q : e8 T 19 Tryz.f88 := by kernel_rfl
theorem d3R : e8 T 20 Tryz.f39 := by kernel_rfl
theorem d3S : e8 T 21 Tryz.f42 := by kernel_rfl
theorem d3T : e8 T 22 Tryz.f37 := by kernel_rfl
theorem d3U : e8 T 23 Tryz.f43 := by kernel_rfl
theorem d3V : e8 T 24 Tryz.f41 := by kernel_rfl
theorem d3W : e8 T 25 Tryz.f87 := by kernel_rfl
theorem d3X : e8 T 26 Tryz.f44 := by kernel_rfl
theorem d3Y : e8 T 27 Tryz.f82 := by kernel_rfl
theorem d3Z : e8 T 28 Tryz.f40 := by kernel_rfl
theorem d4a : e8 T 29 Tryz.f38 := by kernel_rfl
theorem d4b : e8 T 30 Tryz.f84 := by kernel_rfl
theorem d4c : e8 T 31 Tryz.f83 := by kernel_rfl
theorem d4d : e8 T 32 Tryz.f114 := by kernel_rfl
theorem d4e : e8 T 33 Tryz.f115 := by kernel_rfl
theorem d4f : e8 T 34 Tryz.f116 := by kernel_rfl
theorem d4g : e8 T 35 Tryz.f147 := by kernel_rfl
theorem d4h : e8 T 36 Tryz.f160 := by kernel_rfl
theorem d4i : e8 T 37 Tryz.f165 := by kernel_rfl
theorem d4j : e8 T 38 Tryz.f169 := by kernel_rfl
theorem d4k : e8 T 39 Tryz.f176 := by kernel_rfl
theorem d4l : e8 T 40 Tryz.f184 := by kernel_rfl
theorem d4m : e8 T 41 Tryz.f188 := by kernel_rfl
theorem d4n : e8 T 42 Tryz.f189 := by kernel_rfl
theorem d4o : e8 T 43 Tryz.f190 := by kernel_rfl
theorem d4p : e8 T 44 Tryz.f191 := by kernel_rfl
theorem d4q : e8 T 45 Tryz.f192 := by kernel_rfl
theorem d4r : e8 T 46 Tryz.f193 := by kernel_rfl
theorem d4s : e8 T 47 Tryz.f171 := by kernel_rfl
theorem d4t : e8 T 48 Tryz.f177 := by kernel_rfl
theorem d4u : e8 T 49 Tryz.f136 := by kernel_rfl
theorem d4v : e8 T 50 Tryz.f178 := by kernel_rfl
theorem d4w : e8 T 51 Tryz.f185 := by kernel_rfl
theorem d4x : e8 T 52 Tryz.f159 := by kernel_rfl
theorem d4y : e8 T 53 Tryz.f194 := by kernel_rfl
theorem d4z : e8 T 54 Tryz.f166 := by kernel_rfl
theorem d4A : e8 T 55 Tryz.f170 := by kernel_rfl
theorem d4B : e8 T 56 Tryz.f199 := by kernel_rfl
theorem d4C : e8 T 57 Tryz.f197 := by kernel_rfl
theorem d4D : e8 T 58 Tryz.f195 := by kernel_rfl
theorem d4E : e8 T 59 Tryz.f196 := by kernel_rfl
theorem d4F : e8 T 60 Tryz.f198 := by kernel_rfl
theorem d4G : e8 T 61 Tryz.f167 := by kernel_rfl
theorem d4H : e8 T 62 Tryz.f138 := by kernel_rfl
theorem d4I : e8 T 63 Tryz.f146 := by kernel_rfl
theorem d4J : e8 T 64 Tryz.f85 := by kernel_rfl
theorem d4K : e8 T 65 Tryz.f86 := by kernel_rfl
theorem d4L : e8 T 66 Tryz.f11 := by kernel_rfl
theorem d4M : e8 T 67 Tryz.f13 := by kernel_rfl
theorem d4N : e8 T 68 Tryz.f23 := by kernel_rfl
theorem d4O : e8 T 69 Tryz.f57 := by kernel_rfl
theorem d4P : e8 T 70 Tryz.f59 := by kernel_rfl
theorem d4Q : e8 T 71 Tryz.f60 := by kernel_rfl
theorem d4R : e8 T 72 Tryz.f96 := by kernel_rfl
theorem d4S : e8 T 73 Tryz.f125 := by kernel_rfl
theorem d4T : e8 T 74 Tryz.f154 := by kernel_rfl
theorem d4U : e8 T 75 Tryz.f126 := by kernel_rfl
theorem d4V : e8 T 76 Tryz.f24 := by kernel_rfl
theorem d4W : e8 T 77 Tryz.f61 := by kernel_rfl
theorem d4X : e8 T 78 Tryz.f97 := by kernel_rfl
theorem d4Y : e8 T 79 Tryz.f62 := by kernel_rfl
theorem d4Z : e8 T 80 Tryz.f25 := by kernel_rfl
theorem d5a : e8 T 81 Tryz.f63 := by kernel_rfl
theorem d5b : e8 T 82 Tryz.f98 := by kernel_rfl
theorem d5c : e8 T 83 Tryz.f127 := by kernel_rfl
theorem d5d : e8 T 84 Tryz.f99 := by kernel_rfl
theorem d5e : e8 T 85 Tryz.f64 := by kernel_rfl
theorem d5f : e8 T 86 Tryz.f65 := by kernel_rfl
theorem d5g : e8 T 87 Tryz.f100 := by kernel_rfl
theorem d5h : e8 T 88 Tryz.f128 := by kernel_rfl
theorem d5i : e8 T 89 Tryz.f101 := by kernel_rfl
theorem d5j : e8 T 90 Tryz.f66 := by kernel_rfl
theorem d5k : e8 T 91 Tryz.f102 := by kernel_rfl
theorem d5l : e8 T 92 Tryz.f108 := by kernel_rfl
theorem d5m : e8 T 93 Tryz.f139 := by kernel_rfl
theorem d5n : e8 T 94 Tryz.f140 := by kernel_rfl
theorem d5o : e8 T 95 Tryz.f143 := by kernel_rfl
theorem d5p : e8 T 96 Tryz.f141 := by kernel_rfl
theorem d5q : e8 T 97 Tryz.f157 := by kernel_rfl
theorem d5r : e8 T 98 Tryz.f142 := by kernel_rfl
theorem d5s : e8 T 99 Tryz.f158 := by kernel_rfl
theorem d0d : e8 T 100 Tryz.f130 := by kernel_rfl
theorem d0e : e8 T 101 Tryz.f155 := by kernel_rfl
theorem d0f : e8 T 102 Tryz.f129 := by kernel_rfl
theorem d0g : e8 T 103 Tryz.f67 := by kernel_rfl
theorem d0h : e8 T 104 Tryz.f103 := by kernel_rfl
theorem d0i : e8 T 105 Tryz.f131 := by kernel_rfl
theorem d0j : e8 T 106 Tryz.f104 := by kernel_rfl
theorem d0k : e8 T 107 Tryz.f68 := by kernel_rfl
theorem d0l : e8 T 108 Tryz.f105 := by kernel_rfl
theorem d0m : e8 T 109 Tryz.f132 := by kernel_rfl
theorem d0n : e8 T 110 Tryz.f156 := by kernel_rfl
theorem d0o : e8 T 111 Tryz.f133 := by kernel_rfl
theorem d0p : e8 T 112 Tryz.f19 := by kernel_rfl
theorem d0q : e8 T 113 Tryz.f20 := by kernel_rfl
theorem d0r : e8 T 114 Tryz.f45 := by kernel_rfl
theorem d0s : e8 T 115 Tryz.f47 := by kernel_rfl
theorem d0t : e8 T 116 Tryz.f48 := by kernel_rfl
theorem d0u : e8 T 117 Tryz.f46 := by kernel_rfl
theorem d0v : e8 T 118 Tryz.f49 := by kernel_rfl
theorem d0w : e8 T 119 Tryz.f90 := by kernel_rfl
theorem d0x : e8 T 120 Tryz.f117 := by kernel_rfl
theorem d0y : e8 T 121 Tryz.f148 := by kernel_rfl
theorem d0z : e8 T 122 Tryz.f161 := by kernel_rfl
theorem d0A : e8 T 123 Tryz.f150 := by kernel_rfl
theorem d0B : e8 T 124 Tryz.f149 := by kernel_rfl
theorem d0C : e8 T 125 Tryz.f151 := by kernel_rfl
theorem d0D : e8 T 126 Tryz.f163 := by kernel_rfl
theorem d0E : e8 T 127 Tryz.f152 := by kernel_rfl
theorem d0F : e8 T 128 Tryz.f153 := by kernel_rfl
theorem d0G : e8 T 129 Tryz.f164 := by kernel_rfl
theorem d0H : e8 T 130 Tryz.f21 := by kernel_rfl
theorem d0I : e8 T 131 Tryz.f89 := by kernel_rfl
theorem d0J : e8 T 132 Tryz.f16 := by kernel_rfl
theorem d0K : e8 T 133 Tryz.f29 := by kernel_rfl
theorem d0L : e8 T 134 Tryz.f30 := by kernel_rfl
theorem d0M : e8 T 135 Tryz.f31 := by kernel_rfl
theorem d0N : e8 T 136 Tryz.f32 := by kernel_rfl
theorem d0O : e8 T 137 Tryz.f33 := by kernel_rfl
theorem d0P : e8 T 138 Tryz.f79 := by kernel_rfl
theorem d0Q : e8 T 139 Tryz.f109 := by kernel_rfl
theorem d0R : e8 T 140 Tryz.f34 := by kernel_rfl
theorem d0S : e8 T 141 Tryz.f17 := by kernel_rfl
theorem d0T : e8 T 142 Tryz.f35 := by kernel_rfl
theorem d0U : e8 T 143 Tryz.f80 := by kernel_rfl
theorem d0V : e8 T 144 Tryz.f110 := by kernel_rfl
theorem d0W : e8 T 145 Tryz.f107 := by kernel_rfl
theorem d0X : e8 T 146 Tryz.f134 := by kernel_rfl
theorem d0Y : e8 T 147 Tryz.f135 := by kernel_rfl
theorem d0Z : e8 T 148 Tryz.f137 := by kernel_rfl
theorem d1a : e8 T 149 Tryz.f144 := by kernel_rfl
theorem d1b : e8 T 150 Tryz.f15 := by kernel_rfl
theorem d1c : e8 T 151 Tryz.f28 := by kernel_rfl
theorem d1d : e8 T 152 Tryz.f76 := by kernel_rfl
theorem d1e : e8 T 153 Tryz.f77 := by kernel_rfl
theorem d1f : e8 T 154 Tryz.f78 := by kernel_rfl
theorem d1g : e8 T 155 Tryz.f5 := by kernel_rfl
theorem d1h : e8 T 156 Tryz.f6 := by kernel_rfl
theorem d1i : e8 T 157 Tryz.f7 := by kernel_rfl
theorem d1j : e8 T 158 Tryz.f8 := by kernel_rfl
theorem chk {p : Nat → Bool} {n m : Nat} (h : (List.range n).all p = true) (h2 : (List.range' n m).all p = true) : (List.range (n + m)).all p = true := by
 simp only [List.all_eq_true, List.mem_range, List.mem_range'_1] at *
 intro x hx
 by_cases h' : x < n
 · exact h x h'
 · exact h2 x ⟨by omega, hx⟩
theorem q0 : (List.range' 0 6).all (s8 T) := by kernel_rfl
theorem q1 : (List.range' 6 6).all (s8 T) := by kernel_rfl
theorem q2 : (List.range' 12 6).all (s8 T) := by kernel_rfl
theorem q3 : (List.range' 18 6).all (s8 T) := by kernel_rfl
theorem q4 : (List.range' 24 6).all (s8 T) := by kernel_rfl
theorem q5 : (List.range' 30 6).all (s8 T) := by kernel_rfl
theorem q6 : (List.range' 36 6).all (s8 T) := by kernel_rfl
theorem q7 : (List.range' 42 6).all (s8 T) := by kernel_rfl
theorem q8 : (List.range' 48 6).all (s8 T) := by kernel_rfl
theorem q9 : (List.range' 54 6).all (s8 T) := by kernel_rfl
theorem q10 : (List.range' 60 6).all (s8 T) := by kernel_rfl
theorem q11 : (List.range' 66 6).all (s8 T) := by kernel_rfl
theorem q12 : (List.range' 72 6).all (s8 T) := by kernel_rfl
theorem q13 : (List.range' 78 6).all (s8 T) := by kernel_rfl
theorem q14 : (List.range' 84 6).all (s8 T) := by kernel_rfl
theorem q15 : (List.range' 90 6).all (s8 T) := by kernel_rfl
theorem q16 : (List.range' 96 6).all (s8 T) := by kernel_rfl
theorem q17 : (List.range' 102 6).all (s8 T) := by kernel_rfl
theorem q18 : (List.range' 108 6).all (s8 T) := by kernel_rfl
theorem q19 : (List.range' 114 6).all (s8 T) := by kernel_rfl
theorem q20 : (List.range' 120 6).all (s8 T) := by kernel_rfl
theorem q21 : (List.range' 126 6).all (s8 T) := by kernel_rfl
theorem q22 : (List.range' 132 6).all (s8 T) := by kernel_rfl
theorem q23 : (List.range' 138 6).all (s8 T) := by kernel_rfl
theorem q24 : (List.range' 144 6).all (s8 T) := by kernel_rfl
theorem q25 : (List.range' 150 6).all (s8 T) := by kernel_rfl
theorem q26 : (List.range' 156 6).all (s8 T) := by kernel_rfl
theorem q27 : (List.range' 162 6).all (s8 T) := by kernel_rfl
theorem q28 : (List.range' 168 6).all (s8 T) := by kernel_rfl
theorem q29 : (List.range' 174 6).all (s8 T) := by kernel_rfl
theorem q30 : (List.range' 180 6).all (s8 T) := by kernel_rfl
theorem q31 : (List.range' 186 6).all (s8 T) := by kernel_rfl
theorem q32 : (List.range' 192 6).all (s8 T) := by kernel_rfl
theorem q33 : (List.range' 198 6).all (s8 T) := by kernel_rfl
theorem q34 : (List.range' 204 6).all (s8 T) := by kernel_rfl
theorem d3s : (List.range b7b.placeL.length).all (s8 T) = true := by
 rw [b6O]
 exact (chk (n := 204) (m := 6) (chk (n := 198) (m := 6) (chk (n := 192) (m := 6) (chk (n := 186) (m := 6) (chk (n := 180) (m := 6) (chk (n := 174) (m := 6) (chk (n := 168) (m := 6) (chk (n := 162) (m := 6) (chk (n := 156) (m := 6) (chk (n := 150) (m := 6) (chk (n := 144) (m := 6) (chk (n := 138) (m := 6) (chk (n := 132) (m := 6) (chk (n := 126) (m := 6) (chk (n := 120) (m := 6) (chk (n := 114) (m := 6) (chk (n := 108) (m := 6) (chk (n := 102) (m := 6) (chk (n := 96) (m := 6) (chk (n := 90) (m := 6) (chk (n := 84) (m := 6) (chk (n := 78) (m := 6) (chk (n := 72) (m := 6) (chk (n := 66) (m := 6) (chk (n := 60) (m := 6) (chk (n := 54) (m := 6) (chk (n := 48) (m := 6) (chk (n := 42) (m := 6) (chk (n := 36) (m := 6) (chk (n := 30) (m := 6) (chk (n := 24) (m := 6) (chk (n := 18) (m := 6) (chk (n := 12) (m := 6) (chk (n := 6) (m := 6) (chk (n := 0) (m := 6) (rfl : (List.range 0).all (s8 T) = true) q0) q1) q2) q3) q4) q5) q6) q7) q8) q9) q10) q11) q12) q13) q14) q15) q16) q17) q18) q19) q20) q21) q22) q23) q24) q25) q26) q27) q28) q29) q30) q31) q32) q33) q34)
theorem fns : a6Z Tryz.prog T 0 b7b.fnL :=
 ⟨e9 Tryz.func4 fn0, ⟨e9 Tryz.func9 fn1, ⟨e9 Tryz.func10 fn2, ⟨e9 Tryz.func18 fn3, ⟨e9 Tryz.func36 fn4, ⟨e9 Tryz.func81 fn5, ⟨e9 Tryz.func71 fn6, ⟨e9 Tryz.func111 fn7, ⟨e9 Tryz.func69 fn8, ⟨e9 Tryz.func112 fn9, ⟨e9 Tryz.func70 d3H, ⟨e9 Tryz.func106 d3I, ⟨e9 Tryz.func26 d3J, ⟨e9 Tryz.func113 d3K, ⟨e9 Tryz.func145 d3L, ⟨e9 Tryz.func37 d3M, ⟨e9 Tryz.func43 d3N, ⟨e9 Tryz.func38 d3O, ⟨e9 Tryz.func44 d3P, ⟨e9 Tryz.func88 d3Q, ⟨e9 Tryz.func39 d3R, ⟨e9 Tryz.func42 d3S, ⟨e9 Tryz.func37 d3T, ⟨e9 Tryz.func43 d3U, ⟨e9 Tryz.func41 d3V, ⟨e9 Tryz.func87 d3W, ⟨e9 Tryz.func44 d3X, ⟨e9 Tryz.func82 d3Y, ⟨e9 Tryz.func40 d3Z, ⟨e9 Tryz.func38 d4a, ⟨e9 Tryz.func84 d4b, ⟨e9 Tryz.func83 d4c, ⟨e9 Tryz.func114 d4d, ⟨e9 Tryz.func115 d4e, ⟨e9 Tryz.func116 d4f, ⟨e9 Tryz.func147 d4g, ⟨e9 Tryz.func160 d4h, ⟨e9 Tryz.func165 d4i, ⟨e9 Tryz.func169 d4j, ⟨e9 Tryz.func176 d4k, ⟨e9 Tryz.func184 d4l, ⟨e9 Tryz.func188 d4m, ⟨e9 Tryz.func189 d4n, ⟨e9 Tryz.func190 d4o, ⟨e9 Tryz.func191 d4p, ⟨e9 Tryz.func192 d4q, ⟨e9 Tryz.func193 d4r, ⟨e9 Tryz.func171 d4s, ⟨e9 Tryz.func177 d4t, ⟨e9 Tryz.func136 d4u, ⟨e9 Tryz.func178 d4v, ⟨e9 Tryz.func185 d4w, ⟨e9 Tryz.func159 d4x, ⟨e9 Tryz.func194 d4y, ⟨e9 Tryz.func166 d4z, ⟨e9 Tryz.func170 d4A, ⟨e9 Tryz.func199 d4B, ⟨e9 Tryz.func197 d4C, ⟨e9 Tryz.func195 d4D, ⟨e9 Tryz.func196 d4E, ⟨e9 Tryz.func198 d4F, ⟨e9 Tryz.func167 d4G, ⟨e9 Tryz.func138 d4H, ⟨e9 Tryz.func146 d4I, ⟨e9 Tryz.func85 d4J, ⟨e9 Tryz.func86 d4K, ⟨e9 Tryz.func11 d4L, ⟨e9 Tryz.func13 d4M, ⟨e9 Tryz.func23 d4N, ⟨e9 Tryz.func57 d4O, ⟨e9 Tryz.func59 d4P, ⟨e9 Tryz.func60 d4Q, ⟨e9 Tryz.func96 d4R, ⟨e9 Tryz.func125 d4S, ⟨e9 Tryz.func154 d4T, ⟨e9 Tryz.func126 d4U, ⟨e9 Tryz.func24 d4V, ⟨e9 Tryz.func61 d4W, ⟨e9 Tryz.func97 d4X, ⟨e9 Tryz.func62 d4Y, ⟨e9 Tryz.func25 d4Z, ⟨e9 Tryz.func63 d5a, ⟨e9 Tryz.func98 d5b, ⟨e9 Tryz.func127 d5c, ⟨e9 Tryz.func99 d5d, ⟨e9 Tryz.func64 d5e, ⟨e9 Tryz.func65 d5f, ⟨e9 Tryz.func100 d5g, ⟨e9 Tryz.func128 d5h, ⟨e9 Tryz.func101 d5i, ⟨e9 Tryz.func66 d5j, ⟨e9 Tryz.func102 d5k, ⟨e9 Tryz.func108 d5l, ⟨e9 Tryz.func139 d5m, ⟨e9 Tryz.func140 d5n, ⟨e9 Tryz.func143 d5o, ⟨e9 Tryz.func141 d5p, ⟨e9 Tryz.func157 d5q, ⟨e9 Tryz.func142 d5r, ⟨e9 Tryz.func158 d5s, ⟨e9 Tryz.func130 d0d, ⟨e9 Tryz.func155 d0e, ⟨e9 Tryz.func129 d0f, ⟨e9 Tryz.func67 d0g, ⟨e9 Tryz.func103 d0h, ⟨e9 Tryz.func131 d0i, ⟨e9 Tryz.func104 d0j, ⟨e9 Tryz.func68 d0k, ⟨e9 Tryz.func105 d0l, ⟨e9 Tryz.func132 d0m, ⟨e9 Tryz.func156 d0n, ⟨e9 Tryz.func133 d0o, ⟨e9 Tryz.func19 d0p, ⟨e9 Tryz.func20 d0q, ⟨e9 Tryz.func45 d0r, ⟨e9 Tryz.func47 d0s, ⟨e9 Tryz.func48 d0t, ⟨e9 Tryz.func46 d0u, ⟨e9 Tryz.func49 d0v, ⟨e9 Tryz.func90 d0w, ⟨e9 Tryz.func117 d0x, ⟨e9 Tryz.func148 d0y, ⟨e9 Tryz.func161 d0z, ⟨e9 Tryz.func150 d0A, ⟨e9 Tryz.func149 d0B, ⟨e9 Tryz.func151 d0C, ⟨e9 Tryz.func163 d0D, ⟨e9 Tryz.func152 d0E, ⟨e9 Tryz.func153 d0F, ⟨e9 Tryz.func164 d0G, ⟨e9 Tryz.func21 d0H, ⟨e9 Tryz.func89 d0I, ⟨e9 Tryz.func16 d0J, ⟨e9 Tryz.func29 d0K, ⟨e9 Tryz.func30 d0L, ⟨e9 Tryz.func31 d0M, ⟨e9 Tryz.func32 d0N, ⟨e9 Tryz.func33 d0O, ⟨e9 Tryz.func79 d0P, ⟨e9 Tryz.func109 d0Q, ⟨e9 Tryz.func34 d0R, ⟨e9 Tryz.func17 d0S, ⟨e9 Tryz.func35 d0T, ⟨e9 Tryz.func80 d0U, ⟨e9 Tryz.func110 d0V, ⟨e9 Tryz.func107 d0W, ⟨e9 Tryz.func134 d0X, ⟨e9 Tryz.func135 d0Y, ⟨e9 Tryz.func137 d0Z, ⟨e9 Tryz.func144 d1a, ⟨e9 Tryz.func15 d1b, ⟨e9 Tryz.func28 d1c, ⟨e9 Tryz.func76 d1d, ⟨e9 Tryz.func77 d1e, ⟨e9 Tryz.func78 d1f, ⟨e9 Tryz.func5 d1g, ⟨e9 Tryz.func6 d1h, ⟨e9 Tryz.func7 d1i, ⟨e9 Tryz.func8 d1j, trivial⟩⟩⟩⟩⟩⟩⟩⟩⟩⟩⟩⟩⟩⟩⟩⟩⟩⟩⟩⟩⟩⟩⟩⟩⟩⟩⟩⟩⟩⟩⟩⟩⟩⟩⟩⟩⟩⟩⟩⟩⟩⟩⟩⟩⟩⟩⟩⟩⟩⟩⟩⟩⟩⟩⟩⟩⟩⟩⟩⟩⟩⟩⟩⟩⟩⟩⟩⟩⟩⟩⟩⟩⟩⟩⟩⟩⟩⟩⟩⟩⟩⟩⟩⟩⟩⟩⟩⟩⟩⟩⟩⟩⟩⟩⟩⟩⟩⟩⟩⟩⟩⟩⟩⟩⟩⟩⟩⟩⟩⟩⟩⟩⟩⟩⟩⟩⟩⟩⟩⟩⟩⟩⟩⟩⟩⟩⟩⟩⟩⟩⟩⟩⟩⟩⟩⟩⟩⟩⟩⟩⟩⟩⟩⟩⟩⟩⟩⟩⟩⟩⟩⟩⟩⟩⟩⟩⟩⟩⟩
theorem ok (hx : b7r Tryz.prog T) : T.Ok Tryz.prog :=
 Tabs.ok b7b (by kernel_rfl) (by kernel_rfl) (by kernel_rfl) (by kernel_rfl) fns d3s hx (by kernel_rfl) (b6N _ _ _) (fun _ _ h => h.1)
theorem c5k (h69 : a9s Tryz.prog T 69) (h123 : a9s Tryz.prog T 123) (h130 : a9s Tryz.prog T 130) : b7r Tryz.prog T := fun φ => match φ with
 | 0 => fun _ _ _ h => by cases h
 | 1 => fun _ _ _ h => by cases h
 | 2 => fun _ _ _ h => by cases h
 | 3 => fun _ _ _ h => by cases h
 | 4 => fun _ _ _ h => by cases h
 | 5 => fun _ _ _ h => by cases h
 | 6 => fun _ _ _ h => by cases h
 | 7 => fun _ _ _ h => by cases h
 | 8 => fun _ _ _ h => by cases h
 | 9 => fun _ _ _ h => by cases h
 | 10 => fun _ _ _ h => by cases h
 | 11 => fun _ _ _ h => by cases h
 | 12 => fun _ _ _ h => by cases h
 | 13 => fun _ _ _ h => by cases h
 | 14 => fun _ _ _ h => by cases h
 | 15 => fun _ _ _ h => by cases h
 | 16 => fun _ _ _ h => by cases h
 | 17 => fun _ _ _ h => by cases h
 | 18 => fun _ _ _ h => by cases h
 | 19 => fun _ _ _ h => by cases h
 | 20 => fun _ _ _ h => by cases h
 | 21 => fun _ _ _ h => by cases h
 | 22 => fun _ _ _ h => by cases h
 | 23 => fun _ _ _ h => by cases h
 | 24 => fun _ _ _ h => by cases h
 | 25 => fun _ _ _ h => by cases h
 | 26 => fun _ _ _ h => by cases h
 | 27 => fun _ _ _ h => by cases h
 | 28 => fun _ _ _ h => by cases h
 | 29 => fun _ _ _ h => by cases h
 | 30 => fun _ _ _ h => by cases h
 | 31 => fun _ _ _ h => by cases h
 | 32 => fun _ _ _ h => by cases h
 | 33 => fun _ _ _ h => by cases h
 | 34 => fun _ _ _ h => by cases h
 | 35 => fun _ _ _ h => by cases h
 | 36 => fun _ _ _ h => by cases h
 | 37 => fun _ _ _ h => by cases h
 | 38 => fun _ _ _ h => by cases h
 | 39 => fun _ _ _ h => by cases h
 | 40 => fun _ _ _ h => by cases h
 | 41 => fun _ _ _ h => by cases h
 | 42 => fun _ _ _ h => by cases h
 | 43 => fun _ _ _ h => by cases h
 | 44 => fun _ _ _ h => by cases h
 | 45 => fun _ _ _ h => by cases h
 | 46 => fun _ _ _ h => by cases h
 | 47 => fun _ _ _ h => by cases h
 | 48 => fun _ _ _ h => by cases h
 | 49 => fun _ _ _ h => by cases h
 | 50 => fun _ _ _ h => by cases h
 | 51 => fun _ _ _ h => by cases h
 | 52 => fun _ _ _ h => by cases h
 | 53 => fun _ _ _ h => by cases h
 | 54 => fun _ _ _ h => by cases h
 | 55 => fun _ _ _ h => by cases h
 | 56 => fun _ _ _ h => by cases h
 | 57 => fun _ _ _ h => by cases h
 | 58 => fun _ _ _ h => by cases h
 | 59 => fun _ _ _ h => by cases h
 | 60 => fun _ _ _ h => by cases h
 | 61 => fun _ _ _ h => by cases h
 | 62 => fun _ _ _ h => by cases h
 | 63 => fun _ _ _ h => by cases h
 | 64 => fun _ _ _ h => by cases h
 | 65 => fun _ _ _ h => by cases h
 | 66 => fun _ _ _ h => by cases h
 | 67 => fun _ _ _ h => by cases h
 | 68 => fun _ _ _ h => by cases h
 | 69 => fun d y _ h => h69 d y h
 | 70 => fun _ _ _ h => by cases h
 | 71 => fun _ _ _ h => by cases h
 | 72 => fun _ _ _ h => by cases h
 | 73 => fun _ _ _ h => by cases h
 | 74 => fun _ _ _ h => by cases h
 | 75 => fun _ _ _ h => by cases h
 | 76 => fun _ _ _ h => by cases h
 | 77 => fun _ _ _ h => by cases h
 | 78 => fun _ _ _ h => by cases h
 | 79 => fun _ _ _ h => by cases h
 | 80 => fun _ _ _ h => by cases h
 | 81 => fun _ _ _ h => by cases h
 | 82 => fun _ _ _ h => by cases h
 | 83 => fun _ _ _ h => by cases h
 | 84 => fun _ _ _ h => by cases h
 | 85 => fun _ _ _ h => by cases h
 | 86 => fun _ _ _ h => by cases h
 | 87 => fun _ _ _ h => by cases h
 | 88 => fun _ _ _ h => by cases h
 | 89 => fun _ _ _ h => by cases h
 | 90 => fun _ _ _ h => by cases h
 | 91 => fun _ _ _ h => by cases h
 | 92 => fun _ _ _ h => by cases h
 | 93 => fun _ _ _ h => by cases h
 | 94 => fun _ _ _ h => by cases h
 | 95 => fun _ _ _ h => by cases h
 | 96 => fun _ _ _ h => by cases h
 | 97 => fun _ _ _ h => by cases h
 | 98 => fun _ _ _ h => by cases h
 | 99 => fun _ _ _ h => by cases h
 | 100 => fun _ _ _ h => by cases h
 | 101 => fun _ _ _ h => by cases h
 | 102 => fun _ _ _ h => by cases h
 | 103 => fun _ _ _ h => by cases h
 | 104 => fun _ _ _ h => by cases h
 | 105 => fun _ _ _ h => by cases h
 | 106 => fun _ _ _ h => by cases h
 | 107 => fun _ _ _ h => by cases h
 | 108 => fun _ _ _ h => by cases h
 | 109 => fun _ _ _ h => by cases h
 | 110 => fun _ _ _ h => by cases h
 | 111 => fun _ _ _ h => by cases h
 | 112 => fun _ _ _ h => by cases h
 | 113 => fun _ _ _ h => by cases h
 | 114 => fun _ _ _ h => by cases h
 | 115 => fun _ _ _ h => by cases h
 | 116 => fun _ _ _ h => by cases h
 | 117 => fun _ _ _ h => by cases h
 | 118 => fun _ _ _ h => by cases h
 | 119 => fun _ _ _ h => by cases h
 | 120 => fun _ _ _ h => by cases h
 | 121 => fun _ _ _ h => by cases h
 | 122 => fun _ _ _ h => by cases h
 | 123 => fun d y _ h => h123 d y h
 | 124 => fun _ _ _ h => by cases h
 | 125 => fun _ _ _ h => by cases h
 | 126 => fun _ _ _ h => by cases h
 | 127 => fun _ _ _ h => by cases h
 | 128 => fun _ _ _ h => by cases h
 | 129 => fun _ _ _ h => by cases h
 | 130 => fun d y _ h => h130 d y h
 | n + 131 => fun _ _ _ h => by cases h
end Go.Proofs.YtlobhcgbmpcdlaaGreatDoor.R
