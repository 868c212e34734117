import Derived.Test.YtlobhcgbmpcdlaaGreatDoorRes
import Derived.KernelRfl
namespace Go.Proofs.YtlobhcgbmpcdlaaGreatDoor.R
open Go Go.Bm Go.Proofs
set_option linter.unusedVariables false
set_option maxRecDepth 100000
theorem fn0 : a7 T 0 Tryz.f3 := by kernel_rfl
theorem fn1 : a7 T 1 Tryz.f9 := by kernel_rfl
theorem fn2 : a7 T 2 Tryz.f10 := by kernel_rfl
theorem fn3 : a7 T 3 Tryz.f18 := by kernel_rfl
theorem fn4 : a7 T 4 Tryz.f36 := by kernel_rfl
theorem fn5 : a7 T 5 Tryz.f81 := by kernel_rfl
theorem fn6 : a7 T 6 Tryz.f71 := by kernel_rfl
theorem fn7 : a7 T 7 Tryz.f111 := by kernel_rfl
theorem fn8 : a7 T 8 Tryz.f69 := by kernel_rfl
theorem fn9 : a7 T 9 Tryz.f112 := by kernel_rfl
theorem d3s : a7 T 10 Tryz.f70 := by kernel_rfl
theorem d3t : a7 T 11 Tryz.f106 := by kernel_rfl
theorem d3u : a7 T 12 Tryz.f26 := by kernel_rfl
theorem d3v : a7 T 13 Tryz.f113 := by kernel_rfl
theorem d3w : a7 T 14 Tryz.f145 := by kernel_rfl
theorem d3x : a7 T 15 Tryz.f37 := by kernel_rfl
theorem d3y : a7 T 16 Tryz.f43 := by kernel_rfl
theorem d3z : a7 T 17 Tryz.f38 := by kernel_rfl
theorem d3A : a7 T 18 Tryz.f44 := by kernel_rfl
theorem d3B : a7 T 19 Tryz.f88 := by kernel_rfl
theorem d3C : a7 T 20 Tryz.f39 := by kernel_rfl
theorem d3D : a7 T 21 Tryz.f42 := by kernel_rfl
theorem d3E : a7 T 22 Tryz.f37 := by kernel_rfl
theorem d3F : a7 T 23 Tryz.f43 := by kernel_rfl
theorem d3G : a7 T 24 Tryz.f41 := by kernel_rfl
theorem d3H : a7 T 25 Tryz.f87 := by kernel_rfl
theorem d3I : a7 T 26 Tryz.f44 := by kernel_rfl
theorem d3J : a7 T 27 Tryz.f82 := by kernel_rfl
theorem d3K : a7 T 28 Tryz.f40 := by kernel_rfl
theorem d3L : a7 T 29 Tryz.f38 := by kernel_rfl
theorem d3M : a7 T 30 Tryz.f84 := by kernel_rfl
theorem d3N : a7 T 31 Tryz.f83 := by kernel_rfl
theorem d3O : a7 T 32 Tryz.f114 := by kernel_rfl
theorem d3P : a7 T 33 Tryz.f115 := by kernel_rfl
theorem d3Q : a7 T 34 Tryz.f116 := by kernel_rfl
theorem d3R : a7 T 35 Tryz.f147 := by kernel_rfl
theorem d3S : a7 T 36 Tryz.f160 := by kernel_rfl
theorem d3T : a7 T 37 Tryz.f165 := by kernel_rfl
theorem d3U : a7 T 38 Tryz.f169 := by kernel_rfl
theorem d3V : a7 T 39 Tryz.f176 := by kernel_rfl
theorem d3W : a7 T 40 Tryz.f184 := by kernel_rfl
theorem d3X : a7 T 41 Tryz.f188 := by kernel_rfl
theorem d3Y : a7 T 42 Tryz.f189 := by kernel_rfl
theorem d3Z : a7 T 43 Tryz.f190 := by kernel_rfl
theorem d4a : a7 T 44 Tryz.f191 := by kernel_rfl
theorem d4b : a7 T 45 Tryz.f192 := by kernel_rfl
theorem d4c : a7 T 46 Tryz.f193 := by kernel_rfl
theorem d4d : a7 T 47 Tryz.f171 := by kernel_rfl
theorem d4e : a7 T 48 Tryz.f177 := by kernel_rfl
theorem d4f : a7 T 49 Tryz.f136 := by kernel_rfl
theorem d4g : a7 T 50 Tryz.f178 := by kernel_rfl
theorem d4h : a7 T 51 Tryz.f185 := by kernel_rfl
theorem d4i : a7 T 52 Tryz.f159 := by kernel_rfl
theorem d4j : a7 T 53 Tryz.f194 := by kernel_rfl
theorem d4k : a7 T 54 Tryz.f166 := by kernel_rfl
theorem d4l : a7 T 55 Tryz.f170 := by kernel_rfl
theorem d4m : a7 T 56 Tryz.f199 := by kernel_rfl
theorem d4n : a7 T 57 Tryz.f197 := by kernel_rfl
theorem d4o : a7 T 58 Tryz.f195 := by kernel_rfl
theorem d4p : a7 T 59 Tryz.f196 := by kernel_rfl
theorem d4q : a7 T 60 Tryz.f198 := by kernel_rfl
theorem d4r : a7 T 61 Tryz.f167 := by kernel_rfl
theorem d4s : a7 T 62 Tryz.f138 := by kernel_rfl
theorem d4t : a7 T 63 Tryz.f146 := by kernel_rfl
theorem d4u : a7 T 64 Tryz.f85 := by kernel_rfl
theorem d4v : a7 T 65 Tryz.f86 := by kernel_rfl
theorem d4w : a7 T 66 Tryz.f11 := by kernel_rfl
theorem d4x : a7 T 67 Tryz.f13 := by kernel_rfl
theorem d4y : a7 T 68 Tryz.f23 := by kernel_rfl
theorem d4z : a7 T 69 Tryz.f57 := by kernel_rfl
theorem d4A : a7 T 70 Tryz.f59 := by kernel_rfl
theorem d4B : a7 T 71 Tryz.f60 := by kernel_rfl
theorem d4C : a7 T 72 Tryz.f96 := by kernel_rfl
theorem d4D : a7 T 73 Tryz.f125 := by kernel_rfl
theorem d4E : a7 T 74 Tryz.f154 := by kernel_rfl
theorem d4F : a7 T 75 Tryz.f126 := by kernel_rfl
theorem d4G : a7 T 76 Tryz.f24 := by kernel_rfl
theorem d4H : a7 T 77 Tryz.f61 := by kernel_rfl
theorem d4I : a7 T 78 Tryz.f97 := by kernel_rfl
theorem d4J : a7 T 79 Tryz.f62 := by kernel_rfl
theorem d4K : a7 T 80 Tryz.f25 := by kernel_rfl
theorem d4L : a7 T 81 Tryz.f63 := by kernel_rfl
theorem d4M : a7 T 82 Tryz.f98 := by kernel_rfl
theorem d4N : a7 T 83 Tryz.f127 := by kernel_rfl
theorem d4O : a7 T 84 Tryz.f99 := by kernel_rfl
theorem d4P : a7 T 85 Tryz.f64 := by kernel_rfl
theorem d4Q : a7 T 86 Tryz.f65 := by kernel_rfl
theorem d4R : a7 T 87 Tryz.f100 := by kernel_rfl
theorem d4S : a7 T 88 Tryz.f128 := by kernel_rfl
theorem d4T : a7 T 89 Tryz.f101 := by kernel_rfl
theorem d4U : a7 T 90 Tryz.f66 := by kernel_rfl
theorem d4V : a7 T 91 Tryz.f102 := by kernel_rfl
theorem d4W : a7 T 92 Tryz.f108 := by kernel_rfl
theorem d4X : a7 T 93 Tryz.f139 := by kernel_rfl
theorem d4Y : a7 T 94 Tryz.f140 := by kernel_rfl
theorem d4Z : a7 T 95 Tryz.f143 := by kernel_rfl
theorem d5a : a7 T 96 Tryz.f141 := by kernel_rfl
theorem d5b : a7 T 97 Tryz.f157 := by kernel_rfl
theorem d5c : a7 T 98 Tryz.f142 := by kernel_rfl
theorem d5d : a7 T 99 Tryz.f158 := by kernel_rfl
theorem c8I : a7 T 100 Tryz.f130 := by kernel_rfl
theorem c8J : a7 T 101 Tryz.f155 := by kernel_rfl
theorem c8K : a7 T 102 Tryz.f129 := by kernel_rfl
theorem c8L : a7 T 103 Tryz.f67 := by kernel_rfl
theorem c8M : a7 T 104 Tryz.f103 := by kernel_rfl
theorem c8N : a7 T 105 Tryz.f131 := by kernel_rfl
theorem c8O : a7 T 106 Tryz.f104 := by kernel_rfl
theorem c8P : a7 T 107 Tryz.f68 := by kernel_rfl
theorem c8Q : a7 T 108 Tryz.f105 := by kernel_rfl
theorem c8R : a7 T 109 Tryz.f132 := by kernel_rfl
theorem c8S : a7 T 110 Tryz.f156 := by kernel_rfl
theorem c8T : a7 T 111 Tryz.f133 := by kernel_rfl
theorem c8U : a7 T 112 Tryz.f19 := by kernel_rfl
theorem c8V : a7 T 113 Tryz.f20 := by kernel_rfl
theorem c8W : a7 T 114 Tryz.f45 := by kernel_rfl
theorem c8X : a7 T 115 Tryz.f47 := by kernel_rfl
theorem c8Y : a7 T 116 Tryz.f48 := by kernel_rfl
theorem c8Z : a7 T 117 Tryz.f46 := by kernel_rfl
theorem c9a : a7 T 118 Tryz.f49 := by kernel_rfl
theorem c9b : a7 T 119 Tryz.f90 := by kernel_rfl
theorem c9c : a7 T 120 Tryz.f117 := by kernel_rfl
theorem c9d : a7 T 121 Tryz.f148 := by kernel_rfl
theorem c9e : a7 T 122 Tryz.f161 := by kernel_rfl
theorem c9f : a7 T 123 Tryz.f150 := by kernel_rfl
theorem c9g : a7 T 124 Tryz.f149 := by kernel_rfl
theorem c9h : a7 T 125 Tryz.f151 := by kernel_rfl
theorem c9i : a7 T 126 Tryz.f163 := by kernel_rfl
theorem c9j : a7 T 127 Tryz.f152 := by kernel_rfl
theorem c9k : a7 T 128 Tryz.f153 := by kernel_rfl
theorem c9l : a7 T 129 Tryz.f164 := by kernel_rfl
theorem c9m : a7 T 130 Tryz.f21 := by kernel_rfl
theorem c9n : a7 T 131 Tryz.f89 := by kernel_rfl
theorem c9o : a7 T 132 Tryz.f16 := by kernel_rfl
theorem c9p : a7 T 133 Tryz.f29 := by kernel_rfl
theorem c9q : a7 T 134 Tryz.f30 := by kernel_rfl
theorem c9r : a7 T 135 Tryz.f31 := by kernel_rfl
theorem c9s : a7 T 136 Tryz.f32 := by kernel_rfl
theorem c9t : a7 T 137 Tryz.f33 := by kernel_rfl
theorem c9u : a7 T 138 Tryz.f79 := by kernel_rfl
theorem c9v : a7 T 139 Tryz.f109 := by kernel_rfl
theorem c9w : a7 T 140 Tryz.f34 := by kernel_rfl
theorem c9x : a7 T 141 Tryz.f17 := by kernel_rfl
theorem c9y : a7 T 142 Tryz.f35 := by kernel_rfl
theorem c9z : a7 T 143 Tryz.f80 := by kernel_rfl
theorem c9A : a7 T 144 Tryz.f110 := by kernel_rfl
theorem c9B : a7 T 145 Tryz.f107 := by kernel_rfl
theorem c9C : a7 T 146 Tryz.f134 := by kernel_rfl
theorem c9D : a7 T 147 Tryz.f135 := by kernel_rfl
theorem c9E : a7 T 148 Tryz.f137 := by kernel_rfl
theorem c9F : a7 T 149 Tryz.f144 := by kernel_rfl
theorem c9G : a7 T 150 Tryz.f15 := by kernel_rfl
theorem c9H : a7 T 151 Tryz.f28 := by kernel_rfl
theorem c9I : a7 T 152 Tryz.f76 := by kernel_rfl
theorem c9J : a7 T 153 Tryz.f77 := by kernel_rfl
theorem c9K : a7 T 154 Tryz.f78 := by kernel_rfl
theorem c9L : a7 T 155 Tryz.f12 := by kernel_rfl
theorem c9M : a7 T 156 Tryz.f14 := by kernel_rfl
theorem c9N : a7 T 157 Tryz.f27 := by kernel_rfl
theorem c9O : a7 T 158 Tryz.f72 := by kernel_rfl
theorem c9P : a7 T 159 Tryz.f73 := by kernel_rfl
theorem c9Q : a7 T 160 Tryz.f74 := by kernel_rfl
theorem c9R : a7 T 161 Tryz.f75 := by kernel_rfl
theorem c9S : a7 T 162 Tryz.f22 := by kernel_rfl
theorem c9T : a7 T 163 Tryz.f53 := by kernel_rfl
theorem c9U : a7 T 164 Tryz.f56 := by kernel_rfl
theorem c9V : a7 T 165 Tryz.f92 := by kernel_rfl
theorem c9W : a7 T 166 Tryz.f119 := by kernel_rfl
theorem c9X : a7 T 167 Tryz.f120 := by kernel_rfl
theorem c9Y : a7 T 168 Tryz.f121 := by kernel_rfl
theorem c9Z : a7 T 169 Tryz.f122 := by kernel_rfl
theorem d0a : a7 T 170 Tryz.f123 := by kernel_rfl
theorem d0b : a7 T 171 Tryz.f55 := by kernel_rfl
theorem d0c : a7 T 172 Tryz.f54 := by kernel_rfl
theorem d0d : a7 T 173 Tryz.f4 := by kernel_rfl
theorem d0e : a7 T 174 Tryz.f5 := by kernel_rfl
theorem d0f : a7 T 175 Tryz.f6 := by kernel_rfl
theorem d0g : a7 T 176 Tryz.f7 := by kernel_rfl
theorem d0h : a7 T 177 Tryz.f8 := by kernel_rfl
theorem chk {p : Nat → Bool} {n m : Nat} (h : (List.range n).all p = true) (h2 : (List.range' n m).all p = true) : (List.range (n + m)).all p = true := by
 simp only [List.all_eq_true, List.mem_range, List.mem_range'_1] at *
 intro x hx
 by_cases h' : x < n
 · exact h x h'
 · exact h2 x ⟨by omega, hx⟩
theorem q0 : (List.range' 0 6).all (m8 T) := by kernel_rfl
theorem q1 : (List.range' 6 6).all (m8 T) := by kernel_rfl
theorem q2 : (List.range' 12 6).all (m8 T) := by kernel_rfl
theorem q3 : (List.range' 18 6).all (m8 T) := by kernel_rfl
theorem q4 : (List.range' 24 6).all (m8 T) := by kernel_rfl
theorem q5 : (List.range' 30 6).all (m8 T) := by kernel_rfl
theorem q6 : (List.range' 36 6).all (m8 T) := by kernel_rfl
theorem q7 : (List.range' 42 6).all (m8 T) := by kernel_rfl
theorem q8 : (List.range' 48 6).all (m8 T) := by kernel_rfl
theorem q9 : (List.range' 54 6).all (m8 T) := by kernel_rfl
theorem q10 : (List.range' 60 6).all (m8 T) := by kernel_rfl
theorem q11 : (List.range' 66 6).all (m8 T) := by kernel_rfl
theorem q12 : (List.range' 72 6).all (m8 T) := by kernel_rfl
theorem q13 : (List.range' 78 6).all (m8 T) := by kernel_rfl
theorem q14 : (List.range' 84 6).all (m8 T) := by kernel_rfl
theorem q15 : (List.range' 90 6).all (m8 T) := by kernel_rfl
theorem q16 : (List.range' 96 6).all (m8 T) := by kernel_rfl
theorem q17 : (List.range' 102 6).all (m8 T) := by kernel_rfl
theorem q18 : (List.range' 108 6).all (m8 T) := by kernel_rfl
theorem q19 : (List.range' 114 6).all (m8 T) := by kernel_rfl
theorem q20 : (List.range' 120 6).all (m8 T) := by kernel_rfl
theorem q21 : (List.range' 126 6).all (m8 T) := by kernel_rfl
theorem q22 : (List.range' 132 6).all (m8 T) := by kernel_rfl
theorem q23 : (List.range' 138 6).all (m8 T) := by kernel_rfl
theorem q24 : (List.range' 144 6).all (m8 T) := by kernel_rfl
theorem q25 : (List.range' 150 6).all (m8 T) := by kernel_rfl
theorem q26 : (List.range' 156 6).all (m8 T) := by kernel_rfl
theorem q27 : (List.range' 162 6).all (m8 T) := by kernel_rfl
theorem q28 : (List.range' 168 6).all (m8 T) := by kernel_rfl
theorem q29 : (List.range' 174 6).all (m8 T) := by kernel_rfl
theorem q30 : (List.range' 180 6).all (m8 T) := by kernel_rfl
theorem q31 : (List.range' 186 6).all (m8 T) := by kernel_rfl
theorem q32 : (List.range' 192 6).all (m8 T) := by kernel_rfl
theorem q33 : (List.range' 198 6).all (m8 T) := by kernel_rfl
theorem q34 : (List.range' 204 6).all (m8 T) := by kernel_rfl
theorem q35 : (List.range' 210 6).all (m8 T) := by kernel_rfl
theorem q36 : (List.range' 216 6).all (m8 T) := by kernel_rfl
theorem q37 : (List.range' 222 4).all (m8 T) := by kernel_rfl
theorem d2x : (List.range b5y.placeL.length).all (m8 T) = true := by
 rw [b5j]
 exact (chk (n := 222) (m := 4) (chk (n := 216) (m := 6) (chk (n := 210) (m := 6) (chk (n := 204) (m := 6) (chk (n := 198) (m := 6) (chk (n := 192) (m := 6) (chk (n := 186) (m := 6) (chk (n := 180) (m := 6) (chk (n := 174) (m := 6) (chk (n := 168) (m := 6) (chk (n := 162) (m := 6) (chk (n := 156) (m := 6) (chk (n := 150) (m := 6) (chk (n := 144) (m := 6) (chk (n := 138) (m := 6) (chk (n := 132) (m := 6) (chk (n := 126) (m := 6) (chk (n := 120) (m := 6) (chk (n := 114) (m := 6) (chk (n := 108) (m := 6) (chk (n := 102) (m := 6) (chk (n := 96) (m := 6) (chk (n := 90) (m := 6) (chk (n := 84) (m := 6) (chk (n := 78) (m := 6) (chk (n := 72) (m := 6) (chk (n := 66) (m := 6) (chk (n := 60) (m := 6) (chk (n := 54) (m := 6) (chk (n := 48) (m := 6) (chk (n := 42) (m := 6) (chk (n := 36) (m := 6) (chk (n := 30) (m := 6) (chk (n := 24) (m := 6) (chk (n := 18) (m := 6) (chk (n := 12) (m := 6) (chk (n := 6) (m := 6) (chk (n := 0) (m := 6) (rfl : (List.range 0).all (m8 T) = true) q0) q1) q2) q3) q4) q5) q6) q7) q8) q9) q10) q11) q12) q13) q14) q15) q16) q17) q18) q19) q20) q21) q22) q23) q24) q25) q26) q27) q28) q29) q30) q31) q32) q33) q34) q35) q36) q37)
theorem fns : a5Q Tryz.prog T 0 b5y.fnL :=
 ⟨a8 Tryz.func3 fn0, ⟨a8 Tryz.func9 fn1, ⟨a8 Tryz.func10 fn2, ⟨a8 Tryz.func18 fn3, ⟨a8 Tryz.func36 fn4, ⟨a8 Tryz.func81 fn5, ⟨a8 Tryz.func71 fn6, ⟨a8 Tryz.func111 fn7, ⟨a8 Tryz.func69 fn8, ⟨a8 Tryz.func112 fn9, ⟨a8 Tryz.func70 d3s, ⟨a8 Tryz.func106 d3t, ⟨a8 Tryz.func26 d3u, ⟨a8 Tryz.func113 d3v, ⟨a8 Tryz.func145 d3w, ⟨a8 Tryz.func37 d3x, ⟨a8 Tryz.func43 d3y, ⟨a8 Tryz.func38 d3z, ⟨a8 Tryz.func44 d3A, ⟨a8 Tryz.func88 d3B, ⟨a8 Tryz.func39 d3C, ⟨a8 Tryz.func42 d3D, ⟨a8 Tryz.func37 d3E, ⟨a8 Tryz.func43 d3F, ⟨a8 Tryz.func41 d3G, ⟨a8 Tryz.func87 d3H, ⟨a8 Tryz.func44 d3I, ⟨a8 Tryz.func82 d3J, ⟨a8 Tryz.func40 d3K, ⟨a8 Tryz.func38 d3L, ⟨a8 Tryz.func84 d3M, ⟨a8 Tryz.func83 d3N, ⟨a8 Tryz.func114 d3O, ⟨a8 Tryz.func115 d3P, ⟨a8 Tryz.func116 d3Q, ⟨a8 Tryz.func147 d3R, ⟨a8 Tryz.func160 d3S, ⟨a8 Tryz.func165 d3T, ⟨a8 Tryz.func169 d3U, ⟨a8 Tryz.func176 d3V, ⟨a8 Tryz.func184 d3W, ⟨a8 Tryz.func188 d3X, ⟨a8 Tryz.func189 d3Y, ⟨a8 Tryz.func190 d3Z, ⟨a8 Tryz.func191 d4a, ⟨a8 Tryz.func192 d4b, ⟨a8 Tryz.func193 d4c, ⟨a8 Tryz.func171 d4d, ⟨a8 Tryz.func177 d4e, ⟨a8 Tryz.func136 d4f, ⟨a8 Tryz.func178 d4g, ⟨a8 Tryz.func185 d4h, ⟨a8 Tryz.func159 d4i, ⟨a8 Tryz.func194 d4j, ⟨a8 Tryz.func166 d4k, ⟨a8 Tryz.func170 d4l, ⟨a8 Tryz.func199 d4m, ⟨a8 Tryz.func197 d4n, ⟨a8 Tryz.func195 d4o, ⟨a8 Tryz.func196 d4p, ⟨a8 Tryz.func198 d4q, ⟨a8 Tryz.func167 d4r, ⟨a8 Tryz.func138 d4s, ⟨a8 Tryz.func146 d4t, ⟨a8 Tryz.func85 d4u, ⟨a8 Tryz.func86 d4v, ⟨a8 Tryz.func11 d4w, ⟨a8 Tryz.func13 d4x, ⟨a8 Tryz.func23 d4y, ⟨a8 Tryz.func57 d4z, ⟨a8 Tryz.func59 d4A, ⟨a8 Tryz.func60 d4B, ⟨a8 Tryz.func96 d4C, ⟨a8 Tryz.func125 d4D, ⟨a8 Tryz.func154 d4E, ⟨a8 Tryz.func126 d4F, ⟨a8 Tryz.func24 d4G, ⟨a8 Tryz.func61 d4H, ⟨a8 Tryz.func97 d4I, ⟨a8 Tryz.func62 d4J, ⟨a8 Tryz.func25 d4K, ⟨a8 Tryz.func63 d4L, ⟨a8 Tryz.func98 d4M, ⟨a8 Tryz.func127 d4N, ⟨a8 Tryz.func99 d4O, ⟨a8 Tryz.func64 d4P, ⟨a8 Tryz.func65 d4Q, ⟨a8 Tryz.func100 d4R, ⟨a8 Tryz.func128 d4S, ⟨a8 Tryz.func101 d4T, ⟨a8 Tryz.func66 d4U, ⟨a8 Tryz.func102 d4V, ⟨a8 Tryz.func108 d4W, ⟨a8 Tryz.func139 d4X, ⟨a8 Tryz.func140 d4Y, ⟨a8 Tryz.func143 d4Z, ⟨a8 Tryz.func141 d5a, ⟨a8 Tryz.func157 d5b, ⟨a8 Tryz.func142 d5c, ⟨a8 Tryz.func158 d5d, ⟨a8 Tryz.func130 c8I, ⟨a8 Tryz.func155 c8J, ⟨a8 Tryz.func129 c8K, ⟨a8 Tryz.func67 c8L, ⟨a8 Tryz.func103 c8M, ⟨a8 Tryz.func131 c8N, ⟨a8 Tryz.func104 c8O, ⟨a8 Tryz.func68 c8P, ⟨a8 Tryz.func105 c8Q, ⟨a8 Tryz.func132 c8R, ⟨a8 Tryz.func156 c8S, ⟨a8 Tryz.func133 c8T, ⟨a8 Tryz.func19 c8U, ⟨a8 Tryz.func20 c8V, ⟨a8 Tryz.func45 c8W, ⟨a8 Tryz.func47 c8X, ⟨a8 Tryz.func48 c8Y, ⟨a8 Tryz.func46 c8Z, ⟨a8 Tryz.func49 c9a, ⟨a8 Tryz.func90 c9b, ⟨a8 Tryz.func117 c9c, ⟨a8 Tryz.func148 c9d, ⟨a8 Tryz.func161 c9e, ⟨a8 Tryz.func150 c9f, ⟨a8 Tryz.func149 c9g, ⟨a8 Tryz.func151 c9h, ⟨a8 Tryz.func163 c9i, ⟨a8 Tryz.func152 c9j, ⟨a8 Tryz.func153 c9k, ⟨a8 Tryz.func164 c9l, ⟨a8 Tryz.func21 c9m, ⟨a8 Tryz.func89 c9n, ⟨a8 Tryz.func16 c9o, ⟨a8 Tryz.func29 c9p, ⟨a8 Tryz.func30 c9q, ⟨a8 Tryz.func31 c9r, ⟨a8 Tryz.func32 c9s, ⟨a8 Tryz.func33 c9t, ⟨a8 Tryz.func79 c9u, ⟨a8 Tryz.func109 c9v, ⟨a8 Tryz.func34 c9w, ⟨a8 Tryz.func17 c9x, ⟨a8 Tryz.func35 c9y, ⟨a8 Tryz.func80 c9z, ⟨a8 Tryz.func110 c9A, ⟨a8 Tryz.func107 c9B, ⟨a8 Tryz.func134 c9C, ⟨a8 Tryz.func135 c9D, ⟨a8 Tryz.func137 c9E, ⟨a8 Tryz.func144 c9F, ⟨a8 Tryz.func15 c9G, ⟨a8 Tryz.func28 c9H, ⟨a8 Tryz.func76 c9I, ⟨a8 Tryz.func77 c9J, ⟨a8 Tryz.func78 c9K, ⟨a8 Tryz.func12 c9L, ⟨a8 Tryz.func14 c9M, ⟨a8 Tryz.func27 c9N, ⟨a8 Tryz.func72 c9O, ⟨a8 Tryz.func73 c9P, ⟨a8 Tryz.func74 c9Q, ⟨a8 Tryz.func75 c9R, ⟨a8 Tryz.func22 c9S, ⟨a8 Tryz.func53 c9T, ⟨a8 Tryz.func56 c9U, ⟨a8 Tryz.func92 c9V, ⟨a8 Tryz.func119 c9W, ⟨a8 Tryz.func120 c9X, ⟨a8 Tryz.func121 c9Y, ⟨a8 Tryz.func122 c9Z, ⟨a8 Tryz.func123 d0a, ⟨a8 Tryz.func55 d0b, ⟨a8 Tryz.func54 d0c, ⟨a8 Tryz.func4 d0d, ⟨a8 Tryz.func5 d0e, ⟨a8 Tryz.func6 d0f, ⟨a8 Tryz.func7 d0g, ⟨a8 Tryz.func8 d0h, trivial⟩⟩⟩⟩⟩⟩⟩⟩⟩⟩⟩⟩⟩⟩⟩⟩⟩⟩⟩⟩⟩⟩⟩⟩⟩⟩⟩⟩⟩⟩⟩⟩⟩⟩⟩⟩⟩⟩⟩⟩⟩⟩⟩⟩⟩⟩⟩⟩⟩⟩⟩⟩⟩⟩⟩⟩⟩⟩⟩⟩⟩⟩⟩⟩⟩⟩⟩⟩⟩⟩⟩⟩⟩⟩⟩⟩⟩⟩⟩⟩⟩⟩⟩⟩⟩⟩⟩⟩⟩⟩⟩⟩⟩⟩⟩⟩⟩⟩⟩⟩⟩⟩⟩⟩⟩⟩⟩⟩⟩⟩⟩⟩⟩⟩⟩⟩⟩⟩⟩⟩⟩⟩⟩⟩⟩⟩⟩⟩⟩⟩⟩⟩⟩⟩⟩⟩⟩⟩⟩⟩⟩⟩⟩⟩⟩⟩⟩⟩⟩⟩⟩⟩⟩⟩⟩⟩⟩⟩⟩⟩⟩⟩⟩⟩⟩⟩⟩⟩⟩⟩⟩⟩⟩⟩⟩⟩⟩⟩
theorem ok (hx : b5I Tryz.prog T) : T.Ok Tryz.prog :=
 Tabs.ok b5y (by kernel_rfl) (by kernel_rfl) (by kernel_rfl) (by kernel_rfl) fns d2x hx (by kernel_rfl) (b5i _ _ _) (fun _ _ h => h.1)
theorem c5W (h69 : a8h Tryz.prog T 69) (h123 : a8h Tryz.prog T 123) (h130 : a8h Tryz.prog T 130) : b5I Tryz.prog T := fun φ => match φ with
 | 0 => fun _ _ _ h => by cases h
 | 1 => fun _ _ _ h => by cases h
 | 2 => fun _ _ _ h => by cases h
 | 3 => fun _ _ _ h => by cases h
 | 4 => fun _ _ _ h => by cases h
 | 5 => fun _ _ _ h => by cases h
 | 6 => fun _ _ _ h => by cases h
 | 7 => fun _ _ _ h => by cases h
 | 8 => fun _ _ _ h => by cases h
 | 9 => fun _ _ _ h => by cases h
 | 10 => fun _ _ _ h => by cases h
 | 11 => fun _ _ _ h => by cases h
 | 12 => fun _ _ _ h => by cases h
 | 13 => fun _ _ _ h => by cases h
 | 14 => fun _ _ _ h => by cases h
 | 15 => fun _ _ _ h => by cases h
 | 16 => fun _ _ _ h => by cases h
 | 17 => fun _ _ _ h => by cases h
 | 18 => fun _ _ _ h => by cases h
 | 19 => fun _ _ _ h => by cases h
 | 20 => fun _ _ _ h => by cases h
 | 21 => fun _ _ _ h => by cases h
 | 22 => fun _ _ _ h => by cases h
 | 23 => fun _ _ _ h => by cases h
 | 24 => fun _ _ _ h => by cases h
 | 25 => fun _ _ _ h => by cases h
 | 26 => fun _ _ _ h => by cases h
 | 27 => fun _ _ _ h => by cases h
 | 28 => fun _ _ _ h => by cases h
 | 29 => fun _ _ _ h => by cases h
 | 30 => fun _ _ _ h => by cases h
 | 31 => fun _ _ _ h => by cases h
 | 32 => fun _ _ _ h => by cases h
 | 33 => fun _ _ _ h => by cases h
 | 34 => fun _ _ _ h => by cases h
 | 35 => fun _ _ _ h => by cases h
 | 36 => fun _ _ _ h => by cases h
 | 37 => fun _ _ _ h => by cases h
 | 38 => fun _ _ _ h => by cases h
 | 39 => fun _ _ _ h => by cases h
 | 40 => fun _ _ _ h => by cases h
 | 41 => fun _ _ _ h => by cases h
 | 42 => fun _ _ _ h => by cases h
 | 43 => fun _ _ _ h => by cases h
 | 44 => fun _ _ _ h => by cases h
 | 45 => fun _ _ _ h => by cases h
 | 46 => fun _ _ _ h => by cases h
 | 47 => fun _ _ _ h => by cases h
 | 48 => fun _ _ _ h => by cases h
 | 49 => fun _ _ _ h => by cases h
 | 50 => fun _ _ _ h => by cases h
 | 51 => fun _ _ _ h => by cases h
 | 52 => fun _ _ _ h => by cases h
 | 53 => fun _ _ _ h => by cases h
 | 54 => fun _ _ _ h => by cases h
 | 55 => fun _ _ _ h => by cases h
 | 56 => fun _ _ _ h => by cases h
 | 57 => fun _ _ _ h => by cases h
 | 58 => fun _ _ _ h => by cases h
 | 59 => fun _ _ _ h => by cases h
 | 60 => fun _ _ _ h => by cases h
 | 61 => fun _ _ _ h => by cases h
 | 62 => fun _ _ _ h => by cases h
 | 63 => fun _ _ _ h => by cases h
 | 64 => fun _ _ _ h => by cases h
 | 65 => fun _ _ _ h => by cases h
 | 66 => fun _ _ _ h => by cases h
 | 67 => fun _ _ _ h => by cases h
 | 68 => fun _ _ _ h => by cases h
 | 69 => fun d y _ h => h69 d y h
 | 70 => fun _ _ _ h => by cases h
 | 71 => fun _ _ _ h => by cases h
 | 72 => fun _ _ _ h => by cases h
 | 73 => fun _ _ _ h => by cases h
 | 74 => fun _ _ _ h => by cases h
 | 75 => fun _ _ _ h => by cases h
 | 76 => fun _ _ _ h => by cases h
 | 77 => fun _ _ _ h => by cases h
 | 78 => fun _ _ _ h => by cases h
 | 79 => fun _ _ _ h => by cases h
 | 80 => fun _ _ _ h => by cases h
 | 81 => fun _ _ _ h => by cases h
 | 82 => fun _ _ _ h => by cases h
 | 83 => fun _ _ _ h => by cases h
 | 84 => fun _ _ _ h => by cases h
 | 85 => fun _ _ _ h => by cases h
 | 86 => fun _ _ _ h => by cases h
 | 87 => fun _ _ _ h => by cases h
 | 88 => fun _ _ _ h => by cases h
 | 89 => fun _ _ _ h => by cases h
 | 90 => fun _ _ _ h => by cases h
 | 91 => fun _ _ _ h => by cases h
 | 92 => fun _ _ _ h => by cases h
 | 93 => fun _ _ _ h => by cases h
 | 94 => fun _ _ _ h => by cases h
 | 95 => fun _ _ _ h => by cases h
 | 96 => fun _ _ _ h => by cases h
 | 97 => fun _ _ _ h => by cases h
 | 98 => fun _ _ _ h => by cases h
 | 99 => fun _ _ _ h => by cases h
 | 100 => fun _ _ _ h => by cases h
 | 101 => fun _ _ _ h => by cases h
 | 102 => fun _ _ _ h => by cases h
 | 103 => fun _ _ _ h => by cases h
 | 104 => fun _ _ _ h => by cases h
 | 105 => fun _ _ _ h => by cases h
 | 106 => fun _ _ _ h => by cases h
 | 107 => fun _ _ _ h => by cases h
 | 108 => fun _ _ _ h => by cases h
 | 109 => fun _ _ _ h => by cases h
 | 110 => fun _ _ _ h => by cases h
 | 111 => fun _ _ _ h => by cases h
 | 112 => fun _ _ _ h => by cases h
 | 113 => fun _ _ _ h => by cases h
 | 114 => fun _ _ _ h => by cases h
 | 115 => fun _ _ _ h => by cases h
 | 116 => fun _ _ _ h => by cases h
 | 117 => fun _ _ _ h => by cases h
 | 118 => fun _ _ _ h => by cases h
 | 119 => fun _ _ _ h => by cases h
 | 120 => fun _ _ _ h => by cases h
 | 121 => fun _ _ _ h => by cases h
 | 122 => fun _ _ _ h => by cases h
 | 123 => fun d y _ h => h123 d y h
 | 124 => fun _ _ _ h => by cases h
 | 125 => fun _ _ _ h => by cases h
 | 126 => fun _ _ _ h => by cases h
 | 127 => fun _ _ _ h => by cases h
 | 128 => fun _ _ _ h => by cases h
 | 129 => fun _ _ _ h => by cases h
 | 130 => fun d y _ h => h130 d y h
 | n + 131 => fun _ _ _ h => by cases h
end Go.Proofs.YtlobhcgbmpcdlaaGreatDoor.R
