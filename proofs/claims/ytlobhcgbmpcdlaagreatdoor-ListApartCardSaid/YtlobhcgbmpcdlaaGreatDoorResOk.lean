import Derived.Test.YtlobhcgbmpcdlaaGreatDoorRes
import Derived.KernelRfl
namespace Go.Proofs.YtlobhcgbmpcdlaaGreatDoor.R
open Go Go.Bm Go.Proofs
set_option linter.unusedVariables false
set_option maxRecDepth 100000
theorem fn0 : fnOkB T 0 Tryz.f4 := by kernel_rfl
theorem fn1 : fnOkB T 1 Tryz.f9 := by kernel_rfl
theorem fn2 : fnOkB T 2 Tryz.f10 := by kernel_rfl
theorem fn3 : fnOkB T 3 Tryz.f18 := by kernel_rfl
theorem fn4 : fnOkB T 4 Tryz.f36 := by kernel_rfl
theorem fn5 : fnOkB T 5 Tryz.f81 := by kernel_rfl
theorem fn6 : fnOkB T 6 Tryz.f71 := by kernel_rfl
theorem fn7 : fnOkB T 7 Tryz.f111 := by kernel_rfl
theorem fn8 : fnOkB T 8 Tryz.f69 := by kernel_rfl
theorem fn9 : fnOkB T 9 Tryz.f112 := by kernel_rfl
theorem fn10 : fnOkB T 10 Tryz.f70 := by kernel_rfl
theorem fn11 : fnOkB T 11 Tryz.f106 := by kernel_rfl
theorem fn12 : fnOkB T 12 Tryz.f26 := by kernel_rfl
theorem fn13 : fnOkB T 13 Tryz.f113 := by kernel_rfl
theorem fn14 : fnOkB T 14 Tryz.f145 := by kernel_rfl
theorem fn15 : fnOkB T 15 Tryz.f37 := by kernel_rfl
theorem fn16 : fnOkB T 16 Tryz.f43 := by kernel_rfl
theorem fn17 : fnOkB T 17 Tryz.f38 := by kernel_rfl
theorem fn18 : fnOkB T 18 Tryz.f44 := by kernel_rfl
theorem fn19 : fnOkB T 19 Tryz.f88 := by kernel_rfl
theorem fn20 : fnOkB T 20 Tryz.f39 := by kernel_rfl
theorem fn21 : fnOkB T 21 Tryz.f42 := by kernel_rfl
theorem fn22 : fnOkB T 22 Tryz.f37 := by kernel_rfl
theorem fn23 : fnOkB T 23 Tryz.f43 := by kernel_rfl
theorem fn24 : fnOkB T 24 Tryz.f41 := by kernel_rfl
theorem fn25 : fnOkB T 25 Tryz.f87 := by kernel_rfl
theorem fn26 : fnOkB T 26 Tryz.f44 := by kernel_rfl
theorem fn27 : fnOkB T 27 Tryz.f82 := by kernel_rfl
theorem fn28 : fnOkB T 28 Tryz.f40 := by kernel_rfl
theorem fn29 : fnOkB T 29 Tryz.f38 := by kernel_rfl
theorem fn30 : fnOkB T 30 Tryz.f84 := by kernel_rfl
theorem fn31 : fnOkB T 31 Tryz.f83 := by kernel_rfl
theorem fn32 : fnOkB T 32 Tryz.f114 := by kernel_rfl
theorem fn33 : fnOkB T 33 Tryz.f115 := by kernel_rfl
theorem fn34 : fnOkB T 34 Tryz.f116 := by kernel_rfl
theorem fn35 : fnOkB T 35 Tryz.f147 := by kernel_rfl
theorem fn36 : fnOkB T 36 Tryz.f160 := by kernel_rfl
theorem fn37 : fnOkB T 37 Tryz.f165 := by kernel_rfl
theorem fn38 : fnOkB T 38 Tryz.f169 := by kernel_rfl
theorem fn39 : fnOkB T 39 Tryz.f176 := by kernel_rfl
theorem fn40 : fnOkB T 40 Tryz.f184 := by kernel_rfl
theorem fn41 : fnOkB T 41 Tryz.f188 := by kernel_rfl
theorem fn42 : fnOkB T 42 Tryz.f189 := by kernel_rfl
theorem fn43 : fnOkB T 43 Tryz.f190 := by kernel_rfl
theorem fn44 : fnOkB T 44 Tryz.f191 := by kernel_rfl
theorem fn45 : fnOkB T 45 Tryz.f192 := by kernel_rfl
theorem fn46 : fnOkB T 46 Tryz.f193 := by kernel_rfl
theorem fn47 : fnOkB T 47 Tryz.f171 := by kernel_rfl
theorem fn48 : fnOkB T 48 Tryz.f177 := by kernel_rfl
theorem fn49 : fnOkB T 49 Tryz.f136 := by kernel_rfl
theorem fn50 : fnOkB T 50 Tryz.f178 := by kernel_rfl
theorem fn51 : fnOkB T 51 Tryz.f185 := by kernel_rfl
theorem fn52 : fnOkB T 52 Tryz.f159 := by kernel_rfl
theorem fn53 : fnOkB T 53 Tryz.f194 := by kernel_rfl
theorem fn54 : fnOkB T 54 Tryz.f166 := by kernel_rfl
theorem fn55 : fnOkB T 55 Tryz.f170 := by kernel_rfl
theorem fn56 : fnOkB T 56 Tryz.f199 := by kernel_rfl
theorem fn57 : fnOkB T 57 Tryz.f197 := by kernel_rfl
theorem fn58 : fnOkB T 58 Tryz.f195 := by kernel_rfl
theorem fn59 : fnOkB T 59 Tryz.f196 := by kernel_rfl
theorem fn60 : fnOkB T 60 Tryz.f198 := by kernel_rfl
theorem fn61 : fnOkB T 61 Tryz.f167 := by kernel_rfl
theorem fn62 : fnOkB T 62 Tryz.f138 := by kernel_rfl
theorem fn63 : fnOkB T 63 Tryz.f146 := by kernel_rfl
theorem fn64 : fnOkB T 64 Tryz.f85 := by kernel_rfl
theorem fn65 : fnOkB T 65 Tryz.f86 := by kernel_rfl
theorem fn66 : fnOkB T 66 Tryz.f11 := by kernel_rfl
theorem fn67 : fnOkB T 67 Tryz.f13 := by kernel_rfl
theorem fn68 : fnOkB T 68 Tryz.f23 := by kernel_rfl
theorem fn69 : fnOkB T 69 Tryz.f57 := by kernel_rfl
theorem fn70 : fnOkB T 70 Tryz.f59 := by kernel_rfl
theorem fn71 : fnOkB T 71 Tryz.f60 := by kernel_rfl
theorem fn72 : fnOkB T 72 Tryz.f96 := by kernel_rfl
theorem fn73 : fnOkB T 73 Tryz.f125 := by kernel_rfl
theorem fn74 : fnOkB T 74 Tryz.f154 := by kernel_rfl
theorem fn75 : fnOkB T 75 Tryz.f126 := by kernel_rfl
theorem fn76 : fnOkB T 76 Tryz.f24 := by kernel_rfl
theorem fn77 : fnOkB T 77 Tryz.f61 := by kernel_rfl
theorem fn78 : fnOkB T 78 Tryz.f97 := by kernel_rfl
theorem fn79 : fnOkB T 79 Tryz.f62 := by kernel_rfl
theorem fn80 : fnOkB T 80 Tryz.f25 := by kernel_rfl
theorem fn81 : fnOkB T 81 Tryz.f63 := by kernel_rfl
theorem fn82 : fnOkB T 82 Tryz.f98 := by kernel_rfl
theorem fn83 : fnOkB T 83 Tryz.f127 := by kernel_rfl
theorem fn84 : fnOkB T 84 Tryz.f99 := by kernel_rfl
theorem fn85 : fnOkB T 85 Tryz.f64 := by kernel_rfl
theorem fn86 : fnOkB T 86 Tryz.f65 := by kernel_rfl
theorem fn87 : fnOkB T 87 Tryz.f100 := by kernel_rfl
theorem fn88 : fnOkB T 88 Tryz.f128 := by kernel_rfl
theorem fn89 : fnOkB T 89 Tryz.f101 := by kernel_rfl
theorem fn90 : fnOkB T 90 Tryz.f66 := by kernel_rfl
theorem fn91 : fnOkB T 91 Tryz.f102 := by kernel_rfl
theorem fn92 : fnOkB T 92 Tryz.f108 := by kernel_rfl
theorem fn93 : fnOkB T 93 Tryz.f139 := by kernel_rfl
theorem fn94 : fnOkB T 94 Tryz.f140 := by kernel_rfl
theorem fn95 : fnOkB T 95 Tryz.f143 := by kernel_rfl
theorem fn96 : fnOkB T 96 Tryz.f141 := by kernel_rfl
theorem fn97 : fnOkB T 97 Tryz.f157 := by kernel_rfl
theorem fn98 : fnOkB T 98 Tryz.f142 := by kernel_rfl
theorem fn99 : fnOkB T 99 Tryz.f158 := by kernel_rfl
theorem fn100 : fnOkB T 100 Tryz.f130 := by kernel_rfl
theorem fn101 : fnOkB T 101 Tryz.f155 := by kernel_rfl
theorem fn102 : fnOkB T 102 Tryz.f129 := by kernel_rfl
theorem fn103 : fnOkB T 103 Tryz.f67 := by kernel_rfl
theorem fn104 : fnOkB T 104 Tryz.f103 := by kernel_rfl
theorem fn105 : fnOkB T 105 Tryz.f131 := by kernel_rfl
theorem fn106 : fnOkB T 106 Tryz.f104 := by kernel_rfl
theorem fn107 : fnOkB T 107 Tryz.f68 := by kernel_rfl
theorem fn108 : fnOkB T 108 Tryz.f105 := by kernel_rfl
theorem fn109 : fnOkB T 109 Tryz.f132 := by kernel_rfl
theorem fn110 : fnOkB T 110 Tryz.f156 := by kernel_rfl
theorem fn111 : fnOkB T 111 Tryz.f133 := by kernel_rfl
theorem fn112 : fnOkB T 112 Tryz.f19 := by kernel_rfl
theorem fn113 : fnOkB T 113 Tryz.f20 := by kernel_rfl
theorem fn114 : fnOkB T 114 Tryz.f45 := by kernel_rfl
theorem fn115 : fnOkB T 115 Tryz.f47 := by kernel_rfl
theorem fn116 : fnOkB T 116 Tryz.f48 := by kernel_rfl
theorem fn117 : fnOkB T 117 Tryz.f46 := by kernel_rfl
theorem fn118 : fnOkB T 118 Tryz.f49 := by kernel_rfl
theorem fn119 : fnOkB T 119 Tryz.f90 := by kernel_rfl
theorem fn120 : fnOkB T 120 Tryz.f117 := by kernel_rfl
theorem fn121 : fnOkB T 121 Tryz.f148 := by kernel_rfl
theorem fn122 : fnOkB T 122 Tryz.f161 := by kernel_rfl
theorem fn123 : fnOkB T 123 Tryz.f150 := by kernel_rfl
theorem fn124 : fnOkB T 124 Tryz.f149 := by kernel_rfl
theorem fn125 : fnOkB T 125 Tryz.f151 := by kernel_rfl
theorem fn126 : fnOkB T 126 Tryz.f163 := by kernel_rfl
theorem fn127 : fnOkB T 127 Tryz.f152 := by kernel_rfl
theorem fn128 : fnOkB T 128 Tryz.f153 := by kernel_rfl
theorem fn129 : fnOkB T 129 Tryz.f164 := by kernel_rfl
theorem fn130 : fnOkB T 130 Tryz.f21 := by kernel_rfl
theorem fn131 : fnOkB T 131 Tryz.f89 := by kernel_rfl
theorem fn132 : fnOkB T 132 Tryz.f16 := by kernel_rfl
theorem fn133 : fnOkB T 133 Tryz.f29 := by kernel_rfl
theorem fn134 : fnOkB T 134 Tryz.f30 := by kernel_rfl
theorem fn135 : fnOkB T 135 Tryz.f31 := by kernel_rfl
theorem fn136 : fnOkB T 136 Tryz.f32 := by kernel_rfl
theorem fn137 : fnOkB T 137 Tryz.f33 := by kernel_rfl
theorem fn138 : fnOkB T 138 Tryz.f79 := by kernel_rfl
theorem fn139 : fnOkB T 139 Tryz.f109 := by kernel_rfl
theorem fn140 : fnOkB T 140 Tryz.f34 := by kernel_rfl
theorem fn141 : fnOkB T 141 Tryz.f17 := by kernel_rfl
theorem fn142 : fnOkB T 142 Tryz.f35 := by kernel_rfl
theorem fn143 : fnOkB T 143 Tryz.f80 := by kernel_rfl
theorem fn144 : fnOkB T 144 Tryz.f110 := by kernel_rfl
theorem fn145 : fnOkB T 145 Tryz.f107 := by kernel_rfl
theorem fn146 : fnOkB T 146 Tryz.f134 := by kernel_rfl
theorem fn147 : fnOkB T 147 Tryz.f135 := by kernel_rfl
theorem fn148 : fnOkB T 148 Tryz.f137 := by kernel_rfl
theorem fn149 : fnOkB T 149 Tryz.f144 := by kernel_rfl
theorem fn150 : fnOkB T 150 Tryz.f15 := by kernel_rfl
theorem fn151 : fnOkB T 151 Tryz.f28 := by kernel_rfl
theorem fn152 : fnOkB T 152 Tryz.f76 := by kernel_rfl
theorem fn153 : fnOkB T 153 Tryz.f77 := by kernel_rfl
theorem fn154 : fnOkB T 154 Tryz.f78 := by kernel_rfl
theorem fn155 : fnOkB T 155 Tryz.f5 := by kernel_rfl
theorem fn156 : fnOkB T 156 Tryz.f6 := by kernel_rfl
theorem fn157 : fnOkB T 157 Tryz.f7 := by kernel_rfl
theorem fn158 : fnOkB T 158 Tryz.f8 := by kernel_rfl
theorem chk {p : Nat → Bool} {n m : Nat} (h : (List.range n).all p = true) (h2 : (List.range' n m).all p = true) : (List.range (n + m)).all p = true := by
 simp only [List.all_eq_true, List.mem_range, List.mem_range'_1] at *
 intro x hx
 by_cases h' : x < n
 · exact h x h'
 · exact h2 x ⟨by omega, hx⟩
theorem q0 : (List.range' 0 6).all (blkOkB T) := by kernel_rfl
theorem q1 : (List.range' 6 6).all (blkOkB T) := by kernel_rfl
theorem q2 : (List.range' 12 6).all (blkOkB T) := by kernel_rfl
theorem q3 : (List.range' 18 6).all (blkOkB T) := by kernel_rfl
theorem q4 : (List.range' 24 6).all (blkOkB T) := by kernel_rfl
theorem q5 : (List.range' 30 6).all (blkOkB T) := by kernel_rfl
theorem q6 : (List.range' 36 6).all (blkOkB T) := by kernel_rfl
theorem q7 : (List.range' 42 6).all (blkOkB T) := by kernel_rfl
theorem q8 : (List.range' 48 6).all (blkOkB T) := by kernel_rfl
theorem q9 : (List.range' 54 6).all (blkOkB T) := by kernel_rfl
theorem q10 : (List.range' 60 6).all (blkOkB T) := by kernel_rfl
theorem q11 : (List.range' 66 6).all (blkOkB T) := by kernel_rfl
theorem q12 : (List.range' 72 6).all (blkOkB T) := by kernel_rfl
theorem q13 : (List.range' 78 6).all (blkOkB T) := by kernel_rfl
theorem q14 : (List.range' 84 6).all (blkOkB T) := by kernel_rfl
theorem q15 : (List.range' 90 6).all (blkOkB T) := by kernel_rfl
theorem q16 : (List.range' 96 6).all (blkOkB T) := by kernel_rfl
theorem q17 : (List.range' 102 6).all (blkOkB T) := by kernel_rfl
theorem q18 : (List.range' 108 6).all (blkOkB T) := by kernel_rfl
theorem q19 : (List.range' 114 6).all (blkOkB T) := by kernel_rfl
theorem q20 : (List.range' 120 6).all (blkOkB T) := by kernel_rfl
theorem q21 : (List.range' 126 6).all (blkOkB T) := by kernel_rfl
theorem q22 : (List.range' 132 6).all (blkOkB T) := by kernel_rfl
theorem q23 : (List.range' 138 6).all (blkOkB T) := by kernel_rfl
theorem q24 : (List.range' 144 6).all (blkOkB T) := by kernel_rfl
theorem q25 : (List.range' 150 6).all (blkOkB T) := by kernel_rfl
theorem q26 : (List.range' 156 6).all (blkOkB T) := by kernel_rfl
theorem q27 : (List.range' 162 6).all (blkOkB T) := by kernel_rfl
theorem q28 : (List.range' 168 6).all (blkOkB T) := by kernel_rfl
theorem q29 : (List.range' 174 6).all (blkOkB T) := by kernel_rfl
theorem q30 : (List.range' 180 6).all (blkOkB T) := by kernel_rfl
theorem q31 : (List.range' 186 6).all (blkOkB T) := by kernel_rfl
theorem q32 : (List.range' 192 6).all (blkOkB T) := by kernel_rfl
theorem q33 : (List.range' 198 6).all (blkOkB T) := by kernel_rfl
theorem q34 : (List.range' 204 6).all (blkOkB T) := by kernel_rfl
theorem blks : (List.range tabs.placeL.length).all (blkOkB T) = true := by
 rw [place_len]
 exact (chk (n := 204) (m := 6) (chk (n := 198) (m := 6) (chk (n := 192) (m := 6) (chk (n := 186) (m := 6) (chk (n := 180) (m := 6) (chk (n := 174) (m := 6) (chk (n := 168) (m := 6) (chk (n := 162) (m := 6) (chk (n := 156) (m := 6) (chk (n := 150) (m := 6) (chk (n := 144) (m := 6) (chk (n := 138) (m := 6) (chk (n := 132) (m := 6) (chk (n := 126) (m := 6) (chk (n := 120) (m := 6) (chk (n := 114) (m := 6) (chk (n := 108) (m := 6) (chk (n := 102) (m := 6) (chk (n := 96) (m := 6) (chk (n := 90) (m := 6) (chk (n := 84) (m := 6) (chk (n := 78) (m := 6) (chk (n := 72) (m := 6) (chk (n := 66) (m := 6) (chk (n := 60) (m := 6) (chk (n := 54) (m := 6) (chk (n := 48) (m := 6) (chk (n := 42) (m := 6) (chk (n := 36) (m := 6) (chk (n := 30) (m := 6) (chk (n := 24) (m := 6) (chk (n := 18) (m := 6) (chk (n := 12) (m := 6) (chk (n := 6) (m := 6) (chk (n := 0) (m := 6) (rfl : (List.range 0).all (blkOkB T) = true) q0) q1) q2) q3) q4) q5) q6) q7) q8) q9) q10) q11) q12) q13) q14) q15) q16) q17) q18) q19) q20) q21) q22) q23) q24) q25) q26) q27) q28) q29) q30) q31) q32) q33) q34)
theorem fns : FnsOk Tryz.prog T 0 tabs.fnL :=
 ⟨fn_ok Tryz.func4 fn0, ⟨fn_ok Tryz.func9 fn1, ⟨fn_ok Tryz.func10 fn2, ⟨fn_ok Tryz.func18 fn3, ⟨fn_ok Tryz.func36 fn4, ⟨fn_ok Tryz.func81 fn5, ⟨fn_ok Tryz.func71 fn6, ⟨fn_ok Tryz.func111 fn7, ⟨fn_ok Tryz.func69 fn8, ⟨fn_ok Tryz.func112 fn9, ⟨fn_ok Tryz.func70 fn10, ⟨fn_ok Tryz.func106 fn11, ⟨fn_ok Tryz.func26 fn12, ⟨fn_ok Tryz.func113 fn13, ⟨fn_ok Tryz.func145 fn14, ⟨fn_ok Tryz.func37 fn15, ⟨fn_ok Tryz.func43 fn16, ⟨fn_ok Tryz.func38 fn17, ⟨fn_ok Tryz.func44 fn18, ⟨fn_ok Tryz.func88 fn19, ⟨fn_ok Tryz.func39 fn20, ⟨fn_ok Tryz.func42 fn21, ⟨fn_ok Tryz.func37 fn22, ⟨fn_ok Tryz.func43 fn23, ⟨fn_ok Tryz.func41 fn24, ⟨fn_ok Tryz.func87 fn25, ⟨fn_ok Tryz.func44 fn26, ⟨fn_ok Tryz.func82 fn27, ⟨fn_ok Tryz.func40 fn28, ⟨fn_ok Tryz.func38 fn29, ⟨fn_ok Tryz.func84 fn30, ⟨fn_ok Tryz.func83 fn31, ⟨fn_ok Tryz.func114 fn32, ⟨fn_ok Tryz.func115 fn33, ⟨fn_ok Tryz.func116 fn34, ⟨fn_ok Tryz.func147 fn35, ⟨fn_ok Tryz.func160 fn36, ⟨fn_ok Tryz.func165 fn37, ⟨fn_ok Tryz.func169 fn38, ⟨fn_ok Tryz.func176 fn39, ⟨fn_ok Tryz.func184 fn40, ⟨fn_ok Tryz.func188 fn41, ⟨fn_ok Tryz.func189 fn42, ⟨fn_ok Tryz.func190 fn43, ⟨fn_ok Tryz.func191 fn44, ⟨fn_ok Tryz.func192 fn45, ⟨fn_ok Tryz.func193 fn46, ⟨fn_ok Tryz.func171 fn47, ⟨fn_ok Tryz.func177 fn48, ⟨fn_ok Tryz.func136 fn49, ⟨fn_ok Tryz.func178 fn50, ⟨fn_ok Tryz.func185 fn51, ⟨fn_ok Tryz.func159 fn52, ⟨fn_ok Tryz.func194 fn53, ⟨fn_ok Tryz.func166 fn54, ⟨fn_ok Tryz.func170 fn55, ⟨fn_ok Tryz.func199 fn56, ⟨fn_ok Tryz.func197 fn57, ⟨fn_ok Tryz.func195 fn58, ⟨fn_ok Tryz.func196 fn59, ⟨fn_ok Tryz.func198 fn60, ⟨fn_ok Tryz.func167 fn61, ⟨fn_ok Tryz.func138 fn62, ⟨fn_ok Tryz.func146 fn63, ⟨fn_ok Tryz.func85 fn64, ⟨fn_ok Tryz.func86 fn65, ⟨fn_ok Tryz.func11 fn66, ⟨fn_ok Tryz.func13 fn67, ⟨fn_ok Tryz.func23 fn68, ⟨fn_ok Tryz.func57 fn69, ⟨fn_ok Tryz.func59 fn70, ⟨fn_ok Tryz.func60 fn71, ⟨fn_ok Tryz.func96 fn72, ⟨fn_ok Tryz.func125 fn73, ⟨fn_ok Tryz.func154 fn74, ⟨fn_ok Tryz.func126 fn75, ⟨fn_ok Tryz.func24 fn76, ⟨fn_ok Tryz.func61 fn77, ⟨fn_ok Tryz.func97 fn78, ⟨fn_ok Tryz.func62 fn79, ⟨fn_ok Tryz.func25 fn80, ⟨fn_ok Tryz.func63 fn81, ⟨fn_ok Tryz.func98 fn82, ⟨fn_ok Tryz.func127 fn83, ⟨fn_ok Tryz.func99 fn84, ⟨fn_ok Tryz.func64 fn85, ⟨fn_ok Tryz.func65 fn86, ⟨fn_ok Tryz.func100 fn87, ⟨fn_ok Tryz.func128 fn88, ⟨fn_ok Tryz.func101 fn89, ⟨fn_ok Tryz.func66 fn90, ⟨fn_ok Tryz.func102 fn91, ⟨fn_ok Tryz.func108 fn92, ⟨fn_ok Tryz.func139 fn93, ⟨fn_ok Tryz.func140 fn94, ⟨fn_ok Tryz.func143 fn95, ⟨fn_ok Tryz.func141 fn96, ⟨fn_ok Tryz.func157 fn97, ⟨fn_ok Tryz.func142 fn98, ⟨fn_ok Tryz.func158 fn99, ⟨fn_ok Tryz.func130 fn100, ⟨fn_ok Tryz.func155 fn101, ⟨fn_ok Tryz.func129 fn102, ⟨fn_ok Tryz.func67 fn103, ⟨fn_ok Tryz.func103 fn104, ⟨fn_ok Tryz.func131 fn105, ⟨fn_ok Tryz.func104 fn106, ⟨fn_ok Tryz.func68 fn107, ⟨fn_ok Tryz.func105 fn108, ⟨fn_ok Tryz.func132 fn109, ⟨fn_ok Tryz.func156 fn110, ⟨fn_ok Tryz.func133 fn111, ⟨fn_ok Tryz.func19 fn112, ⟨fn_ok Tryz.func20 fn113, ⟨fn_ok Tryz.func45 fn114, ⟨fn_ok Tryz.func47 fn115, ⟨fn_ok Tryz.func48 fn116, ⟨fn_ok Tryz.func46 fn117, ⟨fn_ok Tryz.func49 fn118, ⟨fn_ok Tryz.func90 fn119, ⟨fn_ok Tryz.func117 fn120, ⟨fn_ok Tryz.func148 fn121, ⟨fn_ok Tryz.func161 fn122, ⟨fn_ok Tryz.func150 fn123, ⟨fn_ok Tryz.func149 fn124, ⟨fn_ok Tryz.func151 fn125, ⟨fn_ok Tryz.func163 fn126, ⟨fn_ok Tryz.func152 fn127, ⟨fn_ok Tryz.func153 fn128, ⟨fn_ok Tryz.func164 fn129, ⟨fn_ok Tryz.func21 fn130, ⟨fn_ok Tryz.func89 fn131, ⟨fn_ok Tryz.func16 fn132, ⟨fn_ok Tryz.func29 fn133, ⟨fn_ok Tryz.func30 fn134, ⟨fn_ok Tryz.func31 fn135, ⟨fn_ok Tryz.func32 fn136, ⟨fn_ok Tryz.func33 fn137, ⟨fn_ok Tryz.func79 fn138, ⟨fn_ok Tryz.func109 fn139, ⟨fn_ok Tryz.func34 fn140, ⟨fn_ok Tryz.func17 fn141, ⟨fn_ok Tryz.func35 fn142, ⟨fn_ok Tryz.func80 fn143, ⟨fn_ok Tryz.func110 fn144, ⟨fn_ok Tryz.func107 fn145, ⟨fn_ok Tryz.func134 fn146, ⟨fn_ok Tryz.func135 fn147, ⟨fn_ok Tryz.func137 fn148, ⟨fn_ok Tryz.func144 fn149, ⟨fn_ok Tryz.func15 fn150, ⟨fn_ok Tryz.func28 fn151, ⟨fn_ok Tryz.func76 fn152, ⟨fn_ok Tryz.func77 fn153, ⟨fn_ok Tryz.func78 fn154, ⟨fn_ok Tryz.func5 fn155, ⟨fn_ok Tryz.func6 fn156, ⟨fn_ok Tryz.func7 fn157, ⟨fn_ok Tryz.func8 fn158, trivial⟩⟩⟩⟩⟩⟩⟩⟩⟩⟩⟩⟩⟩⟩⟩⟩⟩⟩⟩⟩⟩⟩⟩⟩⟩⟩⟩⟩⟩⟩⟩⟩⟩⟩⟩⟩⟩⟩⟩⟩⟩⟩⟩⟩⟩⟩⟩⟩⟩⟩⟩⟩⟩⟩⟩⟩⟩⟩⟩⟩⟩⟩⟩⟩⟩⟩⟩⟩⟩⟩⟩⟩⟩⟩⟩⟩⟩⟩⟩⟩⟩⟩⟩⟩⟩⟩⟩⟩⟩⟩⟩⟩⟩⟩⟩⟩⟩⟩⟩⟩⟩⟩⟩⟩⟩⟩⟩⟩⟩⟩⟩⟩⟩⟩⟩⟩⟩⟩⟩⟩⟩⟩⟩⟩⟩⟩⟩⟩⟩⟩⟩⟩⟩⟩⟩⟩⟩⟩⟩⟩⟩⟩⟩⟩⟩⟩⟩⟩⟩⟩⟩⟩⟩⟩⟩⟩⟩⟩⟩
theorem ok (hx : ExtOk Tryz.prog T) : T.Ok Tryz.prog :=
 Tabs.ok tabs (by kernel_rfl) (by kernel_rfl) (by kernel_rfl) (by kernel_rfl) fns blks hx (by kernel_rfl) (pkgG_mono _ _ _) (fun _ _ h => h.1)
theorem ext_of (h69 : ExtAt Tryz.prog T 69) (h123 : ExtAt Tryz.prog T 123) (h130 : ExtAt Tryz.prog T 130) : ExtOk Tryz.prog T := fun φ => match φ with
 | 0 => fun _ _ _ h => by cases h
 | 1 => fun _ _ _ h => by cases h
 | 2 => fun _ _ _ h => by cases h
 | 3 => fun _ _ _ h => by cases h
 | 4 => fun _ _ _ h => by cases h
 | 5 => fun _ _ _ h => by cases h
 | 6 => fun _ _ _ h => by cases h
 | 7 => fun _ _ _ h => by cases h
 | 8 => fun _ _ _ h => by cases h
 | 9 => fun _ _ _ h => by cases h
 | 10 => fun _ _ _ h => by cases h
 | 11 => fun _ _ _ h => by cases h
 | 12 => fun _ _ _ h => by cases h
 | 13 => fun _ _ _ h => by cases h
 | 14 => fun _ _ _ h => by cases h
 | 15 => fun _ _ _ h => by cases h
 | 16 => fun _ _ _ h => by cases h
 | 17 => fun _ _ _ h => by cases h
 | 18 => fun _ _ _ h => by cases h
 | 19 => fun _ _ _ h => by cases h
 | 20 => fun _ _ _ h => by cases h
 | 21 => fun _ _ _ h => by cases h
 | 22 => fun _ _ _ h => by cases h
 | 23 => fun _ _ _ h => by cases h
 | 24 => fun _ _ _ h => by cases h
 | 25 => fun _ _ _ h => by cases h
 | 26 => fun _ _ _ h => by cases h
 | 27 => fun _ _ _ h => by cases h
 | 28 => fun _ _ _ h => by cases h
 | 29 => fun _ _ _ h => by cases h
 | 30 => fun _ _ _ h => by cases h
 | 31 => fun _ _ _ h => by cases h
 | 32 => fun _ _ _ h => by cases h
 | 33 => fun _ _ _ h => by cases h
 | 34 => fun _ _ _ h => by cases h
 | 35 => fun _ _ _ h => by cases h
 | 36 => fun _ _ _ h => by cases h
 | 37 => fun _ _ _ h => by cases h
 | 38 => fun _ _ _ h => by cases h
 | 39 => fun _ _ _ h => by cases h
 | 40 => fun _ _ _ h => by cases h
 | 41 => fun _ _ _ h => by cases h
 | 42 => fun _ _ _ h => by cases h
 | 43 => fun _ _ _ h => by cases h
 | 44 => fun _ _ _ h => by cases h
 | 45 => fun _ _ _ h => by cases h
 | 46 => fun _ _ _ h => by cases h
 | 47 => fun _ _ _ h => by cases h
 | 48 => fun _ _ _ h => by cases h
 | 49 => fun _ _ _ h => by cases h
 | 50 => fun _ _ _ h => by cases h
 | 51 => fun _ _ _ h => by cases h
 | 52 => fun _ _ _ h => by cases h
 | 53 => fun _ _ _ h => by cases h
 | 54 => fun _ _ _ h => by cases h
 | 55 => fun _ _ _ h => by cases h
 | 56 => fun _ _ _ h => by cases h
 | 57 => fun _ _ _ h => by cases h
 | 58 => fun _ _ _ h => by cases h
 | 59 => fun _ _ _ h => by cases h
 | 60 => fun _ _ _ h => by cases h
 | 61 => fun _ _ _ h => by cases h
 | 62 => fun _ _ _ h => by cases h
 | 63 => fun _ _ _ h => by cases h
 | 64 => fun _ _ _ h => by cases h
 | 65 => fun _ _ _ h => by cases h
 | 66 => fun _ _ _ h => by cases h
 | 67 => fun _ _ _ h => by cases h
 | 68 => fun _ _ _ h => by cases h
 | 69 => fun d y _ h => h69 d y h
 | 70 => fun _ _ _ h => by cases h
 | 71 => fun _ _ _ h => by cases h
 | 72 => fun _ _ _ h => by cases h
 | 73 => fun _ _ _ h => by cases h
 | 74 => fun _ _ _ h => by cases h
 | 75 => fun _ _ _ h => by cases h
 | 76 => fun _ _ _ h => by cases h
 | 77 => fun _ _ _ h => by cases h
 | 78 => fun _ _ _ h => by cases h
 | 79 => fun _ _ _ h => by cases h
 | 80 => fun _ _ _ h => by cases h
 | 81 => fun _ _ _ h => by cases h
 | 82 => fun _ _ _ h => by cases h
 | 83 => fun _ _ _ h => by cases h
 | 84 => fun _ _ _ h => by cases h
 | 85 => fun _ _ _ h => by cases h
 | 86 => fun _ _ _ h => by cases h
 | 87 => fun _ _ _ h => by cases h
 | 88 => fun _ _ _ h => by cases h
 | 89 => fun _ _ _ h => by cases h
 | 90 => fun _ _ _ h => by cases h
 | 91 => fun _ _ _ h => by cases h
 | 92 => fun _ _ _ h => by cases h
 | 93 => fun _ _ _ h => by cases h
 | 94 => fun _ _ _ h => by cases h
 | 95 => fun _ _ _ h => by cases h
 | 96 => fun _ _ _ h => by cases h
 | 97 => fun _ _ _ h => by cases h
 | 98 => fun _ _ _ h => by cases h
 | 99 => fun _ _ _ h => by cases h
 | 100 => fun _ _ _ h => by cases h
 | 101 => fun _ _ _ h => by cases h
 | 102 => fun _ _ _ h => by cases h
 | 103 => fun _ _ _ h => by cases h
 | 104 => fun _ _ _ h => by cases h
 | 105 => fun _ _ _ h => by cases h
 | 106 => fun _ _ _ h => by cases h
 | 107 => fun _ _ _ h => by cases h
 | 108 => fun _ _ _ h => by cases h
 | 109 => fun _ _ _ h => by cases h
 | 110 => fun _ _ _ h => by cases h
 | 111 => fun _ _ _ h => by cases h
 | 112 => fun _ _ _ h => by cases h
 | 113 => fun _ _ _ h => by cases h
 | 114 => fun _ _ _ h => by cases h
 | 115 => fun _ _ _ h => by cases h
 | 116 => fun _ _ _ h => by cases h
 | 117 => fun _ _ _ h => by cases h
 | 118 => fun _ _ _ h => by cases h
 | 119 => fun _ _ _ h => by cases h
 | 120 => fun _ _ _ h => by cases h
 | 121 => fun _ _ _ h => by cases h
 | 122 => fun _ _ _ h => by cases h
 | 123 => fun d y _ h => h123 d y h
 | 124 => fun _ _ _ h => by cases h
 | 125 => fun _ _ _ h => by cases h
 | 126 => fun _ _ _ h => by cases h
 | 127 => fun _ _ _ h => by cases h
 | 128 => fun _ _ _ h => by cases h
 | 129 => fun _ _ _ h => by cases h
 | 130 => fun d y _ h => h130 d y h
 | n + 131 => fun _ _ _ h => by cases h
end Go.Proofs.YtlobhcgbmpcdlaaGreatDoor.R
