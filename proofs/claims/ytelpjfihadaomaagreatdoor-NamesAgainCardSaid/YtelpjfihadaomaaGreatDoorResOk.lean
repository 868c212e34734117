import Derived.Test.YtelpjfihadaomaaGreatDoorRes
import Derived.KernelRfl
namespace Go.Proofs.YtelpjfihadaomaaGreatDoor.R
open Go Go.Bm Go.Proofs
set_option linter.unusedVariables false
set_option maxRecDepth 100000
theorem fn0:a8 T 0 Tryz.f3:=by kernel_rfl
theorem fn1:a8 T 1 Tryz.f8:=by kernel_rfl
theorem fn2:a8 T 2 Tryz.f9:=by kernel_rfl
theorem fn3:a8 T 3 Tryz.f19:=by kernel_rfl
theorem fn4:a8 T 4 Tryz.f34:=by kernel_rfl
theorem fn5:a8 T 5 Tryz.f71:=by kernel_rfl
theorem fn6:a8 T 6 Tryz.f66:=by kernel_rfl
theorem fn7:a8 T 7 Tryz.f105:=by kernel_rfl
theorem fn8:a8 T 8 Tryz.f64:=by kernel_rfl
theorem fn9:a8 T 9 Tryz.f106:=by kernel_rfl
theorem e0I:a8 T 10 Tryz.f65:=by kernel_rfl
theorem e0J:a8 T 11 Tryz.f103:=by kernel_rfl
theorem e0K:a8 T 12 Tryz.f32:=by kernel_rfl
theorem e0L:a8 T 13 Tryz.f107:=by kernel_rfl
theorem e0M:a8 T 14 Tryz.f143:=by kernel_rfl
theorem e0N:a8 T 15 Tryz.f35:=by kernel_rfl
theorem e0O:a8 T 16 Tryz.f41:=by kernel_rfl
theorem e0P:a8 T 17 Tryz.f36:=by kernel_rfl
theorem e0Q:a8 T 18 Tryz.f42:=by kernel_rfl
theorem e0R:a8 T 19 Tryz.f78:=by kernel_rfl
theorem e0S:a8 T 20 Tryz.f37:=by kernel_rfl
theorem e0T:a8 T 21 Tryz.f40:=by kernel_rfl
theorem e0U:a8 T 22 Tryz.f35:=by kernel_rfl
theorem e0V:a8 T 23 Tryz.f41:=by kernel_rfl
theorem e0W:a8 T 24 Tryz.f39:=by kernel_rfl
theorem e0X:a8 T 25 Tryz.f77:=by kernel_rfl
theorem e0Y:a8 T 26 Tryz.f42:=by kernel_rfl
theorem e0Z:a8 T 27 Tryz.f72:=by kernel_rfl
theorem e1a:a8 T 28 Tryz.f38:=by kernel_rfl
theorem e1b:a8 T 29 Tryz.f36:=by kernel_rfl
theorem e1c:a8 T 30 Tryz.f74:=by kernel_rfl
theorem e1d:a8 T 31 Tryz.f73:=by kernel_rfl
theorem e1e:a8 T 32 Tryz.f108:=by kernel_rfl
theorem e1f:a8 T 33 Tryz.f109:=by kernel_rfl
theorem e1g:a8 T 34 Tryz.f110:=by kernel_rfl
theorem e1h:a8 T 35 Tryz.f145:=by kernel_rfl
theorem e1i:a8 T 36 Tryz.f162:=by kernel_rfl
theorem e1j:a8 T 37 Tryz.f167:=by kernel_rfl
theorem e1k:a8 T 38 Tryz.f171:=by kernel_rfl
theorem e1l:a8 T 39 Tryz.f173:=by kernel_rfl
theorem e1m:a8 T 40 Tryz.f174:=by kernel_rfl
theorem e1n:a8 T 41 Tryz.f175:=by kernel_rfl
theorem e1o:a8 T 42 Tryz.f176:=by kernel_rfl
theorem e1p:a8 T 43 Tryz.f177:=by kernel_rfl
theorem e1q:a8 T 44 Tryz.f178:=by kernel_rfl
theorem e1r:a8 T 45 Tryz.f179:=by kernel_rfl
theorem e1s:a8 T 46 Tryz.f180:=by kernel_rfl
theorem e1t:a8 T 47 Tryz.f134:=by kernel_rfl
theorem e1u:a8 T 48 Tryz.f158:=by kernel_rfl
theorem e1v:a8 T 49 Tryz.f140:=by kernel_rfl
theorem e1w:a8 T 50 Tryz.f159:=by kernel_rfl
theorem e1x:a8 T 51 Tryz.f165:=by kernel_rfl
theorem e1y:a8 T 52 Tryz.f160:=by kernel_rfl
theorem e1z:a8 T 53 Tryz.f181:=by kernel_rfl
theorem e1A:a8 T 54 Tryz.f168:=by kernel_rfl
theorem e1B:a8 T 55 Tryz.f172:=by kernel_rfl
theorem e1C:a8 T 56 Tryz.f186:=by kernel_rfl
theorem e1D:a8 T 57 Tryz.f184:=by kernel_rfl
theorem e1E:a8 T 58 Tryz.f182:=by kernel_rfl
theorem e1F:a8 T 59 Tryz.f183:=by kernel_rfl
theorem e1G:a8 T 60 Tryz.f185:=by kernel_rfl
theorem e1H:a8 T 61 Tryz.f169:=by kernel_rfl
theorem e1I:a8 T 62 Tryz.f142:=by kernel_rfl
theorem e1J:a8 T 63 Tryz.f144:=by kernel_rfl
theorem e1K:a8 T 64 Tryz.f75:=by kernel_rfl
theorem e1L:a8 T 65 Tryz.f76:=by kernel_rfl
theorem e1M:a8 T 66 Tryz.f10:=by kernel_rfl
theorem e1N:a8 T 67 Tryz.f22:=by kernel_rfl
theorem e1O:a8 T 68 Tryz.f20:=by kernel_rfl
theorem e1P:a8 T 69 Tryz.f43:=by kernel_rfl
theorem e1Q:a8 T 70 Tryz.f79:=by kernel_rfl
theorem e1R:a8 T 71 Tryz.f81:=by kernel_rfl
theorem e1S:a8 T 72 Tryz.f82:=by kernel_rfl
theorem e1T:a8 T 73 Tryz.f114:=by kernel_rfl
theorem e1U:a8 T 74 Tryz.f147:=by kernel_rfl
theorem e1V:a8 T 75 Tryz.f163:=by kernel_rfl
theorem e1W:a8 T 76 Tryz.f148:=by kernel_rfl
theorem e1X:a8 T 77 Tryz.f44:=by kernel_rfl
theorem e1Y:a8 T 78 Tryz.f83:=by kernel_rfl
theorem e1Z:a8 T 79 Tryz.f29:=by kernel_rfl
theorem e2a:a8 T 80 Tryz.f84:=by kernel_rfl
theorem e2b:a8 T 81 Tryz.f45:=by kernel_rfl
theorem e2c:a8 T 82 Tryz.f85:=by kernel_rfl
theorem e2d:a8 T 83 Tryz.f115:=by kernel_rfl
theorem e2e:a8 T 84 Tryz.f149:=by kernel_rfl
theorem e2f:a8 T 85 Tryz.f116:=by kernel_rfl
theorem e2g:a8 T 86 Tryz.f86:=by kernel_rfl
theorem e2h:a8 T 87 Tryz.f87:=by kernel_rfl
theorem e2i:a8 T 88 Tryz.f117:=by kernel_rfl
theorem e2j:a8 T 89 Tryz.f150:=by kernel_rfl
theorem e2k:a8 T 90 Tryz.f118:=by kernel_rfl
theorem e2l:a8 T 91 Tryz.f88:=by kernel_rfl
theorem e2m:a8 T 92 Tryz.f119:=by kernel_rfl
theorem e2n:a8 T 93 Tryz.f95:=by kernel_rfl
theorem e2o:a8 T 94 Tryz.f130:=by kernel_rfl
theorem e2p:a8 T 95 Tryz.f124:=by kernel_rfl
theorem e2q:a8 T 96 Tryz.f126:=by kernel_rfl
theorem e2r:a8 T 97 Tryz.f131:=by kernel_rfl
theorem e2s:a8 T 98 Tryz.f156:=by kernel_rfl
theorem e2t:a8 T 99 Tryz.f132:=by kernel_rfl
theorem d4H:a8 T 100 Tryz.f157:=by kernel_rfl
theorem d4I:a8 T 101 Tryz.f152:=by kernel_rfl
theorem d4J:a8 T 102 Tryz.f164:=by kernel_rfl
theorem d4K:a8 T 103 Tryz.f151:=by kernel_rfl
theorem d4L:a8 T 104 Tryz.f89:=by kernel_rfl
theorem d4M:a8 T 105 Tryz.f120:=by kernel_rfl
theorem d4N:a8 T 106 Tryz.f153:=by kernel_rfl
theorem d4O:a8 T 107 Tryz.f121:=by kernel_rfl
theorem d4P:a8 T 108 Tryz.f90:=by kernel_rfl
theorem d4Q:a8 T 109 Tryz.f122:=by kernel_rfl
theorem d4R:a8 T 110 Tryz.f127:=by kernel_rfl
theorem d4S:a8 T 111 Tryz.f155:=by kernel_rfl
theorem d4T:a8 T 112 Tryz.f154:=by kernel_rfl
theorem d4U:a8 T 113 Tryz.f21:=by kernel_rfl
theorem d4V:a8 T 114 Tryz.f46:=by kernel_rfl
theorem d4W:a8 T 115 Tryz.f47:=by kernel_rfl
theorem d4X:a8 T 116 Tryz.f48:=by kernel_rfl
theorem d4Y:a8 T 117 Tryz.f49:=by kernel_rfl
theorem d4Z:a8 T 118 Tryz.f50:=by kernel_rfl
theorem d5a:a8 T 119 Tryz.f91:=by kernel_rfl
theorem d5b:a8 T 120 Tryz.f123:=by kernel_rfl
theorem d5c:a8 T 121 Tryz.f51:=by kernel_rfl
theorem d5d:a8 T 122 Tryz.f23:=by kernel_rfl
theorem d5e:a8 T 123 Tryz.f24:=by kernel_rfl
theorem d5f:a8 T 124 Tryz.f52:=by kernel_rfl
theorem d5g:a8 T 125 Tryz.f53:=by kernel_rfl
theorem d5h:a8 T 126 Tryz.f92:=by kernel_rfl
theorem d5i:a8 T 127 Tryz.f125:=by kernel_rfl
theorem d5j:a8 T 128 Tryz.f93:=by kernel_rfl
theorem d5k:a8 T 129 Tryz.f94:=by kernel_rfl
theorem d5l:a8 T 130 Tryz.f127:=by kernel_rfl
theorem d5m:a8 T 131 Tryz.f155:=by kernel_rfl
theorem d5n:a8 T 132 Tryz.f128:=by kernel_rfl
theorem d5o:a8 T 133 Tryz.f129:=by kernel_rfl
theorem d5p:a8 T 134 Tryz.f54:=by kernel_rfl
theorem d5q:a8 T 135 Tryz.f93:=by kernel_rfl
theorem d5r:a8 T 136 Tryz.f93:=by kernel_rfl
theorem d5s:a8 T 137 Tryz.f55:=by kernel_rfl
theorem d5t:a8 T 138 Tryz.f56:=by kernel_rfl
theorem d5u:a8 T 139 Tryz.f97:=by kernel_rfl
theorem d5v:a8 T 140 Tryz.f25:=by kernel_rfl
theorem d5w:a8 T 141 Tryz.f13:=by kernel_rfl
theorem d5x:a8 T 142 Tryz.f29:=by kernel_rfl
theorem d5y:a8 T 143 Tryz.f30:=by kernel_rfl
theorem d5z:a8 T 144 Tryz.f11:=by kernel_rfl
theorem d5A:a8 T 145 Tryz.f18:=by kernel_rfl
theorem d5B:a8 T 146 Tryz.f33:=by kernel_rfl
theorem d5C:a8 T 147 Tryz.f67:=by kernel_rfl
theorem d5D:a8 T 148 Tryz.f68:=by kernel_rfl
theorem d5E:a8 T 149 Tryz.f69:=by kernel_rfl
theorem d5F:a8 T 150 Tryz.f104:=by kernel_rfl
theorem d5G:a8 T 151 Tryz.f138:=by kernel_rfl
theorem d5H:a8 T 152 Tryz.f139:=by kernel_rfl
theorem d5I:a8 T 153 Tryz.f141:=by kernel_rfl
theorem d5J:a8 T 154 Tryz.f70:=by kernel_rfl
theorem d5K:a8 T 155 Tryz.f17:=by kernel_rfl
theorem d5L:a8 T 156 Tryz.f31:=by kernel_rfl
theorem d5M:a8 T 157 Tryz.f63:=by kernel_rfl
theorem d5N:a8 T 158 Tryz.f102:=by kernel_rfl
theorem d5O:a8 T 159 Tryz.f137:=by kernel_rfl
theorem d5P:a8 T 160 Tryz.f26:=by kernel_rfl
theorem d5Q:a8 T 161 Tryz.f14:=by kernel_rfl
theorem d5R:a8 T 162 Tryz.f57:=by kernel_rfl
theorem d5S:a8 T 163 Tryz.f58:=by kernel_rfl
theorem d5T:a8 T 164 Tryz.f59:=by kernel_rfl
theorem d5U:a8 T 165 Tryz.f98:=by kernel_rfl
theorem d5V:a8 T 166 Tryz.f15:=by kernel_rfl
theorem d5W:a8 T 167 Tryz.f133:=by kernel_rfl
theorem d5X:a8 T 168 Tryz.f99:=by kernel_rfl
theorem d5Y:a8 T 169 Tryz.f15:=by kernel_rfl
theorem d5Z:a8 T 170 Tryz.f135:=by kernel_rfl
theorem d6a:a8 T 171 Tryz.f161:=by kernel_rfl
theorem d6b:a8 T 172 Tryz.f166:=by kernel_rfl
theorem d6c:a8 T 173 Tryz.f170:=by kernel_rfl
theorem d6d:a8 T 174 Tryz.f100:=by kernel_rfl
theorem d6e:a8 T 175 Tryz.f60:=by kernel_rfl
theorem d6f:a8 T 176 Tryz.f101:=by kernel_rfl
theorem d6g:a8 T 177 Tryz.f136:=by kernel_rfl
theorem d6h:a8 T 178 Tryz.f27:=by kernel_rfl
theorem d6i:a8 T 179 Tryz.f12:=by kernel_rfl
theorem d6j:a8 T 180 Tryz.f28:=by kernel_rfl
theorem d6k:a8 T 181 Tryz.f61:=by kernel_rfl
theorem d6l:a8 T 182 Tryz.f62:=by kernel_rfl
theorem d6m:a8 T 183 Tryz.f14:=by kernel_rfl
theorem d6n:a8 T 184 Tryz.f4:=by kernel_rfl
theorem d6o:a8 T 185 Tryz.f5:=by kernel_rfl
theorem d6p:a8 T 186 Tryz.f16:=by kernel_rfl
theorem d6q:a8 T 187 Tryz.f6:=by kernel_rfl
theorem d6r:a8 T 188 Tryz.f7:=by kernel_rfl
theorem chk {p:Nat → Bool} {n m:Nat} (h:(List.range n).all p = true) (h2:(List.range' n m).all p = true):(List.range (n + m)).all p = true:=by
 simp only [List.all_eq_true,List.mem_range,List.mem_range'_1] at *
 intro x hx
 by_cases h':x < n
 · exact h x h'
 · exact h2 x ⟨by omega,hx⟩
theorem q0:(List.range' 0 6).all (l7 T):=by kernel_rfl
theorem q1:(List.range' 6 6).all (l7 T):=by kernel_rfl
theorem q2:(List.range' 12 6).all (l7 T):=by kernel_rfl
theorem q3:(List.range' 18 6).all (l7 T):=by kernel_rfl
theorem q4:(List.range' 24 6).all (l7 T):=by kernel_rfl
theorem q5:(List.range' 30 6).all (l7 T):=by kernel_rfl
theorem q6:(List.range' 36 6).all (l7 T):=by kernel_rfl
theorem q7:(List.range' 42 6).all (l7 T):=by kernel_rfl
theorem q8:(List.range' 48 6).all (l7 T):=by kernel_rfl
theorem q9:(List.range' 54 6).all (l7 T):=by kernel_rfl
theorem q10:(List.range' 60 6).all (l7 T):=by kernel_rfl
theorem q11:(List.range' 66 6).all (l7 T):=by kernel_rfl
theorem q12:(List.range' 72 6).all (l7 T):=by kernel_rfl
theorem q13:(List.range' 78 6).all (l7 T):=by kernel_rfl
theorem q14:(List.range' 84 6).all (l7 T):=by kernel_rfl
theorem q15:(List.range' 90 6).all (l7 T):=by kernel_rfl
theorem q16:(List.range' 96 6).all (l7 T):=by kernel_rfl
theorem q17:(List.range' 102 6).all (l7 T):=by kernel_rfl
theorem q18:(List.range' 108 6).all (l7 T):=by kernel_rfl
theorem q19:(List.range' 114 6).all (l7 T):=by kernel_rfl
theorem q20:(List.range' 120 6).all (l7 T):=by kernel_rfl
theorem q21:(List.range' 126 6).all (l7 T):=by kernel_rfl
theorem q22:(List.range' 132 6).all (l7 T):=by kernel_rfl
theorem q23:(List.range' 138 6).all (l7 T):=by kernel_rfl
theorem q24:(List.range' 144 6).all (l7 T):=by kernel_rfl
theorem q25:(List.range' 150 6).all (l7 T):=by kernel_rfl
theorem q26:(List.range' 156 6).all (l7 T):=by kernel_rfl
theorem q27:(List.range' 162 6).all (l7 T):=by kernel_rfl
theorem q28:(List.range' 168 6).all (l7 T):=by kernel_rfl
theorem q29:(List.range' 174 6).all (l7 T):=by kernel_rfl
theorem q30:(List.range' 180 6).all (l7 T):=by kernel_rfl
theorem q31:(List.range' 186 6).all (l7 T):=by kernel_rfl
theorem q32:(List.range' 192 6).all (l7 T):=by kernel_rfl
theorem q33:(List.range' 198 6).all (l7 T):=by kernel_rfl
theorem q34:(List.range' 204 6).all (l7 T):=by kernel_rfl
theorem q35:(List.range' 210 6).all (l7 T):=by kernel_rfl
theorem q36:(List.range' 216 6).all (l7 T):=by kernel_rfl
theorem q37:(List.range' 222 6).all (l7 T):=by kernel_rfl
theorem q38:(List.range' 228 6).all (l7 T):=by kernel_rfl
theorem q39:(List.range' 234 6).all (l7 T):=by kernel_rfl
theorem q40:(List.range' 240 6).all (l7 T):=by kernel_rfl
theorem q41:(List.range' 246 6).all (l7 T):=by kernel_rfl
theorem q42:(List.range' 252 6).all (l7 T):=by kernel_rfl
theorem q43:(List.range' 258 6).all (l7 T):=by kernel_rfl
theorem q44:(List.range' 264 6).all (l7 T):=by kernel_rfl
theorem q45:(List.range' 270 6).all (l7 T):=by kernel_rfl
theorem q46:(List.range' 276 6).all (l7 T):=by kernel_rfl
theorem q47:(List.range' 282 6).all (l7 T):=by kernel_rfl
theorem q48:(List.range' 288 6).all (l7 T):=by kernel_rfl
theorem q49:(List.range' 294 6).all (l7 T):=by kernel_rfl
theorem q50:(List.range' 300 6).all (l7 T):=by kernel_rfl
theorem q51:(List.range' 306 6).all (l7 T):=by kernel_rfl
theorem q52:(List.range' 312 6).all (l7 T):=by kernel_rfl
theorem q53:(List.range' 318 4).all (l7 T):=by kernel_rfl
theorem d9t:(List.range b8D.placeL.length).all (l7 T) = true:=by
 rw [b8l]
 exact (chk (n:=318) (m:=4) (chk (n:=312) (m:=6) (chk (n:=306) (m:=6) (chk (n:=300) (m:=6) (chk (n:=294) (m:=6) (chk (n:=288) (m:=6) (chk (n:=282) (m:=6) (chk (n:=276) (m:=6) (chk (n:=270) (m:=6) (chk (n:=264) (m:=6) (chk (n:=258) (m:=6) (chk (n:=252) (m:=6) (chk (n:=246) (m:=6) (chk (n:=240) (m:=6) (chk (n:=234) (m:=6) (chk (n:=228) (m:=6) (chk (n:=222) (m:=6) (chk (n:=216) (m:=6) (chk (n:=210) (m:=6) (chk (n:=204) (m:=6) (chk (n:=198) (m:=6) (chk (n:=192) (m:=6) (chk (n:=186) (m:=6) (chk (n:=180) (m:=6) (chk (n:=174) (m:=6) (chk (n:=168) (m:=6) (chk (n:=162) (m:=6) (chk (n:=156) (m:=6) (chk (n:=150) (m:=6) (chk (n:=144) (m:=6) (chk (n:=138) (m:=6) (chk (n:=132) (m:=6) (chk (n:=126) (m:=6) (chk (n:=120) (m:=6) (chk (n:=114) (m:=6) (chk (n:=108) (m:=6) (chk (n:=102) (m:=6) (chk (n:=96) (m:=6) (chk (n:=90) (m:=6) (chk (n:=84) (m:=6) (chk (n:=78) (m:=6) (chk (n:=72) (m:=6) (chk (n:=66) (m:=6) (chk (n:=60) (m:=6) (chk (n:=54) (m:=6) (chk (n:=48) (m:=6) (chk (n:=42) (m:=6) (chk (n:=36) (m:=6) (chk (n:=30) (m:=6) (chk (n:=24) (m:=6) (chk (n:=18) (m:=6) (chk (n:=12) (m:=6) (chk (n:=6) (m:=6) (chk (n:=0) (m:=6) (rfl:(List.range 0).all (l7 T) = true) q0) q1) q2) q3) q4) q5) q6) q7) q8) q9) q10) q11) q12) q13) q14) q15) q16) q17) q18) q19) q20) q21) q22) q23) q24) q25) q26) q27) q28) q29) q30) q31) q32) q33) q34) q35) q36) q37) q38) q39) q40) q41) q42) q43) q44) q45) q46) q47) q48) q49) q50) q51) q52) q53)
theorem fns:a7v Tryz.prog T 0 b8D.fnL :=
 ⟨e7 Tryz.func3 fn0,⟨e7 Tryz.func8 fn1,⟨e7 Tryz.func9 fn2,⟨e7 Tryz.func19 fn3,⟨e7 Tryz.func34 fn4,⟨e7 Tryz.func71 fn5,⟨e7 Tryz.func66 fn6,⟨e7 Tryz.func105 fn7,⟨e7 Tryz.func64 fn8,⟨e7 Tryz.func106 fn9,⟨e7 Tryz.func65 e0I,⟨e7 Tryz.func103 e0J,⟨e7 Tryz.func32 e0K,⟨e7 Tryz.func107 e0L,⟨e7 Tryz.func143 e0M,⟨e7 Tryz.func35 e0N,⟨e7 Tryz.func41 e0O,⟨e7 Tryz.func36 e0P,⟨e7 Tryz.func42 e0Q,⟨e7 Tryz.func78 e0R,⟨e7 Tryz.func37 e0S,⟨e7 Tryz.func40 e0T,⟨e7 Tryz.func35 e0U,⟨e7 Tryz.func41 e0V,⟨e7 Tryz.func39 e0W,⟨e7 Tryz.func77 e0X,⟨e7 Tryz.func42 e0Y,⟨e7 Tryz.func72 e0Z,⟨e7 Tryz.func38 e1a,⟨e7 Tryz.func36 e1b,⟨e7 Tryz.func74 e1c,⟨e7 Tryz.func73 e1d,⟨e7 Tryz.func108 e1e,⟨e7 Tryz.func109 e1f,⟨e7 Tryz.func110 e1g,⟨e7 Tryz.func145 e1h,⟨e7 Tryz.func162 e1i,⟨e7 Tryz.func167 e1j,⟨e7 Tryz.func171 e1k,⟨e7 Tryz.func173 e1l,⟨e7 Tryz.func174 e1m,⟨e7 Tryz.func175 e1n,⟨e7 Tryz.func176 e1o,⟨e7 Tryz.func177 e1p,⟨e7 Tryz.func178 e1q,⟨e7 Tryz.func179 e1r,⟨e7 Tryz.func180 e1s,⟨e7 Tryz.func134 e1t,⟨e7 Tryz.func158 e1u,⟨e7 Tryz.func140 e1v,⟨e7 Tryz.func159 e1w,⟨e7 Tryz.func165 e1x,⟨e7 Tryz.func160 e1y,⟨e7 Tryz.func181 e1z,⟨e7 Tryz.func168 e1A,⟨e7 Tryz.func172 e1B,⟨e7 Tryz.func186 e1C,⟨e7 Tryz.func184 e1D,⟨e7 Tryz.func182 e1E,⟨e7 Tryz.func183 e1F,⟨e7 Tryz.func185 e1G,⟨e7 Tryz.func169 e1H,⟨e7 Tryz.func142 e1I,⟨e7 Tryz.func144 e1J,⟨e7 Tryz.func75 e1K,⟨e7 Tryz.func76 e1L,⟨e7 Tryz.func10 e1M,⟨e7 Tryz.func22 e1N,⟨e7 Tryz.func20 e1O,⟨e7 Tryz.func43 e1P,⟨e7 Tryz.func79 e1Q,⟨e7 Tryz.func81 e1R,⟨e7 Tryz.func82 e1S,⟨e7 Tryz.func114 e1T,⟨e7 Tryz.func147 e1U,⟨e7 Tryz.func163 e1V,⟨e7 Tryz.func148 e1W,⟨e7 Tryz.func44 e1X,⟨e7 Tryz.func83 e1Y,⟨e7 Tryz.func29 e1Z,⟨e7 Tryz.func84 e2a,⟨e7 Tryz.func45 e2b,⟨e7 Tryz.func85 e2c,⟨e7 Tryz.func115 e2d,⟨e7 Tryz.func149 e2e,⟨e7 Tryz.func116 e2f,⟨e7 Tryz.func86 e2g,⟨e7 Tryz.func87 e2h,⟨e7 Tryz.func117 e2i,⟨e7 Tryz.func150 e2j,⟨e7 Tryz.func118 e2k,⟨e7 Tryz.func88 e2l,⟨e7 Tryz.func119 e2m,⟨e7 Tryz.func95 e2n,⟨e7 Tryz.func130 e2o,⟨e7 Tryz.func124 e2p,⟨e7 Tryz.func126 e2q,⟨e7 Tryz.func131 e2r,⟨e7 Tryz.func156 e2s,⟨e7 Tryz.func132 e2t,⟨e7 Tryz.func157 d4H,⟨e7 Tryz.func152 d4I,⟨e7 Tryz.func164 d4J,⟨e7 Tryz.func151 d4K,⟨e7 Tryz.func89 d4L,⟨e7 Tryz.func120 d4M,⟨e7 Tryz.func153 d4N,⟨e7 Tryz.func121 d4O,⟨e7 Tryz.func90 d4P,⟨e7 Tryz.func122 d4Q,⟨e7 Tryz.func127 d4R,⟨e7 Tryz.func155 d4S,⟨e7 Tryz.func154 d4T,⟨e7 Tryz.func21 d4U,⟨e7 Tryz.func46 d4V,⟨e7 Tryz.func47 d4W,⟨e7 Tryz.func48 d4X,⟨e7 Tryz.func49 d4Y,⟨e7 Tryz.func50 d4Z,⟨e7 Tryz.func91 d5a,⟨e7 Tryz.func123 d5b,⟨e7 Tryz.func51 d5c,⟨e7 Tryz.func23 d5d,⟨e7 Tryz.func24 d5e,⟨e7 Tryz.func52 d5f,⟨e7 Tryz.func53 d5g,⟨e7 Tryz.func92 d5h,⟨e7 Tryz.func125 d5i,⟨e7 Tryz.func93 d5j,⟨e7 Tryz.func94 d5k,⟨e7 Tryz.func127 d5l,⟨e7 Tryz.func155 d5m,⟨e7 Tryz.func128 d5n,⟨e7 Tryz.func129 d5o,⟨e7 Tryz.func54 d5p,⟨e7 Tryz.func93 d5q,⟨e7 Tryz.func93 d5r,⟨e7 Tryz.func55 d5s,⟨e7 Tryz.func56 d5t,⟨e7 Tryz.func97 d5u,⟨e7 Tryz.func25 d5v,⟨e7 Tryz.func13 d5w,⟨e7 Tryz.func29 d5x,⟨e7 Tryz.func30 d5y,⟨e7 Tryz.func11 d5z,⟨e7 Tryz.func18 d5A,⟨e7 Tryz.func33 d5B,⟨e7 Tryz.func67 d5C,⟨e7 Tryz.func68 d5D,⟨e7 Tryz.func69 d5E,⟨e7 Tryz.func104 d5F,⟨e7 Tryz.func138 d5G,⟨e7 Tryz.func139 d5H,⟨e7 Tryz.func141 d5I,⟨e7 Tryz.func70 d5J,⟨e7 Tryz.func17 d5K,⟨e7 Tryz.func31 d5L,⟨e7 Tryz.func63 d5M,⟨e7 Tryz.func102 d5N,⟨e7 Tryz.func137 d5O,⟨e7 Tryz.func26 d5P,⟨e7 Tryz.func14 d5Q,⟨e7 Tryz.func57 d5R,⟨e7 Tryz.func58 d5S,⟨e7 Tryz.func59 d5T,⟨e7 Tryz.func98 d5U,⟨e7 Tryz.func15 d5V,⟨e7 Tryz.func133 d5W,⟨e7 Tryz.func99 d5X,⟨e7 Tryz.func15 d5Y,⟨e7 Tryz.func135 d5Z,⟨e7 Tryz.func161 d6a,⟨e7 Tryz.func166 d6b,⟨e7 Tryz.func170 d6c,⟨e7 Tryz.func100 d6d,⟨e7 Tryz.func60 d6e,⟨e7 Tryz.func101 d6f,⟨e7 Tryz.func136 d6g,⟨e7 Tryz.func27 d6h,⟨e7 Tryz.func12 d6i,⟨e7 Tryz.func28 d6j,⟨e7 Tryz.func61 d6k,⟨e7 Tryz.func62 d6l,⟨e7 Tryz.func14 d6m,⟨e7 Tryz.func4 d6n,⟨e7 Tryz.func5 d6o,⟨e7 Tryz.func16 d6p,⟨e7 Tryz.func6 d6q,⟨e7 Tryz.func7 d6r,trivial⟩⟩⟩⟩⟩⟩⟩⟩⟩⟩⟩⟩⟩⟩⟩⟩⟩⟩⟩⟩⟩⟩⟩⟩⟩⟩⟩⟩⟩⟩⟩⟩⟩⟩⟩⟩⟩⟩⟩⟩⟩⟩⟩⟩⟩⟩⟩⟩⟩⟩⟩⟩⟩⟩⟩⟩⟩⟩⟩⟩⟩⟩⟩⟩⟩⟩⟩⟩⟩⟩⟩⟩⟩⟩⟩⟩⟩⟩⟩⟩⟩⟩⟩⟩⟩⟩⟩⟩⟩⟩⟩⟩⟩⟩⟩⟩⟩⟩⟩⟩⟩⟩⟩⟩⟩⟩⟩⟩⟩⟩⟩⟩⟩⟩⟩⟩⟩⟩⟩⟩⟩⟩⟩⟩⟩⟩⟩⟩⟩⟩⟩⟩⟩⟩⟩⟩⟩⟩⟩⟩⟩⟩⟩⟩⟩⟩⟩⟩⟩⟩⟩⟩⟩⟩⟩⟩⟩⟩⟩⟩⟩⟩⟩⟩⟩⟩⟩⟩⟩⟩⟩⟩⟩⟩⟩⟩⟩⟩⟩⟩⟩⟩⟩⟩⟩⟩⟩⟩⟩
theorem ok (hx:b8K Tryz.prog T):T.Ok Tryz.prog :=
 Tabs.ok b8D (by kernel_rfl) (by kernel_rfl) (by kernel_rfl) (by kernel_rfl) fns d9t hx (by kernel_rfl) (by kernel_rfl) (b5P _) (fun _ _ h => h)
theorem d1V (h70:b5S Tryz.prog T 70) (h137:b5S Tryz.prog T 137):b8K Tryz.prog T:=fun φ => match φ with
 | 0 => fun _ _ _ h => by cases h
 | 1 => fun _ _ _ h => by cases h
 | 2 => fun _ _ _ h => by cases h
 | 3 => fun _ _ _ h => by cases h
 | 4 => fun _ _ _ h => by cases h
 | 5 => fun _ _ _ h => by cases h
 | 6 => fun _ _ _ h => by cases h
 | 7 => fun _ _ _ h => by cases h
 | 8 => fun _ _ _ h => by cases h
 | 9 => fun _ _ _ h => by cases h
 | 10 => fun _ _ _ h => by cases h
 | 11 => fun _ _ _ h => by cases h
 | 12 => fun _ _ _ h => by cases h
 | 13 => fun _ _ _ h => by cases h
 | 14 => fun _ _ _ h => by cases h
 | 15 => fun _ _ _ h => by cases h
 | 16 => fun _ _ _ h => by cases h
 | 17 => fun _ _ _ h => by cases h
 | 18 => fun _ _ _ h => by cases h
 | 19 => fun _ _ _ h => by cases h
 | 20 => fun _ _ _ h => by cases h
 | 21 => fun _ _ _ h => by cases h
 | 22 => fun _ _ _ h => by cases h
 | 23 => fun _ _ _ h => by cases h
 | 24 => fun _ _ _ h => by cases h
 | 25 => fun _ _ _ h => by cases h
 | 26 => fun _ _ _ h => by cases h
 | 27 => fun _ _ _ h => by cases h
 | 28 => fun _ _ _ h => by cases h
 | 29 => fun _ _ _ h => by cases h
 | 30 => fun _ _ _ h => by cases h
 | 31 => fun _ _ _ h => by cases h
 | 32 => fun _ _ _ h => by cases h
 | 33 => fun _ _ _ h => by cases h
 | 34 => fun _ _ _ h => by cases h
 | 35 => fun _ _ _ h => by cases h
 | 36 => fun _ _ _ h => by cases h
 | 37 => fun _ _ _ h => by cases h
 | 38 => fun _ _ _ h => by cases h
 | 39 => fun _ _ _ h => by cases h
 | 40 => fun _ _ _ h => by cases h
 | 41 => fun _ _ _ h => by cases h
 | 42 => fun _ _ _ h => by cases h
 | 43 => fun _ _ _ h => by cases h
 | 44 => fun _ _ _ h => by cases h
 | 45 => fun _ _ _ h => by cases h
 | 46 => fun _ _ _ h => by cases h
 | 47 => fun _ _ _ h => by cases h
 | 48 => fun _ _ _ h => by cases h
 | 49 => fun _ _ _ h => by cases h
 | 50 => fun _ _ _ h => by cases h
 | 51 => fun _ _ _ h => by cases h
 | 52 => fun _ _ _ h => by cases h
 | 53 => fun _ _ _ h => by cases h
 | 54 => fun _ _ _ h => by cases h
 | 55 => fun _ _ _ h => by cases h
 | 56 => fun _ _ _ h => by cases h
 | 57 => fun _ _ _ h => by cases h
 | 58 => fun _ _ _ h => by cases h
 | 59 => fun _ _ _ h => by cases h
 | 60 => fun _ _ _ h => by cases h
 | 61 => fun _ _ _ h => by cases h
 | 62 => fun _ _ _ h => by cases h
 | 63 => fun _ _ _ h => by cases h
 | 64 => fun _ _ _ h => by cases h
 | 65 => fun _ _ _ h => by cases h
 | 66 => fun _ _ _ h => by cases h
 | 67 => fun _ _ _ h => by cases h
 | 68 => fun _ _ _ h => by cases h
 | 69 => fun _ _ _ h => by cases h
 | 70 => fun d y _ h => h70 d y h
 | 71 => fun _ _ _ h => by cases h
 | 72 => fun _ _ _ h => by cases h
 | 73 => fun _ _ _ h => by cases h
 | 74 => fun _ _ _ h => by cases h
 | 75 => fun _ _ _ h => by cases h
 | 76 => fun _ _ _ h => by cases h
 | 77 => fun _ _ _ h => by cases h
 | 78 => fun _ _ _ h => by cases h
 | 79 => fun _ _ _ h => by cases h
 | 80 => fun _ _ _ h => by cases h
 | 81 => fun _ _ _ h => by cases h
 | 82 => fun _ _ _ h => by cases h
 | 83 => fun _ _ _ h => by cases h
 | 84 => fun _ _ _ h => by cases h
 | 85 => fun _ _ _ h => by cases h
 | 86 => fun _ _ _ h => by cases h
 | 87 => fun _ _ _ h => by cases h
 | 88 => fun _ _ _ h => by cases h
 | 89 => fun _ _ _ h => by cases h
 | 90 => fun _ _ _ h => by cases h
 | 91 => fun _ _ _ h => by cases h
 | 92 => fun _ _ _ h => by cases h
 | 93 => fun _ _ _ h => by cases h
 | 94 => fun _ _ _ h => by cases h
 | 95 => fun _ _ _ h => by cases h
 | 96 => fun _ _ _ h => by cases h
 | 97 => fun _ _ _ h => by cases h
 | 98 => fun _ _ _ h => by cases h
 | 99 => fun _ _ _ h => by cases h
 | 100 => fun _ _ _ h => by cases h
 | 101 => fun _ _ _ h => by cases h
 | 102 => fun _ _ _ h => by cases h
 | 103 => fun _ _ _ h => by cases h
 | 104 => fun _ _ _ h => by cases h
 | 105 => fun _ _ _ h => by cases h
 | 106 => fun _ _ _ h => by cases h
 | 107 => fun _ _ _ h => by cases h
 | 108 => fun _ _ _ h => by cases h
 | 109 => fun _ _ _ h => by cases h
 | 110 => fun _ _ _ h => by cases h
 | 111 => fun _ _ _ h => by cases h
 | 112 => fun _ _ _ h => by cases h
 | 113 => fun _ _ _ h => by cases h
 | 114 => fun _ _ _ h => by cases h
 | 115 => fun _ _ _ h => by cases h
 | 116 => fun _ _ _ h => by cases h
 | 117 => fun _ _ _ h => by cases h
 | 118 => fun _ _ _ h => by cases h
 | 119 => fun _ _ _ h => by cases h
 | 120 => fun _ _ _ h => by cases h
 | 121 => fun _ _ _ h => by cases h
 | 122 => fun _ _ _ h => by cases h
 | 123 => fun _ _ _ h => by cases h
 | 124 => fun _ _ _ h => by cases h
 | 125 => fun _ _ _ h => by cases h
 | 126 => fun _ _ _ h => by cases h
 | 127 => fun _ _ _ h => by cases h
 | 128 => fun _ _ _ h => by cases h
 | 129 => fun _ _ _ h => by cases h
 | 130 => fun _ _ _ h => by cases h
 | 131 => fun _ _ _ h => by cases h
 | 132 => fun _ _ _ h => by cases h
 | 133 => fun _ _ _ h => by cases h
 | 134 => fun _ _ _ h => by cases h
 | 135 => fun _ _ _ h => by cases h
 | 136 => fun _ _ _ h => by cases h
 | 137 => fun d y _ h => h137 d y h
 | n + 138 => fun _ _ _ h => by cases h
end Go.Proofs.YtelpjfihadaomaaGreatDoor.R
