import Derived.Test.YtlobhcgbmpcdlaaGreatDoorRes
import Derived.KernelRfl
namespace Go.Proofs.YtlobhcgbmpcdlaaGreatDoor.R
open Go Go.Bm Go.Proofs
set_option linter.unusedVariables false
set_option maxRecDepth 100000
theorem fn0 : fnOkB T 0 Tryz.f4 = true := by kernel_rfl
theorem fn1 : fnOkB T 1 Tryz.f9 = true := by kernel_rfl
theorem fn2 : fnOkB T 2 Tryz.f10 = true := by kernel_rfl
theorem fn3 : fnOkB T 3 Tryz.f18 = true := by kernel_rfl
theorem fn4 : fnOkB T 4 Tryz.f36 = true := by kernel_rfl
theorem fn5 : fnOkB T 5 Tryz.f81 = true := by kernel_rfl
theorem fn6 : fnOkB T 6 Tryz.f71 = true := by kernel_rfl
theorem fn7 : fnOkB T 7 Tryz.f111 = true := by kernel_rfl
theorem fn8 : fnOkB T 8 Tryz.f69 = true := by kernel_rfl
theorem fn9 : fnOkB T 9 Tryz.f112 = true := by kernel_rfl
theorem fn10 : fnOkB T 10 Tryz.f70 = true := by kernel_rfl
theorem fn11 : fnOkB T 11 Tryz.f106 = true := by kernel_rfl
theorem fn12 : fnOkB T 12 Tryz.f26 = true := by kernel_rfl
theorem fn13 : fnOkB T 13 Tryz.f113 = true := by kernel_rfl
theorem fn14 : fnOkB T 14 Tryz.f145 = true := by kernel_rfl
theorem fn15 : fnOkB T 15 Tryz.f37 = true := by kernel_rfl
theorem fn16 : fnOkB T 16 Tryz.f43 = true := by kernel_rfl
theorem fn17 : fnOkB T 17 Tryz.f38 = true := by kernel_rfl
theorem fn18 : fnOkB T 18 Tryz.f44 = true := by kernel_rfl
theorem fn19 : fnOkB T 19 Tryz.f88 = true := by kernel_rfl
theorem fn20 : fnOkB T 20 Tryz.f39 = true := by kernel_rfl
theorem fn21 : fnOkB T 21 Tryz.f42 = true := by kernel_rfl
theorem fn22 : fnOkB T 22 Tryz.f37 = true := by kernel_rfl
theorem fn23 : fnOkB T 23 Tryz.f43 = true := by kernel_rfl
theorem fn24 : fnOkB T 24 Tryz.f41 = true := by kernel_rfl
theorem fn25 : fnOkB T 25 Tryz.f87 = true := by kernel_rfl
theorem fn26 : fnOkB T 26 Tryz.f44 = true := by kernel_rfl
theorem fn27 : fnOkB T 27 Tryz.f82 = true := by kernel_rfl
theorem fn28 : fnOkB T 28 Tryz.f40 = true := by kernel_rfl
theorem fn29 : fnOkB T 29 Tryz.f38 = true := by kernel_rfl
theorem fn30 : fnOkB T 30 Tryz.f84 = true := by kernel_rfl
theorem fn31 : fnOkB T 31 Tryz.f83 = true := by kernel_rfl
theorem fn32 : fnOkB T 32 Tryz.f114 = true := by kernel_rfl
theorem fn33 : fnOkB T 33 Tryz.f115 = true := by kernel_rfl
theorem fn34 : fnOkB T 34 Tryz.f116 = true := by kernel_rfl
theorem fn35 : fnOkB T 35 Tryz.f147 = true := by kernel_rfl
theorem fn36 : fnOkB T 36 Tryz.f160 = true := by kernel_rfl
theorem fn37 : fnOkB T 37 Tryz.f165 = true := by kernel_rfl
theorem fn38 : fnOkB T 38 Tryz.f169 = true := by kernel_rfl
theorem fn39 : fnOkB T 39 Tryz.f176 = true := by kernel_rfl
theorem fn40 : fnOkB T 40 Tryz.f184 = true := by kernel_rfl
theorem fn41 : fnOkB T 41 Tryz.f188 = true := by kernel_rfl
theorem fn42 : fnOkB T 42 Tryz.f189 = true := by kernel_rfl
theorem fn43 : fnOkB T 43 Tryz.f190 = true := by kernel_rfl
theorem fn44 : fnOkB T 44 Tryz.f191 = true := by kernel_rfl
theorem fn45 : fnOkB T 45 Tryz.f192 = true := by kernel_rfl
theorem fn46 : fnOkB T 46 Tryz.f193 = true := by kernel_rfl
theorem fn47 : fnOkB T 47 Tryz.f171 = true := by kernel_rfl
theorem fn48 : fnOkB T 48 Tryz.f177 = true := by kernel_rfl
theorem fn49 : fnOkB T 49 Tryz.f136 = true := by kernel_rfl
theorem fn50 : fnOkB T 50 Tryz.f178 = true := by kernel_rfl
theorem fn51 : fnOkB T 51 Tryz.f185 = true := by kernel_rfl
theorem fn52 : fnOkB T 52 Tryz.f159 = true := by kernel_rfl
theorem fn53 : fnOkB T 53 Tryz.f194 = true := by kernel_rfl
theorem fn54 : fnOkB T 54 Tryz.f166 = true := by kernel_rfl
theorem fn55 : fnOkB T 55 Tryz.f170 = true := by kernel_rfl
theorem fn56 : fnOkB T 56 Tryz.f199 = true := by kernel_rfl
theorem fn57 : fnOkB T 57 Tryz.f197 = true := by kernel_rfl
theorem fn58 : fnOkB T 58 Tryz.f195 = true := by kernel_rfl
theorem fn59 : fnOkB T 59 Tryz.f196 = true := by kernel_rfl
theorem fn60 : fnOkB T 60 Tryz.f198 = true := by kernel_rfl
theorem fn61 : fnOkB T 61 Tryz.f167 = true := by kernel_rfl
theorem fn62 : fnOkB T 62 Tryz.f138 = true := by kernel_rfl
theorem fn63 : fnOkB T 63 Tryz.f146 = true := by kernel_rfl
theorem fn64 : fnOkB T 64 Tryz.f85 = true := by kernel_rfl
theorem fn65 : fnOkB T 65 Tryz.f86 = true := by kernel_rfl
theorem fn66 : fnOkB T 66 Tryz.f11 = true := by kernel_rfl
theorem fn67 : fnOkB T 67 Tryz.f13 = true := by kernel_rfl
theorem fn68 : fnOkB T 68 Tryz.f23 = true := by kernel_rfl
theorem fn69 : fnOkB T 69 Tryz.f57 = true := by kernel_rfl
theorem fn70 : fnOkB T 70 Tryz.f59 = true := by kernel_rfl
theorem fn71 : fnOkB T 71 Tryz.f60 = true := by kernel_rfl
theorem fn72 : fnOkB T 72 Tryz.f96 = true := by kernel_rfl
theorem fn73 : fnOkB T 73 Tryz.f125 = true := by kernel_rfl
theorem fn74 : fnOkB T 74 Tryz.f154 = true := by kernel_rfl
theorem fn75 : fnOkB T 75 Tryz.f126 = true := by kernel_rfl
theorem fn76 : fnOkB T 76 Tryz.f24 = true := by kernel_rfl
theorem fn77 : fnOkB T 77 Tryz.f61 = true := by kernel_rfl
theorem fn78 : fnOkB T 78 Tryz.f97 = true := by kernel_rfl
theorem fn79 : fnOkB T 79 Tryz.f62 = true := by kernel_rfl
theorem fn80 : fnOkB T 80 Tryz.f25 = true := by kernel_rfl
theorem fn81 : fnOkB T 81 Tryz.f63 = true := by kernel_rfl
theorem fn82 : fnOkB T 82 Tryz.f98 = true := by kernel_rfl
theorem fn83 : fnOkB T 83 Tryz.f127 = true := by kernel_rfl
theorem fn84 : fnOkB T 84 Tryz.f99 = true := by kernel_rfl
theorem fn85 : fnOkB T 85 Tryz.f64 = true := by kernel_rfl
theorem fn86 : fnOkB T 86 Tryz.f65 = true := by kernel_rfl
theorem fn87 : fnOkB T 87 Tryz.f100 = true := by kernel_rfl
theorem fn88 : fnOkB T 88 Tryz.f128 = true := by kernel_rfl
theorem fn89 : fnOkB T 89 Tryz.f101 = true := by kernel_rfl
theorem fn90 : fnOkB T 90 Tryz.f66 = true := by kernel_rfl
theorem fn91 : fnOkB T 91 Tryz.f102 = true := by kernel_rfl
theorem fn92 : fnOkB T 92 Tryz.f108 = true := by kernel_rfl
theorem fn93 : fnOkB T 93 Tryz.f139 = true := by kernel_rfl
theorem fn94 : fnOkB T 94 Tryz.f140 = true := by kernel_rfl
theorem fn95 : fnOkB T 95 Tryz.f143 = true := by kernel_rfl
theorem fn96 : fnOkB T 96 Tryz.f141 = true := by kernel_rfl
theorem fn97 : fnOkB T 97 Tryz.f157 = true := by kernel_rfl
theorem fn98 : fnOkB T 98 Tryz.f142 = true := by kernel_rfl
theorem fn99 : fnOkB T 99 Tryz.f158 = true := by kernel_rfl
theorem fn100 : fnOkB T 100 Tryz.f130 = true := by kernel_rfl
theorem fn101 : fnOkB T 101 Tryz.f155 = true := by kernel_rfl
theorem fn102 : fnOkB T 102 Tryz.f129 = true := by kernel_rfl
theorem fn103 : fnOkB T 103 Tryz.f67 = true := by kernel_rfl
theorem fn104 : fnOkB T 104 Tryz.f103 = true := by kernel_rfl
theorem fn105 : fnOkB T 105 Tryz.f131 = true := by kernel_rfl
theorem fn106 : fnOkB T 106 Tryz.f104 = true := by kernel_rfl
theorem fn107 : fnOkB T 107 Tryz.f68 = true := by kernel_rfl
theorem fn108 : fnOkB T 108 Tryz.f105 = true := by kernel_rfl
theorem fn109 : fnOkB T 109 Tryz.f132 = true := by kernel_rfl
theorem fn110 : fnOkB T 110 Tryz.f156 = true := by kernel_rfl
theorem fn111 : fnOkB T 111 Tryz.f133 = true := by kernel_rfl
theorem fn112 : fnOkB T 112 Tryz.f19 = true := by kernel_rfl
theorem fn113 : fnOkB T 113 Tryz.f20 = true := by kernel_rfl
theorem fn114 : fnOkB T 114 Tryz.f45 = true := by kernel_rfl
theorem fn115 : fnOkB T 115 Tryz.f47 = true := by kernel_rfl
theorem fn116 : fnOkB T 116 Tryz.f48 = true := by kernel_rfl
theorem fn117 : fnOkB T 117 Tryz.f46 = true := by kernel_rfl
theorem fn118 : fnOkB T 118 Tryz.f49 = true := by kernel_rfl
theorem fn119 : fnOkB T 119 Tryz.f90 = true := by kernel_rfl
theorem fn120 : fnOkB T 120 Tryz.f117 = true := by kernel_rfl
theorem fn121 : fnOkB T 121 Tryz.f148 = true := by kernel_rfl
theorem fn122 : fnOkB T 122 Tryz.f161 = true := by kernel_rfl
theorem fn123 : fnOkB T 123 Tryz.f150 = true := by kernel_rfl
theorem fn124 : fnOkB T 124 Tryz.f149 = true := by kernel_rfl
theorem fn125 : fnOkB T 125 Tryz.f151 = true := by kernel_rfl
theorem fn126 : fnOkB T 126 Tryz.f163 = true := by kernel_rfl
theorem fn127 : fnOkB T 127 Tryz.f152 = true := by kernel_rfl
theorem fn128 : fnOkB T 128 Tryz.f153 = true := by kernel_rfl
theorem fn129 : fnOkB T 129 Tryz.f164 = true := by kernel_rfl
theorem fn130 : fnOkB T 130 Tryz.f21 = true := by kernel_rfl
theorem fn131 : fnOkB T 131 Tryz.f89 = true := by kernel_rfl
theorem fn132 : fnOkB T 132 Tryz.f16 = true := by kernel_rfl
theorem fn133 : fnOkB T 133 Tryz.f29 = true := by kernel_rfl
theorem fn134 : fnOkB T 134 Tryz.f30 = true := by kernel_rfl
theorem fn135 : fnOkB T 135 Tryz.f31 = true := by kernel_rfl
theorem fn136 : fnOkB T 136 Tryz.f32 = true := by kernel_rfl
theorem fn137 : fnOkB T 137 Tryz.f33 = true := by kernel_rfl
theorem fn138 : fnOkB T 138 Tryz.f79 = true := by kernel_rfl
theorem fn139 : fnOkB T 139 Tryz.f109 = true := by kernel_rfl
theorem fn140 : fnOkB T 140 Tryz.f34 = true := by kernel_rfl
theorem fn141 : fnOkB T 141 Tryz.f17 = true := by kernel_rfl
theorem fn142 : fnOkB T 142 Tryz.f35 = true := by kernel_rfl
theorem fn143 : fnOkB T 143 Tryz.f80 = true := by kernel_rfl
theorem fn144 : fnOkB T 144 Tryz.f110 = true := by kernel_rfl
theorem fn145 : fnOkB T 145 Tryz.f107 = true := by kernel_rfl
theorem fn146 : fnOkB T 146 Tryz.f134 = true := by kernel_rfl
theorem fn147 : fnOkB T 147 Tryz.f135 = true := by kernel_rfl
theorem fn148 : fnOkB T 148 Tryz.f137 = true := by kernel_rfl
theorem fn149 : fnOkB T 149 Tryz.f144 = true := by kernel_rfl
theorem fn150 : fnOkB T 150 Tryz.f15 = true := by kernel_rfl
theorem fn151 : fnOkB T 151 Tryz.f28 = true := by kernel_rfl
theorem fn152 : fnOkB T 152 Tryz.f76 = true := by kernel_rfl
theorem fn153 : fnOkB T 153 Tryz.f77 = true := by kernel_rfl
theorem fn154 : fnOkB T 154 Tryz.f78 = true := by kernel_rfl
theorem fn155 : fnOkB T 155 Tryz.f5 = true := by kernel_rfl
theorem fn156 : fnOkB T 156 Tryz.f6 = true := by kernel_rfl
theorem fn157 : fnOkB T 157 Tryz.f7 = true := by kernel_rfl
theorem fn158 : fnOkB T 158 Tryz.f8 = true := by kernel_rfl
theorem blk0 : blkOkB T 0 = true := by kernel_rfl
theorem blk1 : blkOkB T 1 = true := by kernel_rfl
theorem blk2 : blkOkB T 2 = true := by kernel_rfl
theorem blk3 : blkOkB T 3 = true := by kernel_rfl
theorem blk4 : blkOkB T 4 = true := by kernel_rfl
theorem blk5 : blkOkB T 5 = true := by kernel_rfl
theorem blk6 : blkOkB T 6 = true := by kernel_rfl
theorem blk7 : blkOkB T 7 = true := by kernel_rfl
theorem blk8 : blkOkB T 8 = true := by kernel_rfl
theorem blk9 : blkOkB T 9 = true := by kernel_rfl
theorem blk10 : blkOkB T 10 = true := by kernel_rfl
theorem blk11 : blkOkB T 11 = true := by kernel_rfl
theorem blk12 : blkOkB T 12 = true := by kernel_rfl
theorem blk13 : blkOkB T 13 = true := by kernel_rfl
theorem blk14 : blkOkB T 14 = true := by kernel_rfl
theorem blk15 : blkOkB T 15 = true := by kernel_rfl
theorem blk16 : blkOkB T 16 = true := by kernel_rfl
theorem blk17 : blkOkB T 17 = true := by kernel_rfl
theorem blk18 : blkOkB T 18 = true := by kernel_rfl
theorem blk19 : blkOkB T 19 = true := by kernel_rfl
theorem blk20 : blkOkB T 20 = true := by kernel_rfl
theorem blk21 : blkOkB T 21 = true := by kernel_rfl
theorem blk22 : blkOkB T 22 = true := by kernel_rfl
theorem blk23 : blkOkB T 23 = true := by kernel_rfl
theorem blk24 : blkOkB T 24 = true := by kernel_rfl
theorem blk25 : blkOkB T 25 = true := by kernel_rfl
theorem blk26 : blkOkB T 26 = true := by kernel_rfl
theorem blk27 : blkOkB T 27 = true := by kernel_rfl
theorem blk28 : blkOkB T 28 = true := by kernel_rfl
theorem blk29 : blkOkB T 29 = true := by kernel_rfl
theorem blk30 : blkOkB T 30 = true := by kernel_rfl
theorem blk31 : blkOkB T 31 = true := by kernel_rfl
theorem blk32 : blkOkB T 32 = true := by kernel_rfl
theorem blk33 : blkOkB T 33 = true := by kernel_rfl
theorem blk34 : blkOkB T 34 = true := by kernel_rfl
theorem blk35 : blkOkB T 35 = true := by kernel_rfl
theorem blk36 : blkOkB T 36 = true := by kernel_rfl
theorem blk37 : blkOkB T 37 = true := by kernel_rfl
theorem blk38 : blkOkB T 38 = true := by kernel_rfl
theorem blk39 : blkOkB T 39 = true := by kernel_rfl
theorem blk40 : blkOkB T 40 = true := by kernel_rfl
theorem blk41 : blkOkB T 41 = true := by kernel_rfl
theorem blk42 : blkOkB T 42 = true := by kernel_rfl
theorem blk43 : blkOkB T 43 = true := by kernel_rfl
theorem blk44 : blkOkB T 44 = true := by kernel_rfl
theorem blk45 : blkOkB T 45 = true := by kernel_rfl
theorem blk46 : blkOkB T 46 = true := by kernel_rfl
theorem blk47 : blkOkB T 47 = true := by kernel_rfl
theorem blk48 : blkOkB T 48 = true := by kernel_rfl
theorem blk49 : blkOkB T 49 = true := by kernel_rfl
theorem blk50 : blkOkB T 50 = true := by kernel_rfl
theorem blk51 : blkOkB T 51 = true := by kernel_rfl
theorem blk52 : blkOkB T 52 = true := by kernel_rfl
theorem blk53 : blkOkB T 53 = true := by kernel_rfl
theorem blk54 : blkOkB T 54 = true := by kernel_rfl
theorem blk55 : blkOkB T 55 = true := by kernel_rfl
theorem blk56 : blkOkB T 56 = true := by kernel_rfl
theorem blk57 : blkOkB T 57 = true := by kernel_rfl
theorem blk58 : blkOkB T 58 = true := by kernel_rfl
theorem blk59 : blkOkB T 59 = true := by kernel_rfl
theorem blk60 : blkOkB T 60 = true := by kernel_rfl
theorem blk61 : blkOkB T 61 = true := by kernel_rfl
theorem blk62 : blkOkB T 62 = true := by kernel_rfl
theorem blk63 : blkOkB T 63 = true := by kernel_rfl
theorem blk64 : blkOkB T 64 = true := by kernel_rfl
theorem blk65 : blkOkB T 65 = true := by kernel_rfl
theorem blk66 : blkOkB T 66 = true := by kernel_rfl
theorem blk67 : blkOkB T 67 = true := by kernel_rfl
theorem blk68 : blkOkB T 68 = true := by kernel_rfl
theorem blk69 : blkOkB T 69 = true := by kernel_rfl
theorem blk70 : blkOkB T 70 = true := by kernel_rfl
theorem blk71 : blkOkB T 71 = true := by kernel_rfl
theorem blk72 : blkOkB T 72 = true := by kernel_rfl
theorem blk73 : blkOkB T 73 = true := by kernel_rfl
theorem blk74 : blkOkB T 74 = true := by kernel_rfl
theorem blk75 : blkOkB T 75 = true := by kernel_rfl
theorem blk76 : blkOkB T 76 = true := by kernel_rfl
theorem blk77 : blkOkB T 77 = true := by kernel_rfl
theorem blk78 : blkOkB T 78 = true := by kernel_rfl
theorem blk79 : blkOkB T 79 = true := by kernel_rfl
theorem blk80 : blkOkB T 80 = true := by kernel_rfl
theorem blk81 : blkOkB T 81 = true := by kernel_rfl
theorem blk82 : blkOkB T 82 = true := by kernel_rfl
theorem blk83 : blkOkB T 83 = true := by kernel_rfl
theorem blk84 : blkOkB T 84 = true := by kernel_rfl
theorem blk85 : blkOkB T 85 = true := by kernel_rfl
theorem blk86 : blkOkB T 86 = true := by kernel_rfl
theorem blk87 : blkOkB T 87 = true := by kernel_rfl
theorem blk88 : blkOkB T 88 = true := by kernel_rfl
theorem blk89 : blkOkB T 89 = true := by kernel_rfl
theorem blk90 : blkOkB T 90 = true := by kernel_rfl
theorem blk91 : blkOkB T 91 = true := by kernel_rfl
theorem blk92 : blkOkB T 92 = true := by kernel_rfl
theorem blk93 : blkOkB T 93 = true := by kernel_rfl
theorem blk94 : blkOkB T 94 = true := by kernel_rfl
theorem blk95 : blkOkB T 95 = true := by kernel_rfl
theorem blk96 : blkOkB T 96 = true := by kernel_rfl
theorem blk97 : blkOkB T 97 = true := by kernel_rfl
theorem blk98 : blkOkB T 98 = true := by kernel_rfl
theorem blk99 : blkOkB T 99 = true := by kernel_rfl
theorem blk100 : blkOkB T 100 = true := by kernel_rfl
theorem blk101 : blkOkB T 101 = true := by kernel_rfl
theorem blk102 : blkOkB T 102 = true := by kernel_rfl
theorem blk103 : blkOkB T 103 = true := by kernel_rfl
theorem blk104 : blkOkB T 104 = true := by kernel_rfl
theorem blk105 : blkOkB T 105 = true := by kernel_rfl
theorem blk106 : blkOkB T 106 = true := by kernel_rfl
theorem blk107 : blkOkB T 107 = true := by kernel_rfl
theorem blk108 : blkOkB T 108 = true := by kernel_rfl
theorem blk109 : blkOkB T 109 = true := by kernel_rfl
theorem blk110 : blkOkB T 110 = true := by kernel_rfl
theorem blk111 : blkOkB T 111 = true := by kernel_rfl
theorem blk112 : blkOkB T 112 = true := by kernel_rfl
theorem blk113 : blkOkB T 113 = true := by kernel_rfl
theorem blk114 : blkOkB T 114 = true := by kernel_rfl
theorem blk115 : blkOkB T 115 = true := by kernel_rfl
theorem blk116 : blkOkB T 116 = true := by kernel_rfl
theorem blk117 : blkOkB T 117 = true := by kernel_rfl
theorem blk118 : blkOkB T 118 = true := by kernel_rfl
theorem blk119 : blkOkB T 119 = true := by kernel_rfl
theorem blk120 : blkOkB T 120 = true := by kernel_rfl
theorem blk121 : blkOkB T 121 = true := by kernel_rfl
theorem blk122 : blkOkB T 122 = true := by kernel_rfl
theorem blk123 : blkOkB T 123 = true := by kernel_rfl
theorem blk124 : blkOkB T 124 = true := by kernel_rfl
theorem blk125 : blkOkB T 125 = true := by kernel_rfl
theorem blk126 : blkOkB T 126 = true := by kernel_rfl
theorem blk127 : blkOkB T 127 = true := by kernel_rfl
theorem blk128 : blkOkB T 128 = true := by kernel_rfl
theorem blk129 : blkOkB T 129 = true := by kernel_rfl
theorem blk130 : blkOkB T 130 = true := by kernel_rfl
theorem blk131 : blkOkB T 131 = true := by kernel_rfl
theorem blk132 : blkOkB T 132 = true := by kernel_rfl
theorem blk133 : blkOkB T 133 = true := by kernel_rfl
theorem blk134 : blkOkB T 134 = true := by kernel_rfl
theorem blk135 : blkOkB T 135 = true := by kernel_rfl
theorem blk136 : blkOkB T 136 = true := by kernel_rfl
theorem blk137 : blkOkB T 137 = true := by kernel_rfl
theorem blk138 : blkOkB T 138 = true := by kernel_rfl
theorem blk139 : blkOkB T 139 = true := by kernel_rfl
theorem blk140 : blkOkB T 140 = true := by kernel_rfl
theorem blk141 : blkOkB T 141 = true := by kernel_rfl
theorem blk142 : blkOkB T 142 = true := by kernel_rfl
theorem blk143 : blkOkB T 143 = true := by kernel_rfl
theorem blk144 : blkOkB T 144 = true := by kernel_rfl
theorem blk145 : blkOkB T 145 = true := by kernel_rfl
theorem blk146 : blkOkB T 146 = true := by kernel_rfl
theorem blk147 : blkOkB T 147 = true := by kernel_rfl
theorem blk148 : blkOkB T 148 = true := by kernel_rfl
theorem blk149 : blkOkB T 149 = true := by kernel_rfl
theorem blk150 : blkOkB T 150 = true := by kernel_rfl
theorem blk151 : blkOkB T 151 = true := by kernel_rfl
theorem blk152 : blkOkB T 152 = true := by kernel_rfl
theorem blk153 : blkOkB T 153 = true := by kernel_rfl
theorem blk154 : blkOkB T 154 = true := by kernel_rfl
theorem blk155 : blkOkB T 155 = true := by kernel_rfl
theorem blk156 : blkOkB T 156 = true := by kernel_rfl
theorem blk157 : blkOkB T 157 = true := by kernel_rfl
theorem blk158 : blkOkB T 158 = true := by kernel_rfl
theorem blk159 : blkOkB T 159 = true := by kernel_rfl
theorem blk160 : blkOkB T 160 = true := by kernel_rfl
theorem blk161 : blkOkB T 161 = true := by kernel_rfl
theorem blk162 : blkOkB T 162 = true := by kernel_rfl
theorem blk163 : blkOkB T 163 = true := by kernel_rfl
theorem blk164 : blkOkB T 164 = true := by kernel_rfl
theorem blk165 : blkOkB T 165 = true := by kernel_rfl
theorem blk166 : blkOkB T 166 = true := by kernel_rfl
theorem blk167 : blkOkB T 167 = true := by kernel_rfl
theorem blk168 : blkOkB T 168 = true := by kernel_rfl
theorem blk169 : blkOkB T 169 = true := by kernel_rfl
theorem blk170 : blkOkB T 170 = true := by kernel_rfl
theorem blk171 : blkOkB T 171 = true := by kernel_rfl
theorem blk172 : blkOkB T 172 = true := by kernel_rfl
theorem blk173 : blkOkB T 173 = true := by kernel_rfl
theorem blk174 : blkOkB T 174 = true := by kernel_rfl
theorem blk175 : blkOkB T 175 = true := by kernel_rfl
theorem blk176 : blkOkB T 176 = true := by kernel_rfl
theorem blk177 : blkOkB T 177 = true := by kernel_rfl
theorem blk178 : blkOkB T 178 = true := by kernel_rfl
theorem blk179 : blkOkB T 179 = true := by kernel_rfl
theorem blk180 : blkOkB T 180 = true := by kernel_rfl
theorem blk181 : blkOkB T 181 = true := by kernel_rfl
theorem blk182 : blkOkB T 182 = true := by kernel_rfl
theorem blk183 : blkOkB T 183 = true := by kernel_rfl
theorem blk184 : blkOkB T 184 = true := by kernel_rfl
theorem blk185 : blkOkB T 185 = true := by kernel_rfl
theorem blk186 : blkOkB T 186 = true := by kernel_rfl
theorem blk187 : blkOkB T 187 = true := by kernel_rfl
theorem blk188 : blkOkB T 188 = true := by kernel_rfl
theorem blk189 : blkOkB T 189 = true := by kernel_rfl
theorem blk190 : blkOkB T 190 = true := by kernel_rfl
theorem blk191 : blkOkB T 191 = true := by kernel_rfl
theorem blk192 : blkOkB T 192 = true := by kernel_rfl
theorem blk193 : blkOkB T 193 = true := by kernel_rfl
theorem blk194 : blkOkB T 194 = true := by kernel_rfl
theorem blk195 : blkOkB T 195 = true := by kernel_rfl
theorem blk196 : blkOkB T 196 = true := by kernel_rfl
theorem blk197 : blkOkB T 197 = true := by kernel_rfl
theorem blk198 : blkOkB T 198 = true := by kernel_rfl
theorem blk199 : blkOkB T 199 = true := by kernel_rfl
theorem blk200 : blkOkB T 200 = true := by kernel_rfl
theorem blk201 : blkOkB T 201 = true := by kernel_rfl
theorem blk202 : blkOkB T 202 = true := by kernel_rfl
theorem blk203 : blkOkB T 203 = true := by kernel_rfl
theorem blk204 : blkOkB T 204 = true := by kernel_rfl
theorem blk205 : blkOkB T 205 = true := by kernel_rfl
theorem blk206 : blkOkB T 206 = true := by kernel_rfl
theorem blk207 : blkOkB T 207 = true := by kernel_rfl
theorem blk208 : blkOkB T 208 = true := by kernel_rfl
theorem blk209 : blkOkB T 209 = true := by kernel_rfl
theorem blks : (List.range tabs.placeL.length).all (blkOkB T) = true := by
 rw [place_len]
 simp [List.range, List.range.loop, blk0, blk1, blk2, blk3, blk4, blk5, blk6, blk7, blk8, blk9, blk10, blk11, blk12, blk13, blk14, blk15, blk16, blk17, blk18, blk19, blk20, blk21, blk22, blk23, blk24, blk25, blk26, blk27, blk28, blk29, blk30, blk31, blk32, blk33, blk34, blk35, blk36, blk37, blk38, blk39, blk40, blk41, blk42, blk43, blk44, blk45, blk46, blk47, blk48, blk49, blk50, blk51, blk52, blk53, blk54, blk55, blk56, blk57, blk58, blk59, blk60, blk61, blk62, blk63, blk64, blk65, blk66, blk67, blk68, blk69, blk70, blk71, blk72, blk73, blk74, blk75, blk76, blk77, blk78, blk79, blk80, blk81, blk82, blk83, blk84, blk85, blk86, blk87, blk88, blk89, blk90, blk91, blk92, blk93, blk94, blk95, blk96, blk97, blk98, blk99, blk100, blk101, blk102, blk103, blk104, blk105, blk106, blk107, blk108, blk109, blk110, blk111, blk112, blk113, blk114, blk115, blk116, blk117, blk118, blk119, blk120, blk121, blk122, blk123, blk124, blk125, blk126, blk127, blk128, blk129, blk130, blk131, blk132, blk133, blk134, blk135, blk136, blk137, blk138, blk139, blk140, blk141, blk142, blk143, blk144, blk145, blk146, blk147, blk148, blk149, blk150, blk151, blk152, blk153, blk154, blk155, blk156, blk157, blk158, blk159, blk160, blk161, blk162, blk163, blk164, blk165, blk166, blk167, blk168, blk169, blk170, blk171, blk172, blk173, blk174, blk175, blk176, blk177, blk178, blk179, blk180, blk181, blk182, blk183, blk184, blk185, blk186, blk187, blk188, blk189, blk190, blk191, blk192, blk193, blk194, blk195, blk196, blk197, blk198, blk199, blk200, blk201, blk202, blk203, blk204, blk205, blk206, blk207, blk208, blk209]
theorem fns : FnsOk Tryz.prog T 0 tabs.fnL :=
 ⟨fn_ok Tryz.func4 fn0, ⟨fn_ok Tryz.func9 fn1, ⟨fn_ok Tryz.func10 fn2, ⟨fn_ok Tryz.func18 fn3, ⟨fn_ok Tryz.func36 fn4, ⟨fn_ok Tryz.func81 fn5, ⟨fn_ok Tryz.func71 fn6, ⟨fn_ok Tryz.func111 fn7, ⟨fn_ok Tryz.func69 fn8, ⟨fn_ok Tryz.func112 fn9, ⟨fn_ok Tryz.func70 fn10, ⟨fn_ok Tryz.func106 fn11, ⟨fn_ok Tryz.func26 fn12, ⟨fn_ok Tryz.func113 fn13, ⟨fn_ok Tryz.func145 fn14, ⟨fn_ok Tryz.func37 fn15, ⟨fn_ok Tryz.func43 fn16, ⟨fn_ok Tryz.func38 fn17, ⟨fn_ok Tryz.func44 fn18, ⟨fn_ok Tryz.func88 fn19, ⟨fn_ok Tryz.func39 fn20, ⟨fn_ok Tryz.func42 fn21, ⟨fn_ok Tryz.func37 fn22, ⟨fn_ok Tryz.func43 fn23, ⟨fn_ok Tryz.func41 fn24, ⟨fn_ok Tryz.func87 fn25, ⟨fn_ok Tryz.func44 fn26, ⟨fn_ok Tryz.func82 fn27, ⟨fn_ok Tryz.func40 fn28, ⟨fn_ok Tryz.func38 fn29, ⟨fn_ok Tryz.func84 fn30, ⟨fn_ok Tryz.func83 fn31, ⟨fn_ok Tryz.func114 fn32, ⟨fn_ok Tryz.func115 fn33, ⟨fn_ok Tryz.func116 fn34, ⟨fn_ok Tryz.func147 fn35, ⟨fn_ok Tryz.func160 fn36, ⟨fn_ok Tryz.func165 fn37, ⟨fn_ok Tryz.func169 fn38, ⟨fn_ok Tryz.func176 fn39, ⟨fn_ok Tryz.func184 fn40, ⟨fn_ok Tryz.func188 fn41, ⟨fn_ok Tryz.func189 fn42, ⟨fn_ok Tryz.func190 fn43, ⟨fn_ok Tryz.func191 fn44, ⟨fn_ok Tryz.func192 fn45, ⟨fn_ok Tryz.func193 fn46, ⟨fn_ok Tryz.func171 fn47, ⟨fn_ok Tryz.func177 fn48, ⟨fn_ok Tryz.func136 fn49, ⟨fn_ok Tryz.func178 fn50, ⟨fn_ok Tryz.func185 fn51, ⟨fn_ok Tryz.func159 fn52, ⟨fn_ok Tryz.func194 fn53, ⟨fn_ok Tryz.func166 fn54, ⟨fn_ok Tryz.func170 fn55, ⟨fn_ok Tryz.func199 fn56, ⟨fn_ok Tryz.func197 fn57, ⟨fn_ok Tryz.func195 fn58, ⟨fn_ok Tryz.func196 fn59, ⟨fn_ok Tryz.func198 fn60, ⟨fn_ok Tryz.func167 fn61, ⟨fn_ok Tryz.func138 fn62, ⟨fn_ok Tryz.func146 fn63, ⟨fn_ok Tryz.func85 fn64, ⟨fn_ok Tryz.func86 fn65, ⟨fn_ok Tryz.func11 fn66, ⟨fn_ok Tryz.func13 fn67, ⟨fn_ok Tryz.func23 fn68, ⟨fn_ok Tryz.func57 fn69, ⟨fn_ok Tryz.func59 fn70, ⟨fn_ok Tryz.func60 fn71, ⟨fn_ok Tryz.func96 fn72, ⟨fn_ok Tryz.func125 fn73, ⟨fn_ok Tryz.func154 fn74, ⟨fn_ok Tryz.func126 fn75, ⟨fn_ok Tryz.func24 fn76, ⟨fn_ok Tryz.func61 fn77, ⟨fn_ok Tryz.func97 fn78, ⟨fn_ok Tryz.func62 fn79, ⟨fn_ok Tryz.func25 fn80, ⟨fn_ok Tryz.func63 fn81, ⟨fn_ok Tryz.func98 fn82, ⟨fn_ok Tryz.func127 fn83, ⟨fn_ok Tryz.func99 fn84, ⟨fn_ok Tryz.func64 fn85, ⟨fn_ok Tryz.func65 fn86, ⟨fn_ok Tryz.func100 fn87, ⟨fn_ok Tryz.func128 fn88, ⟨fn_ok Tryz.func101 fn89, ⟨fn_ok Tryz.func66 fn90, ⟨fn_ok Tryz.func102 fn91, ⟨fn_ok Tryz.func108 fn92, ⟨fn_ok Tryz.func139 fn93, ⟨fn_ok Tryz.func140 fn94, ⟨fn_ok Tryz.func143 fn95, ⟨fn_ok Tryz.func141 fn96, ⟨fn_ok Tryz.func157 fn97, ⟨fn_ok Tryz.func142 fn98, ⟨fn_ok Tryz.func158 fn99, ⟨fn_ok Tryz.func130 fn100, ⟨fn_ok Tryz.func155 fn101, ⟨fn_ok Tryz.func129 fn102, ⟨fn_ok Tryz.func67 fn103, ⟨fn_ok Tryz.func103 fn104, ⟨fn_ok Tryz.func131 fn105, ⟨fn_ok Tryz.func104 fn106, ⟨fn_ok Tryz.func68 fn107, ⟨fn_ok Tryz.func105 fn108, ⟨fn_ok Tryz.func132 fn109, ⟨fn_ok Tryz.func156 fn110, ⟨fn_ok Tryz.func133 fn111, ⟨fn_ok Tryz.func19 fn112, ⟨fn_ok Tryz.func20 fn113, ⟨fn_ok Tryz.func45 fn114, ⟨fn_ok Tryz.func47 fn115, ⟨fn_ok Tryz.func48 fn116, ⟨fn_ok Tryz.func46 fn117, ⟨fn_ok Tryz.func49 fn118, ⟨fn_ok Tryz.func90 fn119, ⟨fn_ok Tryz.func117 fn120, ⟨fn_ok Tryz.func148 fn121, ⟨fn_ok Tryz.func161 fn122, ⟨fn_ok Tryz.func150 fn123, ⟨fn_ok Tryz.func149 fn124, ⟨fn_ok Tryz.func151 fn125, ⟨fn_ok Tryz.func163 fn126, ⟨fn_ok Tryz.func152 fn127, ⟨fn_ok Tryz.func153 fn128, ⟨fn_ok Tryz.func164 fn129, ⟨fn_ok Tryz.func21 fn130, ⟨fn_ok Tryz.func89 fn131, ⟨fn_ok Tryz.func16 fn132, ⟨fn_ok Tryz.func29 fn133, ⟨fn_ok Tryz.func30 fn134, ⟨fn_ok Tryz.func31 fn135, ⟨fn_ok Tryz.func32 fn136, ⟨fn_ok Tryz.func33 fn137, ⟨fn_ok Tryz.func79 fn138, ⟨fn_ok Tryz.func109 fn139, ⟨fn_ok Tryz.func34 fn140, ⟨fn_ok Tryz.func17 fn141, ⟨fn_ok Tryz.func35 fn142, ⟨fn_ok Tryz.func80 fn143, ⟨fn_ok Tryz.func110 fn144, ⟨fn_ok Tryz.func107 fn145, ⟨fn_ok Tryz.func134 fn146, ⟨fn_ok Tryz.func135 fn147, ⟨fn_ok Tryz.func137 fn148, ⟨fn_ok Tryz.func144 fn149, ⟨fn_ok Tryz.func15 fn150, ⟨fn_ok Tryz.func28 fn151, ⟨fn_ok Tryz.func76 fn152, ⟨fn_ok Tryz.func77 fn153, ⟨fn_ok Tryz.func78 fn154, ⟨fn_ok Tryz.func5 fn155, ⟨fn_ok Tryz.func6 fn156, ⟨fn_ok Tryz.func7 fn157, ⟨fn_ok Tryz.func8 fn158, trivial⟩⟩⟩⟩⟩⟩⟩⟩⟩⟩⟩⟩⟩⟩⟩⟩⟩⟩⟩⟩⟩⟩⟩⟩⟩⟩⟩⟩⟩⟩⟩⟩⟩⟩⟩⟩⟩⟩⟩⟩⟩⟩⟩⟩⟩⟩⟩⟩⟩⟩⟩⟩⟩⟩⟩⟩⟩⟩⟩⟩⟩⟩⟩⟩⟩⟩⟩⟩⟩⟩⟩⟩⟩⟩⟩⟩⟩⟩⟩⟩⟩⟩⟩⟩⟩⟩⟩⟩⟩⟩⟩⟩⟩⟩⟩⟩⟩⟩⟩⟩⟩⟩⟩⟩⟩⟩⟩⟩⟩⟩⟩⟩⟩⟩⟩⟩⟩⟩⟩⟩⟩⟩⟩⟩⟩⟩⟩⟩⟩⟩⟩⟩⟩⟩⟩⟩⟩⟩⟩⟩⟩⟩⟩⟩⟩⟩⟩⟩⟩⟩⟩⟩⟩⟩⟩⟩⟩⟩⟩
theorem ok (hx : ExtOk Tryz.prog T) : T.Ok Tryz.prog :=
 Tabs.ok tabs (by kernel_rfl) (by kernel_rfl) (by kernel_rfl) (by kernel_rfl) fns blks hx (by kernel_rfl) (pkgG_mono _ _ _) (fun _ _ h => h.1)
theorem ext_of (h69 : ExtAt Tryz.prog T 69) (h123 : ExtAt Tryz.prog T 123) (h130 : ExtAt Tryz.prog T 130) : ExtOk Tryz.prog T := fun φ => match φ with
 | 0 => fun _ _ _ h => by cases h
 | 1 => fun _ _ _ h => by cases h
 | 2 => fun _ _ _ h => by cases h
 | 3 => fun _ _ _ h => by cases h
 | 4 => fun _ _ _ h => by cases h
 | 5 => fun _ _ _ h => by cases h
 | 6 => fun _ _ _ h => by cases h
 | 7 => fun _ _ _ h => by cases h
 | 8 => fun _ _ _ h => by cases h
 | 9 => fun _ _ _ h => by cases h
 | 10 => fun _ _ _ h => by cases h
 | 11 => fun _ _ _ h => by cases h
 | 12 => fun _ _ _ h => by cases h
 | 13 => fun _ _ _ h => by cases h
 | 14 => fun _ _ _ h => by cases h
 | 15 => fun _ _ _ h => by cases h
 | 16 => fun _ _ _ h => by cases h
 | 17 => fun _ _ _ h => by cases h
 | 18 => fun _ _ _ h => by cases h
 | 19 => fun _ _ _ h => by cases h
 | 20 => fun _ _ _ h => by cases h
 | 21 => fun _ _ _ h => by cases h
 | 22 => fun _ _ _ h => by cases h
 | 23 => fun _ _ _ h => by cases h
 | 24 => fun _ _ _ h => by cases h
 | 25 => fun _ _ _ h => by cases h
 | 26 => fun _ _ _ h => by cases h
 | 27 => fun _ _ _ h => by cases h
 | 28 => fun _ _ _ h => by cases h
 | 29 => fun _ _ _ h => by cases h
 | 30 => fun _ _ _ h => by cases h
 | 31 => fun _ _ _ h => by cases h
 | 32 => fun _ _ _ h => by cases h
 | 33 => fun _ _ _ h => by cases h
 | 34 => fun _ _ _ h => by cases h
 | 35 => fun _ _ _ h => by cases h
 | 36 => fun _ _ _ h => by cases h
 | 37 => fun _ _ _ h => by cases h
 | 38 => fun _ _ _ h => by cases h
 | 39 => fun _ _ _ h => by cases h
 | 40 => fun _ _ _ h => by cases h
 | 41 => fun _ _ _ h => by cases h
 | 42 => fun _ _ _ h => by cases h
 | 43 => fun _ _ _ h => by cases h
 | 44 => fun _ _ _ h => by cases h
 | 45 => fun _ _ _ h => by cases h
 | 46 => fun _ _ _ h => by cases h
 | 47 => fun _ _ _ h => by cases h
 | 48 => fun _ _ _ h => by cases h
 | 49 => fun _ _ _ h => by cases h
 | 50 => fun _ _ _ h => by cases h
 | 51 => fun _ _ _ h => by cases h
 | 52 => fun _ _ _ h => by cases h
 | 53 => fun _ _ _ h => by cases h
 | 54 => fun _ _ _ h => by cases h
 | 55 => fun _ _ _ h => by cases h
 | 56 => fun _ _ _ h => by cases h
 | 57 => fun _ _ _ h => by cases h
 | 58 => fun _ _ _ h => by cases h
 | 59 => fun _ _ _ h => by cases h
 | 60 => fun _ _ _ h => by cases h
 | 61 => fun _ _ _ h => by cases h
 | 62 => fun _ _ _ h => by cases h
 | 63 => fun _ _ _ h => by cases h
 | 64 => fun _ _ _ h => by cases h
 | 65 => fun _ _ _ h => by cases h
 | 66 => fun _ _ _ h => by cases h
 | 67 => fun _ _ _ h => by cases h
 | 68 => fun _ _ _ h => by cases h
 | 69 => fun d y _ h => h69 d y h
 | 70 => fun _ _ _ h => by cases h
 | 71 => fun _ _ _ h => by cases h
 | 72 => fun _ _ _ h => by cases h
 | 73 => fun _ _ _ h => by cases h
 | 74 => fun _ _ _ h => by cases h
 | 75 => fun _ _ _ h => by cases h
 | 76 => fun _ _ _ h => by cases h
 | 77 => fun _ _ _ h => by cases h
 | 78 => fun _ _ _ h => by cases h
 | 79 => fun _ _ _ h => by cases h
 | 80 => fun _ _ _ h => by cases h
 | 81 => fun _ _ _ h => by cases h
 | 82 => fun _ _ _ h => by cases h
 | 83 => fun _ _ _ h => by cases h
 | 84 => fun _ _ _ h => by cases h
 | 85 => fun _ _ _ h => by cases h
 | 86 => fun _ _ _ h => by cases h
 | 87 => fun _ _ _ h => by cases h
 | 88 => fun _ _ _ h => by cases h
 | 89 => fun _ _ _ h => by cases h
 | 90 => fun _ _ _ h => by cases h
 | 91 => fun _ _ _ h => by cases h
 | 92 => fun _ _ _ h => by cases h
 | 93 => fun _ _ _ h => by cases h
 | 94 => fun _ _ _ h => by cases h
 | 95 => fun _ _ _ h => by cases h
 | 96 => fun _ _ _ h => by cases h
 | 97 => fun _ _ _ h => by cases h
 | 98 => fun _ _ _ h => by cases h
 | 99 => fun _ _ _ h => by cases h
 | 100 => fun _ _ _ h => by cases h
 | 101 => fun _ _ _ h => by cases h
 | 102 => fun _ _ _ h => by cases h
 | 103 => fun _ _ _ h => by cases h
 | 104 => fun _ _ _ h => by cases h
 | 105 => fun _ _ _ h => by cases h
 | 106 => fun _ _ _ h => by cases h
 | 107 => fun _ _ _ h => by cases h
 | 108 => fun _ _ _ h => by cases h
 | 109 => fun _ _ _ h => by cases h
 | 110 => fun _ _ _ h => by cases h
 | 111 => fun _ _ _ h => by cases h
 | 112 => fun _ _ _ h => by cases h
 | 113 => fun _ _ _ h => by cases h
 | 114 => fun _ _ _ h => by cases h
 | 115 => fun _ _ _ h => by cases h
 | 116 => fun _ _ _ h => by cases h
 | 117 => fun _ _ _ h => by cases h
 | 118 => fun _ _ _ h => by cases h
 | 119 => fun _ _ _ h => by cases h
 | 120 => fun _ _ _ h => by cases h
 | 121 => fun _ _ _ h => by cases h
 | 122 => fun _ _ _ h => by cases h
 | 123 => fun d y _ h => h123 d y h
 | 124 => fun _ _ _ h => by cases h
 | 125 => fun _ _ _ h => by cases h
 | 126 => fun _ _ _ h => by cases h
 | 127 => fun _ _ _ h => by cases h
 | 128 => fun _ _ _ h => by cases h
 | 129 => fun _ _ _ h => by cases h
 | 130 => fun d y _ h => h130 d y h
 | n + 131 => fun _ _ _ h => by cases h
end Go.Proofs.YtlobhcgbmpcdlaaGreatDoor.R
