import Derived.Test.YtadonikkibahnaaGreatRes
import Derived.KernelRfl
namespace Go.Proofs.YtadonikkibahnaaGreat.R
open Go Go.Bm Go.Proofs
set_option linter.unusedVariables false
set_option maxRecDepth 100000
theorem fn0 : fnOkB T 0 Tryz.f3 = true := by kernel_rfl
theorem fn1 : fnOkB T 1 Tryz.f8 = true := by kernel_rfl
theorem fn2 : fnOkB T 2 Tryz.f9 = true := by kernel_rfl
theorem fn3 : fnOkB T 3 Tryz.f19 = true := by kernel_rfl
theorem fn4 : fnOkB T 4 Tryz.f43 = true := by kernel_rfl
theorem fn5 : fnOkB T 5 Tryz.f69 = true := by kernel_rfl
theorem fn6 : fnOkB T 6 Tryz.f90 = true := by kernel_rfl
theorem fn7 : fnOkB T 7 Tryz.f91 = true := by kernel_rfl
theorem fn8 : fnOkB T 8 Tryz.f92 = true := by kernel_rfl
theorem fn9 : fnOkB T 9 Tryz.f93 = true := by kernel_rfl
theorem fn10 : fnOkB T 10 Tryz.f112 = true := by kernel_rfl
theorem fn11 : fnOkB T 11 Tryz.f125 = true := by kernel_rfl
theorem fn12 : fnOkB T 12 Tryz.f113 = true := by kernel_rfl
theorem fn13 : fnOkB T 13 Tryz.f94 = true := by kernel_rfl
theorem fn14 : fnOkB T 14 Tryz.f114 = true := by kernel_rfl
theorem fn15 : fnOkB T 15 Tryz.f44 = true := by kernel_rfl
theorem fn16 : fnOkB T 16 Tryz.f70 = true := by kernel_rfl
theorem fn17 : fnOkB T 17 Tryz.f95 = true := by kernel_rfl
theorem fn18 : fnOkB T 18 Tryz.f115 = true := by kernel_rfl
theorem fn19 : fnOkB T 19 Tryz.f126 = true := by kernel_rfl
theorem fn20 : fnOkB T 20 Tryz.f132 = true := by kernel_rfl
theorem fn21 : fnOkB T 21 Tryz.f134 = true := by kernel_rfl
theorem fn22 : fnOkB T 22 Tryz.f135 = true := by kernel_rfl
theorem fn23 : fnOkB T 23 Tryz.f136 = true := by kernel_rfl
theorem fn24 : fnOkB T 24 Tryz.f137 = true := by kernel_rfl
theorem fn25 : fnOkB T 25 Tryz.f138 = true := by kernel_rfl
theorem fn26 : fnOkB T 26 Tryz.f71 = true := by kernel_rfl
theorem fn27 : fnOkB T 27 Tryz.f139 = true := by kernel_rfl
theorem fn28 : fnOkB T 28 Tryz.f117 = true := by kernel_rfl
theorem fn29 : fnOkB T 29 Tryz.f127 = true := by kernel_rfl
theorem fn30 : fnOkB T 30 Tryz.f58 = true := by kernel_rfl
theorem fn31 : fnOkB T 31 Tryz.f128 = true := by kernel_rfl
theorem fn32 : fnOkB T 32 Tryz.f133 = true := by kernel_rfl
theorem fn33 : fnOkB T 33 Tryz.f111 = true := by kernel_rfl
theorem fn34 : fnOkB T 34 Tryz.f140 = true := by kernel_rfl
theorem fn35 : fnOkB T 35 Tryz.f96 = true := by kernel_rfl
theorem fn36 : fnOkB T 36 Tryz.f116 = true := by kernel_rfl
theorem fn37 : fnOkB T 37 Tryz.f145 = true := by kernel_rfl
theorem fn38 : fnOkB T 38 Tryz.f143 = true := by kernel_rfl
theorem fn39 : fnOkB T 39 Tryz.f141 = true := by kernel_rfl
theorem fn40 : fnOkB T 40 Tryz.f142 = true := by kernel_rfl
theorem fn41 : fnOkB T 41 Tryz.f144 = true := by kernel_rfl
theorem fn42 : fnOkB T 42 Tryz.f97 = true := by kernel_rfl
theorem fn43 : fnOkB T 43 Tryz.f72 = true := by kernel_rfl
theorem fn44 : fnOkB T 44 Tryz.f10 = true := by kernel_rfl
theorem fn45 : fnOkB T 45 Tryz.f20 = true := by kernel_rfl
theorem fn46 : fnOkB T 46 Tryz.f45 = true := by kernel_rfl
theorem fn47 : fnOkB T 47 Tryz.f50 = true := by kernel_rfl
theorem fn48 : fnOkB T 48 Tryz.f80 = true := by kernel_rfl
theorem fn49 : fnOkB T 49 Tryz.f26 = true := by kernel_rfl
theorem fn50 : fnOkB T 50 Tryz.f83 = true := by kernel_rfl
theorem fn51 : fnOkB T 51 Tryz.f81 = true := by kernel_rfl
theorem fn52 : fnOkB T 52 Tryz.f104 = true := by kernel_rfl
theorem fn53 : fnOkB T 53 Tryz.f82 = true := by kernel_rfl
theorem fn54 : fnOkB T 54 Tryz.f105 = true := by kernel_rfl
theorem fn55 : fnOkB T 55 Tryz.f73 = true := by kernel_rfl
theorem fn56 : fnOkB T 56 Tryz.f74 = true := by kernel_rfl
theorem fn57 : fnOkB T 57 Tryz.f75 = true := by kernel_rfl
theorem fn58 : fnOkB T 58 Tryz.f99 = true := by kernel_rfl
theorem fn59 : fnOkB T 59 Tryz.f24 = true := by kernel_rfl
theorem fn60 : fnOkB T 60 Tryz.f51 = true := by kernel_rfl
theorem fn61 : fnOkB T 61 Tryz.f118 = true := by kernel_rfl
theorem fn62 : fnOkB T 62 Tryz.f119 = true := by kernel_rfl
theorem fn63 : fnOkB T 63 Tryz.f129 = true := by kernel_rfl
theorem fn64 : fnOkB T 64 Tryz.f100 = true := by kernel_rfl
theorem fn65 : fnOkB T 65 Tryz.f168 = true := by kernel_rfl
theorem fn66 : fnOkB T 66 Tryz.f101 = true := by kernel_rfl
theorem fn67 : fnOkB T 67 Tryz.f120 = true := by kernel_rfl
theorem fn68 : fnOkB T 68 Tryz.f166 = true := by kernel_rfl
theorem fn69 : fnOkB T 69 Tryz.f170 = true := by kernel_rfl
theorem fn70 : fnOkB T 70 Tryz.f102 = true := by kernel_rfl
theorem fn71 : fnOkB T 71 Tryz.f121 = true := by kernel_rfl
theorem fn72 : fnOkB T 72 Tryz.f167 = true := by kernel_rfl
theorem fn73 : fnOkB T 73 Tryz.f21 = true := by kernel_rfl
theorem fn74 : fnOkB T 74 Tryz.f47 = true := by kernel_rfl
theorem fn75 : fnOkB T 75 Tryz.f22 = true := by kernel_rfl
theorem fn76 : fnOkB T 76 Tryz.f23 = true := by kernel_rfl
theorem fn77 : fnOkB T 77 Tryz.f48 = true := by kernel_rfl
theorem fn78 : fnOkB T 78 Tryz.f79 = true := by kernel_rfl
theorem fn79 : fnOkB T 79 Tryz.f49 = true := by kernel_rfl
theorem fn80 : fnOkB T 80 Tryz.f25 = true := by kernel_rfl
theorem fn81 : fnOkB T 81 Tryz.f16 = true := by kernel_rfl
theorem fn82 : fnOkB T 82 Tryz.f15 = true := by kernel_rfl
theorem fn83 : fnOkB T 83 Tryz.f37 = true := by kernel_rfl
theorem fn84 : fnOkB T 84 Tryz.f64 = true := by kernel_rfl
theorem fn85 : fnOkB T 85 Tryz.f34 = true := by kernel_rfl
theorem fn86 : fnOkB T 86 Tryz.f35 = true := by kernel_rfl
theorem fn87 : fnOkB T 87 Tryz.f60 = true := by kernel_rfl
theorem fn88 : fnOkB T 88 Tryz.f61 = true := by kernel_rfl
theorem fn89 : fnOkB T 89 Tryz.f88 = true := by kernel_rfl
theorem fn90 : fnOkB T 90 Tryz.f59 = true := by kernel_rfl
theorem fn91 : fnOkB T 91 Tryz.f38 = true := by kernel_rfl
theorem fn92 : fnOkB T 92 Tryz.f65 = true := by kernel_rfl
theorem fn93 : fnOkB T 93 Tryz.f62 = true := by kernel_rfl
theorem fn94 : fnOkB T 94 Tryz.f63 = true := by kernel_rfl
theorem fn95 : fnOkB T 95 Tryz.f38 = true := by kernel_rfl
theorem fn96 : fnOkB T 96 Tryz.f65 = true := by kernel_rfl
theorem fn97 : fnOkB T 97 Tryz.f36 = true := by kernel_rfl
theorem fn98 : fnOkB T 98 Tryz.f39 = true := by kernel_rfl
theorem fn99 : fnOkB T 99 Tryz.f13 = true := by kernel_rfl
theorem fn100 : fnOkB T 100 Tryz.f12 = true := by kernel_rfl
theorem fn101 : fnOkB T 101 Tryz.f33 = true := by kernel_rfl
theorem fn102 : fnOkB T 102 Tryz.f11 = true := by kernel_rfl
theorem fn103 : fnOkB T 103 Tryz.f27 = true := by kernel_rfl
theorem fn104 : fnOkB T 104 Tryz.f52 = true := by kernel_rfl
theorem fn105 : fnOkB T 105 Tryz.f53 = true := by kernel_rfl
theorem fn106 : fnOkB T 106 Tryz.f84 = true := by kernel_rfl
theorem fn107 : fnOkB T 107 Tryz.f106 = true := by kernel_rfl
theorem fn108 : fnOkB T 108 Tryz.f107 = true := by kernel_rfl
theorem fn109 : fnOkB T 109 Tryz.f108 = true := by kernel_rfl
theorem fn110 : fnOkB T 110 Tryz.f54 = true := by kernel_rfl
theorem fn111 : fnOkB T 111 Tryz.f85 = true := by kernel_rfl
theorem fn112 : fnOkB T 112 Tryz.f31 = true := by kernel_rfl
theorem fn113 : fnOkB T 113 Tryz.f57 = true := by kernel_rfl
theorem fn114 : fnOkB T 114 Tryz.f87 = true := by kernel_rfl
theorem fn115 : fnOkB T 115 Tryz.f109 = true := by kernel_rfl
theorem fn116 : fnOkB T 116 Tryz.f110 = true := by kernel_rfl
theorem fn117 : fnOkB T 117 Tryz.f86 = true := by kernel_rfl
theorem fn118 : fnOkB T 118 Tryz.f110 = true := by kernel_rfl
theorem fn119 : fnOkB T 119 Tryz.f28 = true := by kernel_rfl
theorem fn120 : fnOkB T 120 Tryz.f55 = true := by kernel_rfl
theorem fn121 : fnOkB T 121 Tryz.f29 = true := by kernel_rfl
theorem fn122 : fnOkB T 122 Tryz.f30 = true := by kernel_rfl
theorem fn123 : fnOkB T 123 Tryz.f56 = true := by kernel_rfl
theorem fn124 : fnOkB T 124 Tryz.f32 = true := by kernel_rfl
theorem fn125 : fnOkB T 125 Tryz.f4 = true := by kernel_rfl
theorem fn126 : fnOkB T 126 Tryz.f14 = true := by kernel_rfl
theorem fn127 : fnOkB T 127 Tryz.f16 = true := by kernel_rfl
theorem fn128 : fnOkB T 128 Tryz.f17 = true := by kernel_rfl
theorem fn129 : fnOkB T 129 Tryz.f40 = true := by kernel_rfl
theorem fn130 : fnOkB T 130 Tryz.f18 = true := by kernel_rfl
theorem fn131 : fnOkB T 131 Tryz.f42 = true := by kernel_rfl
theorem fn132 : fnOkB T 132 Tryz.f66 = true := by kernel_rfl
theorem fn133 : fnOkB T 133 Tryz.f89 = true := by kernel_rfl
theorem fn134 : fnOkB T 134 Tryz.f67 = true := by kernel_rfl
theorem fn135 : fnOkB T 135 Tryz.f41 = true := by kernel_rfl
theorem fn136 : fnOkB T 136 Tryz.f68 = true := by kernel_rfl
theorem fn137 : fnOkB T 137 Tryz.f5 = true := by kernel_rfl
theorem fn138 : fnOkB T 138 Tryz.f6 = true := by kernel_rfl
theorem fn139 : fnOkB T 139 Tryz.f7 = true := by kernel_rfl
theorem blk0 : blkOkB T 0 = true := by kernel_rfl
theorem blk1 : blkOkB T 1 = true := by kernel_rfl
theorem blk2 : blkOkB T 2 = true := by kernel_rfl
theorem blk3 : blkOkB T 3 = true := by kernel_rfl
theorem blk4 : blkOkB T 4 = true := by kernel_rfl
theorem blk5 : blkOkB T 5 = true := by kernel_rfl
theorem blk6 : blkOkB T 6 = true := by kernel_rfl
theorem blk7 : blkOkB T 7 = true := by kernel_rfl
theorem blk8 : blkOkB T 8 = true := by kernel_rfl
theorem blk9 : blkOkB T 9 = true := by kernel_rfl
theorem blk10 : blkOkB T 10 = true := by kernel_rfl
theorem blk11 : blkOkB T 11 = true := by kernel_rfl
theorem blk12 : blkOkB T 12 = true := by kernel_rfl
theorem blk13 : blkOkB T 13 = true := by kernel_rfl
theorem blk14 : blkOkB T 14 = true := by kernel_rfl
theorem blk15 : blkOkB T 15 = true := by kernel_rfl
theorem blk16 : blkOkB T 16 = true := by kernel_rfl
theorem blk17 : blkOkB T 17 = true := by kernel_rfl
theorem blk18 : blkOkB T 18 = true := by kernel_rfl
theorem blk19 : blkOkB T 19 = true := by kernel_rfl
theorem blk20 : blkOkB T 20 = true := by kernel_rfl
theorem blk21 : blkOkB T 21 = true := by kernel_rfl
theorem blk22 : blkOkB T 22 = true := by kernel_rfl
theorem blk23 : blkOkB T 23 = true := by kernel_rfl
theorem blk24 : blkOkB T 24 = true := by kernel_rfl
theorem blk25 : blkOkB T 25 = true := by kernel_rfl
theorem blk26 : blkOkB T 26 = true := by kernel_rfl
theorem blk27 : blkOkB T 27 = true := by kernel_rfl
theorem blk28 : blkOkB T 28 = true := by kernel_rfl
theorem blk29 : blkOkB T 29 = true := by kernel_rfl
theorem blk30 : blkOkB T 30 = true := by kernel_rfl
theorem blk31 : blkOkB T 31 = true := by kernel_rfl
theorem blk32 : blkOkB T 32 = true := by kernel_rfl
theorem blk33 : blkOkB T 33 = true := by kernel_rfl
theorem blk34 : blkOkB T 34 = true := by kernel_rfl
theorem blk35 : blkOkB T 35 = true := by kernel_rfl
theorem blk36 : blkOkB T 36 = true := by kernel_rfl
theorem blk37 : blkOkB T 37 = true := by kernel_rfl
theorem blk38 : blkOkB T 38 = true := by kernel_rfl
theorem blk39 : blkOkB T 39 = true := by kernel_rfl
theorem blk40 : blkOkB T 40 = true := by kernel_rfl
theorem blk41 : blkOkB T 41 = true := by kernel_rfl
theorem blk42 : blkOkB T 42 = true := by kernel_rfl
theorem blk43 : blkOkB T 43 = true := by kernel_rfl
theorem blk44 : blkOkB T 44 = true := by kernel_rfl
theorem blk45 : blkOkB T 45 = true := by kernel_rfl
theorem blk46 : blkOkB T 46 = true := by kernel_rfl
theorem blk47 : blkOkB T 47 = true := by kernel_rfl
theorem blk48 : blkOkB T 48 = true := by kernel_rfl
theorem blk49 : blkOkB T 49 = true := by kernel_rfl
theorem blk50 : blkOkB T 50 = true := by kernel_rfl
theorem blk51 : blkOkB T 51 = true := by kernel_rfl
theorem blk52 : blkOkB T 52 = true := by kernel_rfl
theorem blk53 : blkOkB T 53 = true := by kernel_rfl
theorem blk54 : blkOkB T 54 = true := by kernel_rfl
theorem blk55 : blkOkB T 55 = true := by kernel_rfl
theorem blk56 : blkOkB T 56 = true := by kernel_rfl
theorem blk57 : blkOkB T 57 = true := by kernel_rfl
theorem blk58 : blkOkB T 58 = true := by kernel_rfl
theorem blk59 : blkOkB T 59 = true := by kernel_rfl
theorem blk60 : blkOkB T 60 = true := by kernel_rfl
theorem blk61 : blkOkB T 61 = true := by kernel_rfl
theorem blk62 : blkOkB T 62 = true := by kernel_rfl
theorem blk63 : blkOkB T 63 = true := by kernel_rfl
theorem blk64 : blkOkB T 64 = true := by kernel_rfl
theorem blk65 : blkOkB T 65 = true := by kernel_rfl
theorem blk66 : blkOkB T 66 = true := by kernel_rfl
theorem blk67 : blkOkB T 67 = true := by kernel_rfl
theorem blk68 : blkOkB T 68 = true := by kernel_rfl
theorem blk69 : blkOkB T 69 = true := by kernel_rfl
theorem blk70 : blkOkB T 70 = true := by kernel_rfl
theorem blk71 : blkOkB T 71 = true := by kernel_rfl
theorem blk72 : blkOkB T 72 = true := by kernel_rfl
theorem blk73 : blkOkB T 73 = true := by kernel_rfl
theorem blk74 : blkOkB T 74 = true := by kernel_rfl
theorem blk75 : blkOkB T 75 = true := by kernel_rfl
theorem blk76 : blkOkB T 76 = true := by kernel_rfl
theorem blk77 : blkOkB T 77 = true := by kernel_rfl
theorem blk78 : blkOkB T 78 = true := by kernel_rfl
theorem blk79 : blkOkB T 79 = true := by kernel_rfl
theorem blk80 : blkOkB T 80 = true := by kernel_rfl
theorem blk81 : blkOkB T 81 = true := by kernel_rfl
theorem blk82 : blkOkB T 82 = true := by kernel_rfl
theorem blk83 : blkOkB T 83 = true := by kernel_rfl
theorem blk84 : blkOkB T 84 = true := by kernel_rfl
theorem blk85 : blkOkB T 85 = true := by kernel_rfl
theorem blk86 : blkOkB T 86 = true := by kernel_rfl
theorem blk87 : blkOkB T 87 = true := by kernel_rfl
theorem blk88 : blkOkB T 88 = true := by kernel_rfl
theorem blk89 : blkOkB T 89 = true := by kernel_rfl
theorem blk90 : blkOkB T 90 = true := by kernel_rfl
theorem blk91 : blkOkB T 91 = true := by kernel_rfl
theorem blk92 : blkOkB T 92 = true := by kernel_rfl
theorem blk93 : blkOkB T 93 = true := by kernel_rfl
theorem blk94 : blkOkB T 94 = true := by kernel_rfl
theorem blk95 : blkOkB T 95 = true := by kernel_rfl
theorem blk96 : blkOkB T 96 = true := by kernel_rfl
theorem blk97 : blkOkB T 97 = true := by kernel_rfl
theorem blk98 : blkOkB T 98 = true := by kernel_rfl
theorem blk99 : blkOkB T 99 = true := by kernel_rfl
theorem blk100 : blkOkB T 100 = true := by kernel_rfl
theorem blk101 : blkOkB T 101 = true := by kernel_rfl
theorem blk102 : blkOkB T 102 = true := by kernel_rfl
theorem blk103 : blkOkB T 103 = true := by kernel_rfl
theorem blk104 : blkOkB T 104 = true := by kernel_rfl
theorem blk105 : blkOkB T 105 = true := by kernel_rfl
theorem blk106 : blkOkB T 106 = true := by kernel_rfl
theorem blk107 : blkOkB T 107 = true := by kernel_rfl
theorem blk108 : blkOkB T 108 = true := by kernel_rfl
theorem blk109 : blkOkB T 109 = true := by kernel_rfl
theorem blk110 : blkOkB T 110 = true := by kernel_rfl
theorem blk111 : blkOkB T 111 = true := by kernel_rfl
theorem blk112 : blkOkB T 112 = true := by kernel_rfl
theorem blk113 : blkOkB T 113 = true := by kernel_rfl
theorem blk114 : blkOkB T 114 = true := by kernel_rfl
theorem blk115 : blkOkB T 115 = true := by kernel_rfl
theorem blk116 : blkOkB T 116 = true := by kernel_rfl
theorem blk117 : blkOkB T 117 = true := by kernel_rfl
theorem blk118 : blkOkB T 118 = true := by kernel_rfl
theorem blk119 : blkOkB T 119 = true := by kernel_rfl
theorem blk120 : blkOkB T 120 = true := by kernel_rfl
theorem blk121 : blkOkB T 121 = true := by kernel_rfl
theorem blk122 : blkOkB T 122 = true := by kernel_rfl
theorem blk123 : blkOkB T 123 = true := by kernel_rfl
theorem blk124 : blkOkB T 124 = true := by kernel_rfl
theorem blk125 : blkOkB T 125 = true := by kernel_rfl
theorem blk126 : blkOkB T 126 = true := by kernel_rfl
theorem blk127 : blkOkB T 127 = true := by kernel_rfl
theorem blk128 : blkOkB T 128 = true := by kernel_rfl
theorem blk129 : blkOkB T 129 = true := by kernel_rfl
theorem blk130 : blkOkB T 130 = true := by kernel_rfl
theorem blk131 : blkOkB T 131 = true := by kernel_rfl
theorem blk132 : blkOkB T 132 = true := by kernel_rfl
theorem blk133 : blkOkB T 133 = true := by kernel_rfl
theorem blk134 : blkOkB T 134 = true := by kernel_rfl
theorem blk135 : blkOkB T 135 = true := by kernel_rfl
theorem blk136 : blkOkB T 136 = true := by kernel_rfl
theorem blk137 : blkOkB T 137 = true := by kernel_rfl
theorem blk138 : blkOkB T 138 = true := by kernel_rfl
theorem blk139 : blkOkB T 139 = true := by kernel_rfl
theorem blk140 : blkOkB T 140 = true := by kernel_rfl
theorem blk141 : blkOkB T 141 = true := by kernel_rfl
theorem blk142 : blkOkB T 142 = true := by kernel_rfl
theorem blk143 : blkOkB T 143 = true := by kernel_rfl
theorem blk144 : blkOkB T 144 = true := by kernel_rfl
theorem blk145 : blkOkB T 145 = true := by kernel_rfl
theorem blk146 : blkOkB T 146 = true := by kernel_rfl
theorem blk147 : blkOkB T 147 = true := by kernel_rfl
theorem blk148 : blkOkB T 148 = true := by kernel_rfl
theorem blk149 : blkOkB T 149 = true := by kernel_rfl
theorem blk150 : blkOkB T 150 = true := by kernel_rfl
theorem blk151 : blkOkB T 151 = true := by kernel_rfl
theorem blk152 : blkOkB T 152 = true := by kernel_rfl
theorem blk153 : blkOkB T 153 = true := by kernel_rfl
theorem blk154 : blkOkB T 154 = true := by kernel_rfl
theorem blk155 : blkOkB T 155 = true := by kernel_rfl
theorem blk156 : blkOkB T 156 = true := by kernel_rfl
theorem blk157 : blkOkB T 157 = true := by kernel_rfl
theorem blk158 : blkOkB T 158 = true := by kernel_rfl
theorem blk159 : blkOkB T 159 = true := by kernel_rfl
theorem blk160 : blkOkB T 160 = true := by kernel_rfl
theorem blk161 : blkOkB T 161 = true := by kernel_rfl
theorem blk162 : blkOkB T 162 = true := by kernel_rfl
theorem blk163 : blkOkB T 163 = true := by kernel_rfl
theorem blk164 : blkOkB T 164 = true := by kernel_rfl
theorem blk165 : blkOkB T 165 = true := by kernel_rfl
theorem blk166 : blkOkB T 166 = true := by kernel_rfl
theorem blk167 : blkOkB T 167 = true := by kernel_rfl
theorem blk168 : blkOkB T 168 = true := by kernel_rfl
theorem blk169 : blkOkB T 169 = true := by kernel_rfl
theorem blk170 : blkOkB T 170 = true := by kernel_rfl
theorem blk171 : blkOkB T 171 = true := by kernel_rfl
theorem blk172 : blkOkB T 172 = true := by kernel_rfl
theorem blk173 : blkOkB T 173 = true := by kernel_rfl
theorem blk174 : blkOkB T 174 = true := by kernel_rfl
theorem blk175 : blkOkB T 175 = true := by kernel_rfl
theorem blk176 : blkOkB T 176 = true := by kernel_rfl
theorem blk177 : blkOkB T 177 = true := by kernel_rfl
theorem blk178 : blkOkB T 178 = true := by kernel_rfl
theorem blk179 : blkOkB T 179 = true := by kernel_rfl
theorem blk180 : blkOkB T 180 = true := by kernel_rfl
theorem blk181 : blkOkB T 181 = true := by kernel_rfl
theorem blk182 : blkOkB T 182 = true := by kernel_rfl
theorem blk183 : blkOkB T 183 = true := by kernel_rfl
theorem blk184 : blkOkB T 184 = true := by kernel_rfl
theorem blk185 : blkOkB T 185 = true := by kernel_rfl
theorem blk186 : blkOkB T 186 = true := by kernel_rfl
theorem blk187 : blkOkB T 187 = true := by kernel_rfl
theorem blk188 : blkOkB T 188 = true := by kernel_rfl
theorem blk189 : blkOkB T 189 = true := by kernel_rfl
theorem blk190 : blkOkB T 190 = true := by kernel_rfl
theorem blk191 : blkOkB T 191 = true := by kernel_rfl
theorem blk192 : blkOkB T 192 = true := by kernel_rfl
theorem blk193 : blkOkB T 193 = true := by kernel_rfl
theorem blk194 : blkOkB T 194 = true := by kernel_rfl
theorem blk195 : blkOkB T 195 = true := by kernel_rfl
theorem blk196 : blkOkB T 196 = true := by kernel_rfl
theorem blk197 : blkOkB T 197 = true := by kernel_rfl
theorem blk198 : blkOkB T 198 = true := by kernel_rfl
theorem blk199 : blkOkB T 199 = true := by kernel_rfl
theorem blk200 : blkOkB T 200 = true := by kernel_rfl
theorem blk201 : blkOkB T 201 = true := by kernel_rfl
theorem blk202 : blkOkB T 202 = true := by kernel_rfl
theorem blk203 : blkOkB T 203 = true := by kernel_rfl
theorem blk204 : blkOkB T 204 = true := by kernel_rfl
theorem blk205 : blkOkB T 205 = true := by kernel_rfl
theorem blk206 : blkOkB T 206 = true := by kernel_rfl
theorem blk207 : blkOkB T 207 = true := by kernel_rfl
theorem blk208 : blkOkB T 208 = true := by kernel_rfl
theorem blk209 : blkOkB T 209 = true := by kernel_rfl
theorem blk210 : blkOkB T 210 = true := by kernel_rfl
theorem blk211 : blkOkB T 211 = true := by kernel_rfl
theorem blk212 : blkOkB T 212 = true := by kernel_rfl
theorem blk213 : blkOkB T 213 = true := by kernel_rfl
theorem blk214 : blkOkB T 214 = true := by kernel_rfl
theorem blk215 : blkOkB T 215 = true := by kernel_rfl
theorem blk216 : blkOkB T 216 = true := by kernel_rfl
theorem blk217 : blkOkB T 217 = true := by kernel_rfl
theorem blk218 : blkOkB T 218 = true := by kernel_rfl
theorem blk219 : blkOkB T 219 = true := by kernel_rfl
theorem blk220 : blkOkB T 220 = true := by kernel_rfl
theorem blk221 : blkOkB T 221 = true := by kernel_rfl
theorem blk222 : blkOkB T 222 = true := by kernel_rfl
theorem blk223 : blkOkB T 223 = true := by kernel_rfl
theorem blk224 : blkOkB T 224 = true := by kernel_rfl
theorem blk225 : blkOkB T 225 = true := by kernel_rfl
theorem blk226 : blkOkB T 226 = true := by kernel_rfl
theorem blk227 : blkOkB T 227 = true := by kernel_rfl
theorem blk228 : blkOkB T 228 = true := by kernel_rfl
theorem blk229 : blkOkB T 229 = true := by kernel_rfl
theorem blk230 : blkOkB T 230 = true := by kernel_rfl
theorem blk231 : blkOkB T 231 = true := by kernel_rfl
theorem blk232 : blkOkB T 232 = true := by kernel_rfl
theorem blk233 : blkOkB T 233 = true := by kernel_rfl
theorem blk234 : blkOkB T 234 = true := by kernel_rfl
theorem blk235 : blkOkB T 235 = true := by kernel_rfl
theorem blk236 : blkOkB T 236 = true := by kernel_rfl
theorem blk237 : blkOkB T 237 = true := by kernel_rfl
theorem blk238 : blkOkB T 238 = true := by kernel_rfl
theorem blk239 : blkOkB T 239 = true := by kernel_rfl
theorem blk240 : blkOkB T 240 = true := by kernel_rfl
theorem blk241 : blkOkB T 241 = true := by kernel_rfl
theorem blk242 : blkOkB T 242 = true := by kernel_rfl
theorem blk243 : blkOkB T 243 = true := by kernel_rfl
theorem blk244 : blkOkB T 244 = true := by kernel_rfl
theorem blk245 : blkOkB T 245 = true := by kernel_rfl
theorem blk246 : blkOkB T 246 = true := by kernel_rfl
theorem blk247 : blkOkB T 247 = true := by kernel_rfl
theorem blk248 : blkOkB T 248 = true := by kernel_rfl
theorem blk249 : blkOkB T 249 = true := by kernel_rfl
theorem blk250 : blkOkB T 250 = true := by kernel_rfl
theorem blk251 : blkOkB T 251 = true := by kernel_rfl
theorem blk252 : blkOkB T 252 = true := by kernel_rfl
theorem blk253 : blkOkB T 253 = true := by kernel_rfl
theorem blk254 : blkOkB T 254 = true := by kernel_rfl
theorem blk255 : blkOkB T 255 = true := by kernel_rfl
theorem blk256 : blkOkB T 256 = true := by kernel_rfl
theorem blk257 : blkOkB T 257 = true := by kernel_rfl
theorem blk258 : blkOkB T 258 = true := by kernel_rfl
theorem blk259 : blkOkB T 259 = true := by kernel_rfl
theorem blk260 : blkOkB T 260 = true := by kernel_rfl
theorem blk261 : blkOkB T 261 = true := by kernel_rfl
theorem blk262 : blkOkB T 262 = true := by kernel_rfl
theorem blk263 : blkOkB T 263 = true := by kernel_rfl
theorem blk264 : blkOkB T 264 = true := by kernel_rfl
theorem blk265 : blkOkB T 265 = true := by kernel_rfl
theorem blk266 : blkOkB T 266 = true := by kernel_rfl
theorem blk267 : blkOkB T 267 = true := by kernel_rfl
theorem blk268 : blkOkB T 268 = true := by kernel_rfl
theorem blk269 : blkOkB T 269 = true := by kernel_rfl
theorem blk270 : blkOkB T 270 = true := by kernel_rfl
theorem blk271 : blkOkB T 271 = true := by kernel_rfl
theorem blk272 : blkOkB T 272 = true := by kernel_rfl
theorem blk273 : blkOkB T 273 = true := by kernel_rfl
theorem blk274 : blkOkB T 274 = true := by kernel_rfl
theorem blk275 : blkOkB T 275 = true := by kernel_rfl
theorem blk276 : blkOkB T 276 = true := by kernel_rfl
theorem blk277 : blkOkB T 277 = true := by kernel_rfl
theorem blk278 : blkOkB T 278 = true := by kernel_rfl
theorem blk279 : blkOkB T 279 = true := by kernel_rfl
theorem blk280 : blkOkB T 280 = true := by kernel_rfl
theorem blk281 : blkOkB T 281 = true := by kernel_rfl
theorem blk282 : blkOkB T 282 = true := by kernel_rfl
theorem blk283 : blkOkB T 283 = true := by kernel_rfl
theorem blk284 : blkOkB T 284 = true := by kernel_rfl
theorem blk285 : blkOkB T 285 = true := by kernel_rfl
theorem blk286 : blkOkB T 286 = true := by kernel_rfl
theorem blk287 : blkOkB T 287 = true := by kernel_rfl
theorem blk288 : blkOkB T 288 = true := by kernel_rfl
theorem blk289 : blkOkB T 289 = true := by kernel_rfl
theorem blk290 : blkOkB T 290 = true := by kernel_rfl
theorem blk291 : blkOkB T 291 = true := by kernel_rfl
theorem blk292 : blkOkB T 292 = true := by kernel_rfl
theorem blk293 : blkOkB T 293 = true := by kernel_rfl
theorem blk294 : blkOkB T 294 = true := by kernel_rfl
theorem blk295 : blkOkB T 295 = true := by kernel_rfl
theorem blk296 : blkOkB T 296 = true := by kernel_rfl
theorem blk297 : blkOkB T 297 = true := by kernel_rfl
theorem blk298 : blkOkB T 298 = true := by kernel_rfl
theorem blk299 : blkOkB T 299 = true := by kernel_rfl
theorem blk300 : blkOkB T 300 = true := by kernel_rfl
theorem blk301 : blkOkB T 301 = true := by kernel_rfl
theorem blk302 : blkOkB T 302 = true := by kernel_rfl
theorem blk303 : blkOkB T 303 = true := by kernel_rfl
theorem blk304 : blkOkB T 304 = true := by kernel_rfl
theorem blk305 : blkOkB T 305 = true := by kernel_rfl
theorem blk306 : blkOkB T 306 = true := by kernel_rfl
theorem blk307 : blkOkB T 307 = true := by kernel_rfl
theorem blk308 : blkOkB T 308 = true := by kernel_rfl
theorem blk309 : blkOkB T 309 = true := by kernel_rfl
theorem blk310 : blkOkB T 310 = true := by kernel_rfl
theorem blk311 : blkOkB T 311 = true := by kernel_rfl
theorem blk312 : blkOkB T 312 = true := by kernel_rfl
theorem blk313 : blkOkB T 313 = true := by kernel_rfl
theorem blk314 : blkOkB T 314 = true := by kernel_rfl
theorem blk315 : blkOkB T 315 = true := by kernel_rfl
theorem blk316 : blkOkB T 316 = true := by kernel_rfl
theorem blk317 : blkOkB T 317 = true := by kernel_rfl
theorem blk318 : blkOkB T 318 = true := by kernel_rfl
theorem blk319 : blkOkB T 319 = true := by kernel_rfl
theorem blk320 : blkOkB T 320 = true := by kernel_rfl
theorem blk321 : blkOkB T 321 = true := by kernel_rfl
theorem blk322 : blkOkB T 322 = true := by kernel_rfl
theorem blk323 : blkOkB T 323 = true := by kernel_rfl
theorem blk324 : blkOkB T 324 = true := by kernel_rfl
theorem blk325 : blkOkB T 325 = true := by kernel_rfl
theorem blk326 : blkOkB T 326 = true := by kernel_rfl
theorem blk327 : blkOkB T 327 = true := by kernel_rfl
theorem blk328 : blkOkB T 328 = true := by kernel_rfl
theorem blk329 : blkOkB T 329 = true := by kernel_rfl
theorem blk330 : blkOkB T 330 = true := by kernel_rfl
theorem blk331 : blkOkB T 331 = true := by kernel_rfl
theorem blk332 : blkOkB T 332 = true := by kernel_rfl
theorem blk333 : blkOkB T 333 = true := by kernel_rfl
theorem blk334 : blkOkB T 334 = true := by kernel_rfl
theorem blk335 : blkOkB T 335 = true := by kernel_rfl
theorem blk336 : blkOkB T 336 = true := by kernel_rfl
theorem blk337 : blkOkB T 337 = true := by kernel_rfl
theorem blk338 : blkOkB T 338 = true := by kernel_rfl
theorem blk339 : blkOkB T 339 = true := by kernel_rfl
theorem blk340 : blkOkB T 340 = true := by kernel_rfl
theorem blk341 : blkOkB T 341 = true := by kernel_rfl
theorem blk342 : blkOkB T 342 = true := by kernel_rfl
theorem blk343 : blkOkB T 343 = true := by kernel_rfl
theorem blk344 : blkOkB T 344 = true := by kernel_rfl
theorem blk345 : blkOkB T 345 = true := by kernel_rfl
theorem blk346 : blkOkB T 346 = true := by kernel_rfl
theorem blk347 : blkOkB T 347 = true := by kernel_rfl
theorem blk348 : blkOkB T 348 = true := by kernel_rfl
theorem blk349 : blkOkB T 349 = true := by kernel_rfl
theorem blk350 : blkOkB T 350 = true := by kernel_rfl
theorem blk351 : blkOkB T 351 = true := by kernel_rfl
theorem blk352 : blkOkB T 352 = true := by kernel_rfl
theorem blk353 : blkOkB T 353 = true := by kernel_rfl
theorem blk354 : blkOkB T 354 = true := by kernel_rfl
theorem blk355 : blkOkB T 355 = true := by kernel_rfl
theorem blk356 : blkOkB T 356 = true := by kernel_rfl
theorem blk357 : blkOkB T 357 = true := by kernel_rfl
theorem blk358 : blkOkB T 358 = true := by kernel_rfl
theorem blk359 : blkOkB T 359 = true := by kernel_rfl
theorem blk360 : blkOkB T 360 = true := by kernel_rfl
theorem blk361 : blkOkB T 361 = true := by kernel_rfl
theorem blk362 : blkOkB T 362 = true := by kernel_rfl
theorem blk363 : blkOkB T 363 = true := by kernel_rfl
theorem blk364 : blkOkB T 364 = true := by kernel_rfl
theorem blk365 : blkOkB T 365 = true := by kernel_rfl
theorem blk366 : blkOkB T 366 = true := by kernel_rfl
theorem blk367 : blkOkB T 367 = true := by kernel_rfl
theorem blk368 : blkOkB T 368 = true := by kernel_rfl
theorem blk369 : blkOkB T 369 = true := by kernel_rfl
theorem blk370 : blkOkB T 370 = true := by kernel_rfl
theorem blk371 : blkOkB T 371 = true := by kernel_rfl
theorem blk372 : blkOkB T 372 = true := by kernel_rfl
theorem blk373 : blkOkB T 373 = true := by kernel_rfl
theorem blk374 : blkOkB T 374 = true := by kernel_rfl
theorem blk375 : blkOkB T 375 = true := by kernel_rfl
theorem blk376 : blkOkB T 376 = true := by kernel_rfl
theorem blk377 : blkOkB T 377 = true := by kernel_rfl
theorem blk378 : blkOkB T 378 = true := by kernel_rfl
theorem blk379 : blkOkB T 379 = true := by kernel_rfl
theorem blk380 : blkOkB T 380 = true := by kernel_rfl
theorem blk381 : blkOkB T 381 = true := by kernel_rfl
theorem blk382 : blkOkB T 382 = true := by kernel_rfl
theorem blk383 : blkOkB T 383 = true := by kernel_rfl
theorem blk384 : blkOkB T 384 = true := by kernel_rfl
theorem blk385 : blkOkB T 385 = true := by kernel_rfl
theorem blk386 : blkOkB T 386 = true := by kernel_rfl
theorem blk387 : blkOkB T 387 = true := by kernel_rfl
theorem blk388 : blkOkB T 388 = true := by kernel_rfl
theorem blk389 : blkOkB T 389 = true := by kernel_rfl
theorem blk390 : blkOkB T 390 = true := by kernel_rfl
theorem blk391 : blkOkB T 391 = true := by kernel_rfl
theorem blk392 : blkOkB T 392 = true := by kernel_rfl
theorem blk393 : blkOkB T 393 = true := by kernel_rfl
theorem blk394 : blkOkB T 394 = true := by kernel_rfl
theorem blk395 : blkOkB T 395 = true := by kernel_rfl
theorem blk396 : blkOkB T 396 = true := by kernel_rfl
theorem blk397 : blkOkB T 397 = true := by kernel_rfl
theorem blk398 : blkOkB T 398 = true := by kernel_rfl
theorem blk399 : blkOkB T 399 = true := by kernel_rfl
theorem blk400 : blkOkB T 400 = true := by kernel_rfl
theorem blk401 : blkOkB T 401 = true := by kernel_rfl
theorem blk402 : blkOkB T 402 = true := by kernel_rfl
theorem blk403 : blkOkB T 403 = true := by kernel_rfl
theorem blk404 : blkOkB T 404 = true := by kernel_rfl
theorem blk405 : blkOkB T 405 = true := by kernel_rfl
theorem blk406 : blkOkB T 406 = true := by kernel_rfl
theorem blk407 : blkOkB T 407 = true := by kernel_rfl
theorem blk408 : blkOkB T 408 = true := by kernel_rfl
theorem blk409 : blkOkB T 409 = true := by kernel_rfl
theorem blk410 : blkOkB T 410 = true := by kernel_rfl
theorem blk411 : blkOkB T 411 = true := by kernel_rfl
theorem blk412 : blkOkB T 412 = true := by kernel_rfl
theorem blk413 : blkOkB T 413 = true := by kernel_rfl
theorem blk414 : blkOkB T 414 = true := by kernel_rfl
theorem blk415 : blkOkB T 415 = true := by kernel_rfl
theorem blk416 : blkOkB T 416 = true := by kernel_rfl
theorem blk417 : blkOkB T 417 = true := by kernel_rfl
theorem blk418 : blkOkB T 418 = true := by kernel_rfl
theorem blk419 : blkOkB T 419 = true := by kernel_rfl
theorem blk420 : blkOkB T 420 = true := by kernel_rfl
theorem blk421 : blkOkB T 421 = true := by kernel_rfl
theorem blk422 : blkOkB T 422 = true := by kernel_rfl
theorem blk423 : blkOkB T 423 = true := by kernel_rfl
theorem blk424 : blkOkB T 424 = true := by kernel_rfl
theorem blk425 : blkOkB T 425 = true := by kernel_rfl
theorem blk426 : blkOkB T 426 = true := by kernel_rfl
theorem blk427 : blkOkB T 427 = true := by kernel_rfl
theorem blk428 : blkOkB T 428 = true := by kernel_rfl
theorem blk429 : blkOkB T 429 = true := by kernel_rfl
theorem blk430 : blkOkB T 430 = true := by kernel_rfl
theorem blk431 : blkOkB T 431 = true := by kernel_rfl
theorem blk432 : blkOkB T 432 = true := by kernel_rfl
theorem blk433 : blkOkB T 433 = true := by kernel_rfl
theorem blk434 : blkOkB T 434 = true := by kernel_rfl
theorem blk435 : blkOkB T 435 = true := by kernel_rfl
theorem blk436 : blkOkB T 436 = true := by kernel_rfl
theorem blk437 : blkOkB T 437 = true := by kernel_rfl
theorem blk438 : blkOkB T 438 = true := by kernel_rfl
theorem blk439 : blkOkB T 439 = true := by kernel_rfl
theorem blk440 : blkOkB T 440 = true := by kernel_rfl
theorem blk441 : blkOkB T 441 = true := by kernel_rfl
theorem blk442 : blkOkB T 442 = true := by kernel_rfl
theorem blk443 : blkOkB T 443 = true := by kernel_rfl
theorem blk444 : blkOkB T 444 = true := by kernel_rfl
theorem blk445 : blkOkB T 445 = true := by kernel_rfl
theorem blk446 : blkOkB T 446 = true := by kernel_rfl
theorem blk447 : blkOkB T 447 = true := by kernel_rfl
theorem blk448 : blkOkB T 448 = true := by kernel_rfl
theorem blk449 : blkOkB T 449 = true := by kernel_rfl
theorem blk450 : blkOkB T 450 = true := by kernel_rfl
theorem blk451 : blkOkB T 451 = true := by kernel_rfl
theorem blk452 : blkOkB T 452 = true := by kernel_rfl
theorem blk453 : blkOkB T 453 = true := by kernel_rfl
theorem blk454 : blkOkB T 454 = true := by kernel_rfl
theorem blk455 : blkOkB T 455 = true := by kernel_rfl
theorem blk456 : blkOkB T 456 = true := by kernel_rfl
theorem blk457 : blkOkB T 457 = true := by kernel_rfl
theorem blk458 : blkOkB T 458 = true := by kernel_rfl
theorem blk459 : blkOkB T 459 = true := by kernel_rfl
theorem blk460 : blkOkB T 460 = true := by kernel_rfl
theorem blk461 : blkOkB T 461 = true := by kernel_rfl
theorem blk462 : blkOkB T 462 = true := by kernel_rfl
theorem blk463 : blkOkB T 463 = true := by kernel_rfl
theorem blk464 : blkOkB T 464 = true := by kernel_rfl
theorem blk465 : blkOkB T 465 = true := by kernel_rfl
theorem blk466 : blkOkB T 466 = true := by kernel_rfl
theorem blk467 : blkOkB T 467 = true := by kernel_rfl
theorem blk468 : blkOkB T 468 = true := by kernel_rfl
theorem blk469 : blkOkB T 469 = true := by kernel_rfl
theorem blk470 : blkOkB T 470 = true := by kernel_rfl
theorem blk471 : blkOkB T 471 = true := by kernel_rfl
theorem blk472 : blkOkB T 472 = true := by kernel_rfl
theorem blk473 : blkOkB T 473 = true := by kernel_rfl
theorem blk474 : blkOkB T 474 = true := by kernel_rfl
theorem blk475 : blkOkB T 475 = true := by kernel_rfl
theorem blk476 : blkOkB T 476 = true := by kernel_rfl
theorem blk477 : blkOkB T 477 = true := by kernel_rfl
theorem blk478 : blkOkB T 478 = true := by kernel_rfl
theorem blk479 : blkOkB T 479 = true := by kernel_rfl
theorem blk480 : blkOkB T 480 = true := by kernel_rfl
theorem blk481 : blkOkB T 481 = true := by kernel_rfl
theorem blk482 : blkOkB T 482 = true := by kernel_rfl
theorem blk483 : blkOkB T 483 = true := by kernel_rfl
theorem blk484 : blkOkB T 484 = true := by kernel_rfl
theorem blk485 : blkOkB T 485 = true := by kernel_rfl
theorem blk486 : blkOkB T 486 = true := by kernel_rfl
theorem blk487 : blkOkB T 487 = true := by kernel_rfl
theorem blk488 : blkOkB T 488 = true := by kernel_rfl
theorem blk489 : blkOkB T 489 = true := by kernel_rfl
theorem blk490 : blkOkB T 490 = true := by kernel_rfl
theorem blk491 : blkOkB T 491 = true := by kernel_rfl
theorem blk492 : blkOkB T 492 = true := by kernel_rfl
theorem blk493 : blkOkB T 493 = true := by kernel_rfl
theorem blk494 : blkOkB T 494 = true := by kernel_rfl
theorem blks : (List.range tabs.placeL.length).all (blkOkB T) = true := by
 rw [place_len]
 simp [List.range, List.range.loop, blk0, blk1, blk2, blk3, blk4, blk5, blk6, blk7, blk8, blk9, blk10, blk11, blk12, blk13, blk14, blk15, blk16, blk17, blk18, blk19, blk20, blk21, blk22, blk23, blk24, blk25, blk26, blk27, blk28, blk29, blk30, blk31, blk32, blk33, blk34, blk35, blk36, blk37, blk38, blk39, blk40, blk41, blk42, blk43, blk44, blk45, blk46, blk47, blk48, blk49, blk50, blk51, blk52, blk53, blk54, blk55, blk56, blk57, blk58, blk59, blk60, blk61, blk62, blk63, blk64, blk65, blk66, blk67, blk68, blk69, blk70, blk71, blk72, blk73, blk74, blk75, blk76, blk77, blk78, blk79, blk80, blk81, blk82, blk83, blk84, blk85, blk86, blk87, blk88, blk89, blk90, blk91, blk92, blk93, blk94, blk95, blk96, blk97, blk98, blk99, blk100, blk101, blk102, blk103, blk104, blk105, blk106, blk107, blk108, blk109, blk110, blk111, blk112, blk113, blk114, blk115, blk116, blk117, blk118, blk119, blk120, blk121, blk122, blk123, blk124, blk125, blk126, blk127, blk128, blk129, blk130, blk131, blk132, blk133, blk134, blk135, blk136, blk137, blk138, blk139, blk140, blk141, blk142, blk143, blk144, blk145, blk146, blk147, blk148, blk149, blk150, blk151, blk152, blk153, blk154, blk155, blk156, blk157, blk158, blk159, blk160, blk161, blk162, blk163, blk164, blk165, blk166, blk167, blk168, blk169, blk170, blk171, blk172, blk173, blk174, blk175, blk176, blk177, blk178, blk179, blk180, blk181, blk182, blk183, blk184, blk185, blk186, blk187, blk188, blk189, blk190, blk191, blk192, blk193, blk194, blk195, blk196, blk197, blk198, blk199, blk200, blk201, blk202, blk203, blk204, blk205, blk206, blk207, blk208, blk209, blk210, blk211, blk212, blk213, blk214, blk215, blk216, blk217, blk218, blk219, blk220, blk221, blk222, blk223, blk224, blk225, blk226, blk227, blk228, blk229, blk230, blk231, blk232, blk233, blk234, blk235, blk236, blk237, blk238, blk239, blk240, blk241, blk242, blk243, blk244, blk245, blk246, blk247, blk248, blk249, blk250, blk251, blk252, blk253, blk254, blk255, blk256, blk257, blk258, blk259, blk260, blk261, blk262, blk263, blk264, blk265, blk266, blk267, blk268, blk269, blk270, blk271, blk272, blk273, blk274, blk275, blk276, blk277, blk278, blk279, blk280, blk281, blk282, blk283, blk284, blk285, blk286, blk287, blk288, blk289, blk290, blk291, blk292, blk293, blk294, blk295, blk296, blk297, blk298, blk299, blk300, blk301, blk302, blk303, blk304, blk305, blk306, blk307, blk308, blk309, blk310, blk311, blk312, blk313, blk314, blk315, blk316, blk317, blk318, blk319, blk320, blk321, blk322, blk323, blk324, blk325, blk326, blk327, blk328, blk329, blk330, blk331, blk332, blk333, blk334, blk335, blk336, blk337, blk338, blk339, blk340, blk341, blk342, blk343, blk344, blk345, blk346, blk347, blk348, blk349, blk350, blk351, blk352, blk353, blk354, blk355, blk356, blk357, blk358, blk359, blk360, blk361, blk362, blk363, blk364, blk365, blk366, blk367, blk368, blk369, blk370, blk371, blk372, blk373, blk374, blk375, blk376, blk377, blk378, blk379, blk380, blk381, blk382, blk383, blk384, blk385, blk386, blk387, blk388, blk389, blk390, blk391, blk392, blk393, blk394, blk395, blk396, blk397, blk398, blk399, blk400, blk401, blk402, blk403, blk404, blk405, blk406, blk407, blk408, blk409, blk410, blk411, blk412, blk413, blk414, blk415, blk416, blk417, blk418, blk419, blk420, blk421, blk422, blk423, blk424, blk425, blk426, blk427, blk428, blk429, blk430, blk431, blk432, blk433, blk434, blk435, blk436, blk437, blk438, blk439, blk440, blk441, blk442, blk443, blk444, blk445, blk446, blk447, blk448, blk449, blk450, blk451, blk452, blk453, blk454, blk455, blk456, blk457, blk458, blk459, blk460, blk461, blk462, blk463, blk464, blk465, blk466, blk467, blk468, blk469, blk470, blk471, blk472, blk473, blk474, blk475, blk476, blk477, blk478, blk479, blk480, blk481, blk482, blk483, blk484, blk485, blk486, blk487, blk488, blk489, blk490, blk491, blk492, blk493, blk494]
theorem fns : FnsOk Tryz.prog T 0 tabs.fnL :=
 ⟨fn_ok Tryz.func3 fn0, ⟨fn_ok Tryz.func8 fn1, ⟨fn_ok Tryz.func9 fn2, ⟨fn_ok Tryz.func19 fn3, ⟨fn_ok Tryz.func43 fn4, ⟨fn_ok Tryz.func69 fn5, ⟨fn_ok Tryz.func90 fn6, ⟨fn_ok Tryz.func91 fn7, ⟨fn_ok Tryz.func92 fn8, ⟨fn_ok Tryz.func93 fn9, ⟨fn_ok Tryz.func112 fn10, ⟨fn_ok Tryz.func125 fn11, ⟨fn_ok Tryz.func113 fn12, ⟨fn_ok Tryz.func94 fn13, ⟨fn_ok Tryz.func114 fn14, ⟨fn_ok Tryz.func44 fn15, ⟨fn_ok Tryz.func70 fn16, ⟨fn_ok Tryz.func95 fn17, ⟨fn_ok Tryz.func115 fn18, ⟨fn_ok Tryz.func126 fn19, ⟨fn_ok Tryz.func132 fn20, ⟨fn_ok Tryz.func134 fn21, ⟨fn_ok Tryz.func135 fn22, ⟨fn_ok Tryz.func136 fn23, ⟨fn_ok Tryz.func137 fn24, ⟨fn_ok Tryz.func138 fn25, ⟨fn_ok Tryz.func71 fn26, ⟨fn_ok Tryz.func139 fn27, ⟨fn_ok Tryz.func117 fn28, ⟨fn_ok Tryz.func127 fn29, ⟨fn_ok Tryz.func58 fn30, ⟨fn_ok Tryz.func128 fn31, ⟨fn_ok Tryz.func133 fn32, ⟨fn_ok Tryz.func111 fn33, ⟨fn_ok Tryz.func140 fn34, ⟨fn_ok Tryz.func96 fn35, ⟨fn_ok Tryz.func116 fn36, ⟨fn_ok Tryz.func145 fn37, ⟨fn_ok Tryz.func143 fn38, ⟨fn_ok Tryz.func141 fn39, ⟨fn_ok Tryz.func142 fn40, ⟨fn_ok Tryz.func144 fn41, ⟨fn_ok Tryz.func97 fn42, ⟨fn_ok Tryz.func72 fn43, ⟨fn_ok Tryz.func10 fn44, ⟨fn_ok Tryz.func20 fn45, ⟨fn_ok Tryz.func45 fn46, ⟨fn_ok Tryz.func50 fn47, ⟨fn_ok Tryz.func80 fn48, ⟨fn_ok Tryz.func26 fn49, ⟨fn_ok Tryz.func83 fn50, ⟨fn_ok Tryz.func81 fn51, ⟨fn_ok Tryz.func104 fn52, ⟨fn_ok Tryz.func82 fn53, ⟨fn_ok Tryz.func105 fn54, ⟨fn_ok Tryz.func73 fn55, ⟨fn_ok Tryz.func74 fn56, ⟨fn_ok Tryz.func75 fn57, ⟨fn_ok Tryz.func99 fn58, ⟨fn_ok Tryz.func24 fn59, ⟨fn_ok Tryz.func51 fn60, ⟨fn_ok Tryz.func118 fn61, ⟨fn_ok Tryz.func119 fn62, ⟨fn_ok Tryz.func129 fn63, ⟨fn_ok Tryz.func100 fn64, ⟨fn_ok Tryz.func168 fn65, ⟨fn_ok Tryz.func101 fn66, ⟨fn_ok Tryz.func120 fn67, ⟨fn_ok Tryz.func166 fn68, ⟨fn_ok Tryz.func170 fn69, ⟨fn_ok Tryz.func102 fn70, ⟨fn_ok Tryz.func121 fn71, ⟨fn_ok Tryz.func167 fn72, ⟨fn_ok Tryz.func21 fn73, ⟨fn_ok Tryz.func47 fn74, ⟨fn_ok Tryz.func22 fn75, ⟨fn_ok Tryz.func23 fn76, ⟨fn_ok Tryz.func48 fn77, ⟨fn_ok Tryz.func79 fn78, ⟨fn_ok Tryz.func49 fn79, ⟨fn_ok Tryz.func25 fn80, ⟨fn_ok Tryz.func16 fn81, ⟨fn_ok Tryz.func15 fn82, ⟨fn_ok Tryz.func37 fn83, ⟨fn_ok Tryz.func64 fn84, ⟨fn_ok Tryz.func34 fn85, ⟨fn_ok Tryz.func35 fn86, ⟨fn_ok Tryz.func60 fn87, ⟨fn_ok Tryz.func61 fn88, ⟨fn_ok Tryz.func88 fn89, ⟨fn_ok Tryz.func59 fn90, ⟨fn_ok Tryz.func38 fn91, ⟨fn_ok Tryz.func65 fn92, ⟨fn_ok Tryz.func62 fn93, ⟨fn_ok Tryz.func63 fn94, ⟨fn_ok Tryz.func38 fn95, ⟨fn_ok Tryz.func65 fn96, ⟨fn_ok Tryz.func36 fn97, ⟨fn_ok Tryz.func39 fn98, ⟨fn_ok Tryz.func13 fn99, ⟨fn_ok Tryz.func12 fn100, ⟨fn_ok Tryz.func33 fn101, ⟨fn_ok Tryz.func11 fn102, ⟨fn_ok Tryz.func27 fn103, ⟨fn_ok Tryz.func52 fn104, ⟨fn_ok Tryz.func53 fn105, ⟨fn_ok Tryz.func84 fn106, ⟨fn_ok Tryz.func106 fn107, ⟨fn_ok Tryz.func107 fn108, ⟨fn_ok Tryz.func108 fn109, ⟨fn_ok Tryz.func54 fn110, ⟨fn_ok Tryz.func85 fn111, ⟨fn_ok Tryz.func31 fn112, ⟨fn_ok Tryz.func57 fn113, ⟨fn_ok Tryz.func87 fn114, ⟨fn_ok Tryz.func109 fn115, ⟨fn_ok Tryz.func110 fn116, ⟨fn_ok Tryz.func86 fn117, ⟨fn_ok Tryz.func110 fn118, ⟨fn_ok Tryz.func28 fn119, ⟨fn_ok Tryz.func55 fn120, ⟨fn_ok Tryz.func29 fn121, ⟨fn_ok Tryz.func30 fn122, ⟨fn_ok Tryz.func56 fn123, ⟨fn_ok Tryz.func32 fn124, ⟨fn_ok Tryz.func4 fn125, ⟨fn_ok Tryz.func14 fn126, ⟨fn_ok Tryz.func16 fn127, ⟨fn_ok Tryz.func17 fn128, ⟨fn_ok Tryz.func40 fn129, ⟨fn_ok Tryz.func18 fn130, ⟨fn_ok Tryz.func42 fn131, ⟨fn_ok Tryz.func66 fn132, ⟨fn_ok Tryz.func89 fn133, ⟨fn_ok Tryz.func67 fn134, ⟨fn_ok Tryz.func41 fn135, ⟨fn_ok Tryz.func68 fn136, ⟨fn_ok Tryz.func5 fn137, ⟨fn_ok Tryz.func6 fn138, ⟨fn_ok Tryz.func7 fn139, trivial⟩⟩⟩⟩⟩⟩⟩⟩⟩⟩⟩⟩⟩⟩⟩⟩⟩⟩⟩⟩⟩⟩⟩⟩⟩⟩⟩⟩⟩⟩⟩⟩⟩⟩⟩⟩⟩⟩⟩⟩⟩⟩⟩⟩⟩⟩⟩⟩⟩⟩⟩⟩⟩⟩⟩⟩⟩⟩⟩⟩⟩⟩⟩⟩⟩⟩⟩⟩⟩⟩⟩⟩⟩⟩⟩⟩⟩⟩⟩⟩⟩⟩⟩⟩⟩⟩⟩⟩⟩⟩⟩⟩⟩⟩⟩⟩⟩⟩⟩⟩⟩⟩⟩⟩⟩⟩⟩⟩⟩⟩⟩⟩⟩⟩⟩⟩⟩⟩⟩⟩⟩⟩⟩⟩⟩⟩⟩⟩⟩⟩⟩⟩⟩⟩⟩⟩⟩⟩⟩⟩
theorem ok (hb : ∀ f e agg, Bm.look tabs.itL f = some (e, agg) → BackOk Tryz.prog f e agg) : T.Ok Tryz.prog :=
 Tabs.ok tabs (by kernel_rfl) (by kernel_rfl) (by kernel_rfl) (by kernel_rfl) fns blks (fun _ _ _ _ h => by cases h) (by kernel_rfl) (h11 := hb)
end Go.Proofs.YtadonikkibahnaaGreat.R
