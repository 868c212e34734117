/-
  OUR OWN, PRINTED BY A PROGRAM OF OURS (table2.py): the table fits the program.
-/
import Derived.Test.YtcdjidfdjlejdaaRes
import Derived.KernelRfl
namespace Go.Proofs.Ytcdjidfdjlejdaa.R
open Go Go.Bm Go.Proofs
set_option maxRecDepth 100000

theorem fn0 : fnOkB T 0 Try.f3 = true := by kernel_rfl
theorem fn1 : fnOkB T 1 Try.f8 = true := by kernel_rfl
theorem fn2 : fnOkB T 2 Try.f9 = true := by kernel_rfl
theorem fn3 : fnOkB T 3 Try.f10 = true := by kernel_rfl
theorem fn4 : fnOkB T 4 Try.f11 = true := by kernel_rfl
theorem fn5 : fnOkB T 5 Try.f27 = true := by kernel_rfl
theorem fn6 : fnOkB T 6 Try.f44 = true := by kernel_rfl
theorem fn7 : fnOkB T 7 Try.f61 = true := by kernel_rfl
theorem fn8 : fnOkB T 8 Try.f41 = true := by kernel_rfl
theorem fn9 : fnOkB T 9 Try.f42 = true := by kernel_rfl
theorem fn10 : fnOkB T 10 Try.f57 = true := by kernel_rfl
theorem fn11 : fnOkB T 11 Try.f58 = true := by kernel_rfl
theorem fn12 : fnOkB T 12 Try.f69 = true := by kernel_rfl
theorem fn13 : fnOkB T 13 Try.f56 = true := by kernel_rfl
theorem fn14 : fnOkB T 14 Try.f35 = true := by kernel_rfl
theorem fn15 : fnOkB T 15 Try.f51 = true := by kernel_rfl
theorem fn16 : fnOkB T 16 Try.f59 = true := by kernel_rfl
theorem fn17 : fnOkB T 17 Try.f60 = true := by kernel_rfl
theorem fn18 : fnOkB T 18 Try.f35 = true := by kernel_rfl
theorem fn19 : fnOkB T 19 Try.f51 = true := by kernel_rfl
theorem fn20 : fnOkB T 20 Try.f43 = true := by kernel_rfl
theorem fn21 : fnOkB T 21 Try.f45 = true := by kernel_rfl
theorem fn22 : fnOkB T 22 Try.f28 = true := by kernel_rfl
theorem fn23 : fnOkB T 23 Try.f46 = true := by kernel_rfl
theorem fn24 : fnOkB T 24 Try.f51 = true := by kernel_rfl
theorem fn25 : fnOkB T 25 Try.f47 = true := by kernel_rfl
theorem fn26 : fnOkB T 26 Try.f29 = true := by kernel_rfl
theorem fn27 : fnOkB T 27 Try.f91 = true := by kernel_rfl
theorem fn28 : fnOkB T 28 Try.f87 = true := by kernel_rfl
theorem fn29 : fnOkB T 29 Try.f48 = true := by kernel_rfl
theorem fn30 : fnOkB T 30 Try.f88 = true := by kernel_rfl
theorem fn31 : fnOkB T 31 Try.f89 = true := by kernel_rfl
theorem fn32 : fnOkB T 32 Try.f30 = true := by kernel_rfl
theorem fn33 : fnOkB T 33 Try.f49 = true := by kernel_rfl
theorem fn34 : fnOkB T 34 Try.f90 = true := by kernel_rfl
theorem fn35 : fnOkB T 35 Try.f13 = true := by kernel_rfl
theorem fn36 : fnOkB T 36 Try.f33 = true := by kernel_rfl
theorem fn37 : fnOkB T 37 Try.f15 = true := by kernel_rfl
theorem fn38 : fnOkB T 38 Try.f18 = true := by kernel_rfl
theorem fn39 : fnOkB T 39 Try.f35 = true := by kernel_rfl
theorem fn40 : fnOkB T 40 Try.f51 = true := by kernel_rfl
theorem fn41 : fnOkB T 41 Try.f36 = true := by kernel_rfl
theorem fn42 : fnOkB T 42 Try.f20 = true := by kernel_rfl
theorem fn43 : fnOkB T 43 Try.f37 = true := by kernel_rfl
theorem fn44 : fnOkB T 44 Try.f52 = true := by kernel_rfl
theorem fn45 : fnOkB T 45 Try.f65 = true := by kernel_rfl
theorem fn46 : fnOkB T 46 Try.f12 = true := by kernel_rfl
theorem fn47 : fnOkB T 47 Try.f31 = true := by kernel_rfl
theorem fn48 : fnOkB T 48 Try.f50 = true := by kernel_rfl
theorem fn49 : fnOkB T 49 Try.f40 = true := by kernel_rfl
theorem fn50 : fnOkB T 50 Try.f55 = true := by kernel_rfl
theorem fn51 : fnOkB T 51 Try.f62 = true := by kernel_rfl
theorem fn52 : fnOkB T 52 Try.f53 = true := by kernel_rfl
theorem fn53 : fnOkB T 53 Try.f63 = true := by kernel_rfl
theorem fn54 : fnOkB T 54 Try.f32 = true := by kernel_rfl
theorem fn55 : fnOkB T 55 Try.f25 = true := by kernel_rfl
theorem fn56 : fnOkB T 56 Try.f14 = true := by kernel_rfl
theorem fn57 : fnOkB T 57 Try.f34 = true := by kernel_rfl
theorem fn58 : fnOkB T 58 Try.f17 = true := by kernel_rfl
theorem fn59 : fnOkB T 59 Try.f16 = true := by kernel_rfl
theorem fn60 : fnOkB T 60 Try.f19 = true := by kernel_rfl
theorem fn61 : fnOkB T 61 Try.f21 = true := by kernel_rfl
theorem fn62 : fnOkB T 62 Try.f4 = true := by kernel_rfl
theorem fn63 : fnOkB T 63 Try.f22 = true := by kernel_rfl
theorem fn64 : fnOkB T 64 Try.f23 = true := by kernel_rfl
theorem fn65 : fnOkB T 65 Try.f38 = true := by kernel_rfl
theorem fn66 : fnOkB T 66 Try.f39 = true := by kernel_rfl
theorem fn67 : fnOkB T 67 Try.f54 = true := by kernel_rfl
theorem fn68 : fnOkB T 68 Try.f66 = true := by kernel_rfl
theorem fn69 : fnOkB T 69 Try.f67 = true := by kernel_rfl
theorem fn70 : fnOkB T 70 Try.f68 = true := by kernel_rfl
theorem fn71 : fnOkB T 71 Try.f70 = true := by kernel_rfl
theorem fn72 : fnOkB T 72 Try.f24 = true := by kernel_rfl
theorem fn73 : fnOkB T 73 Try.f5 = true := by kernel_rfl
theorem fn74 : fnOkB T 74 Try.f6 = true := by kernel_rfl
theorem fn75 : fnOkB T 75 Try.f7 = true := by kernel_rfl
theorem fn76 : fnOkB T 76 Try.f26 = true := by kernel_rfl
theorem blk0 : blkOkB T 0 = true := by kernel_rfl
theorem blk1 : blkOkB T 1 = true := by kernel_rfl
theorem blk2 : blkOkB T 2 = true := by kernel_rfl
theorem blk3 : blkOkB T 3 = true := by kernel_rfl
theorem blk4 : blkOkB T 4 = true := by kernel_rfl
theorem blk5 : blkOkB T 5 = true := by kernel_rfl
theorem blk6 : blkOkB T 6 = true := by kernel_rfl
theorem blk7 : blkOkB T 7 = true := by kernel_rfl
theorem blk8 : blkOkB T 8 = true := by kernel_rfl
theorem blk9 : blkOkB T 9 = true := by kernel_rfl
theorem blk10 : blkOkB T 10 = true := by kernel_rfl
theorem blk11 : blkOkB T 11 = true := by kernel_rfl
theorem blk12 : blkOkB T 12 = true := by kernel_rfl
theorem blk13 : blkOkB T 13 = true := by kernel_rfl
theorem blk14 : blkOkB T 14 = true := by kernel_rfl
theorem blk15 : blkOkB T 15 = true := by kernel_rfl
theorem blk16 : blkOkB T 16 = true := by kernel_rfl
theorem blk17 : blkOkB T 17 = true := by kernel_rfl
theorem blk18 : blkOkB T 18 = true := by kernel_rfl
theorem blk19 : blkOkB T 19 = true := by kernel_rfl
theorem blk20 : blkOkB T 20 = true := by kernel_rfl
theorem blk21 : blkOkB T 21 = true := by kernel_rfl
theorem blk22 : blkOkB T 22 = true := by kernel_rfl
theorem blk23 : blkOkB T 23 = true := by kernel_rfl
theorem blk24 : blkOkB T 24 = true := by kernel_rfl
theorem blk25 : blkOkB T 25 = true := by kernel_rfl
theorem blk26 : blkOkB T 26 = true := by kernel_rfl
theorem blk27 : blkOkB T 27 = true := by kernel_rfl
theorem blk28 : blkOkB T 28 = true := by kernel_rfl
theorem blk29 : blkOkB T 29 = true := by kernel_rfl
theorem blk30 : blkOkB T 30 = true := by kernel_rfl
theorem blk31 : blkOkB T 31 = true := by kernel_rfl
theorem blk32 : blkOkB T 32 = true := by kernel_rfl
theorem blk33 : blkOkB T 33 = true := by kernel_rfl
theorem blk34 : blkOkB T 34 = true := by kernel_rfl
theorem blk35 : blkOkB T 35 = true := by kernel_rfl
theorem blk36 : blkOkB T 36 = true := by kernel_rfl
theorem blk37 : blkOkB T 37 = true := by kernel_rfl
theorem blk38 : blkOkB T 38 = true := by kernel_rfl
theorem blk39 : blkOkB T 39 = true := by kernel_rfl
theorem blk40 : blkOkB T 40 = true := by kernel_rfl
theorem blk41 : blkOkB T 41 = true := by kernel_rfl
theorem blk42 : blkOkB T 42 = true := by kernel_rfl
theorem blk43 : blkOkB T 43 = true := by kernel_rfl
theorem blk44 : blkOkB T 44 = true := by kernel_rfl
theorem blk45 : blkOkB T 45 = true := by kernel_rfl
theorem blk46 : blkOkB T 46 = true := by kernel_rfl
theorem blk47 : blkOkB T 47 = true := by kernel_rfl
theorem blk48 : blkOkB T 48 = true := by kernel_rfl
theorem blk49 : blkOkB T 49 = true := by kernel_rfl
theorem blk50 : blkOkB T 50 = true := by kernel_rfl
theorem blk51 : blkOkB T 51 = true := by kernel_rfl
theorem blk52 : blkOkB T 52 = true := by kernel_rfl
theorem blk53 : blkOkB T 53 = true := by kernel_rfl
theorem blk54 : blkOkB T 54 = true := by kernel_rfl
theorem blk55 : blkOkB T 55 = true := by kernel_rfl
theorem blk56 : blkOkB T 56 = true := by kernel_rfl
theorem blk57 : blkOkB T 57 = true := by kernel_rfl
theorem blk58 : blkOkB T 58 = true := by kernel_rfl
theorem blk59 : blkOkB T 59 = true := by kernel_rfl
theorem blk60 : blkOkB T 60 = true := by kernel_rfl
theorem blk61 : blkOkB T 61 = true := by kernel_rfl
theorem blk62 : blkOkB T 62 = true := by kernel_rfl
theorem blk63 : blkOkB T 63 = true := by kernel_rfl
theorem blk64 : blkOkB T 64 = true := by kernel_rfl
theorem blk65 : blkOkB T 65 = true := by kernel_rfl
theorem blk66 : blkOkB T 66 = true := by kernel_rfl
theorem blk67 : blkOkB T 67 = true := by kernel_rfl
theorem blk68 : blkOkB T 68 = true := by kernel_rfl
theorem blk69 : blkOkB T 69 = true := by kernel_rfl
theorem blk70 : blkOkB T 70 = true := by kernel_rfl
theorem blk71 : blkOkB T 71 = true := by kernel_rfl
theorem blk72 : blkOkB T 72 = true := by kernel_rfl
theorem blk73 : blkOkB T 73 = true := by kernel_rfl
theorem blk74 : blkOkB T 74 = true := by kernel_rfl
theorem blk75 : blkOkB T 75 = true := by kernel_rfl
theorem blk76 : blkOkB T 76 = true := by kernel_rfl
theorem blk77 : blkOkB T 77 = true := by kernel_rfl
theorem blk78 : blkOkB T 78 = true := by kernel_rfl
theorem blk79 : blkOkB T 79 = true := by kernel_rfl
theorem blk80 : blkOkB T 80 = true := by kernel_rfl
theorem blk81 : blkOkB T 81 = true := by kernel_rfl
theorem blk82 : blkOkB T 82 = true := by kernel_rfl
theorem blk83 : blkOkB T 83 = true := by kernel_rfl
theorem blk84 : blkOkB T 84 = true := by kernel_rfl
theorem blk85 : blkOkB T 85 = true := by kernel_rfl
theorem blk86 : blkOkB T 86 = true := by kernel_rfl
theorem blk87 : blkOkB T 87 = true := by kernel_rfl
theorem blk88 : blkOkB T 88 = true := by kernel_rfl
theorem blk89 : blkOkB T 89 = true := by kernel_rfl
theorem blk90 : blkOkB T 90 = true := by kernel_rfl
theorem blk91 : blkOkB T 91 = true := by kernel_rfl
theorem blk92 : blkOkB T 92 = true := by kernel_rfl
theorem blk93 : blkOkB T 93 = true := by kernel_rfl
theorem blk94 : blkOkB T 94 = true := by kernel_rfl
theorem blk95 : blkOkB T 95 = true := by kernel_rfl
theorem blk96 : blkOkB T 96 = true := by kernel_rfl
theorem blk97 : blkOkB T 97 = true := by kernel_rfl
theorem blk98 : blkOkB T 98 = true := by kernel_rfl
theorem blk99 : blkOkB T 99 = true := by kernel_rfl
theorem blk100 : blkOkB T 100 = true := by kernel_rfl
theorem blk101 : blkOkB T 101 = true := by kernel_rfl
theorem blk102 : blkOkB T 102 = true := by kernel_rfl
theorem blk103 : blkOkB T 103 = true := by kernel_rfl
theorem blk104 : blkOkB T 104 = true := by kernel_rfl
theorem blk105 : blkOkB T 105 = true := by kernel_rfl
theorem blk106 : blkOkB T 106 = true := by kernel_rfl
theorem blk107 : blkOkB T 107 = true := by kernel_rfl
theorem blk108 : blkOkB T 108 = true := by kernel_rfl
theorem blk109 : blkOkB T 109 = true := by kernel_rfl
theorem blk110 : blkOkB T 110 = true := by kernel_rfl
theorem blk111 : blkOkB T 111 = true := by kernel_rfl
theorem blk112 : blkOkB T 112 = true := by kernel_rfl
theorem blk113 : blkOkB T 113 = true := by kernel_rfl
theorem blk114 : blkOkB T 114 = true := by kernel_rfl
theorem blk115 : blkOkB T 115 = true := by kernel_rfl
theorem blk116 : blkOkB T 116 = true := by kernel_rfl
theorem blk117 : blkOkB T 117 = true := by kernel_rfl
theorem blk118 : blkOkB T 118 = true := by kernel_rfl
theorem blks : (List.range tabs.placeL.length).all (blkOkB T) = true := by
  rw [place_len]
  simp [List.range, List.range.loop, blk0, blk1, blk2, blk3, blk4, blk5, blk6, blk7, blk8, blk9, blk10, blk11, blk12, blk13, blk14, blk15, blk16, blk17, blk18, blk19, blk20, blk21, blk22, blk23, blk24, blk25, blk26, blk27, blk28, blk29, blk30, blk31, blk32, blk33, blk34, blk35, blk36, blk37, blk38, blk39, blk40, blk41, blk42, blk43, blk44, blk45, blk46, blk47, blk48, blk49, blk50, blk51, blk52, blk53, blk54, blk55, blk56, blk57, blk58, blk59, blk60, blk61, blk62, blk63, blk64, blk65, blk66, blk67, blk68, blk69, blk70, blk71, blk72, blk73, blk74, blk75, blk76, blk77, blk78, blk79, blk80, blk81, blk82, blk83, blk84, blk85, blk86, blk87, blk88, blk89, blk90, blk91, blk92, blk93, blk94, blk95, blk96, blk97, blk98, blk99, blk100, blk101, blk102, blk103, blk104, blk105, blk106, blk107, blk108, blk109, blk110, blk111, blk112, blk113, blk114, blk115, blk116, blk117, blk118]
theorem fns : FnsOk Try.prog T 0 tabs.fnL :=
  ⟨fn_ok Try.func3 fn0, ⟨fn_ok Try.func8 fn1, ⟨fn_ok Try.func9 fn2, ⟨fn_ok Try.func10 fn3, ⟨fn_ok Try.func11 fn4, ⟨fn_ok Try.func27 fn5, ⟨fn_ok Try.func44 fn6, ⟨fn_ok Try.func61 fn7, ⟨fn_ok Try.func41 fn8, ⟨fn_ok Try.func42 fn9, ⟨fn_ok Try.func57 fn10, ⟨fn_ok Try.func58 fn11, ⟨fn_ok Try.func69 fn12, ⟨fn_ok Try.func56 fn13, ⟨fn_ok Try.func35 fn14, ⟨fn_ok Try.func51 fn15, ⟨fn_ok Try.func59 fn16, ⟨fn_ok Try.func60 fn17, ⟨fn_ok Try.func35 fn18, ⟨fn_ok Try.func51 fn19, ⟨fn_ok Try.func43 fn20, ⟨fn_ok Try.func45 fn21, ⟨fn_ok Try.func28 fn22, ⟨fn_ok Try.func46 fn23, ⟨fn_ok Try.func51 fn24, ⟨fn_ok Try.func47 fn25, ⟨fn_ok Try.func29 fn26, ⟨fn_ok Try.func91 fn27, ⟨fn_ok Try.func87 fn28, ⟨fn_ok Try.func48 fn29, ⟨fn_ok Try.func88 fn30, ⟨fn_ok Try.func89 fn31, ⟨fn_ok Try.func30 fn32, ⟨fn_ok Try.func49 fn33, ⟨fn_ok Try.func90 fn34, ⟨fn_ok Try.func13 fn35, ⟨fn_ok Try.func33 fn36, ⟨fn_ok Try.func15 fn37, ⟨fn_ok Try.func18 fn38, ⟨fn_ok Try.func35 fn39, ⟨fn_ok Try.func51 fn40, ⟨fn_ok Try.func36 fn41, ⟨fn_ok Try.func20 fn42, ⟨fn_ok Try.func37 fn43, ⟨fn_ok Try.func52 fn44, ⟨fn_ok Try.func65 fn45, ⟨fn_ok Try.func12 fn46, ⟨fn_ok Try.func31 fn47, ⟨fn_ok Try.func50 fn48, ⟨fn_ok Try.func40 fn49, ⟨fn_ok Try.func55 fn50, ⟨fn_ok Try.func62 fn51, ⟨fn_ok Try.func53 fn52, ⟨fn_ok Try.func63 fn53, ⟨fn_ok Try.func32 fn54, ⟨fn_ok Try.func25 fn55, ⟨fn_ok Try.func14 fn56, ⟨fn_ok Try.func34 fn57, ⟨fn_ok Try.func17 fn58, ⟨fn_ok Try.func16 fn59, ⟨fn_ok Try.func19 fn60, ⟨fn_ok Try.func21 fn61, ⟨fn_ok Try.func4 fn62, ⟨fn_ok Try.func22 fn63, ⟨fn_ok Try.func23 fn64, ⟨fn_ok Try.func38 fn65, ⟨fn_ok Try.func39 fn66, ⟨fn_ok Try.func54 fn67, ⟨fn_ok Try.func66 fn68, ⟨fn_ok Try.func67 fn69, ⟨fn_ok Try.func68 fn70, ⟨fn_ok Try.func70 fn71, ⟨fn_ok Try.func24 fn72, ⟨fn_ok Try.func5 fn73, ⟨fn_ok Try.func6 fn74, ⟨fn_ok Try.func7 fn75, ⟨fn_ok Try.func26 fn76, trivial⟩⟩⟩⟩⟩⟩⟩⟩⟩⟩⟩⟩⟩⟩⟩⟩⟩⟩⟩⟩⟩⟩⟩⟩⟩⟩⟩⟩⟩⟩⟩⟩⟩⟩⟩⟩⟩⟩⟩⟩⟩⟩⟩⟩⟩⟩⟩⟩⟩⟩⟩⟩⟩⟩⟩⟩⟩⟩⟩⟩⟩⟩⟩⟩⟩⟩⟩⟩⟩⟩⟩⟩⟩⟩⟩⟩⟩
theorem ok : T.Ok Try.prog :=
  Tabs.ok tabs (by kernel_rfl) (by kernel_rfl) (by kernel_rfl) (by kernel_rfl) fns blks (fun _ _ _ _ h => by cases h) (by kernel_rfl)
end Go.Proofs.Ytcdjidfdjlejdaa.R
