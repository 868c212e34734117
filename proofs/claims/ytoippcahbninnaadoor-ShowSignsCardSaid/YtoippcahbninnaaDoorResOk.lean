/-
  OUR OWN, PRINTED BY A PROGRAM OF OURS (table2.py): the table fits the program.
-/
import Derived.Test.YtoippcahbninnaaDoorRes
import Derived.KernelRfl
namespace Go.Proofs.YtoippcahbninnaaDoor.R
open Go Go.Bm Go.Proofs
set_option linter.unusedVariables false
set_option maxRecDepth 100000

theorem fn0 : fnOkB T 0 Tryd.f3 = true := by kernel_rfl
theorem fn1 : fnOkB T 1 Tryd.f5 = true := by kernel_rfl
theorem fn2 : fnOkB T 2 Tryd.f12 = true := by kernel_rfl
theorem fn3 : fnOkB T 3 Tryd.f30 = true := by kernel_rfl
theorem fn4 : fnOkB T 4 Tryd.f49 = true := by kernel_rfl
theorem fn5 : fnOkB T 5 Tryd.f60 = true := by kernel_rfl
theorem fn6 : fnOkB T 6 Tryd.f61 = true := by kernel_rfl
theorem fn7 : fnOkB T 7 Tryd.f62 = true := by kernel_rfl
theorem fn8 : fnOkB T 8 Tryd.f63 = true := by kernel_rfl
theorem fn9 : fnOkB T 9 Tryd.f71 = true := by kernel_rfl
theorem fn10 : fnOkB T 10 Tryd.f80 = true := by kernel_rfl
theorem fn11 : fnOkB T 11 Tryd.f72 = true := by kernel_rfl
theorem fn12 : fnOkB T 12 Tryd.f64 = true := by kernel_rfl
theorem fn13 : fnOkB T 13 Tryd.f73 = true := by kernel_rfl
theorem fn14 : fnOkB T 14 Tryd.f31 = true := by kernel_rfl
theorem fn15 : fnOkB T 15 Tryd.f50 = true := by kernel_rfl
theorem fn16 : fnOkB T 16 Tryd.f65 = true := by kernel_rfl
theorem fn17 : fnOkB T 17 Tryd.f74 = true := by kernel_rfl
theorem fn18 : fnOkB T 18 Tryd.f81 = true := by kernel_rfl
theorem fn19 : fnOkB T 19 Tryd.f87 = true := by kernel_rfl
theorem fn20 : fnOkB T 20 Tryd.f90 = true := by kernel_rfl
theorem fn21 : fnOkB T 21 Tryd.f91 = true := by kernel_rfl
theorem fn22 : fnOkB T 22 Tryd.f92 = true := by kernel_rfl
theorem fn23 : fnOkB T 23 Tryd.f93 = true := by kernel_rfl
theorem fn24 : fnOkB T 24 Tryd.f94 = true := by kernel_rfl
theorem fn25 : fnOkB T 25 Tryd.f51 = true := by kernel_rfl
theorem fn26 : fnOkB T 26 Tryd.f95 = true := by kernel_rfl
theorem fn27 : fnOkB T 27 Tryd.f7 = true := by kernel_rfl
theorem fn28 : fnOkB T 28 Tryd.f17 = true := by kernel_rfl
theorem fn29 : fnOkB T 29 Tryd.f18 = true := by kernel_rfl
theorem fn30 : fnOkB T 30 Tryd.f19 = true := by kernel_rfl
theorem fn31 : fnOkB T 31 Tryd.f41 = true := by kernel_rfl
theorem fn32 : fnOkB T 32 Tryd.f20 = true := by kernel_rfl
theorem fn33 : fnOkB T 33 Tryd.f96 = true := by kernel_rfl
theorem fn34 : fnOkB T 34 Tryd.f66 = true := by kernel_rfl
theorem fn35 : fnOkB T 35 Tryd.f75 = true := by kernel_rfl
theorem fn36 : fnOkB T 36 Tryd.f101 = true := by kernel_rfl
theorem fn37 : fnOkB T 37 Tryd.f99 = true := by kernel_rfl
theorem fn38 : fnOkB T 38 Tryd.f97 = true := by kernel_rfl
theorem fn39 : fnOkB T 39 Tryd.f98 = true := by kernel_rfl
theorem fn40 : fnOkB T 40 Tryd.f100 = true := by kernel_rfl
theorem fn41 : fnOkB T 41 Tryd.f67 = true := by kernel_rfl
theorem fn42 : fnOkB T 42 Tryd.f52 = true := by kernel_rfl
theorem fn43 : fnOkB T 43 Tryd.f6 = true := by kernel_rfl
theorem fn44 : fnOkB T 44 Tryd.f4 = true := by kernel_rfl
theorem fn45 : fnOkB T 45 Tryd.f10 = true := by kernel_rfl
theorem fn46 : fnOkB T 46 Tryd.f25 = true := by kernel_rfl
theorem fn47 : fnOkB T 47 Tryd.f26 = true := by kernel_rfl
theorem fn48 : fnOkB T 48 Tryd.f46 = true := by kernel_rfl
theorem fn49 : fnOkB T 49 Tryd.f27 = true := by kernel_rfl
theorem fn50 : fnOkB T 50 Tryd.f47 = true := by kernel_rfl
theorem fn51 : fnOkB T 51 Tryd.f28 = true := by kernel_rfl
theorem fn52 : fnOkB T 52 Tryd.f48 = true := by kernel_rfl
theorem fn53 : fnOkB T 53 Tryd.f11 = true := by kernel_rfl
theorem fn54 : fnOkB T 54 Tryd.f29 = true := by kernel_rfl
theorem fn55 : fnOkB T 55 Tryd.f8 = true := by kernel_rfl
theorem fn56 : fnOkB T 56 Tryd.f9 = true := by kernel_rfl
theorem fn57 : fnOkB T 57 Tryd.f21 = true := by kernel_rfl
theorem fn58 : fnOkB T 58 Tryd.f23 = true := by kernel_rfl
theorem fn59 : fnOkB T 59 Tryd.f24 = true := by kernel_rfl
theorem fn60 : fnOkB T 60 Tryd.f45 = true := by kernel_rfl
theorem fn61 : fnOkB T 61 Tryd.f58 = true := by kernel_rfl
theorem fn62 : fnOkB T 62 Tryd.f70 = true := by kernel_rfl
theorem fn63 : fnOkB T 63 Tryd.f59 = true := by kernel_rfl
theorem fn64 : fnOkB T 64 Tryd.f15 = true := by kernel_rfl
theorem fn65 : fnOkB T 65 Tryd.f32 = true := by kernel_rfl
theorem fn66 : fnOkB T 66 Tryd.f53 = true := by kernel_rfl
theorem fn67 : fnOkB T 67 Tryd.f34 = true := by kernel_rfl
theorem fn68 : fnOkB T 68 Tryd.f33 = true := by kernel_rfl
theorem fn69 : fnOkB T 69 Tryd.f35 = true := by kernel_rfl
theorem fn70 : fnOkB T 70 Tryd.f55 = true := by kernel_rfl
theorem fn71 : fnOkB T 71 Tryd.f36 = true := by kernel_rfl
theorem fn72 : fnOkB T 72 Tryd.f37 = true := by kernel_rfl
theorem fn73 : fnOkB T 73 Tryd.f14 = true := by kernel_rfl
theorem fn74 : fnOkB T 74 Tryd.f16 = true := by kernel_rfl
theorem fn75 : fnOkB T 75 Tryd.f13 = true := by kernel_rfl
theorem blk0 : blkOkB T 0 = true := by kernel_rfl
theorem blk1 : blkOkB T 1 = true := by kernel_rfl
theorem blk2 : blkOkB T 2 = true := by kernel_rfl
theorem blk3 : blkOkB T 3 = true := by kernel_rfl
theorem blk4 : blkOkB T 4 = true := by kernel_rfl
theorem blk5 : blkOkB T 5 = true := by kernel_rfl
theorem blk6 : blkOkB T 6 = true := by kernel_rfl
theorem blk7 : blkOkB T 7 = true := by kernel_rfl
theorem blk8 : blkOkB T 8 = true := by kernel_rfl
theorem blk9 : blkOkB T 9 = true := by kernel_rfl
theorem blk10 : blkOkB T 10 = true := by kernel_rfl
theorem blk11 : blkOkB T 11 = true := by kernel_rfl
theorem blk12 : blkOkB T 12 = true := by kernel_rfl
theorem blk13 : blkOkB T 13 = true := by kernel_rfl
theorem blk14 : blkOkB T 14 = true := by kernel_rfl
theorem blk15 : blkOkB T 15 = true := by kernel_rfl
theorem blk16 : blkOkB T 16 = true := by kernel_rfl
theorem blk17 : blkOkB T 17 = true := by kernel_rfl
theorem blk18 : blkOkB T 18 = true := by kernel_rfl
theorem blk19 : blkOkB T 19 = true := by kernel_rfl
theorem blk20 : blkOkB T 20 = true := by kernel_rfl
theorem blk21 : blkOkB T 21 = true := by kernel_rfl
theorem blk22 : blkOkB T 22 = true := by kernel_rfl
theorem blk23 : blkOkB T 23 = true := by kernel_rfl
theorem blk24 : blkOkB T 24 = true := by kernel_rfl
theorem blk25 : blkOkB T 25 = true := by kernel_rfl
theorem blk26 : blkOkB T 26 = true := by kernel_rfl
theorem blk27 : blkOkB T 27 = true := by kernel_rfl
theorem blk28 : blkOkB T 28 = true := by kernel_rfl
theorem blk29 : blkOkB T 29 = true := by kernel_rfl
theorem blk30 : blkOkB T 30 = true := by kernel_rfl
theorem blk31 : blkOkB T 31 = true := by kernel_rfl
theorem blk32 : blkOkB T 32 = true := by kernel_rfl
theorem blk33 : blkOkB T 33 = true := by kernel_rfl
theorem blk34 : blkOkB T 34 = true := by kernel_rfl
theorem blk35 : blkOkB T 35 = true := by kernel_rfl
theorem blk36 : blkOkB T 36 = true := by kernel_rfl
theorem blk37 : blkOkB T 37 = true := by kernel_rfl
theorem blk38 : blkOkB T 38 = true := by kernel_rfl
theorem blk39 : blkOkB T 39 = true := by kernel_rfl
theorem blk40 : blkOkB T 40 = true := by kernel_rfl
theorem blk41 : blkOkB T 41 = true := by kernel_rfl
theorem blk42 : blkOkB T 42 = true := by kernel_rfl
theorem blk43 : blkOkB T 43 = true := by kernel_rfl
theorem blk44 : blkOkB T 44 = true := by kernel_rfl
theorem blk45 : blkOkB T 45 = true := by kernel_rfl
theorem blk46 : blkOkB T 46 = true := by kernel_rfl
theorem blk47 : blkOkB T 47 = true := by kernel_rfl
theorem blk48 : blkOkB T 48 = true := by kernel_rfl
theorem blk49 : blkOkB T 49 = true := by kernel_rfl
theorem blk50 : blkOkB T 50 = true := by kernel_rfl
theorem blk51 : blkOkB T 51 = true := by kernel_rfl
theorem blk52 : blkOkB T 52 = true := by kernel_rfl
theorem blk53 : blkOkB T 53 = true := by kernel_rfl
theorem blk54 : blkOkB T 54 = true := by kernel_rfl
theorem blk55 : blkOkB T 55 = true := by kernel_rfl
theorem blks : (List.range tabs.placeL.length).all (blkOkB T) = true := by
  rw [place_len]
  simp [List.range, List.range.loop, blk0, blk1, blk2, blk3, blk4, blk5, blk6, blk7, blk8, blk9, blk10, blk11, blk12, blk13, blk14, blk15, blk16, blk17, blk18, blk19, blk20, blk21, blk22, blk23, blk24, blk25, blk26, blk27, blk28, blk29, blk30, blk31, blk32, blk33, blk34, blk35, blk36, blk37, blk38, blk39, blk40, blk41, blk42, blk43, blk44, blk45, blk46, blk47, blk48, blk49, blk50, blk51, blk52, blk53, blk54, blk55]
theorem fns : FnsOk Tryd.prog T 0 tabs.fnL :=
  ⟨fn_ok Tryd.func3 fn0, ⟨fn_ok Tryd.func5 fn1, ⟨fn_ok Tryd.func12 fn2, ⟨fn_ok Tryd.func30 fn3, ⟨fn_ok Tryd.func49 fn4, ⟨fn_ok Tryd.func60 fn5, ⟨fn_ok Tryd.func61 fn6, ⟨fn_ok Tryd.func62 fn7, ⟨fn_ok Tryd.func63 fn8, ⟨fn_ok Tryd.func71 fn9, ⟨fn_ok Tryd.func80 fn10, ⟨fn_ok Tryd.func72 fn11, ⟨fn_ok Tryd.func64 fn12, ⟨fn_ok Tryd.func73 fn13, ⟨fn_ok Tryd.func31 fn14, ⟨fn_ok Tryd.func50 fn15, ⟨fn_ok Tryd.func65 fn16, ⟨fn_ok Tryd.func74 fn17, ⟨fn_ok Tryd.func81 fn18, ⟨fn_ok Tryd.func87 fn19, ⟨fn_ok Tryd.func90 fn20, ⟨fn_ok Tryd.func91 fn21, ⟨fn_ok Tryd.func92 fn22, ⟨fn_ok Tryd.func93 fn23, ⟨fn_ok Tryd.func94 fn24, ⟨fn_ok Tryd.func51 fn25, ⟨fn_ok Tryd.func95 fn26, ⟨fn_ok Tryd.func7 fn27, ⟨fn_ok Tryd.func17 fn28, ⟨fn_ok Tryd.func18 fn29, ⟨fn_ok Tryd.func19 fn30, ⟨fn_ok Tryd.func41 fn31, ⟨fn_ok Tryd.func20 fn32, ⟨fn_ok Tryd.func96 fn33, ⟨fn_ok Tryd.func66 fn34, ⟨fn_ok Tryd.func75 fn35, ⟨fn_ok Tryd.func101 fn36, ⟨fn_ok Tryd.func99 fn37, ⟨fn_ok Tryd.func97 fn38, ⟨fn_ok Tryd.func98 fn39, ⟨fn_ok Tryd.func100 fn40, ⟨fn_ok Tryd.func67 fn41, ⟨fn_ok Tryd.func52 fn42, ⟨fn_ok Tryd.func6 fn43, ⟨fn_ok Tryd.func4 fn44, ⟨fn_ok Tryd.func10 fn45, ⟨fn_ok Tryd.func25 fn46, ⟨fn_ok Tryd.func26 fn47, ⟨fn_ok Tryd.func46 fn48, ⟨fn_ok Tryd.func27 fn49, ⟨fn_ok Tryd.func47 fn50, ⟨fn_ok Tryd.func28 fn51, ⟨fn_ok Tryd.func48 fn52, ⟨fn_ok Tryd.func11 fn53, ⟨fn_ok Tryd.func29 fn54, ⟨fn_ok Tryd.func8 fn55, ⟨fn_ok Tryd.func9 fn56, ⟨fn_ok Tryd.func21 fn57, ⟨fn_ok Tryd.func23 fn58, ⟨fn_ok Tryd.func24 fn59, ⟨fn_ok Tryd.func45 fn60, ⟨fn_ok Tryd.func58 fn61, ⟨fn_ok Tryd.func70 fn62, ⟨fn_ok Tryd.func59 fn63, ⟨fn_ok Tryd.func15 fn64, ⟨fn_ok Tryd.func32 fn65, ⟨fn_ok Tryd.func53 fn66, ⟨fn_ok Tryd.func34 fn67, ⟨fn_ok Tryd.func33 fn68, ⟨fn_ok Tryd.func35 fn69, ⟨fn_ok Tryd.func55 fn70, ⟨fn_ok Tryd.func36 fn71, ⟨fn_ok Tryd.func37 fn72, ⟨fn_ok Tryd.func14 fn73, ⟨fn_ok Tryd.func16 fn74, ⟨fn_ok Tryd.func13 fn75, trivial⟩⟩⟩⟩⟩⟩⟩⟩⟩⟩⟩⟩⟩⟩⟩⟩⟩⟩⟩⟩⟩⟩⟩⟩⟩⟩⟩⟩⟩⟩⟩⟩⟩⟩⟩⟩⟩⟩⟩⟩⟩⟩⟩⟩⟩⟩⟩⟩⟩⟩⟩⟩⟩⟩⟩⟩⟩⟩⟩⟩⟩⟩⟩⟩⟩⟩⟩⟩⟩⟩⟩⟩⟩⟩⟩⟩
theorem ok (hx : ExtOk Tryd.prog T) : T.Ok Tryd.prog :=
  Tabs.ok tabs (by kernel_rfl) (by kernel_rfl) (by kernel_rfl) (by kernel_rfl) fns blks hx (by kernel_rfl) (pkgG_mono _ _ _) (fun _ _ h => h.1)
theorem ext_of (h57 : ExtAt Tryd.prog T 57) (h67 : ExtAt Tryd.prog T 67) (h74 : ExtAt Tryd.prog T 74) : ExtOk Tryd.prog T := fun φ => match φ with
  | 0 => fun _ _ _ h => by cases h
  | 1 => fun _ _ _ h => by cases h
  | 2 => fun _ _ _ h => by cases h
  | 3 => fun _ _ _ h => by cases h
  | 4 => fun _ _ _ h => by cases h
  | 5 => fun _ _ _ h => by cases h
  | 6 => fun _ _ _ h => by cases h
  | 7 => fun _ _ _ h => by cases h
  | 8 => fun _ _ _ h => by cases h
  | 9 => fun _ _ _ h => by cases h
  | 10 => fun _ _ _ h => by cases h
  | 11 => fun _ _ _ h => by cases h
  | 12 => fun _ _ _ h => by cases h
  | 13 => fun _ _ _ h => by cases h
  | 14 => fun _ _ _ h => by cases h
  | 15 => fun _ _ _ h => by cases h
  | 16 => fun _ _ _ h => by cases h
  | 17 => fun _ _ _ h => by cases h
  | 18 => fun _ _ _ h => by cases h
  | 19 => fun _ _ _ h => by cases h
  | 20 => fun _ _ _ h => by cases h
  | 21 => fun _ _ _ h => by cases h
  | 22 => fun _ _ _ h => by cases h
  | 23 => fun _ _ _ h => by cases h
  | 24 => fun _ _ _ h => by cases h
  | 25 => fun _ _ _ h => by cases h
  | 26 => fun _ _ _ h => by cases h
  | 27 => fun _ _ _ h => by cases h
  | 28 => fun _ _ _ h => by cases h
  | 29 => fun _ _ _ h => by cases h
  | 30 => fun _ _ _ h => by cases h
  | 31 => fun _ _ _ h => by cases h
  | 32 => fun _ _ _ h => by cases h
  | 33 => fun _ _ _ h => by cases h
  | 34 => fun _ _ _ h => by cases h
  | 35 => fun _ _ _ h => by cases h
  | 36 => fun _ _ _ h => by cases h
  | 37 => fun _ _ _ h => by cases h
  | 38 => fun _ _ _ h => by cases h
  | 39 => fun _ _ _ h => by cases h
  | 40 => fun _ _ _ h => by cases h
  | 41 => fun _ _ _ h => by cases h
  | 42 => fun _ _ _ h => by cases h
  | 43 => fun _ _ _ h => by cases h
  | 44 => fun _ _ _ h => by cases h
  | 45 => fun _ _ _ h => by cases h
  | 46 => fun _ _ _ h => by cases h
  | 47 => fun _ _ _ h => by cases h
  | 48 => fun _ _ _ h => by cases h
  | 49 => fun _ _ _ h => by cases h
  | 50 => fun _ _ _ h => by cases h
  | 51 => fun _ _ _ h => by cases h
  | 52 => fun _ _ _ h => by cases h
  | 53 => fun _ _ _ h => by cases h
  | 54 => fun _ _ _ h => by cases h
  | 55 => fun _ _ _ h => by cases h
  | 56 => fun _ _ _ h => by cases h
  | 57 => fun d y _ h => h57 d y h
  | 58 => fun _ _ _ h => by cases h
  | 59 => fun _ _ _ h => by cases h
  | 60 => fun _ _ _ h => by cases h
  | 61 => fun _ _ _ h => by cases h
  | 62 => fun _ _ _ h => by cases h
  | 63 => fun _ _ _ h => by cases h
  | 64 => fun _ _ _ h => by cases h
  | 65 => fun _ _ _ h => by cases h
  | 66 => fun _ _ _ h => by cases h
  | 67 => fun d y _ h => h67 d y h
  | 68 => fun _ _ _ h => by cases h
  | 69 => fun _ _ _ h => by cases h
  | 70 => fun _ _ _ h => by cases h
  | 71 => fun _ _ _ h => by cases h
  | 72 => fun _ _ _ h => by cases h
  | 73 => fun _ _ _ h => by cases h
  | 74 => fun d y _ h => h74 d y h
  | n + 75 => fun _ _ _ h => by cases h
end Go.Proofs.YtoippcahbninnaaDoor.R
