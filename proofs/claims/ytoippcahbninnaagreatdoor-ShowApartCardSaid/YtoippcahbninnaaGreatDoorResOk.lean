/-
  OUR OWN, PRINTED BY A PROGRAM OF OURS (table2.py): the table fits the program.
-/
import Derived.Test.YtoippcahbninnaaGreatDoorRes
import Derived.KernelRfl
namespace Go.Proofs.YtoippcahbninnaaGreatDoor.R
open Go Go.Bm Go.Proofs
set_option linter.unusedVariables false
set_option maxRecDepth 100000

theorem fn0 : fnOkB T 0 Tryz.f3 = true := by kernel_rfl
theorem fn1 : fnOkB T 1 Tryz.f8 = true := by kernel_rfl
theorem fn2 : fnOkB T 2 Tryz.f17 = true := by kernel_rfl
theorem fn3 : fnOkB T 3 Tryz.f30 = true := by kernel_rfl
theorem fn4 : fnOkB T 4 Tryz.f62 = true := by kernel_rfl
theorem fn5 : fnOkB T 5 Tryz.f60 = true := by kernel_rfl
theorem fn6 : fnOkB T 6 Tryz.f77 = true := by kernel_rfl
theorem fn7 : fnOkB T 7 Tryz.f58 = true := by kernel_rfl
theorem fn8 : fnOkB T 8 Tryz.f78 = true := by kernel_rfl
theorem fn9 : fnOkB T 9 Tryz.f59 = true := by kernel_rfl
theorem fn10 : fnOkB T 10 Tryz.f76 = true := by kernel_rfl
theorem fn11 : fnOkB T 11 Tryz.f28 = true := by kernel_rfl
theorem fn12 : fnOkB T 12 Tryz.f79 = true := by kernel_rfl
theorem fn13 : fnOkB T 13 Tryz.f89 = true := by kernel_rfl
theorem fn14 : fnOkB T 14 Tryz.f31 = true := by kernel_rfl
theorem fn15 : fnOkB T 15 Tryz.f63 = true := by kernel_rfl
theorem fn16 : fnOkB T 16 Tryz.f80 = true := by kernel_rfl
theorem fn17 : fnOkB T 17 Tryz.f90 = true := by kernel_rfl
theorem fn18 : fnOkB T 18 Tryz.f98 = true := by kernel_rfl
theorem fn19 : fnOkB T 19 Tryz.f106 = true := by kernel_rfl
theorem fn20 : fnOkB T 20 Tryz.f110 = true := by kernel_rfl
theorem fn21 : fnOkB T 21 Tryz.f111 = true := by kernel_rfl
theorem fn22 : fnOkB T 22 Tryz.f112 = true := by kernel_rfl
theorem fn23 : fnOkB T 23 Tryz.f113 = true := by kernel_rfl
theorem fn24 : fnOkB T 24 Tryz.f114 = true := by kernel_rfl
theorem fn25 : fnOkB T 25 Tryz.f64 = true := by kernel_rfl
theorem fn26 : fnOkB T 26 Tryz.f115 = true := by kernel_rfl
theorem fn27 : fnOkB T 27 Tryz.f92 = true := by kernel_rfl
theorem fn28 : fnOkB T 28 Tryz.f99 = true := by kernel_rfl
theorem fn29 : fnOkB T 29 Tryz.f35 = true := by kernel_rfl
theorem fn30 : fnOkB T 30 Tryz.f100 = true := by kernel_rfl
theorem fn31 : fnOkB T 31 Tryz.f107 = true := by kernel_rfl
theorem fn32 : fnOkB T 32 Tryz.f83 = true := by kernel_rfl
theorem fn33 : fnOkB T 33 Tryz.f116 = true := by kernel_rfl
theorem fn34 : fnOkB T 34 Tryz.f81 = true := by kernel_rfl
theorem fn35 : fnOkB T 35 Tryz.f91 = true := by kernel_rfl
theorem fn36 : fnOkB T 36 Tryz.f121 = true := by kernel_rfl
theorem fn37 : fnOkB T 37 Tryz.f119 = true := by kernel_rfl
theorem fn38 : fnOkB T 38 Tryz.f117 = true := by kernel_rfl
theorem fn39 : fnOkB T 39 Tryz.f118 = true := by kernel_rfl
theorem fn40 : fnOkB T 40 Tryz.f120 = true := by kernel_rfl
theorem fn41 : fnOkB T 41 Tryz.f82 = true := by kernel_rfl
theorem fn42 : fnOkB T 42 Tryz.f37 = true := by kernel_rfl
theorem fn43 : fnOkB T 43 Tryz.f9 = true := by kernel_rfl
theorem fn44 : fnOkB T 44 Tryz.f11 = true := by kernel_rfl
theorem fn45 : fnOkB T 45 Tryz.f26 = true := by kernel_rfl
theorem fn46 : fnOkB T 46 Tryz.f53 = true := by kernel_rfl
theorem fn47 : fnOkB T 47 Tryz.f54 = true := by kernel_rfl
theorem fn48 : fnOkB T 48 Tryz.f73 = true := by kernel_rfl
theorem fn49 : fnOkB T 49 Tryz.f55 = true := by kernel_rfl
theorem fn50 : fnOkB T 50 Tryz.f74 = true := by kernel_rfl
theorem fn51 : fnOkB T 51 Tryz.f56 = true := by kernel_rfl
theorem fn52 : fnOkB T 52 Tryz.f75 = true := by kernel_rfl
theorem fn53 : fnOkB T 53 Tryz.f27 = true := by kernel_rfl
theorem fn54 : fnOkB T 54 Tryz.f57 = true := by kernel_rfl
theorem fn55 : fnOkB T 55 Tryz.f24 = true := by kernel_rfl
theorem fn56 : fnOkB T 56 Tryz.f25 = true := by kernel_rfl
theorem fn57 : fnOkB T 57 Tryz.f49 = true := by kernel_rfl
theorem fn58 : fnOkB T 58 Tryz.f51 = true := by kernel_rfl
theorem fn59 : fnOkB T 59 Tryz.f52 = true := by kernel_rfl
theorem fn60 : fnOkB T 60 Tryz.f72 = true := by kernel_rfl
theorem fn61 : fnOkB T 61 Tryz.f87 = true := by kernel_rfl
theorem fn62 : fnOkB T 62 Tryz.f97 = true := by kernel_rfl
theorem fn63 : fnOkB T 63 Tryz.f88 = true := by kernel_rfl
theorem fn64 : fnOkB T 64 Tryz.f21 = true := by kernel_rfl
theorem fn65 : fnOkB T 65 Tryz.f29 = true := by kernel_rfl
theorem fn66 : fnOkB T 66 Tryz.f61 = true := by kernel_rfl
theorem fn67 : fnOkB T 67 Tryz.f39 = true := by kernel_rfl
theorem fn68 : fnOkB T 68 Tryz.f38 = true := by kernel_rfl
theorem fn69 : fnOkB T 69 Tryz.f40 = true := by kernel_rfl
theorem fn70 : fnOkB T 70 Tryz.f67 = true := by kernel_rfl
theorem fn71 : fnOkB T 71 Tryz.f41 = true := by kernel_rfl
theorem fn72 : fnOkB T 72 Tryz.f42 = true := by kernel_rfl
theorem fn73 : fnOkB T 73 Tryz.f15 = true := by kernel_rfl
theorem fn74 : fnOkB T 74 Tryz.f22 = true := by kernel_rfl
theorem fn75 : fnOkB T 75 Tryz.f13 = true := by kernel_rfl
theorem fn76 : fnOkB T 76 Tryz.f10 = true := by kernel_rfl
theorem fn77 : fnOkB T 77 Tryz.f12 = true := by kernel_rfl
theorem fn78 : fnOkB T 78 Tryz.f20 = true := by kernel_rfl
theorem fn79 : fnOkB T 79 Tryz.f33 = true := by kernel_rfl
theorem fn80 : fnOkB T 80 Tryz.f34 = true := by kernel_rfl
theorem fn81 : fnOkB T 81 Tryz.f36 = true := by kernel_rfl
theorem fn82 : fnOkB T 82 Tryz.f23 = true := by kernel_rfl
theorem fn83 : fnOkB T 83 Tryz.f46 = true := by kernel_rfl
theorem fn84 : fnOkB T 84 Tryz.f47 = true := by kernel_rfl
theorem fn85 : fnOkB T 85 Tryz.f48 = true := by kernel_rfl
theorem fn86 : fnOkB T 86 Tryz.f16 = true := by kernel_rfl
theorem fn87 : fnOkB T 87 Tryz.f14 = true := by kernel_rfl
theorem fn88 : fnOkB T 88 Tryz.f4 = true := by kernel_rfl
theorem fn89 : fnOkB T 89 Tryz.f19 = true := by kernel_rfl
theorem fn90 : fnOkB T 90 Tryz.f32 = true := by kernel_rfl
theorem fn91 : fnOkB T 91 Tryz.f65 = true := by kernel_rfl
theorem fn92 : fnOkB T 92 Tryz.f18 = true := by kernel_rfl
theorem fn93 : fnOkB T 93 Tryz.f5 = true := by kernel_rfl
theorem fn94 : fnOkB T 94 Tryz.f6 = true := by kernel_rfl
theorem fn95 : fnOkB T 95 Tryz.f7 = true := by kernel_rfl
theorem blk0 : blkOkB T 0 = true := by kernel_rfl
theorem blk1 : blkOkB T 1 = true := by kernel_rfl
theorem blk2 : blkOkB T 2 = true := by kernel_rfl
theorem blk3 : blkOkB T 3 = true := by kernel_rfl
theorem blk4 : blkOkB T 4 = true := by kernel_rfl
theorem blk5 : blkOkB T 5 = true := by kernel_rfl
theorem blk6 : blkOkB T 6 = true := by kernel_rfl
theorem blk7 : blkOkB T 7 = true := by kernel_rfl
theorem blk8 : blkOkB T 8 = true := by kernel_rfl
theorem blk9 : blkOkB T 9 = true := by kernel_rfl
theorem blk10 : blkOkB T 10 = true := by kernel_rfl
theorem blk11 : blkOkB T 11 = true := by kernel_rfl
theorem blk12 : blkOkB T 12 = true := by kernel_rfl
theorem blk13 : blkOkB T 13 = true := by kernel_rfl
theorem blk14 : blkOkB T 14 = true := by kernel_rfl
theorem blk15 : blkOkB T 15 = true := by kernel_rfl
theorem blk16 : blkOkB T 16 = true := by kernel_rfl
theorem blk17 : blkOkB T 17 = true := by kernel_rfl
theorem blk18 : blkOkB T 18 = true := by kernel_rfl
theorem blk19 : blkOkB T 19 = true := by kernel_rfl
theorem blk20 : blkOkB T 20 = true := by kernel_rfl
theorem blk21 : blkOkB T 21 = true := by kernel_rfl
theorem blk22 : blkOkB T 22 = true := by kernel_rfl
theorem blk23 : blkOkB T 23 = true := by kernel_rfl
theorem blk24 : blkOkB T 24 = true := by kernel_rfl
theorem blk25 : blkOkB T 25 = true := by kernel_rfl
theorem blk26 : blkOkB T 26 = true := by kernel_rfl
theorem blk27 : blkOkB T 27 = true := by kernel_rfl
theorem blk28 : blkOkB T 28 = true := by kernel_rfl
theorem blk29 : blkOkB T 29 = true := by kernel_rfl
theorem blk30 : blkOkB T 30 = true := by kernel_rfl
theorem blk31 : blkOkB T 31 = true := by kernel_rfl
theorem blk32 : blkOkB T 32 = true := by kernel_rfl
theorem blk33 : blkOkB T 33 = true := by kernel_rfl
theorem blk34 : blkOkB T 34 = true := by kernel_rfl
theorem blk35 : blkOkB T 35 = true := by kernel_rfl
theorem blk36 : blkOkB T 36 = true := by kernel_rfl
theorem blk37 : blkOkB T 37 = true := by kernel_rfl
theorem blk38 : blkOkB T 38 = true := by kernel_rfl
theorem blk39 : blkOkB T 39 = true := by kernel_rfl
theorem blk40 : blkOkB T 40 = true := by kernel_rfl
theorem blk41 : blkOkB T 41 = true := by kernel_rfl
theorem blk42 : blkOkB T 42 = true := by kernel_rfl
theorem blk43 : blkOkB T 43 = true := by kernel_rfl
theorem blk44 : blkOkB T 44 = true := by kernel_rfl
theorem blk45 : blkOkB T 45 = true := by kernel_rfl
theorem blk46 : blkOkB T 46 = true := by kernel_rfl
theorem blk47 : blkOkB T 47 = true := by kernel_rfl
theorem blk48 : blkOkB T 48 = true := by kernel_rfl
theorem blk49 : blkOkB T 49 = true := by kernel_rfl
theorem blk50 : blkOkB T 50 = true := by kernel_rfl
theorem blk51 : blkOkB T 51 = true := by kernel_rfl
theorem blk52 : blkOkB T 52 = true := by kernel_rfl
theorem blk53 : blkOkB T 53 = true := by kernel_rfl
theorem blk54 : blkOkB T 54 = true := by kernel_rfl
theorem blk55 : blkOkB T 55 = true := by kernel_rfl
theorem blk56 : blkOkB T 56 = true := by kernel_rfl
theorem blk57 : blkOkB T 57 = true := by kernel_rfl
theorem blk58 : blkOkB T 58 = true := by kernel_rfl
theorem blk59 : blkOkB T 59 = true := by kernel_rfl
theorem blk60 : blkOkB T 60 = true := by kernel_rfl
theorem blk61 : blkOkB T 61 = true := by kernel_rfl
theorem blk62 : blkOkB T 62 = true := by kernel_rfl
theorem blk63 : blkOkB T 63 = true := by kernel_rfl
theorem blk64 : blkOkB T 64 = true := by kernel_rfl
theorem blk65 : blkOkB T 65 = true := by kernel_rfl
theorem blks : (List.range tabs.placeL.length).all (blkOkB T) = true := by
  rw [place_len]
  simp [List.range, List.range.loop, blk0, blk1, blk2, blk3, blk4, blk5, blk6, blk7, blk8, blk9, blk10, blk11, blk12, blk13, blk14, blk15, blk16, blk17, blk18, blk19, blk20, blk21, blk22, blk23, blk24, blk25, blk26, blk27, blk28, blk29, blk30, blk31, blk32, blk33, blk34, blk35, blk36, blk37, blk38, blk39, blk40, blk41, blk42, blk43, blk44, blk45, blk46, blk47, blk48, blk49, blk50, blk51, blk52, blk53, blk54, blk55, blk56, blk57, blk58, blk59, blk60, blk61, blk62, blk63, blk64, blk65]
theorem fns : FnsOk Tryz.prog T 0 tabs.fnL :=
  ⟨fn_ok Tryz.func3 fn0, ⟨fn_ok Tryz.func8 fn1, ⟨fn_ok Tryz.func17 fn2, ⟨fn_ok Tryz.func30 fn3, ⟨fn_ok Tryz.func62 fn4, ⟨fn_ok Tryz.func60 fn5, ⟨fn_ok Tryz.func77 fn6, ⟨fn_ok Tryz.func58 fn7, ⟨fn_ok Tryz.func78 fn8, ⟨fn_ok Tryz.func59 fn9, ⟨fn_ok Tryz.func76 fn10, ⟨fn_ok Tryz.func28 fn11, ⟨fn_ok Tryz.func79 fn12, ⟨fn_ok Tryz.func89 fn13, ⟨fn_ok Tryz.func31 fn14, ⟨fn_ok Tryz.func63 fn15, ⟨fn_ok Tryz.func80 fn16, ⟨fn_ok Tryz.func90 fn17, ⟨fn_ok Tryz.func98 fn18, ⟨fn_ok Tryz.func106 fn19, ⟨fn_ok Tryz.func110 fn20, ⟨fn_ok Tryz.func111 fn21, ⟨fn_ok Tryz.func112 fn22, ⟨fn_ok Tryz.func113 fn23, ⟨fn_ok Tryz.func114 fn24, ⟨fn_ok Tryz.func64 fn25, ⟨fn_ok Tryz.func115 fn26, ⟨fn_ok Tryz.func92 fn27, ⟨fn_ok Tryz.func99 fn28, ⟨fn_ok Tryz.func35 fn29, ⟨fn_ok Tryz.func100 fn30, ⟨fn_ok Tryz.func107 fn31, ⟨fn_ok Tryz.func83 fn32, ⟨fn_ok Tryz.func116 fn33, ⟨fn_ok Tryz.func81 fn34, ⟨fn_ok Tryz.func91 fn35, ⟨fn_ok Tryz.func121 fn36, ⟨fn_ok Tryz.func119 fn37, ⟨fn_ok Tryz.func117 fn38, ⟨fn_ok Tryz.func118 fn39, ⟨fn_ok Tryz.func120 fn40, ⟨fn_ok Tryz.func82 fn41, ⟨fn_ok Tryz.func37 fn42, ⟨fn_ok Tryz.func9 fn43, ⟨fn_ok Tryz.func11 fn44, ⟨fn_ok Tryz.func26 fn45, ⟨fn_ok Tryz.func53 fn46, ⟨fn_ok Tryz.func54 fn47, ⟨fn_ok Tryz.func73 fn48, ⟨fn_ok Tryz.func55 fn49, ⟨fn_ok Tryz.func74 fn50, ⟨fn_ok Tryz.func56 fn51, ⟨fn_ok Tryz.func75 fn52, ⟨fn_ok Tryz.func27 fn53, ⟨fn_ok Tryz.func57 fn54, ⟨fn_ok Tryz.func24 fn55, ⟨fn_ok Tryz.func25 fn56, ⟨fn_ok Tryz.func49 fn57, ⟨fn_ok Tryz.func51 fn58, ⟨fn_ok Tryz.func52 fn59, ⟨fn_ok Tryz.func72 fn60, ⟨fn_ok Tryz.func87 fn61, ⟨fn_ok Tryz.func97 fn62, ⟨fn_ok Tryz.func88 fn63, ⟨fn_ok Tryz.func21 fn64, ⟨fn_ok Tryz.func29 fn65, ⟨fn_ok Tryz.func61 fn66, ⟨fn_ok Tryz.func39 fn67, ⟨fn_ok Tryz.func38 fn68, ⟨fn_ok Tryz.func40 fn69, ⟨fn_ok Tryz.func67 fn70, ⟨fn_ok Tryz.func41 fn71, ⟨fn_ok Tryz.func42 fn72, ⟨fn_ok Tryz.func15 fn73, ⟨fn_ok Tryz.func22 fn74, ⟨fn_ok Tryz.func13 fn75, ⟨fn_ok Tryz.func10 fn76, ⟨fn_ok Tryz.func12 fn77, ⟨fn_ok Tryz.func20 fn78, ⟨fn_ok Tryz.func33 fn79, ⟨fn_ok Tryz.func34 fn80, ⟨fn_ok Tryz.func36 fn81, ⟨fn_ok Tryz.func23 fn82, ⟨fn_ok Tryz.func46 fn83, ⟨fn_ok Tryz.func47 fn84, ⟨fn_ok Tryz.func48 fn85, ⟨fn_ok Tryz.func16 fn86, ⟨fn_ok Tryz.func14 fn87, ⟨fn_ok Tryz.func4 fn88, ⟨fn_ok Tryz.func19 fn89, ⟨fn_ok Tryz.func32 fn90, ⟨fn_ok Tryz.func65 fn91, ⟨fn_ok Tryz.func18 fn92, ⟨fn_ok Tryz.func5 fn93, ⟨fn_ok Tryz.func6 fn94, ⟨fn_ok Tryz.func7 fn95, trivial⟩⟩⟩⟩⟩⟩⟩⟩⟩⟩⟩⟩⟩⟩⟩⟩⟩⟩⟩⟩⟩⟩⟩⟩⟩⟩⟩⟩⟩⟩⟩⟩⟩⟩⟩⟩⟩⟩⟩⟩⟩⟩⟩⟩⟩⟩⟩⟩⟩⟩⟩⟩⟩⟩⟩⟩⟩⟩⟩⟩⟩⟩⟩⟩⟩⟩⟩⟩⟩⟩⟩⟩⟩⟩⟩⟩⟩⟩⟩⟩⟩⟩⟩⟩⟩⟩⟩⟩⟩⟩⟩⟩⟩⟩⟩⟩
theorem ok (hx : ExtOk Tryz.prog T) : T.Ok Tryz.prog :=
  Tabs.ok tabs (by kernel_rfl) (by kernel_rfl) (by kernel_rfl) (by kernel_rfl) fns blks hx (by kernel_rfl) (pkgG_mono _ _ _) (fun _ _ h => h.1)
theorem ext_of (h57 : ExtAt Tryz.prog T 57) (h67 : ExtAt Tryz.prog T 67) (h74 : ExtAt Tryz.prog T 74) : ExtOk Tryz.prog T := fun φ => match φ with
  | 0 => fun _ _ _ h => by cases h
  | 1 => fun _ _ _ h => by cases h
  | 2 => fun _ _ _ h => by cases h
  | 3 => fun _ _ _ h => by cases h
  | 4 => fun _ _ _ h => by cases h
  | 5 => fun _ _ _ h => by cases h
  | 6 => fun _ _ _ h => by cases h
  | 7 => fun _ _ _ h => by cases h
  | 8 => fun _ _ _ h => by cases h
  | 9 => fun _ _ _ h => by cases h
  | 10 => fun _ _ _ h => by cases h
  | 11 => fun _ _ _ h => by cases h
  | 12 => fun _ _ _ h => by cases h
  | 13 => fun _ _ _ h => by cases h
  | 14 => fun _ _ _ h => by cases h
  | 15 => fun _ _ _ h => by cases h
  | 16 => fun _ _ _ h => by cases h
  | 17 => fun _ _ _ h => by cases h
  | 18 => fun _ _ _ h => by cases h
  | 19 => fun _ _ _ h => by cases h
  | 20 => fun _ _ _ h => by cases h
  | 21 => fun _ _ _ h => by cases h
  | 22 => fun _ _ _ h => by cases h
  | 23 => fun _ _ _ h => by cases h
  | 24 => fun _ _ _ h => by cases h
  | 25 => fun _ _ _ h => by cases h
  | 26 => fun _ _ _ h => by cases h
  | 27 => fun _ _ _ h => by cases h
  | 28 => fun _ _ _ h => by cases h
  | 29 => fun _ _ _ h => by cases h
  | 30 => fun _ _ _ h => by cases h
  | 31 => fun _ _ _ h => by cases h
  | 32 => fun _ _ _ h => by cases h
  | 33 => fun _ _ _ h => by cases h
  | 34 => fun _ _ _ h => by cases h
  | 35 => fun _ _ _ h => by cases h
  | 36 => fun _ _ _ h => by cases h
  | 37 => fun _ _ _ h => by cases h
  | 38 => fun _ _ _ h => by cases h
  | 39 => fun _ _ _ h => by cases h
  | 40 => fun _ _ _ h => by cases h
  | 41 => fun _ _ _ h => by cases h
  | 42 => fun _ _ _ h => by cases h
  | 43 => fun _ _ _ h => by cases h
  | 44 => fun _ _ _ h => by cases h
  | 45 => fun _ _ _ h => by cases h
  | 46 => fun _ _ _ h => by cases h
  | 47 => fun _ _ _ h => by cases h
  | 48 => fun _ _ _ h => by cases h
  | 49 => fun _ _ _ h => by cases h
  | 50 => fun _ _ _ h => by cases h
  | 51 => fun _ _ _ h => by cases h
  | 52 => fun _ _ _ h => by cases h
  | 53 => fun _ _ _ h => by cases h
  | 54 => fun _ _ _ h => by cases h
  | 55 => fun _ _ _ h => by cases h
  | 56 => fun _ _ _ h => by cases h
  | 57 => fun d y _ h => h57 d y h
  | 58 => fun _ _ _ h => by cases h
  | 59 => fun _ _ _ h => by cases h
  | 60 => fun _ _ _ h => by cases h
  | 61 => fun _ _ _ h => by cases h
  | 62 => fun _ _ _ h => by cases h
  | 63 => fun _ _ _ h => by cases h
  | 64 => fun _ _ _ h => by cases h
  | 65 => fun _ _ _ h => by cases h
  | 66 => fun _ _ _ h => by cases h
  | 67 => fun d y _ h => h67 d y h
  | 68 => fun _ _ _ h => by cases h
  | 69 => fun _ _ _ h => by cases h
  | 70 => fun _ _ _ h => by cases h
  | 71 => fun _ _ _ h => by cases h
  | 72 => fun _ _ _ h => by cases h
  | 73 => fun _ _ _ h => by cases h
  | 74 => fun d y _ h => h74 d y h
  | n + 75 => fun _ _ _ h => by cases h
end Go.Proofs.YtoippcahbninnaaGreatDoor.R
