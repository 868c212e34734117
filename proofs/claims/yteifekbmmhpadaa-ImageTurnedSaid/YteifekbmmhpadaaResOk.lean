/-
  OUR OWN, PRINTED BY A PROGRAM OF OURS (table2.py): the table fits the program.
-/
import Derived.Test.YteifekbmmhpadaaRes
import Derived.KernelRfl
namespace Go.Proofs.Yteifekbmmhpadaa.R
open Go Go.Bm Go.Proofs
set_option maxRecDepth 100000

theorem fn0 : fnOkB T 0 Try.f3 = true := by kernel_rfl
theorem fn1 : fnOkB T 1 Try.f6 = true := by kernel_rfl
theorem fn2 : fnOkB T 2 Try.f7 = true := by kernel_rfl
theorem fn3 : fnOkB T 3 Try.f8 = true := by kernel_rfl
theorem fn4 : fnOkB T 4 Try.f14 = true := by kernel_rfl
theorem fn5 : fnOkB T 5 Try.f29 = true := by kernel_rfl
theorem fn6 : fnOkB T 6 Try.f30 = true := by kernel_rfl
theorem fn7 : fnOkB T 7 Try.f33 = true := by kernel_rfl
theorem fn8 : fnOkB T 8 Try.f40 = true := by kernel_rfl
theorem fn9 : fnOkB T 9 Try.f31 = true := by kernel_rfl
theorem fn10 : fnOkB T 10 Try.f41 = true := by kernel_rfl
theorem fn11 : fnOkB T 11 Try.f32 = true := by kernel_rfl
theorem fn12 : fnOkB T 12 Try.f15 = true := by kernel_rfl
theorem fn13 : fnOkB T 13 Try.f16 = true := by kernel_rfl
theorem fn14 : fnOkB T 14 Try.f12 = true := by kernel_rfl
theorem fn15 : fnOkB T 15 Try.f24 = true := by kernel_rfl
theorem fn16 : fnOkB T 16 Try.f38 = true := by kernel_rfl
theorem fn17 : fnOkB T 17 Try.f25 = true := by kernel_rfl
theorem fn18 : fnOkB T 18 Try.f39 = true := by kernel_rfl
theorem fn19 : fnOkB T 19 Try.f26 = true := by kernel_rfl
theorem fn20 : fnOkB T 20 Try.f27 = true := by kernel_rfl
theorem fn21 : fnOkB T 21 Try.f28 = true := by kernel_rfl
theorem fn22 : fnOkB T 22 Try.f13 = true := by kernel_rfl
theorem fn23 : fnOkB T 23 Try.f11 = true := by kernel_rfl
theorem fn24 : fnOkB T 24 Try.f23 = true := by kernel_rfl
theorem fn25 : fnOkB T 25 Try.f9 = true := by kernel_rfl
theorem fn26 : fnOkB T 26 Try.f10 = true := by kernel_rfl
theorem fn27 : fnOkB T 27 Try.f17 = true := by kernel_rfl
theorem fn28 : fnOkB T 28 Try.f20 = true := by kernel_rfl
theorem fn29 : fnOkB T 29 Try.f37 = true := by kernel_rfl
theorem fn30 : fnOkB T 30 Try.f34 = true := by kernel_rfl
theorem fn31 : fnOkB T 31 Try.f35 = true := by kernel_rfl
theorem fn32 : fnOkB T 32 Try.f42 = true := by kernel_rfl
theorem fn33 : fnOkB T 33 Try.f36 = true := by kernel_rfl
theorem fn34 : fnOkB T 34 Try.f18 = true := by kernel_rfl
theorem fn35 : fnOkB T 35 Try.f19 = true := by kernel_rfl
theorem fn36 : fnOkB T 36 Try.f21 = true := by kernel_rfl
theorem fn37 : fnOkB T 37 Try.f22 = true := by kernel_rfl
theorem fn38 : fnOkB T 38 Try.f4 = true := by kernel_rfl
theorem fn39 : fnOkB T 39 Try.f5 = true := by kernel_rfl
theorem blk0 : blkOkB T 0 = true := by kernel_rfl
theorem blk1 : blkOkB T 1 = true := by kernel_rfl
theorem blk2 : blkOkB T 2 = true := by kernel_rfl
theorem blk3 : blkOkB T 3 = true := by kernel_rfl
theorem blk4 : blkOkB T 4 = true := by kernel_rfl
theorem blk5 : blkOkB T 5 = true := by kernel_rfl
theorem blk6 : blkOkB T 6 = true := by kernel_rfl
theorem blk7 : blkOkB T 7 = true := by kernel_rfl
theorem blk8 : blkOkB T 8 = true := by kernel_rfl
theorem blk9 : blkOkB T 9 = true := by kernel_rfl
theorem blk10 : blkOkB T 10 = true := by kernel_rfl
theorem blk11 : blkOkB T 11 = true := by kernel_rfl
theorem blk12 : blkOkB T 12 = true := by kernel_rfl
theorem blk13 : blkOkB T 13 = true := by kernel_rfl
theorem blk14 : blkOkB T 14 = true := by kernel_rfl
theorem blk15 : blkOkB T 15 = true := by kernel_rfl
theorem blk16 : blkOkB T 16 = true := by kernel_rfl
theorem blk17 : blkOkB T 17 = true := by kernel_rfl
theorem blk18 : blkOkB T 18 = true := by kernel_rfl
theorem blk19 : blkOkB T 19 = true := by kernel_rfl
theorem blk20 : blkOkB T 20 = true := by kernel_rfl
theorem blk21 : blkOkB T 21 = true := by kernel_rfl
theorem blk22 : blkOkB T 22 = true := by kernel_rfl
theorem blk23 : blkOkB T 23 = true := by kernel_rfl
theorem blk24 : blkOkB T 24 = true := by kernel_rfl
theorem blk25 : blkOkB T 25 = true := by kernel_rfl
theorem blk26 : blkOkB T 26 = true := by kernel_rfl
theorem blk27 : blkOkB T 27 = true := by kernel_rfl
theorem blk28 : blkOkB T 28 = true := by kernel_rfl
theorem blk29 : blkOkB T 29 = true := by kernel_rfl
theorem blk30 : blkOkB T 30 = true := by kernel_rfl
theorem blk31 : blkOkB T 31 = true := by kernel_rfl
theorem blk32 : blkOkB T 32 = true := by kernel_rfl
theorem blk33 : blkOkB T 33 = true := by kernel_rfl
theorem blk34 : blkOkB T 34 = true := by kernel_rfl
theorem blk35 : blkOkB T 35 = true := by kernel_rfl
theorem blks : (List.range tabs.placeL.length).all (blkOkB T) = true := by
  rw [place_len]
  simp [List.range, List.range.loop, blk0, blk1, blk2, blk3, blk4, blk5, blk6, blk7, blk8, blk9, blk10, blk11, blk12, blk13, blk14, blk15, blk16, blk17, blk18, blk19, blk20, blk21, blk22, blk23, blk24, blk25, blk26, blk27, blk28, blk29, blk30, blk31, blk32, blk33, blk34, blk35]
theorem fns : FnsOk Try.prog T 0 tabs.fnL :=
  ⟨fn_ok Try.func3 fn0, ⟨fn_ok Try.func6 fn1, ⟨fn_ok Try.func7 fn2, ⟨fn_ok Try.func8 fn3, ⟨fn_ok Try.func14 fn4, ⟨fn_ok Try.func29 fn5, ⟨fn_ok Try.func30 fn6, ⟨fn_ok Try.func33 fn7, ⟨fn_ok Try.func40 fn8, ⟨fn_ok Try.func31 fn9, ⟨fn_ok Try.func41 fn10, ⟨fn_ok Try.func32 fn11, ⟨fn_ok Try.func15 fn12, ⟨fn_ok Try.func16 fn13, ⟨fn_ok Try.func12 fn14, ⟨fn_ok Try.func24 fn15, ⟨fn_ok Try.func38 fn16, ⟨fn_ok Try.func25 fn17, ⟨fn_ok Try.func39 fn18, ⟨fn_ok Try.func26 fn19, ⟨fn_ok Try.func27 fn20, ⟨fn_ok Try.func28 fn21, ⟨fn_ok Try.func13 fn22, ⟨fn_ok Try.func11 fn23, ⟨fn_ok Try.func23 fn24, ⟨fn_ok Try.func9 fn25, ⟨fn_ok Try.func10 fn26, ⟨fn_ok Try.func17 fn27, ⟨fn_ok Try.func20 fn28, ⟨fn_ok Try.func37 fn29, ⟨fn_ok Try.func34 fn30, ⟨fn_ok Try.func35 fn31, ⟨fn_ok Try.func42 fn32, ⟨fn_ok Try.func36 fn33, ⟨fn_ok Try.func18 fn34, ⟨fn_ok Try.func19 fn35, ⟨fn_ok Try.func21 fn36, ⟨fn_ok Try.func22 fn37, ⟨fn_ok Try.func4 fn38, ⟨fn_ok Try.func5 fn39, trivial⟩⟩⟩⟩⟩⟩⟩⟩⟩⟩⟩⟩⟩⟩⟩⟩⟩⟩⟩⟩⟩⟩⟩⟩⟩⟩⟩⟩⟩⟩⟩⟩⟩⟩⟩⟩⟩⟩⟩⟩
theorem ok : T.Ok Try.prog :=
  Tabs.ok tabs (by kernel_rfl) (by kernel_rfl) (by kernel_rfl) (by kernel_rfl) fns blks (fun _ _ _ _ h => by cases h) (by kernel_rfl)
end Go.Proofs.Yteifekbmmhpadaa.R
