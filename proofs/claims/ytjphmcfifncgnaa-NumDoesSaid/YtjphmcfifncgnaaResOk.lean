/-
  OUR OWN, PRINTED BY A PROGRAM OF OURS (table2.py): the table fits the program.
-/
import Derived.Test.YtjphmcfifncgnaaRes
import Derived.KernelRfl
namespace Go.Proofs.Ytjphmcfifncgnaa.R
open Go Go.Bm Go.Proofs
set_option maxRecDepth 100000

theorem fn0 : fnOkB T 0 Try.f3 = true := by kernel_rfl
theorem fn1 : fnOkB T 1 Try.f9 = true := by kernel_rfl
theorem fn2 : fnOkB T 2 Try.f13 = true := by kernel_rfl
theorem fn3 : fnOkB T 3 Try.f11 = true := by kernel_rfl
theorem fn4 : fnOkB T 4 Try.f17 = true := by kernel_rfl
theorem fn5 : fnOkB T 5 Try.f18 = true := by kernel_rfl
theorem fn6 : fnOkB T 6 Try.f10 = true := by kernel_rfl
theorem fn7 : fnOkB T 7 Try.f14 = true := by kernel_rfl
theorem fn8 : fnOkB T 8 Try.f12 = true := by kernel_rfl
theorem fn9 : fnOkB T 9 Try.f19 = true := by kernel_rfl
theorem fn10 : fnOkB T 10 Try.f20 = true := by kernel_rfl
theorem fn11 : fnOkB T 11 Try.f21 = true := by kernel_rfl
theorem fn12 : fnOkB T 12 Try.f22 = true := by kernel_rfl
theorem fn13 : fnOkB T 13 Try.f15 = true := by kernel_rfl
theorem blk0 : blkOkB T 0 = true := by kernel_rfl
theorem blk1 : blkOkB T 1 = true := by kernel_rfl
theorem blks : (List.range tabs.placeL.length).all (blkOkB T) = true := by
  rw [place_len]
  simp [List.range, List.range.loop, blk0, blk1]
theorem fns : FnsOk Try.prog T 0 tabs.fnL :=
  ⟨fn_ok Try.func3 fn0, ⟨fn_ok Try.func9 fn1, ⟨fn_ok Try.func13 fn2, ⟨fn_ok Try.func11 fn3, ⟨fn_ok Try.func17 fn4, ⟨fn_ok Try.func18 fn5, ⟨fn_ok Try.func10 fn6, ⟨fn_ok Try.func14 fn7, ⟨fn_ok Try.func12 fn8, ⟨fn_ok Try.func19 fn9, ⟨fn_ok Try.func20 fn10, ⟨fn_ok Try.func21 fn11, ⟨fn_ok Try.func22 fn12, ⟨fn_ok Try.func15 fn13, trivial⟩⟩⟩⟩⟩⟩⟩⟩⟩⟩⟩⟩⟩⟩
theorem ok : T.Ok Try.prog :=
  Tabs.ok tabs (by kernel_rfl) (by kernel_rfl) (by kernel_rfl) (by kernel_rfl) fns blks fun _ _ _ _ h => by cases h
end Go.Proofs.Ytjphmcfifncgnaa.R
