/-
  No cell of these rows narrows 'for every input' (looked for: loops, veiled, ifaces, maps, wideKeys, modest, calm, conditions, laid).
  DERIVED. THE GIVEN ROWS OF THIS SEAT. 5 by the template 'for every input the law returns true; each argument reads behind the call as it read before'; 0 by the template 'total and deterministic' (their statements: YtadonikkibahnaaGreatTotals.lean).
  GIVEN WITH THE SEED: the statements are not yours to turn. If you find one false, say at which input.
  Laid BY PROGRAM, IN A SANDBOX (cutbox-rows.mjs): the forced cells as the released guide's own fill.sh prints them over the translation 2ba5e7612115797d… (all of the seat's roots in one cut). By AI agents, Wed Nov 11 2026. No macro, syntax, notation, axiom, sorry.
-/
import Derived.Test.YtadonikkibahnaaGreatChecked
import GoSem.Claim
import GoSem.ClaimJoined
import GoSem.ClaimMapViews
import Derived.JoinedTies
import Derived.KernelRfl
namespace Go.Proofs.YtadonikkibahnaaGreat
/- THE CELL 'sum', in the pinned program and in every row, IS THE sha256 OF THE DUMP (.gsa) THAT YtadonikkibahnaaGreatProg.lean LOADS. Nothing in Lean hashes anything: it is a label: what it is worth is what the hold of that sum in a sandbox is worth. -/
noncomputable def Tryz.pinned : Pinned := { name := "ytadonikkibahnaagreat", sum := "2ba5e7612115797d293aeb8283eba366d0d4c9537a784c87def582f209b81912", checked := Tryz.checked }
namespace Rows
def none {H : Type} : Left H := { results := [], args := [] }

/-- 'bailmentlaw14.NormMakes': WHATEVER THE INPUT: true; the input reads as it did. -/
def normMakesSpec : ChangeSpec := { name := "normMakes", fn := fun _ => fun
  | [d] => { results := [.lit (.bool true)], args := [d] }
  | _ => none }
def normMakesRow : OpenClaim := { program := "ytadonikkibahnaagreat", sum := "2ba5e7612115797d293aeb8283eba366d0d4c9537a784c87def582f209b81912", func := "bailment/bailmentlaw14.NormMakes", spec := "normMakes", unfollowed := true, recurses := true, apart := false }
def NormMakesSaid : Prop := normMakesRow.holds Tryz.pinned (OpenSpec.ofChange normMakesSpec)

/-- ITS FALSE NEIGHBOUR: 'it returns false'. Refute it at one input. -/
def normMakesWrong : ChangeSpec := { name := "normMakes", fn := fun _ => fun
  | [d] => { results := [.lit (.bool false)], args := [d] }
  | _ => none }
def NormMakesWrongFalsely : Prop := normMakesRow.holds Tryz.pinned (OpenSpec.ofChange normMakesWrong)

/-- 'bailmentlaw14.NormChecks': WHATEVER THE INPUT: true; the input reads as it did. -/
def normChecksSpec : ChangeSpec := { name := "normChecks", fn := fun _ => fun
  | [d] => { results := [.lit (.bool true)], args := [d] }
  | _ => none }
def normChecksRow : OpenClaim := { program := "ytadonikkibahnaagreat", sum := "2ba5e7612115797d293aeb8283eba366d0d4c9537a784c87def582f209b81912", func := "bailment/bailmentlaw14.NormChecks", spec := "normChecks", unfollowed := true, recurses := true, apart := false }
def NormChecksSaid : Prop := normChecksRow.holds Tryz.pinned (OpenSpec.ofChange normChecksSpec)

/-- ITS FALSE NEIGHBOUR: 'it returns false'. Refute it at one input. -/
def normChecksWrong : ChangeSpec := { name := "normChecks", fn := fun _ => fun
  | [d] => { results := [.lit (.bool false)], args := [d] }
  | _ => none }
def NormChecksWrongFalsely : Prop := normChecksRow.holds Tryz.pinned (OpenSpec.ofChange normChecksWrong)

/-- 'bailmentlaw14.NormCounts': WHATEVER THE INPUT: true; the input reads as it did. -/
def normCountsSpec : ChangeSpec := { name := "normCounts", fn := fun _ => fun
  | [d] => { results := [.lit (.bool true)], args := [d] }
  | _ => none }
def normCountsRow : OpenClaim := { program := "ytadonikkibahnaagreat", sum := "2ba5e7612115797d293aeb8283eba366d0d4c9537a784c87def582f209b81912", func := "bailment/bailmentlaw14.NormCounts", spec := "normCounts", unfollowed := true, recurses := true, apart := false }
def NormCountsSaid : Prop := normCountsRow.holds Tryz.pinned (OpenSpec.ofChange normCountsSpec)

/-- ITS FALSE NEIGHBOUR: 'it returns false'. Refute it at one input. -/
def normCountsWrong : ChangeSpec := { name := "normCounts", fn := fun _ => fun
  | [d] => { results := [.lit (.bool false)], args := [d] }
  | _ => none }
def NormCountsWrongFalsely : Prop := normCountsRow.holds Tryz.pinned (OpenSpec.ofChange normCountsWrong)

/-- 'bailmentlaw14.NormKinds': WHATEVER THE INPUT: true; the input reads as it did. -/
def normKindsSpec : ChangeSpec := { name := "normKinds", fn := fun _ => fun
  | [d] => { results := [.lit (.bool true)], args := [d] }
  | _ => none }
def normKindsRow : OpenClaim := { program := "ytadonikkibahnaagreat", sum := "2ba5e7612115797d293aeb8283eba366d0d4c9537a784c87def582f209b81912", func := "bailment/bailmentlaw14.NormKinds", spec := "normKinds", unfollowed := true, recurses := true, apart := false }
def NormKindsSaid : Prop := normKindsRow.holds Tryz.pinned (OpenSpec.ofChange normKindsSpec)

/-- ITS FALSE NEIGHBOUR: 'it returns false'. Refute it at one input. -/
def normKindsWrong : ChangeSpec := { name := "normKinds", fn := fun _ => fun
  | [d] => { results := [.lit (.bool false)], args := [d] }
  | _ => none }
def NormKindsWrongFalsely : Prop := normKindsRow.holds Tryz.pinned (OpenSpec.ofChange normKindsWrong)

/-- 'bailmentlaw14.NormRoots': WHATEVER THE INPUT: true; the input reads as it did. -/
def normRootsSpec : ChangeSpec := { name := "normRoots", fn := fun _ => fun
  | [d1, d2] => { results := [.lit (.bool true)], args := [d1, d2] }
  | _ => none }
def normRootsRow : OpenClaim := { program := "ytadonikkibahnaagreat", sum := "2ba5e7612115797d293aeb8283eba366d0d4c9537a784c87def582f209b81912", func := "bailment/bailmentlaw14.NormRoots", spec := "normRoots", unfollowed := true, recurses := true, apart := false }
def NormRootsSaid : Prop := normRootsRow.holds Tryz.pinned (OpenSpec.ofChange normRootsSpec)

/-- ITS FALSE NEIGHBOUR: 'it returns false'. Refute it at one input. -/
def normRootsWrong : ChangeSpec := { name := "normRoots", fn := fun _ => fun
  | [d1, d2] => { results := [.lit (.bool false)], args := [d1, d2] }
  | _ => none }
def NormRootsWrongFalsely : Prop := normRootsRow.holds Tryz.pinned (OpenSpec.ofChange normRootsWrong)

/- THE SECOND FORM. 'bulk': how many values and letters a reading holds, each counted each time it is reached (what is shared counts as often as it is met; a slice's spare places count too). A statement '..UptoSaid' is the law's where the arguments, and the package variables that the reading takes, are together of bulk at most 1048576: NARROWER than '..Said'. Prove '..Said' where nothing that the law and all that it calls make is longer than what came in: it says more and counts as full. Else prove '..UptoSaid'. A law counts once. -/
mutual
def uptoBulk {H : Type} : DataW H → Nat
  | .lit (.string bytes) => bytes.length + 1
  | .lit _ => 1
  | .nil => 1
  | .ptr d => uptoBulk d + 1
  | .slice elems spare => uptoBulkAll elems + uptoBulkAll spare + 1
  | .agg parts => uptoBulkAll parts + 1
  | .iface _ d => uptoBulk d + 1
  | .map entries => uptoBulkEntries entries + 1
  | .held _ => 1
def uptoBulkAll {H : Type} : List (DataW H) → Nat
  | [] => 0
  | d :: r => uptoBulk d + uptoBulkAll r
def uptoBulkEntries {H : Type} : List (Lit × DataW H) → Nat
  | [] => 0
  | x :: r => uptoBulkEntry x + uptoBulkEntries r
def uptoBulkEntry {H : Type} : Lit × DataW H → Nat
  | (.string bytes, d) => bytes.length + uptoBulk d + 1
  | (_, d) => uptoBulk d + 1
 end
def uptoSmall : (H : Type) → List (DataW H) → Bool := fun _ ds => decide (uptoBulkAll ds ≤ 1048576)
def OpenSpec.upto (s : _root_.Go.ChangeSpec) : _root_.Go.OpenSpec := { _root_.Go.OpenSpec.ofChange s with cond := some uptoSmall }

/-- 'bailmentlaw14.NormMakes', WHERE WHAT IT READS IS OF BULK AT MOST 1048576: true; the input reads as it did. -/
def normMakesUptoRow : OpenClaim := { program := "ytadonikkibahnaagreat", sum := "2ba5e7612115797d293aeb8283eba366d0d4c9537a784c87def582f209b81912", func := "bailment/bailmentlaw14.NormMakes", spec := "normMakes", unfollowed := true, recurses := true, apart := false, narrowed := true }
def NormMakesUptoSaid : Prop := normMakesUptoRow.holds Tryz.pinned (OpenSpec.upto normMakesSpec)

/-- 'bailmentlaw14.NormChecks', WHERE WHAT IT READS IS OF BULK AT MOST 1048576: true; the input reads as it did. -/
def normChecksUptoRow : OpenClaim := { program := "ytadonikkibahnaagreat", sum := "2ba5e7612115797d293aeb8283eba366d0d4c9537a784c87def582f209b81912", func := "bailment/bailmentlaw14.NormChecks", spec := "normChecks", unfollowed := true, recurses := true, apart := false, narrowed := true }
def NormChecksUptoSaid : Prop := normChecksUptoRow.holds Tryz.pinned (OpenSpec.upto normChecksSpec)

/-- 'bailmentlaw14.NormCounts', WHERE WHAT IT READS IS OF BULK AT MOST 1048576: true; the input reads as it did. -/
def normCountsUptoRow : OpenClaim := { program := "ytadonikkibahnaagreat", sum := "2ba5e7612115797d293aeb8283eba366d0d4c9537a784c87def582f209b81912", func := "bailment/bailmentlaw14.NormCounts", spec := "normCounts", unfollowed := true, recurses := true, apart := false, narrowed := true }
def NormCountsUptoSaid : Prop := normCountsUptoRow.holds Tryz.pinned (OpenSpec.upto normCountsSpec)

/-- 'bailmentlaw14.NormKinds', WHERE WHAT IT READS IS OF BULK AT MOST 1048576: true; the input reads as it did. -/
def normKindsUptoRow : OpenClaim := { program := "ytadonikkibahnaagreat", sum := "2ba5e7612115797d293aeb8283eba366d0d4c9537a784c87def582f209b81912", func := "bailment/bailmentlaw14.NormKinds", spec := "normKinds", unfollowed := true, recurses := true, apart := false, narrowed := true }
def NormKindsUptoSaid : Prop := normKindsUptoRow.holds Tryz.pinned (OpenSpec.upto normKindsSpec)

/-- 'bailmentlaw14.NormRoots', WHERE WHAT IT READS IS OF BULK AT MOST 1048576: true; the input reads as it did. -/
def normRootsUptoRow : OpenClaim := { program := "ytadonikkibahnaagreat", sum := "2ba5e7612115797d293aeb8283eba366d0d4c9537a784c87def582f209b81912", func := "bailment/bailmentlaw14.NormRoots", spec := "normRoots", unfollowed := true, recurses := true, apart := false, narrowed := true }
def NormRootsUptoSaid : Prop := normRootsUptoRow.holds Tryz.pinned (OpenSpec.upto normRootsSpec)

end Rows
end Go.Proofs.YtadonikkibahnaaGreat
