/-
  No cell of these rows narrows 'for every input' (looked for: loops, veiled, ifaces, maps, wideKeys, modest, calm, conditions, laid).
  DERIVED. THE GIVEN ROWS OF THIS SEAT. 6 by the template 'for every input the law returns true; each argument reads behind the call as it read before'; 0 by the template 'total and deterministic' (their statements: YtjphmcfifncgnaaTotals.lean).
  GIVEN WITH THE SEED: the statements are not yours to turn. If you find one false, say at which input.
  Laid BY PROGRAM, IN A SANDBOX (cutbox-rows.mjs): the forced cells as the released guide's own fill.sh prints them over the translation 6d0b89df46afc7fd… (all of the seat's roots in one cut). By AI agents, Wed Nov 11 2026. No macro, syntax, notation, axiom, sorry.
-/
import Derived.Test.YtjphmcfifncgnaaChecked
import GoSem.Claim
import GoSem.ClaimJoined
import GoSem.ClaimMapViews
import Derived.JoinedTies
import Derived.KernelRfl
namespace Go.Proofs.Ytjphmcfifncgnaa
/- THE CELL 'sum', in the pinned program and in every row, IS THE sha256 OF THE DUMP (.gsa) THAT YtjphmcfifncgnaaProg.lean LOADS. Nothing in Lean hashes anything: it is a label: what it is worth is what the hold of that sum in a sandbox is worth. -/
noncomputable def Try.pinned : Pinned := { name := "ytjphmcfifncgnaa", sum := "6d0b89df46afc7fd6915ea1c878498d1cc15e8ec3e86c33c039a019ca6743a26", checked := Try.checked }
namespace Rows
def none {H : Type} : Left H := { results := [], args := [] }

/-- 'bailmentlaw01.NumDoes': WHATEVER THE INPUT: true; the input reads as it did. -/
def numDoesSpec : ChangeSpec := { name := "numDoes", fn := fun _ => fun
  | [d] => { results := [.lit (.bool true)], args := [d] }
  | _ => none }
def numDoesRow : OpenClaim := { program := "ytjphmcfifncgnaa", sum := "6d0b89df46afc7fd6915ea1c878498d1cc15e8ec3e86c33c039a019ca6743a26", func := "bailment/bailmentlaw01.NumDoes", spec := "numDoes", apart := false }
def NumDoesSaid : Prop := numDoesRow.holds Try.pinned (OpenSpec.ofChange numDoesSpec)

/-- ITS FALSE NEIGHBOUR: 'it returns false'. Refute it at one input. -/
def numDoesWrong : ChangeSpec := { name := "numDoes", fn := fun _ => fun
  | [d] => { results := [.lit (.bool false)], args := [d] }
  | _ => none }
def NumDoesWrongFalsely : Prop := numDoesRow.holds Try.pinned (OpenSpec.ofChange numDoesWrong)

/-- 'bailmentlaw01.NumFits': WHATEVER THE INPUT: true; the input reads as it did. -/
def numFitsSpec : ChangeSpec := { name := "numFits", fn := fun _ => fun
  | [d] => { results := [.lit (.bool true)], args := [d] }
  | _ => none }
def numFitsRow : OpenClaim := { program := "ytjphmcfifncgnaa", sum := "6d0b89df46afc7fd6915ea1c878498d1cc15e8ec3e86c33c039a019ca6743a26", func := "bailment/bailmentlaw01.NumFits", spec := "numFits", apart := false }
def NumFitsSaid : Prop := numFitsRow.holds Try.pinned (OpenSpec.ofChange numFitsSpec)

/-- ITS FALSE NEIGHBOUR: 'it returns false'. Refute it at one input. -/
def numFitsWrong : ChangeSpec := { name := "numFits", fn := fun _ => fun
  | [d] => { results := [.lit (.bool false)], args := [d] }
  | _ => none }
def NumFitsWrongFalsely : Prop := numFitsRow.holds Try.pinned (OpenSpec.ofChange numFitsWrong)

/-- 'bailmentlaw01.NumParts': WHATEVER THE INPUT: true; the input reads as it did. -/
def numPartsSpec : ChangeSpec := { name := "numParts", fn := fun _ => fun
  | [d1, d2] => { results := [.lit (.bool true)], args := [d1, d2] }
  | _ => none }
def numPartsRow : OpenClaim := { program := "ytjphmcfifncgnaa", sum := "6d0b89df46afc7fd6915ea1c878498d1cc15e8ec3e86c33c039a019ca6743a26", func := "bailment/bailmentlaw01.NumParts", spec := "numParts", apart := false }
def NumPartsSaid : Prop := numPartsRow.holds Try.pinned (OpenSpec.ofChange numPartsSpec)

/-- ITS FALSE NEIGHBOUR: 'it returns false'. Refute it at one input. -/
def numPartsWrong : ChangeSpec := { name := "numParts", fn := fun _ => fun
  | [d1, d2] => { results := [.lit (.bool false)], args := [d1, d2] }
  | _ => none }
def NumPartsWrongFalsely : Prop := numPartsRow.holds Try.pinned (OpenSpec.ofChange numPartsWrong)

/-- 'bailmentlaw01.NumTurned': WHATEVER THE INPUT: true; the input reads as it did. -/
def numTurnedSpec : ChangeSpec := { name := "numTurned", fn := fun _ => fun
  | [d1, d2] => { results := [.lit (.bool true)], args := [d1, d2] }
  | _ => none }
def numTurnedRow : OpenClaim := { program := "ytjphmcfifncgnaa", sum := "6d0b89df46afc7fd6915ea1c878498d1cc15e8ec3e86c33c039a019ca6743a26", func := "bailment/bailmentlaw01.NumTurned", spec := "numTurned", apart := false }
def NumTurnedSaid : Prop := numTurnedRow.holds Try.pinned (OpenSpec.ofChange numTurnedSpec)

/-- ITS FALSE NEIGHBOUR: 'it returns false'. Refute it at one input. -/
def numTurnedWrong : ChangeSpec := { name := "numTurned", fn := fun _ => fun
  | [d1, d2] => { results := [.lit (.bool false)], args := [d1, d2] }
  | _ => none }
def NumTurnedWrongFalsely : Prop := numTurnedRow.holds Try.pinned (OpenSpec.ofChange numTurnedWrong)

/-- 'bailmentlaw01.NumTruth': WHATEVER THE INPUT: true; the input reads as it did. -/
def numTruthSpec : ChangeSpec := { name := "numTruth", fn := fun _ => fun
  | [d1, d2] => { results := [.lit (.bool true)], args := [d1, d2] }
  | _ => none }
def numTruthRow : OpenClaim := { program := "ytjphmcfifncgnaa", sum := "6d0b89df46afc7fd6915ea1c878498d1cc15e8ec3e86c33c039a019ca6743a26", func := "bailment/bailmentlaw01.NumTruth", spec := "numTruth", apart := false }
def NumTruthSaid : Prop := numTruthRow.holds Try.pinned (OpenSpec.ofChange numTruthSpec)

/-- ITS FALSE NEIGHBOUR: 'it returns false'. Refute it at one input. -/
def numTruthWrong : ChangeSpec := { name := "numTruth", fn := fun _ => fun
  | [d1, d2] => { results := [.lit (.bool false)], args := [d1, d2] }
  | _ => none }
def NumTruthWrongFalsely : Prop := numTruthRow.holds Try.pinned (OpenSpec.ofChange numTruthWrong)

/-- 'bailmentlaw01.NumOrder': WHATEVER THE INPUT: true; the input reads as it did. -/
def numOrderSpec : ChangeSpec := { name := "numOrder", fn := fun _ => fun
  | [d1, d2, d3] => { results := [.lit (.bool true)], args := [d1, d2, d3] }
  | _ => none }
def numOrderRow : OpenClaim := { program := "ytjphmcfifncgnaa", sum := "6d0b89df46afc7fd6915ea1c878498d1cc15e8ec3e86c33c039a019ca6743a26", func := "bailment/bailmentlaw01.NumOrder", spec := "numOrder", apart := false }
def NumOrderSaid : Prop := numOrderRow.holds Try.pinned (OpenSpec.ofChange numOrderSpec)

/-- ITS FALSE NEIGHBOUR: 'it returns false'. Refute it at one input. -/
def numOrderWrong : ChangeSpec := { name := "numOrder", fn := fun _ => fun
  | [d1, d2, d3] => { results := [.lit (.bool false)], args := [d1, d2, d3] }
  | _ => none }
def NumOrderWrongFalsely : Prop := numOrderRow.holds Try.pinned (OpenSpec.ofChange numOrderWrong)

/- THE SECOND FORM. 'bulk': how many values and letters a reading holds, each counted each time it is reached (what is shared counts as often as it is met; a slice's spare places count too). A statement '..UptoSaid' is the law's where the arguments, and the package variables that the reading takes, are together of bulk at most 1048576: NARROWER than '..Said'. Prove '..Said' where nothing that the law and all that it calls make is longer than what came in: it says more and counts as full. Else prove '..UptoSaid'. A law counts once. -/
mutual
def uptoBulk {H : Type} : DataW H → Nat
  | .lit (.string bytes) => bytes.length + 1
  | .lit _ => 1
  | .nil => 1
  | .ptr d => uptoBulk d + 1
  | .slice elems spare => uptoBulkAll elems + uptoBulkAll spare + 1
  | .agg parts => uptoBulkAll parts + 1
  | .iface _ d => uptoBulk d + 1
  | .map entries => uptoBulkEntries entries + 1
  | .held _ => 1
def uptoBulkAll {H : Type} : List (DataW H) → Nat
  | [] => 0
  | d :: r => uptoBulk d + uptoBulkAll r
def uptoBulkEntries {H : Type} : List (Lit × DataW H) → Nat
  | [] => 0
  | x :: r => uptoBulkEntry x + uptoBulkEntries r
def uptoBulkEntry {H : Type} : Lit × DataW H → Nat
  | (.string bytes, d) => bytes.length + uptoBulk d + 1
  | (_, d) => uptoBulk d + 1
 end
def uptoSmall : (H : Type) → List (DataW H) → Bool := fun _ ds => decide (uptoBulkAll ds ≤ 1048576)
def OpenSpec.upto (s : _root_.Go.ChangeSpec) : _root_.Go.OpenSpec := { _root_.Go.OpenSpec.ofChange s with cond := some uptoSmall }

/-- 'bailmentlaw01.NumDoes', WHERE WHAT IT READS IS OF BULK AT MOST 1048576: true; the input reads as it did. -/
def numDoesUptoRow : OpenClaim := { program := "ytjphmcfifncgnaa", sum := "6d0b89df46afc7fd6915ea1c878498d1cc15e8ec3e86c33c039a019ca6743a26", func := "bailment/bailmentlaw01.NumDoes", spec := "numDoes", apart := false, narrowed := true }
def NumDoesUptoSaid : Prop := numDoesUptoRow.holds Try.pinned (OpenSpec.upto numDoesSpec)

/-- 'bailmentlaw01.NumFits', WHERE WHAT IT READS IS OF BULK AT MOST 1048576: true; the input reads as it did. -/
def numFitsUptoRow : OpenClaim := { program := "ytjphmcfifncgnaa", sum := "6d0b89df46afc7fd6915ea1c878498d1cc15e8ec3e86c33c039a019ca6743a26", func := "bailment/bailmentlaw01.NumFits", spec := "numFits", apart := false, narrowed := true }
def NumFitsUptoSaid : Prop := numFitsUptoRow.holds Try.pinned (OpenSpec.upto numFitsSpec)

/-- 'bailmentlaw01.NumParts', WHERE WHAT IT READS IS OF BULK AT MOST 1048576: true; the input reads as it did. -/
def numPartsUptoRow : OpenClaim := { program := "ytjphmcfifncgnaa", sum := "6d0b89df46afc7fd6915ea1c878498d1cc15e8ec3e86c33c039a019ca6743a26", func := "bailment/bailmentlaw01.NumParts", spec := "numParts", apart := false, narrowed := true }
def NumPartsUptoSaid : Prop := numPartsUptoRow.holds Try.pinned (OpenSpec.upto numPartsSpec)

/-- 'bailmentlaw01.NumTurned', WHERE WHAT IT READS IS OF BULK AT MOST 1048576: true; the input reads as it did. -/
def numTurnedUptoRow : OpenClaim := { program := "ytjphmcfifncgnaa", sum := "6d0b89df46afc7fd6915ea1c878498d1cc15e8ec3e86c33c039a019ca6743a26", func := "bailment/bailmentlaw01.NumTurned", spec := "numTurned", apart := false, narrowed := true }
def NumTurnedUptoSaid : Prop := numTurnedUptoRow.holds Try.pinned (OpenSpec.upto numTurnedSpec)

/-- 'bailmentlaw01.NumTruth', WHERE WHAT IT READS IS OF BULK AT MOST 1048576: true; the input reads as it did. -/
def numTruthUptoRow : OpenClaim := { program := "ytjphmcfifncgnaa", sum := "6d0b89df46afc7fd6915ea1c878498d1cc15e8ec3e86c33c039a019ca6743a26", func := "bailment/bailmentlaw01.NumTruth", spec := "numTruth", apart := false, narrowed := true }
def NumTruthUptoSaid : Prop := numTruthUptoRow.holds Try.pinned (OpenSpec.upto numTruthSpec)

/-- 'bailmentlaw01.NumOrder', WHERE WHAT IT READS IS OF BULK AT MOST 1048576: true; the input reads as it did. -/
def numOrderUptoRow : OpenClaim := { program := "ytjphmcfifncgnaa", sum := "6d0b89df46afc7fd6915ea1c878498d1cc15e8ec3e86c33c039a019ca6743a26", func := "bailment/bailmentlaw01.NumOrder", spec := "numOrder", apart := false, narrowed := true }
def NumOrderUptoSaid : Prop := numOrderUptoRow.holds Try.pinned (OpenSpec.upto numOrderSpec)

end Rows
end Go.Proofs.Ytjphmcfifncgnaa
