/-
  No cell of these rows narrows 'for every input' (looked for: loops, veiled, ifaces, maps, wideKeys, modest, calm, conditions, laid).
  DERIVED. THE GIVEN ROWS OF THIS SEAT. 8 by the template 'for every input the law returns true; each argument reads behind the call as it read before'; 0 by the template 'total and deterministic' (their statements: YtcmdngadpplodaaTotals.lean).
  GIVEN WITH THE SEED: the statements are not yours to turn. If you find one false, say at which input.
  Laid BY PROGRAM, IN A SANDBOX (cutbox-rows.mjs): the forced cells as the released guide's own fill.sh prints them over the translation 40f9bdac38f03589… (all of the seat's roots in one cut). By AI agents, Wed Nov 11 2026. No macro, syntax, notation, axiom, sorry.
-/
import Derived.Test.YtcmdngadpplodaaChecked
import GoSem.Claim
import GoSem.ClaimJoined
import GoSem.ClaimMapViews
import Derived.JoinedTies
import Derived.KernelRfl
namespace Go.Proofs.Ytcmdngadpplodaa
/- THE CELL 'sum', in the pinned program and in every row, IS THE sha256 OF THE DUMP (.gsa) THAT YtcmdngadpplodaaProg.lean LOADS. Nothing in Lean hashes anything: it is a label: what it is worth is what the hold of that sum in a sandbox is worth. -/
noncomputable def Try.pinned : Pinned := { name := "ytcmdngadpplodaa", sum := "40f9bdac38f03589c844ae8fc443892e4112fe242c031d916b9fa451201deda5", checked := Try.checked }
namespace Rows
def none {H : Type} : Left H := { results := [], args := [] }

/-- 'bailmentlaw03.TreeMays': WHATEVER THE INPUT: true; the input reads as it did. -/
def treeMaysSpec : ChangeSpec := { name := "treeMays", fn := fun _ => fun
  | [d1, d2] => { results := [.lit (.bool true)], args := [d1, d2] }
  | _ => none }
def treeMaysRow : OpenClaim := { program := "ytcmdngadpplodaa", sum := "40f9bdac38f03589c844ae8fc443892e4112fe242c031d916b9fa451201deda5", func := "bailment/bailmentlaw03.TreeMays", spec := "treeMays", unfollowed := true, recurses := true, apart := false }
def TreeMaysSaid : Prop := treeMaysRow.holds Try.pinned (OpenSpec.ofChange treeMaysSpec)

/-- ITS FALSE NEIGHBOUR: 'it returns false'. Refute it at one input. -/
def treeMaysWrong : ChangeSpec := { name := "treeMays", fn := fun _ => fun
  | [d1, d2] => { results := [.lit (.bool false)], args := [d1, d2] }
  | _ => none }
def TreeMaysWrongFalsely : Prop := treeMaysRow.holds Try.pinned (OpenSpec.ofChange treeMaysWrong)

/-- 'bailmentlaw03.TreeJoins': WHATEVER THE INPUT: true; the input reads as it did. -/
def treeJoinsSpec : ChangeSpec := { name := "treeJoins", fn := fun _ => fun
  | [d1, d2] => { results := [.lit (.bool true)], args := [d1, d2] }
  | _ => none }
def treeJoinsRow : OpenClaim := { program := "ytcmdngadpplodaa", sum := "40f9bdac38f03589c844ae8fc443892e4112fe242c031d916b9fa451201deda5", func := "bailment/bailmentlaw03.TreeJoins", spec := "treeJoins", unfollowed := true, recurses := true, apart := false }
def TreeJoinsSaid : Prop := treeJoinsRow.holds Try.pinned (OpenSpec.ofChange treeJoinsSpec)

/-- ITS FALSE NEIGHBOUR: 'it returns false'. Refute it at one input. -/
def treeJoinsWrong : ChangeSpec := { name := "treeJoins", fn := fun _ => fun
  | [d1, d2] => { results := [.lit (.bool false)], args := [d1, d2] }
  | _ => none }
def TreeJoinsWrongFalsely : Prop := treeJoinsRow.holds Try.pinned (OpenSpec.ofChange treeJoinsWrong)

/-- 'bailmentlaw03.TreePuts': WHATEVER THE INPUT: true; the input reads as it did. -/
def treePutsSpec : ChangeSpec := { name := "treePuts", fn := fun _ => fun
  | [d1, d2, d3] => { results := [.lit (.bool true)], args := [d1, d2, d3] }
  | _ => none }
def treePutsRow : OpenClaim := { program := "ytcmdngadpplodaa", sum := "40f9bdac38f03589c844ae8fc443892e4112fe242c031d916b9fa451201deda5", func := "bailment/bailmentlaw03.TreePuts", spec := "treePuts", unfollowed := true, recurses := true, apart := false }
def TreePutsSaid : Prop := treePutsRow.holds Try.pinned (OpenSpec.ofChange treePutsSpec)

/-- ITS FALSE NEIGHBOUR: 'it returns false'. Refute it at one input. -/
def treePutsWrong : ChangeSpec := { name := "treePuts", fn := fun _ => fun
  | [d1, d2, d3] => { results := [.lit (.bool false)], args := [d1, d2, d3] }
  | _ => none }
def TreePutsWrongFalsely : Prop := treePutsRow.holds Try.pinned (OpenSpec.ofChange treePutsWrong)

/-- 'bailmentlaw03.TreeOrder': WHATEVER THE INPUT: true; the input reads as it did. -/
def treeOrderSpec : ChangeSpec := { name := "treeOrder", fn := fun _ => fun
  | [d] => { results := [.lit (.bool true)], args := [d] }
  | _ => none }
def treeOrderRow : OpenClaim := { program := "ytcmdngadpplodaa", sum := "40f9bdac38f03589c844ae8fc443892e4112fe242c031d916b9fa451201deda5", func := "bailment/bailmentlaw03.TreeOrder", spec := "treeOrder", unfollowed := true, recurses := true, apart := false }
def TreeOrderSaid : Prop := treeOrderRow.holds Try.pinned (OpenSpec.ofChange treeOrderSpec)

/-- ITS FALSE NEIGHBOUR: 'it returns false'. Refute it at one input. -/
def treeOrderWrong : ChangeSpec := { name := "treeOrder", fn := fun _ => fun
  | [d] => { results := [.lit (.bool false)], args := [d] }
  | _ => none }
def TreeOrderWrongFalsely : Prop := treeOrderRow.holds Try.pinned (OpenSpec.ofChange treeOrderWrong)

/-- 'bailmentlaw03.TreeApart': WHATEVER THE INPUT: true; the input reads as it did. -/
def treeApartSpec : ChangeSpec := { name := "treeApart", fn := fun _ => fun
  | [d1, d2] => { results := [.lit (.bool true)], args := [d1, d2] }
  | _ => none }
def treeApartRow : OpenClaim := { program := "ytcmdngadpplodaa", sum := "40f9bdac38f03589c844ae8fc443892e4112fe242c031d916b9fa451201deda5", func := "bailment/bailmentlaw03.TreeApart", spec := "treeApart", unfollowed := true, recurses := true, apart := false }
def TreeApartSaid : Prop := treeApartRow.holds Try.pinned (OpenSpec.ofChange treeApartSpec)

/-- ITS FALSE NEIGHBOUR: 'it returns false'. Refute it at one input. -/
def treeApartWrong : ChangeSpec := { name := "treeApart", fn := fun _ => fun
  | [d1, d2] => { results := [.lit (.bool false)], args := [d1, d2] }
  | _ => none }
def TreeApartWrongFalsely : Prop := treeApartRow.holds Try.pinned (OpenSpec.ofChange treeApartWrong)

/-- 'bailmentlaw03.TreeSame': WHATEVER THE INPUT: true; the input reads as it did. -/
def treeSameSpec : ChangeSpec := { name := "treeSame", fn := fun _ => fun
  | [d] => { results := [.lit (.bool true)], args := [d] }
  | _ => none }
def treeSameRow : OpenClaim := { program := "ytcmdngadpplodaa", sum := "40f9bdac38f03589c844ae8fc443892e4112fe242c031d916b9fa451201deda5", func := "bailment/bailmentlaw03.TreeSame", spec := "treeSame", unfollowed := true, recurses := true, apart := false }
def TreeSameSaid : Prop := treeSameRow.holds Try.pinned (OpenSpec.ofChange treeSameSpec)

/-- ITS FALSE NEIGHBOUR: 'it returns false'. Refute it at one input. -/
def treeSameWrong : ChangeSpec := { name := "treeSame", fn := fun _ => fun
  | [d] => { results := [.lit (.bool false)], args := [d] }
  | _ => none }
def TreeSameWrongFalsely : Prop := treeSameRow.holds Try.pinned (OpenSpec.ofChange treeSameWrong)

/-- 'bailmentlaw03.TreeVars': WHATEVER THE INPUT: true; the input reads as it did. -/
def treeVarsSpec : ChangeSpec := { name := "treeVars", fn := fun _ => fun
  | [d1, d2] => { results := [.lit (.bool true)], args := [d1, d2] }
  | _ => none }
def treeVarsRow : OpenClaim := { program := "ytcmdngadpplodaa", sum := "40f9bdac38f03589c844ae8fc443892e4112fe242c031d916b9fa451201deda5", func := "bailment/bailmentlaw03.TreeVars", spec := "treeVars", unfollowed := true, recurses := true, apart := false }
def TreeVarsSaid : Prop := treeVarsRow.holds Try.pinned (OpenSpec.ofChange treeVarsSpec)

/-- ITS FALSE NEIGHBOUR: 'it returns false'. Refute it at one input. -/
def treeVarsWrong : ChangeSpec := { name := "treeVars", fn := fun _ => fun
  | [d1, d2] => { results := [.lit (.bool false)], args := [d1, d2] }
  | _ => none }
def TreeVarsWrongFalsely : Prop := treeVarsRow.holds Try.pinned (OpenSpec.ofChange treeVarsWrong)

/-- 'bailmentlaw03.TreePutOff': WHATEVER THE INPUT: true; the input reads as it did. -/
def treePutOffSpec : ChangeSpec := { name := "treePutOff", fn := fun _ => fun
  | [d1, d2, d3] => { results := [.lit (.bool true)], args := [d1, d2, d3] }
  | _ => none }
def treePutOffRow : OpenClaim := { program := "ytcmdngadpplodaa", sum := "40f9bdac38f03589c844ae8fc443892e4112fe242c031d916b9fa451201deda5", func := "bailment/bailmentlaw03.TreePutOff", spec := "treePutOff", unfollowed := true, recurses := true, apart := false }
def TreePutOffSaid : Prop := treePutOffRow.holds Try.pinned (OpenSpec.ofChange treePutOffSpec)

/-- ITS FALSE NEIGHBOUR: 'it returns false'. Refute it at one input. -/
def treePutOffWrong : ChangeSpec := { name := "treePutOff", fn := fun _ => fun
  | [d1, d2, d3] => { results := [.lit (.bool false)], args := [d1, d2, d3] }
  | _ => none }
def TreePutOffWrongFalsely : Prop := treePutOffRow.holds Try.pinned (OpenSpec.ofChange treePutOffWrong)

/- THE SECOND FORM. 'bulk': how many values and letters a reading holds, each counted each time it is reached (what is shared counts as often as it is met; a slice's spare places count too). A statement '..UptoSaid' is the law's where the arguments, and the package variables that the reading takes, are together of bulk at most 1048576: NARROWER than '..Said'. Prove '..Said' where nothing that the law and all that it calls make is longer than what came in: it says more and counts as full. Else prove '..UptoSaid'. A law counts once. -/
mutual
def uptoBulk {H : Type} : DataW H → Nat
  | .lit (.string bytes) => bytes.length + 1
  | .lit _ => 1
  | .nil => 1
  | .ptr d => uptoBulk d + 1
  | .slice elems spare => uptoBulkAll elems + uptoBulkAll spare + 1
  | .agg parts => uptoBulkAll parts + 1
  | .iface _ d => uptoBulk d + 1
  | .map entries => uptoBulkEntries entries + 1
  | .held _ => 1
def uptoBulkAll {H : Type} : List (DataW H) → Nat
  | [] => 0
  | d :: r => uptoBulk d + uptoBulkAll r
def uptoBulkEntries {H : Type} : List (Lit × DataW H) → Nat
  | [] => 0
  | x :: r => uptoBulkEntry x + uptoBulkEntries r
def uptoBulkEntry {H : Type} : Lit × DataW H → Nat
  | (.string bytes, d) => bytes.length + uptoBulk d + 1
  | (_, d) => uptoBulk d + 1
 end
def uptoSmall : (H : Type) → List (DataW H) → Bool := fun _ ds => decide (uptoBulkAll ds ≤ 1048576)
def OpenSpec.upto (s : _root_.Go.ChangeSpec) : _root_.Go.OpenSpec := { _root_.Go.OpenSpec.ofChange s with cond := some uptoSmall }

/-- 'bailmentlaw03.TreeMays', WHERE WHAT IT READS IS OF BULK AT MOST 1048576: true; the input reads as it did. -/
def treeMaysUptoRow : OpenClaim := { program := "ytcmdngadpplodaa", sum := "40f9bdac38f03589c844ae8fc443892e4112fe242c031d916b9fa451201deda5", func := "bailment/bailmentlaw03.TreeMays", spec := "treeMays", unfollowed := true, recurses := true, apart := false, narrowed := true }
def TreeMaysUptoSaid : Prop := treeMaysUptoRow.holds Try.pinned (OpenSpec.upto treeMaysSpec)

/-- 'bailmentlaw03.TreeJoins', WHERE WHAT IT READS IS OF BULK AT MOST 1048576: true; the input reads as it did. -/
def treeJoinsUptoRow : OpenClaim := { program := "ytcmdngadpplodaa", sum := "40f9bdac38f03589c844ae8fc443892e4112fe242c031d916b9fa451201deda5", func := "bailment/bailmentlaw03.TreeJoins", spec := "treeJoins", unfollowed := true, recurses := true, apart := false, narrowed := true }
def TreeJoinsUptoSaid : Prop := treeJoinsUptoRow.holds Try.pinned (OpenSpec.upto treeJoinsSpec)

/-- 'bailmentlaw03.TreePuts', WHERE WHAT IT READS IS OF BULK AT MOST 1048576: true; the input reads as it did. -/
def treePutsUptoRow : OpenClaim := { program := "ytcmdngadpplodaa", sum := "40f9bdac38f03589c844ae8fc443892e4112fe242c031d916b9fa451201deda5", func := "bailment/bailmentlaw03.TreePuts", spec := "treePuts", unfollowed := true, recurses := true, apart := false, narrowed := true }
def TreePutsUptoSaid : Prop := treePutsUptoRow.holds Try.pinned (OpenSpec.upto treePutsSpec)

/-- 'bailmentlaw03.TreeOrder', WHERE WHAT IT READS IS OF BULK AT MOST 1048576: true; the input reads as it did. -/
def treeOrderUptoRow : OpenClaim := { program := "ytcmdngadpplodaa", sum := "40f9bdac38f03589c844ae8fc443892e4112fe242c031d916b9fa451201deda5", func := "bailment/bailmentlaw03.TreeOrder", spec := "treeOrder", unfollowed := true, recurses := true, apart := false, narrowed := true }
def TreeOrderUptoSaid : Prop := treeOrderUptoRow.holds Try.pinned (OpenSpec.upto treeOrderSpec)

/-- 'bailmentlaw03.TreeApart', WHERE WHAT IT READS IS OF BULK AT MOST 1048576: true; the input reads as it did. -/
def treeApartUptoRow : OpenClaim := { program := "ytcmdngadpplodaa", sum := "40f9bdac38f03589c844ae8fc443892e4112fe242c031d916b9fa451201deda5", func := "bailment/bailmentlaw03.TreeApart", spec := "treeApart", unfollowed := true, recurses := true, apart := false, narrowed := true }
def TreeApartUptoSaid : Prop := treeApartUptoRow.holds Try.pinned (OpenSpec.upto treeApartSpec)

/-- 'bailmentlaw03.TreeSame', WHERE WHAT IT READS IS OF BULK AT MOST 1048576: true; the input reads as it did. -/
def treeSameUptoRow : OpenClaim := { program := "ytcmdngadpplodaa", sum := "40f9bdac38f03589c844ae8fc443892e4112fe242c031d916b9fa451201deda5", func := "bailment/bailmentlaw03.TreeSame", spec := "treeSame", unfollowed := true, recurses := true, apart := false, narrowed := true }
def TreeSameUptoSaid : Prop := treeSameUptoRow.holds Try.pinned (OpenSpec.upto treeSameSpec)

/-- 'bailmentlaw03.TreeVars', WHERE WHAT IT READS IS OF BULK AT MOST 1048576: true; the input reads as it did. -/
def treeVarsUptoRow : OpenClaim := { program := "ytcmdngadpplodaa", sum := "40f9bdac38f03589c844ae8fc443892e4112fe242c031d916b9fa451201deda5", func := "bailment/bailmentlaw03.TreeVars", spec := "treeVars", unfollowed := true, recurses := true, apart := false, narrowed := true }
def TreeVarsUptoSaid : Prop := treeVarsUptoRow.holds Try.pinned (OpenSpec.upto treeVarsSpec)

/-- 'bailmentlaw03.TreePutOff', WHERE WHAT IT READS IS OF BULK AT MOST 1048576: true; the input reads as it did. -/
def treePutOffUptoRow : OpenClaim := { program := "ytcmdngadpplodaa", sum := "40f9bdac38f03589c844ae8fc443892e4112fe242c031d916b9fa451201deda5", func := "bailment/bailmentlaw03.TreePutOff", spec := "treePutOff", unfollowed := true, recurses := true, apart := false, narrowed := true }
def TreePutOffUptoSaid : Prop := treePutOffUptoRow.holds Try.pinned (OpenSpec.upto treePutOffSpec)

end Rows
end Go.Proofs.Ytcmdngadpplodaa
