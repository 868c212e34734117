/-
  No cell of these rows narrows 'for every input' (looked for: loops, veiled, ifaces, maps, wideKeys, modest, calm, conditions, laid).
  DERIVED. THE GIVEN ROWS OF THIS SEAT. 6 by the template 'for every input the law returns true; each argument reads behind the call as it read before'; 0 by the template 'total and deterministic' (their statements: YtcgipnodielieaaTotals.lean).
  GIVEN WITH THE SEED: the statements are not yours to turn. If you find one false, say at which input.
  Laid BY PROGRAM, IN A SANDBOX (cutbox-rows.mjs): the forced cells as the released guide's own fill.sh prints them over the translation c82f2d0707650c55… (all of the seat's roots in one cut). By AI agents, Wed Nov 11 2026. No macro, syntax, notation, axiom, sorry.
-/
import Derived.Test.YtcgipnodielieaaChecked
import GoSem.Claim
import GoSem.ClaimJoined
import GoSem.ClaimMapViews
import Derived.JoinedTies
import Derived.KernelRfl
namespace Go.Proofs.Ytcgipnodielieaa
/- THE CELL 'sum', in the pinned program and in every row, IS THE sha256 OF THE DUMP (.gsa) THAT YtcgipnodielieaaProg.lean LOADS. Nothing in Lean hashes anything: it is a label: what it is worth is what the hold of that sum in a sandbox is worth. -/
noncomputable def Try.pinned : Pinned := { name := "ytcgipnodielieaa", sum := "c82f2d0707650c555089c6e5f7132a9aa4123329f3a830d80519c895d5e76e15", checked := Try.checked }
namespace Rows
def none {H : Type} : Left H := { results := [], args := [] }

/-- 'bailmentlaw10.InitsOf': WHATEVER THE INPUT: true; the input reads as it did. -/
def initsOfSpec : ChangeSpec := { name := "initsOf", fn := fun _ => fun
  | [d] => { results := [.lit (.bool true)], args := [d] }
  | _ => none }
def initsOfRow : OpenClaim := { program := "ytcgipnodielieaa", sum := "c82f2d0707650c555089c6e5f7132a9aa4123329f3a830d80519c895d5e76e15", func := "bailment/bailmentlaw10.InitsOf", spec := "initsOf", unfollowed := true, recurses := true, apart := false }
def InitsOfSaid : Prop := initsOfRow.holds Try.pinned (OpenSpec.ofChange initsOfSpec)

/-- ITS FALSE NEIGHBOUR: 'it returns false'. Refute it at one input. -/
def initsOfWrong : ChangeSpec := { name := "initsOf", fn := fun _ => fun
  | [d] => { results := [.lit (.bool false)], args := [d] }
  | _ => none }
def InitsOfWrongFalsely : Prop := initsOfRow.holds Try.pinned (OpenSpec.ofChange initsOfWrong)

/-- 'bailmentlaw10.InitsCheck': WHATEVER THE INPUT: true; the input reads as it did. -/
def initsCheckSpec : ChangeSpec := { name := "initsCheck", fn := fun _ => fun
  | [d] => { results := [.lit (.bool true)], args := [d] }
  | _ => none }
def initsCheckRow : OpenClaim := { program := "ytcgipnodielieaa", sum := "c82f2d0707650c555089c6e5f7132a9aa4123329f3a830d80519c895d5e76e15", func := "bailment/bailmentlaw10.InitsCheck", spec := "initsCheck", unfollowed := true, recurses := true, apart := false }
def InitsCheckSaid : Prop := initsCheckRow.holds Try.pinned (OpenSpec.ofChange initsCheckSpec)

/-- ITS FALSE NEIGHBOUR: 'it returns false'. Refute it at one input. -/
def initsCheckWrong : ChangeSpec := { name := "initsCheck", fn := fun _ => fun
  | [d] => { results := [.lit (.bool false)], args := [d] }
  | _ => none }
def InitsCheckWrongFalsely : Prop := initsCheckRow.holds Try.pinned (OpenSpec.ofChange initsCheckWrong)

/-- 'bailmentlaw10.InitsArrow': WHATEVER THE INPUT: true; the input reads as it did. -/
def initsArrowSpec : ChangeSpec := { name := "initsArrow", fn := fun _ => fun
  | [d] => { results := [.lit (.bool true)], args := [d] }
  | _ => none }
def initsArrowRow : OpenClaim := { program := "ytcgipnodielieaa", sum := "c82f2d0707650c555089c6e5f7132a9aa4123329f3a830d80519c895d5e76e15", func := "bailment/bailmentlaw10.InitsArrow", spec := "initsArrow", unfollowed := true, recurses := true, apart := false }
def InitsArrowSaid : Prop := initsArrowRow.holds Try.pinned (OpenSpec.ofChange initsArrowSpec)

/-- ITS FALSE NEIGHBOUR: 'it returns false'. Refute it at one input. -/
def initsArrowWrong : ChangeSpec := { name := "initsArrow", fn := fun _ => fun
  | [d] => { results := [.lit (.bool false)], args := [d] }
  | _ => none }
def InitsArrowWrongFalsely : Prop := initsArrowRow.holds Try.pinned (OpenSpec.ofChange initsArrowWrong)

/-- 'bailmentlaw10.InitsPlain': WHATEVER THE INPUT: true; the input reads as it did. -/
def initsPlainSpec : ChangeSpec := { name := "initsPlain", fn := fun _ => fun
  | [d] => { results := [.lit (.bool true)], args := [d] }
  | _ => none }
def initsPlainRow : OpenClaim := { program := "ytcgipnodielieaa", sum := "c82f2d0707650c555089c6e5f7132a9aa4123329f3a830d80519c895d5e76e15", func := "bailment/bailmentlaw10.InitsPlain", spec := "initsPlain", unfollowed := true, recurses := true, apart := false }
def InitsPlainSaid : Prop := initsPlainRow.holds Try.pinned (OpenSpec.ofChange initsPlainSpec)

/-- ITS FALSE NEIGHBOUR: 'it returns false'. Refute it at one input. -/
def initsPlainWrong : ChangeSpec := { name := "initsPlain", fn := fun _ => fun
  | [d] => { results := [.lit (.bool false)], args := [d] }
  | _ => none }
def InitsPlainWrongFalsely : Prop := initsPlainRow.holds Try.pinned (OpenSpec.ofChange initsPlainWrong)

/-- 'bailmentlaw10.InitsOrder': WHATEVER THE INPUT: true; the input reads as it did. -/
def initsOrderSpec : ChangeSpec := { name := "initsOrder", fn := fun _ => fun
  | [d] => { results := [.lit (.bool true)], args := [d] }
  | _ => none }
def initsOrderRow : OpenClaim := { program := "ytcgipnodielieaa", sum := "c82f2d0707650c555089c6e5f7132a9aa4123329f3a830d80519c895d5e76e15", func := "bailment/bailmentlaw10.InitsOrder", spec := "initsOrder", unfollowed := true, recurses := true, apart := false }
def InitsOrderSaid : Prop := initsOrderRow.holds Try.pinned (OpenSpec.ofChange initsOrderSpec)

/-- ITS FALSE NEIGHBOUR: 'it returns false'. Refute it at one input. -/
def initsOrderWrong : ChangeSpec := { name := "initsOrder", fn := fun _ => fun
  | [d] => { results := [.lit (.bool false)], args := [d] }
  | _ => none }
def InitsOrderWrongFalsely : Prop := initsOrderRow.holds Try.pinned (OpenSpec.ofChange initsOrderWrong)

/-- 'bailmentlaw10.InitsBoth': WHATEVER THE INPUT: true; the input reads as it did. -/
def initsBothSpec : ChangeSpec := { name := "initsBoth", fn := fun _ => fun
  | [d1, d2] => { results := [.lit (.bool true)], args := [d1, d2] }
  | _ => none }
def initsBothRow : OpenClaim := { program := "ytcgipnodielieaa", sum := "c82f2d0707650c555089c6e5f7132a9aa4123329f3a830d80519c895d5e76e15", func := "bailment/bailmentlaw10.InitsBoth", spec := "initsBoth", unfollowed := true, recurses := true, apart := false }
def InitsBothSaid : Prop := initsBothRow.holds Try.pinned (OpenSpec.ofChange initsBothSpec)

/-- ITS FALSE NEIGHBOUR: 'it returns false'. Refute it at one input. -/
def initsBothWrong : ChangeSpec := { name := "initsBoth", fn := fun _ => fun
  | [d1, d2] => { results := [.lit (.bool false)], args := [d1, d2] }
  | _ => none }
def InitsBothWrongFalsely : Prop := initsBothRow.holds Try.pinned (OpenSpec.ofChange initsBothWrong)

/- THE SECOND FORM. 'bulk': how many values and letters a reading holds, each counted each time it is reached (what is shared counts as often as it is met; a slice's spare places count too). A statement '..UptoSaid' is the law's where the arguments, and the package variables that the reading takes, are together of bulk at most 1048576: NARROWER than '..Said'. Prove '..Said' where nothing that the law and all that it calls make is longer than what came in: it says more and counts as full. Else prove '..UptoSaid'. A law counts once. -/
mutual
def uptoBulk {H : Type} : DataW H → Nat
  | .lit (.string bytes) => bytes.length + 1
  | .lit _ => 1
  | .nil => 1
  | .ptr d => uptoBulk d + 1
  | .slice elems spare => uptoBulkAll elems + uptoBulkAll spare + 1
  | .agg parts => uptoBulkAll parts + 1
  | .iface _ d => uptoBulk d + 1
  | .map entries => uptoBulkEntries entries + 1
  | .held _ => 1
def uptoBulkAll {H : Type} : List (DataW H) → Nat
  | [] => 0
  | d :: r => uptoBulk d + uptoBulkAll r
def uptoBulkEntries {H : Type} : List (Lit × DataW H) → Nat
  | [] => 0
  | x :: r => uptoBulkEntry x + uptoBulkEntries r
def uptoBulkEntry {H : Type} : Lit × DataW H → Nat
  | (.string bytes, d) => bytes.length + uptoBulk d + 1
  | (_, d) => uptoBulk d + 1
 end
def uptoSmall : (H : Type) → List (DataW H) → Bool := fun _ ds => decide (uptoBulkAll ds ≤ 1048576)
def OpenSpec.upto (s : _root_.Go.ChangeSpec) : _root_.Go.OpenSpec := { _root_.Go.OpenSpec.ofChange s with cond := some uptoSmall }

/-- 'bailmentlaw10.InitsOf', WHERE WHAT IT READS IS OF BULK AT MOST 1048576: true; the input reads as it did. -/
def initsOfUptoRow : OpenClaim := { program := "ytcgipnodielieaa", sum := "c82f2d0707650c555089c6e5f7132a9aa4123329f3a830d80519c895d5e76e15", func := "bailment/bailmentlaw10.InitsOf", spec := "initsOf", unfollowed := true, recurses := true, apart := false, narrowed := true }
def InitsOfUptoSaid : Prop := initsOfUptoRow.holds Try.pinned (OpenSpec.upto initsOfSpec)

/-- 'bailmentlaw10.InitsCheck', WHERE WHAT IT READS IS OF BULK AT MOST 1048576: true; the input reads as it did. -/
def initsCheckUptoRow : OpenClaim := { program := "ytcgipnodielieaa", sum := "c82f2d0707650c555089c6e5f7132a9aa4123329f3a830d80519c895d5e76e15", func := "bailment/bailmentlaw10.InitsCheck", spec := "initsCheck", unfollowed := true, recurses := true, apart := false, narrowed := true }
def InitsCheckUptoSaid : Prop := initsCheckUptoRow.holds Try.pinned (OpenSpec.upto initsCheckSpec)

/-- 'bailmentlaw10.InitsArrow', WHERE WHAT IT READS IS OF BULK AT MOST 1048576: true; the input reads as it did. -/
def initsArrowUptoRow : OpenClaim := { program := "ytcgipnodielieaa", sum := "c82f2d0707650c555089c6e5f7132a9aa4123329f3a830d80519c895d5e76e15", func := "bailment/bailmentlaw10.InitsArrow", spec := "initsArrow", unfollowed := true, recurses := true, apart := false, narrowed := true }
def InitsArrowUptoSaid : Prop := initsArrowUptoRow.holds Try.pinned (OpenSpec.upto initsArrowSpec)

/-- 'bailmentlaw10.InitsPlain', WHERE WHAT IT READS IS OF BULK AT MOST 1048576: true; the input reads as it did. -/
def initsPlainUptoRow : OpenClaim := { program := "ytcgipnodielieaa", sum := "c82f2d0707650c555089c6e5f7132a9aa4123329f3a830d80519c895d5e76e15", func := "bailment/bailmentlaw10.InitsPlain", spec := "initsPlain", unfollowed := true, recurses := true, apart := false, narrowed := true }
def InitsPlainUptoSaid : Prop := initsPlainUptoRow.holds Try.pinned (OpenSpec.upto initsPlainSpec)

/-- 'bailmentlaw10.InitsOrder', WHERE WHAT IT READS IS OF BULK AT MOST 1048576: true; the input reads as it did. -/
def initsOrderUptoRow : OpenClaim := { program := "ytcgipnodielieaa", sum := "c82f2d0707650c555089c6e5f7132a9aa4123329f3a830d80519c895d5e76e15", func := "bailment/bailmentlaw10.InitsOrder", spec := "initsOrder", unfollowed := true, recurses := true, apart := false, narrowed := true }
def InitsOrderUptoSaid : Prop := initsOrderUptoRow.holds Try.pinned (OpenSpec.upto initsOrderSpec)

/-- 'bailmentlaw10.InitsBoth', WHERE WHAT IT READS IS OF BULK AT MOST 1048576: true; the input reads as it did. -/
def initsBothUptoRow : OpenClaim := { program := "ytcgipnodielieaa", sum := "c82f2d0707650c555089c6e5f7132a9aa4123329f3a830d80519c895d5e76e15", func := "bailment/bailmentlaw10.InitsBoth", spec := "initsBoth", unfollowed := true, recurses := true, apart := false, narrowed := true }
def InitsBothUptoSaid : Prop := initsBothUptoRow.holds Try.pinned (OpenSpec.upto initsBothSpec)

end Rows
end Go.Proofs.Ytcgipnodielieaa
