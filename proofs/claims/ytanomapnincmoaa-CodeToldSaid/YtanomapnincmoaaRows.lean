/-
  No cell of these rows narrows 'for every input' (looked for: loops, veiled, ifaces, maps, wideKeys, modest, calm, conditions, laid).
  DERIVED. THE GIVEN ROWS OF THIS SEAT. 5 by the template 'for every input the law returns true; each argument reads behind the call as it read before'; 0 by the template 'total and deterministic' (their statements: YtanomapnincmoaaTotals.lean).
  GIVEN WITH THE SEED: the statements are not yours to turn. If you find one false, say at which input.
  Laid BY PROGRAM, IN A SANDBOX (cutbox-rows.mjs): the forced cells as the released guide's own fill.sh prints them over the translation 8fd8fc1d7744ab84… (all of the seat's roots in one cut). By AI agents, Wed Nov 11 2026. No macro, syntax, notation, axiom, sorry.
-/
import Derived.Test.YtanomapnincmoaaChecked
import GoSem.Claim
import GoSem.ClaimJoined
import GoSem.ClaimMapViews
import Derived.JoinedTies
import Derived.KernelRfl
namespace Go.Proofs.Ytanomapnincmoaa
/- THE CELL 'sum', in the pinned program and in every row, IS THE sha256 OF THE DUMP (.gsa) THAT YtanomapnincmoaaProg.lean LOADS. Nothing in Lean hashes anything: it is a label: what it is worth is what the hold of that sum in a sandbox is worth. -/
noncomputable def Try.pinned : Pinned := { name := "ytanomapnincmoaa", sum := "8fd8fc1d7744ab84164ae12003e6679bca389da41e42e2437daa0197327ea531", checked := Try.checked }
namespace Rows
def none {H : Type} : Left H := { results := [], args := [] }

/-- 'bailmentlaw16.CodeChecks': WHATEVER THE INPUT: true; the input reads as it did. -/
def codeChecksSpec : ChangeSpec := { name := "codeChecks", fn := fun _ => fun
  | [d] => { results := [.lit (.bool true)], args := [d] }
  | _ => none }
def codeChecksRow : OpenClaim := { program := "ytanomapnincmoaa", sum := "8fd8fc1d7744ab84164ae12003e6679bca389da41e42e2437daa0197327ea531", func := "bailment/bailmentlaw16.CodeChecks", spec := "codeChecks", unfollowed := true, recurses := true, apart := false }
def CodeChecksSaid : Prop := codeChecksRow.holds Try.pinned (OpenSpec.ofChange codeChecksSpec)

/-- ITS FALSE NEIGHBOUR: 'it returns false'. Refute it at one input. -/
def codeChecksWrong : ChangeSpec := { name := "codeChecks", fn := fun _ => fun
  | [d] => { results := [.lit (.bool false)], args := [d] }
  | _ => none }
def CodeChecksWrongFalsely : Prop := codeChecksRow.holds Try.pinned (OpenSpec.ofChange codeChecksWrong)

/-- 'bailmentlaw16.CodeSame': WHATEVER THE INPUT: true; the input reads as it did. -/
def codeSameSpec : ChangeSpec := { name := "codeSame", fn := fun _ => fun
  | [d1, d2, d3] => { results := [.lit (.bool true)], args := [d1, d2, d3] }
  | _ => none }
def codeSameRow : OpenClaim := { program := "ytanomapnincmoaa", sum := "8fd8fc1d7744ab84164ae12003e6679bca389da41e42e2437daa0197327ea531", func := "bailment/bailmentlaw16.CodeSame", spec := "codeSame", unfollowed := true, recurses := true, apart := false }
def CodeSameSaid : Prop := codeSameRow.holds Try.pinned (OpenSpec.ofChange codeSameSpec)

/-- ITS FALSE NEIGHBOUR: 'it returns false'. Refute it at one input. -/
def codeSameWrong : ChangeSpec := { name := "codeSame", fn := fun _ => fun
  | [d1, d2, d3] => { results := [.lit (.bool false)], args := [d1, d2, d3] }
  | _ => none }
def CodeSameWrongFalsely : Prop := codeSameRow.holds Try.pinned (OpenSpec.ofChange codeSameWrong)

/-- 'bailmentlaw16.CodeSizes': WHATEVER THE INPUT: true; the input reads as it did. -/
def codeSizesSpec : ChangeSpec := { name := "codeSizes", fn := fun _ => fun
  | [d1, d2] => { results := [.lit (.bool true)], args := [d1, d2] }
  | _ => none }
def codeSizesRow : OpenClaim := { program := "ytanomapnincmoaa", sum := "8fd8fc1d7744ab84164ae12003e6679bca389da41e42e2437daa0197327ea531", func := "bailment/bailmentlaw16.CodeSizes", spec := "codeSizes", unfollowed := true, recurses := true, apart := false }
def CodeSizesSaid : Prop := codeSizesRow.holds Try.pinned (OpenSpec.ofChange codeSizesSpec)

/-- ITS FALSE NEIGHBOUR: 'it returns false'. Refute it at one input. -/
def codeSizesWrong : ChangeSpec := { name := "codeSizes", fn := fun _ => fun
  | [d1, d2] => { results := [.lit (.bool false)], args := [d1, d2] }
  | _ => none }
def CodeSizesWrongFalsely : Prop := codeSizesRow.holds Try.pinned (OpenSpec.ofChange codeSizesWrong)

/-- 'bailmentlaw16.CodeTold': WHATEVER THE INPUT: true; the input reads as it did. -/
def codeToldSpec : ChangeSpec := { name := "codeTold", fn := fun _ => fun
  | [d1, d2, d3] => { results := [.lit (.bool true)], args := [d1, d2, d3] }
  | _ => none }
def codeToldRow : OpenClaim := { program := "ytanomapnincmoaa", sum := "8fd8fc1d7744ab84164ae12003e6679bca389da41e42e2437daa0197327ea531", func := "bailment/bailmentlaw16.CodeTold", spec := "codeTold", unfollowed := true, recurses := true, apart := false }
def CodeToldSaid : Prop := codeToldRow.holds Try.pinned (OpenSpec.ofChange codeToldSpec)

/-- ITS FALSE NEIGHBOUR: 'it returns false'. Refute it at one input. -/
def codeToldWrong : ChangeSpec := { name := "codeTold", fn := fun _ => fun
  | [d1, d2, d3] => { results := [.lit (.bool false)], args := [d1, d2, d3] }
  | _ => none }
def CodeToldWrongFalsely : Prop := codeToldRow.holds Try.pinned (OpenSpec.ofChange codeToldWrong)

/-- 'bailmentlaw16.CodeFewer': WHATEVER THE INPUT: true; the input reads as it did. -/
def codeFewerSpec : ChangeSpec := { name := "codeFewer", fn := fun _ => fun
  | [d1, d2, d3] => { results := [.lit (.bool true)], args := [d1, d2, d3] }
  | _ => none }
def codeFewerRow : OpenClaim := { program := "ytanomapnincmoaa", sum := "8fd8fc1d7744ab84164ae12003e6679bca389da41e42e2437daa0197327ea531", func := "bailment/bailmentlaw16.CodeFewer", spec := "codeFewer", unfollowed := true, recurses := true, apart := false }
def CodeFewerSaid : Prop := codeFewerRow.holds Try.pinned (OpenSpec.ofChange codeFewerSpec)

/-- ITS FALSE NEIGHBOUR: 'it returns false'. Refute it at one input. -/
def codeFewerWrong : ChangeSpec := { name := "codeFewer", fn := fun _ => fun
  | [d1, d2, d3] => { results := [.lit (.bool false)], args := [d1, d2, d3] }
  | _ => none }
def CodeFewerWrongFalsely : Prop := codeFewerRow.holds Try.pinned (OpenSpec.ofChange codeFewerWrong)

/- THE SECOND FORM. 'bulk': how many values and letters a reading holds, each counted each time it is reached (what is shared counts as often as it is met; a slice's spare places count too). A statement '..UptoSaid' is the law's where the arguments, and the package variables that the reading takes, are together of bulk at most 1048576: NARROWER than '..Said'. Prove '..Said' where nothing that the law and all that it calls make is longer than what came in: it says more and counts as full. Else prove '..UptoSaid'. A law counts once. -/
mutual
def uptoBulk {H : Type} : DataW H → Nat
  | .lit (.string bytes) => bytes.length + 1
  | .lit _ => 1
  | .nil => 1
  | .ptr d => uptoBulk d + 1
  | .slice elems spare => uptoBulkAll elems + uptoBulkAll spare + 1
  | .agg parts => uptoBulkAll parts + 1
  | .iface _ d => uptoBulk d + 1
  | .map entries => uptoBulkEntries entries + 1
  | .held _ => 1
def uptoBulkAll {H : Type} : List (DataW H) → Nat
  | [] => 0
  | d :: r => uptoBulk d + uptoBulkAll r
def uptoBulkEntries {H : Type} : List (Lit × DataW H) → Nat
  | [] => 0
  | x :: r => uptoBulkEntry x + uptoBulkEntries r
def uptoBulkEntry {H : Type} : Lit × DataW H → Nat
  | (.string bytes, d) => bytes.length + uptoBulk d + 1
  | (_, d) => uptoBulk d + 1
 end
def uptoSmall : (H : Type) → List (DataW H) → Bool := fun _ ds => decide (uptoBulkAll ds ≤ 1048576)
def OpenSpec.upto (s : _root_.Go.ChangeSpec) : _root_.Go.OpenSpec := { _root_.Go.OpenSpec.ofChange s with cond := some uptoSmall }

/-- 'bailmentlaw16.CodeChecks', WHERE WHAT IT READS IS OF BULK AT MOST 1048576: true; the input reads as it did. -/
def codeChecksUptoRow : OpenClaim := { program := "ytanomapnincmoaa", sum := "8fd8fc1d7744ab84164ae12003e6679bca389da41e42e2437daa0197327ea531", func := "bailment/bailmentlaw16.CodeChecks", spec := "codeChecks", unfollowed := true, recurses := true, apart := false, narrowed := true }
def CodeChecksUptoSaid : Prop := codeChecksUptoRow.holds Try.pinned (OpenSpec.upto codeChecksSpec)

/-- 'bailmentlaw16.CodeSame', WHERE WHAT IT READS IS OF BULK AT MOST 1048576: true; the input reads as it did. -/
def codeSameUptoRow : OpenClaim := { program := "ytanomapnincmoaa", sum := "8fd8fc1d7744ab84164ae12003e6679bca389da41e42e2437daa0197327ea531", func := "bailment/bailmentlaw16.CodeSame", spec := "codeSame", unfollowed := true, recurses := true, apart := false, narrowed := true }
def CodeSameUptoSaid : Prop := codeSameUptoRow.holds Try.pinned (OpenSpec.upto codeSameSpec)

/-- 'bailmentlaw16.CodeSizes', WHERE WHAT IT READS IS OF BULK AT MOST 1048576: true; the input reads as it did. -/
def codeSizesUptoRow : OpenClaim := { program := "ytanomapnincmoaa", sum := "8fd8fc1d7744ab84164ae12003e6679bca389da41e42e2437daa0197327ea531", func := "bailment/bailmentlaw16.CodeSizes", spec := "codeSizes", unfollowed := true, recurses := true, apart := false, narrowed := true }
def CodeSizesUptoSaid : Prop := codeSizesUptoRow.holds Try.pinned (OpenSpec.upto codeSizesSpec)

/-- 'bailmentlaw16.CodeTold', WHERE WHAT IT READS IS OF BULK AT MOST 1048576: true; the input reads as it did. -/
def codeToldUptoRow : OpenClaim := { program := "ytanomapnincmoaa", sum := "8fd8fc1d7744ab84164ae12003e6679bca389da41e42e2437daa0197327ea531", func := "bailment/bailmentlaw16.CodeTold", spec := "codeTold", unfollowed := true, recurses := true, apart := false, narrowed := true }
def CodeToldUptoSaid : Prop := codeToldUptoRow.holds Try.pinned (OpenSpec.upto codeToldSpec)

/-- 'bailmentlaw16.CodeFewer', WHERE WHAT IT READS IS OF BULK AT MOST 1048576: true; the input reads as it did. -/
def codeFewerUptoRow : OpenClaim := { program := "ytanomapnincmoaa", sum := "8fd8fc1d7744ab84164ae12003e6679bca389da41e42e2437daa0197327ea531", func := "bailment/bailmentlaw16.CodeFewer", spec := "codeFewer", unfollowed := true, recurses := true, apart := false, narrowed := true }
def CodeFewerUptoSaid : Prop := codeFewerUptoRow.holds Try.pinned (OpenSpec.upto codeFewerSpec)

end Rows
end Go.Proofs.Ytanomapnincmoaa
