/-
  No cell of these rows narrows 'for every input' (looked for: loops, veiled, ifaces, maps, wideKeys, modest, calm, conditions, laid).
  DERIVED. THE GIVEN ROWS OF THIS SEAT. 4 by the template 'for every input the law returns true; each argument reads behind the call as it read before'; 0 by the template 'total and deterministic' (their statements: YtifoobdekbjmdaaTotals.lean).
  GIVEN WITH THE SEED: the statements are not yours to turn. If you find one false, say at which input.
  Laid BY PROGRAM, IN A SANDBOX (cutbox-rows.mjs): the forced cells as the released guide's own fill.sh prints them over the translation 583ecf260ba822ca… (all of the seat's roots in one cut). By AI agents, Wed Nov 11 2026. No macro, syntax, notation, axiom, sorry.
-/
import Derived.Test.YtifoobdekbjmdaaChecked
import GoSem.Claim
import GoSem.ClaimJoined
import GoSem.ClaimMapViews
import Derived.JoinedTies
import Derived.KernelRfl
namespace Go.Proofs.Ytifoobdekbjmdaa
/- THE CELL 'sum', in the pinned program and in every row, IS THE sha256 OF THE DUMP (.gsa) THAT YtifoobdekbjmdaaProg.lean LOADS. Nothing in Lean hashes anything: it is a label: what it is worth is what the hold of that sum in a sandbox is worth. -/
noncomputable def Try.pinned : Pinned := { name := "ytifoobdekbjmdaa", sum := "583ecf260ba822ca997715f58b9eb059941c3306ef2d5060723fbd84a562ac4a", checked := Try.checked }
namespace Rows
def none {H : Type} : Left H := { results := [], args := [] }

/-- 'bailmentlaw11.CauseBehind': WHATEVER THE INPUT: true; the input reads as it did. -/
def causeBehindSpec : ChangeSpec := { name := "causeBehind", fn := fun _ => fun
  | [d] => { results := [.lit (.bool true)], args := [d] }
  | _ => none }
def causeBehindRow : OpenClaim := { program := "ytifoobdekbjmdaa", sum := "583ecf260ba822ca997715f58b9eb059941c3306ef2d5060723fbd84a562ac4a", func := "bailment/bailmentlaw11.CauseBehind", spec := "causeBehind", unfollowed := true, recurses := true, apart := false }
def CauseBehindSaid : Prop := causeBehindRow.holds Try.pinned (OpenSpec.ofChange causeBehindSpec)

/-- ITS FALSE NEIGHBOUR: 'it returns false'. Refute it at one input. -/
def causeBehindWrong : ChangeSpec := { name := "causeBehind", fn := fun _ => fun
  | [d] => { results := [.lit (.bool false)], args := [d] }
  | _ => none }
def CauseBehindWrongFalsely : Prop := causeBehindRow.holds Try.pinned (OpenSpec.ofChange causeBehindWrong)

/-- 'bailmentlaw11.CauseTurned': WHATEVER THE INPUT: true; the input reads as it did. -/
def causeTurnedSpec : ChangeSpec := { name := "causeTurned", fn := fun _ => fun
  | [d1, d2] => { results := [.lit (.bool true)], args := [d1, d2] }
  | _ => none }
def causeTurnedRow : OpenClaim := { program := "ytifoobdekbjmdaa", sum := "583ecf260ba822ca997715f58b9eb059941c3306ef2d5060723fbd84a562ac4a", func := "bailment/bailmentlaw11.CauseTurned", spec := "causeTurned", unfollowed := true, recurses := true, apart := false }
def CauseTurnedSaid : Prop := causeTurnedRow.holds Try.pinned (OpenSpec.ofChange causeTurnedSpec)

/-- ITS FALSE NEIGHBOUR: 'it returns false'. Refute it at one input. -/
def causeTurnedWrong : ChangeSpec := { name := "causeTurned", fn := fun _ => fun
  | [d1, d2] => { results := [.lit (.bool false)], args := [d1, d2] }
  | _ => none }
def CauseTurnedWrongFalsely : Prop := causeTurnedRow.holds Try.pinned (OpenSpec.ofChange causeTurnedWrong)

/-- 'bailmentlaw11.CauseLater': WHATEVER THE INPUT: true; the input reads as it did. -/
def causeLaterSpec : ChangeSpec := { name := "causeLater", fn := fun _ => fun
  | [d1, d2] => { results := [.lit (.bool true)], args := [d1, d2] }
  | _ => none }
def causeLaterRow : OpenClaim := { program := "ytifoobdekbjmdaa", sum := "583ecf260ba822ca997715f58b9eb059941c3306ef2d5060723fbd84a562ac4a", func := "bailment/bailmentlaw11.CauseLater", spec := "causeLater", unfollowed := true, recurses := true, apart := false }
def CauseLaterSaid : Prop := causeLaterRow.holds Try.pinned (OpenSpec.ofChange causeLaterSpec)

/-- ITS FALSE NEIGHBOUR: 'it returns false'. Refute it at one input. -/
def causeLaterWrong : ChangeSpec := { name := "causeLater", fn := fun _ => fun
  | [d1, d2] => { results := [.lit (.bool false)], args := [d1, d2] }
  | _ => none }
def CauseLaterWrongFalsely : Prop := causeLaterRow.holds Try.pinned (OpenSpec.ofChange causeLaterWrong)

/-- 'bailmentlaw11.CauseFree': WHATEVER THE INPUT: true; the input reads as it did. -/
def causeFreeSpec : ChangeSpec := { name := "causeFree", fn := fun _ => fun
  | [d] => { results := [.lit (.bool true)], args := [d] }
  | _ => none }
def causeFreeRow : OpenClaim := { program := "ytifoobdekbjmdaa", sum := "583ecf260ba822ca997715f58b9eb059941c3306ef2d5060723fbd84a562ac4a", func := "bailment/bailmentlaw11.CauseFree", spec := "causeFree", unfollowed := true, recurses := true, apart := false }
def CauseFreeSaid : Prop := causeFreeRow.holds Try.pinned (OpenSpec.ofChange causeFreeSpec)

/-- ITS FALSE NEIGHBOUR: 'it returns false'. Refute it at one input. -/
def causeFreeWrong : ChangeSpec := { name := "causeFree", fn := fun _ => fun
  | [d] => { results := [.lit (.bool false)], args := [d] }
  | _ => none }
def CauseFreeWrongFalsely : Prop := causeFreeRow.holds Try.pinned (OpenSpec.ofChange causeFreeWrong)

/- THE SECOND FORM. 'bulk': how many values and letters a reading holds, each counted each time it is reached (what is shared counts as often as it is met; a slice's spare places count too). A statement '..UptoSaid' is the law's where the arguments, and the package variables that the reading takes, are together of bulk at most 1048576: NARROWER than '..Said'. Prove '..Said' where nothing that the law and all that it calls make is longer than what came in: it says more and counts as full. Else prove '..UptoSaid'. A law counts once. -/
mutual
def uptoBulk {H : Type} : DataW H → Nat
  | .lit (.string bytes) => bytes.length + 1
  | .lit _ => 1
  | .nil => 1
  | .ptr d => uptoBulk d + 1
  | .slice elems spare => uptoBulkAll elems + uptoBulkAll spare + 1
  | .agg parts => uptoBulkAll parts + 1
  | .iface _ d => uptoBulk d + 1
  | .map entries => uptoBulkEntries entries + 1
  | .held _ => 1
def uptoBulkAll {H : Type} : List (DataW H) → Nat
  | [] => 0
  | d :: r => uptoBulk d + uptoBulkAll r
def uptoBulkEntries {H : Type} : List (Lit × DataW H) → Nat
  | [] => 0
  | x :: r => uptoBulkEntry x + uptoBulkEntries r
def uptoBulkEntry {H : Type} : Lit × DataW H → Nat
  | (.string bytes, d) => bytes.length + uptoBulk d + 1
  | (_, d) => uptoBulk d + 1
 end
def uptoSmall : (H : Type) → List (DataW H) → Bool := fun _ ds => decide (uptoBulkAll ds ≤ 1048576)
def OpenSpec.upto (s : _root_.Go.ChangeSpec) : _root_.Go.OpenSpec := { _root_.Go.OpenSpec.ofChange s with cond := some uptoSmall }

/-- 'bailmentlaw11.CauseBehind', WHERE WHAT IT READS IS OF BULK AT MOST 1048576: true; the input reads as it did. -/
def causeBehindUptoRow : OpenClaim := { program := "ytifoobdekbjmdaa", sum := "583ecf260ba822ca997715f58b9eb059941c3306ef2d5060723fbd84a562ac4a", func := "bailment/bailmentlaw11.CauseBehind", spec := "causeBehind", unfollowed := true, recurses := true, apart := false, narrowed := true }
def CauseBehindUptoSaid : Prop := causeBehindUptoRow.holds Try.pinned (OpenSpec.upto causeBehindSpec)

/-- 'bailmentlaw11.CauseTurned', WHERE WHAT IT READS IS OF BULK AT MOST 1048576: true; the input reads as it did. -/
def causeTurnedUptoRow : OpenClaim := { program := "ytifoobdekbjmdaa", sum := "583ecf260ba822ca997715f58b9eb059941c3306ef2d5060723fbd84a562ac4a", func := "bailment/bailmentlaw11.CauseTurned", spec := "causeTurned", unfollowed := true, recurses := true, apart := false, narrowed := true }
def CauseTurnedUptoSaid : Prop := causeTurnedUptoRow.holds Try.pinned (OpenSpec.upto causeTurnedSpec)

/-- 'bailmentlaw11.CauseLater', WHERE WHAT IT READS IS OF BULK AT MOST 1048576: true; the input reads as it did. -/
def causeLaterUptoRow : OpenClaim := { program := "ytifoobdekbjmdaa", sum := "583ecf260ba822ca997715f58b9eb059941c3306ef2d5060723fbd84a562ac4a", func := "bailment/bailmentlaw11.CauseLater", spec := "causeLater", unfollowed := true, recurses := true, apart := false, narrowed := true }
def CauseLaterUptoSaid : Prop := causeLaterUptoRow.holds Try.pinned (OpenSpec.upto causeLaterSpec)

/-- 'bailmentlaw11.CauseFree', WHERE WHAT IT READS IS OF BULK AT MOST 1048576: true; the input reads as it did. -/
def causeFreeUptoRow : OpenClaim := { program := "ytifoobdekbjmdaa", sum := "583ecf260ba822ca997715f58b9eb059941c3306ef2d5060723fbd84a562ac4a", func := "bailment/bailmentlaw11.CauseFree", spec := "causeFree", unfollowed := true, recurses := true, apart := false, narrowed := true }
def CauseFreeUptoSaid : Prop := causeFreeUptoRow.holds Try.pinned (OpenSpec.upto causeFreeSpec)

end Rows
end Go.Proofs.Ytifoobdekbjmdaa
