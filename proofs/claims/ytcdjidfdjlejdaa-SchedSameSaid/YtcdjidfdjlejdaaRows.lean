/-
  No cell of these rows narrows 'for every input' (looked for: loops, veiled, ifaces, maps, wideKeys, modest, calm, conditions, laid).
  DERIVED. THE GIVEN ROWS OF THIS SEAT. 5 by the template 'for every input the law returns true; each argument reads behind the call as it read before'; 0 by the template 'total and deterministic' (their statements: YtcdjidfdjlejdaaTotals.lean).
  GIVEN WITH THE SEED: the statements are not yours to turn. If you find one false, say at which input.
  Laid BY PROGRAM, IN A SANDBOX (cutbox-rows.mjs): the forced cells as the released guide's own fill.sh prints them over the translation da6891bb72f268e0… (all of the seat's roots in one cut). By AI agents, Wed Nov 11 2026. No macro, syntax, notation, axiom, sorry.
-/
import Derived.Test.YtcdjidfdjlejdaaChecked
import GoSem.Claim
import GoSem.ClaimJoined
import GoSem.ClaimMapViews
import Derived.JoinedTies
import Derived.KernelRfl
namespace Go.Proofs.Ytcdjidfdjlejdaa
/- THE CELL 'sum', in the pinned program and in every row, IS THE sha256 OF THE DUMP (.gsa) THAT YtcdjidfdjlejdaaProg.lean LOADS. Nothing in Lean hashes anything: it is a label: what it is worth is what the hold of that sum in a sandbox is worth. -/
noncomputable def Try.pinned : Pinned := { name := "ytcdjidfdjlejdaa", sum := "da6891bb72f268e0f042a3a8327ae7fda440ae2e55e91a12f2acdffc58c64a21", checked := Try.checked }
namespace Rows
def none {H : Type} : Left H := { results := [], args := [] }

/-- 'bailmentlaw15.SchedSorts': WHATEVER THE INPUT: true; the input reads as it did. -/
def schedSortsSpec : ChangeSpec := { name := "schedSorts", fn := fun _ => fun
  | [d] => { results := [.lit (.bool true)], args := [d] }
  | _ => none }
def schedSortsRow : OpenClaim := { program := "ytcdjidfdjlejdaa", sum := "da6891bb72f268e0f042a3a8327ae7fda440ae2e55e91a12f2acdffc58c64a21", func := "bailment/bailmentlaw15.SchedSorts", spec := "schedSorts", unfollowed := true, recurses := true, apart := false }
def SchedSortsSaid : Prop := schedSortsRow.holds Try.pinned (OpenSpec.ofChange schedSortsSpec)

/-- ITS FALSE NEIGHBOUR: 'it returns false'. Refute it at one input. -/
def schedSortsWrong : ChangeSpec := { name := "schedSorts", fn := fun _ => fun
  | [d] => { results := [.lit (.bool false)], args := [d] }
  | _ => none }
def SchedSortsWrongFalsely : Prop := schedSortsRow.holds Try.pinned (OpenSpec.ofChange schedSortsWrong)

/-- 'bailmentlaw15.SchedSame': WHATEVER THE INPUT: true; the input reads as it did. -/
def schedSameSpec : ChangeSpec := { name := "schedSame", fn := fun _ => fun
  | [d1, d2] => { results := [.lit (.bool true)], args := [d1, d2] }
  | _ => none }
def schedSameRow : OpenClaim := { program := "ytcdjidfdjlejdaa", sum := "da6891bb72f268e0f042a3a8327ae7fda440ae2e55e91a12f2acdffc58c64a21", func := "bailment/bailmentlaw15.SchedSame", spec := "schedSame", unfollowed := true, recurses := true, apart := false }
def SchedSameSaid : Prop := schedSameRow.holds Try.pinned (OpenSpec.ofChange schedSameSpec)

/-- ITS FALSE NEIGHBOUR: 'it returns false'. Refute it at one input. -/
def schedSameWrong : ChangeSpec := { name := "schedSame", fn := fun _ => fun
  | [d1, d2] => { results := [.lit (.bool false)], args := [d1, d2] }
  | _ => none }
def SchedSameWrongFalsely : Prop := schedSameRow.holds Try.pinned (OpenSpec.ofChange schedSameWrong)

/-- 'bailmentlaw15.SchedAgain': WHATEVER THE INPUT: true; the input reads as it did. -/
def schedAgainSpec : ChangeSpec := { name := "schedAgain", fn := fun _ => fun
  | [d] => { results := [.lit (.bool true)], args := [d] }
  | _ => none }
def schedAgainRow : OpenClaim := { program := "ytcdjidfdjlejdaa", sum := "da6891bb72f268e0f042a3a8327ae7fda440ae2e55e91a12f2acdffc58c64a21", func := "bailment/bailmentlaw15.SchedAgain", spec := "schedAgain", unfollowed := true, recurses := true, apart := false }
def SchedAgainSaid : Prop := schedAgainRow.holds Try.pinned (OpenSpec.ofChange schedAgainSpec)

/-- ITS FALSE NEIGHBOUR: 'it returns false'. Refute it at one input. -/
def schedAgainWrong : ChangeSpec := { name := "schedAgain", fn := fun _ => fun
  | [d] => { results := [.lit (.bool false)], args := [d] }
  | _ => none }
def SchedAgainWrongFalsely : Prop := schedAgainRow.holds Try.pinned (OpenSpec.ofChange schedAgainWrong)

/-- 'bailmentlaw15.SchedBehind': WHATEVER THE INPUT: true; the input reads as it did. -/
def schedBehindSpec : ChangeSpec := { name := "schedBehind", fn := fun _ => fun
  | [d] => { results := [.lit (.bool true)], args := [d] }
  | _ => none }
def schedBehindRow : OpenClaim := { program := "ytcdjidfdjlejdaa", sum := "da6891bb72f268e0f042a3a8327ae7fda440ae2e55e91a12f2acdffc58c64a21", func := "bailment/bailmentlaw15.SchedBehind", spec := "schedBehind", unfollowed := true, recurses := true, apart := false }
def SchedBehindSaid : Prop := schedBehindRow.holds Try.pinned (OpenSpec.ofChange schedBehindSpec)

/-- ITS FALSE NEIGHBOUR: 'it returns false'. Refute it at one input. -/
def schedBehindWrong : ChangeSpec := { name := "schedBehind", fn := fun _ => fun
  | [d] => { results := [.lit (.bool false)], args := [d] }
  | _ => none }
def SchedBehindWrongFalsely : Prop := schedBehindRow.holds Try.pinned (OpenSpec.ofChange schedBehindWrong)

/-- 'bailmentlaw15.SchedEnds': WHATEVER THE INPUT: true; the input reads as it did. -/
def schedEndsSpec : ChangeSpec := { name := "schedEnds", fn := fun _ => fun
  | [d] => { results := [.lit (.bool true)], args := [d] }
  | _ => none }
def schedEndsRow : OpenClaim := { program := "ytcdjidfdjlejdaa", sum := "da6891bb72f268e0f042a3a8327ae7fda440ae2e55e91a12f2acdffc58c64a21", func := "bailment/bailmentlaw15.SchedEnds", spec := "schedEnds", unfollowed := true, recurses := true, apart := false }
def SchedEndsSaid : Prop := schedEndsRow.holds Try.pinned (OpenSpec.ofChange schedEndsSpec)

/-- ITS FALSE NEIGHBOUR: 'it returns false'. Refute it at one input. -/
def schedEndsWrong : ChangeSpec := { name := "schedEnds", fn := fun _ => fun
  | [d] => { results := [.lit (.bool false)], args := [d] }
  | _ => none }
def SchedEndsWrongFalsely : Prop := schedEndsRow.holds Try.pinned (OpenSpec.ofChange schedEndsWrong)

/- THE SECOND FORM. 'bulk': how many values and letters a reading holds, each counted each time it is reached (what is shared counts as often as it is met; a slice's spare places count too). A statement '..UptoSaid' is the law's where the arguments, and the package variables that the reading takes, are together of bulk at most 1048576: NARROWER than '..Said'. Prove '..Said' where nothing that the law and all that it calls make is longer than what came in: it says more and counts as full. Else prove '..UptoSaid'. A law counts once. -/
mutual
def uptoBulk {H : Type} : DataW H → Nat
  | .lit (.string bytes) => bytes.length + 1
  | .lit _ => 1
  | .nil => 1
  | .ptr d => uptoBulk d + 1
  | .slice elems spare => uptoBulkAll elems + uptoBulkAll spare + 1
  | .agg parts => uptoBulkAll parts + 1
  | .iface _ d => uptoBulk d + 1
  | .map entries => uptoBulkEntries entries + 1
  | .held _ => 1
def uptoBulkAll {H : Type} : List (DataW H) → Nat
  | [] => 0
  | d :: r => uptoBulk d + uptoBulkAll r
def uptoBulkEntries {H : Type} : List (Lit × DataW H) → Nat
  | [] => 0
  | x :: r => uptoBulkEntry x + uptoBulkEntries r
def uptoBulkEntry {H : Type} : Lit × DataW H → Nat
  | (.string bytes, d) => bytes.length + uptoBulk d + 1
  | (_, d) => uptoBulk d + 1
 end
def uptoSmall : (H : Type) → List (DataW H) → Bool := fun _ ds => decide (uptoBulkAll ds ≤ 1048576)
def OpenSpec.upto (s : _root_.Go.ChangeSpec) : _root_.Go.OpenSpec := { _root_.Go.OpenSpec.ofChange s with cond := some uptoSmall }

/-- 'bailmentlaw15.SchedSorts', WHERE WHAT IT READS IS OF BULK AT MOST 1048576: true; the input reads as it did. -/
def schedSortsUptoRow : OpenClaim := { program := "ytcdjidfdjlejdaa", sum := "da6891bb72f268e0f042a3a8327ae7fda440ae2e55e91a12f2acdffc58c64a21", func := "bailment/bailmentlaw15.SchedSorts", spec := "schedSorts", unfollowed := true, recurses := true, apart := false, narrowed := true }
def SchedSortsUptoSaid : Prop := schedSortsUptoRow.holds Try.pinned (OpenSpec.upto schedSortsSpec)

/-- 'bailmentlaw15.SchedSame', WHERE WHAT IT READS IS OF BULK AT MOST 1048576: true; the input reads as it did. -/
def schedSameUptoRow : OpenClaim := { program := "ytcdjidfdjlejdaa", sum := "da6891bb72f268e0f042a3a8327ae7fda440ae2e55e91a12f2acdffc58c64a21", func := "bailment/bailmentlaw15.SchedSame", spec := "schedSame", unfollowed := true, recurses := true, apart := false, narrowed := true }
def SchedSameUptoSaid : Prop := schedSameUptoRow.holds Try.pinned (OpenSpec.upto schedSameSpec)

/-- 'bailmentlaw15.SchedAgain', WHERE WHAT IT READS IS OF BULK AT MOST 1048576: true; the input reads as it did. -/
def schedAgainUptoRow : OpenClaim := { program := "ytcdjidfdjlejdaa", sum := "da6891bb72f268e0f042a3a8327ae7fda440ae2e55e91a12f2acdffc58c64a21", func := "bailment/bailmentlaw15.SchedAgain", spec := "schedAgain", unfollowed := true, recurses := true, apart := false, narrowed := true }
def SchedAgainUptoSaid : Prop := schedAgainUptoRow.holds Try.pinned (OpenSpec.upto schedAgainSpec)

/-- 'bailmentlaw15.SchedBehind', WHERE WHAT IT READS IS OF BULK AT MOST 1048576: true; the input reads as it did. -/
def schedBehindUptoRow : OpenClaim := { program := "ytcdjidfdjlejdaa", sum := "da6891bb72f268e0f042a3a8327ae7fda440ae2e55e91a12f2acdffc58c64a21", func := "bailment/bailmentlaw15.SchedBehind", spec := "schedBehind", unfollowed := true, recurses := true, apart := false, narrowed := true }
def SchedBehindUptoSaid : Prop := schedBehindUptoRow.holds Try.pinned (OpenSpec.upto schedBehindSpec)

/-- 'bailmentlaw15.SchedEnds', WHERE WHAT IT READS IS OF BULK AT MOST 1048576: true; the input reads as it did. -/
def schedEndsUptoRow : OpenClaim := { program := "ytcdjidfdjlejdaa", sum := "da6891bb72f268e0f042a3a8327ae7fda440ae2e55e91a12f2acdffc58c64a21", func := "bailment/bailmentlaw15.SchedEnds", spec := "schedEnds", unfollowed := true, recurses := true, apart := false, narrowed := true }
def SchedEndsUptoSaid : Prop := schedEndsUptoRow.holds Try.pinned (OpenSpec.upto schedEndsSpec)

end Rows
end Go.Proofs.Ytcdjidfdjlejdaa
