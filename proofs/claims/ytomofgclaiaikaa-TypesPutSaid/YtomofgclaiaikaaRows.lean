/-
  No cell of these rows narrows 'for every input' (looked for: loops, veiled, ifaces, maps, wideKeys, modest, calm, conditions, laid).
  DERIVED. THE GIVEN ROWS OF THIS SEAT. 4 by the template 'for every input the law returns true; each argument reads behind the call as it read before'; 0 by the template 'total and deterministic' (their statements: YtomofgclaiaikaaTotals.lean).
  GIVEN WITH THE SEED: the statements are not yours to turn. If you find one false, say at which input.
  Laid BY PROGRAM, IN A SANDBOX (cutbox-rows.mjs): the forced cells as the released guide's own fill.sh prints them over the translation f696da463973279c… (all of the seat's roots in one cut). By AI agents, Wed Nov 11 2026. No macro, syntax, notation, axiom, sorry.
-/
import Derived.Test.YtomofgclaiaikaaChecked
import GoSem.Claim
import GoSem.ClaimJoined
import GoSem.ClaimMapViews
import Derived.JoinedTies
import Derived.KernelRfl
namespace Go.Proofs.Ytomofgclaiaikaa
/- THE CELL 'sum', in the pinned program and in every row, IS THE sha256 OF THE DUMP (.gsa) THAT YtomofgclaiaikaaProg.lean LOADS. Nothing in Lean hashes anything: it is a label: what it is worth is what the hold of that sum in a sandbox is worth. -/
noncomputable def Try.pinned : Pinned := { name := "ytomofgclaiaikaa", sum := "f696da463973279c2c644e5d9f56b571560dbc09baef092f1e383b46ce902c94", checked := Try.checked }
namespace Rows
def none {H : Type} : Left H := { results := [], args := [] }

/-- 'bailmentlaw09.TypesParts': WHATEVER THE INPUT: true; the input reads as it did. -/
def typesPartsSpec : ChangeSpec := { name := "typesParts", fn := fun _ => fun
  | [d1, d2, d3] => { results := [.lit (.bool true)], args := [d1, d2, d3] }
  | _ => none }
def typesPartsRow : OpenClaim := { program := "ytomofgclaiaikaa", sum := "f696da463973279c2c644e5d9f56b571560dbc09baef092f1e383b46ce902c94", func := "bailment/bailmentlaw09.TypesParts", spec := "typesParts", unfollowed := true, recurses := true, apart := false }
def TypesPartsSaid : Prop := typesPartsRow.holds Try.pinned (OpenSpec.ofChange typesPartsSpec)

/-- ITS FALSE NEIGHBOUR: 'it returns false'. Refute it at one input. -/
def typesPartsWrong : ChangeSpec := { name := "typesParts", fn := fun _ => fun
  | [d1, d2, d3] => { results := [.lit (.bool false)], args := [d1, d2, d3] }
  | _ => none }
def TypesPartsWrongFalsely : Prop := typesPartsRow.holds Try.pinned (OpenSpec.ofChange typesPartsWrong)

/-- 'bailmentlaw09.TypesPut': WHATEVER THE INPUT: true; the input reads as it did. -/
def typesPutSpec : ChangeSpec := { name := "typesPut", fn := fun _ => fun
  | [d] => { results := [.lit (.bool true)], args := [d] }
  | _ => none }
def typesPutRow : OpenClaim := { program := "ytomofgclaiaikaa", sum := "f696da463973279c2c644e5d9f56b571560dbc09baef092f1e383b46ce902c94", func := "bailment/bailmentlaw09.TypesPut", spec := "typesPut", unfollowed := true, recurses := true, apart := false }
def TypesPutSaid : Prop := typesPutRow.holds Try.pinned (OpenSpec.ofChange typesPutSpec)

/-- ITS FALSE NEIGHBOUR: 'it returns false'. Refute it at one input. -/
def typesPutWrong : ChangeSpec := { name := "typesPut", fn := fun _ => fun
  | [d] => { results := [.lit (.bool false)], args := [d] }
  | _ => none }
def TypesPutWrongFalsely : Prop := typesPutRow.holds Try.pinned (OpenSpec.ofChange typesPutWrong)

/-- 'bailmentlaw09.TypesMore': WHATEVER THE INPUT: true; the input reads as it did. -/
def typesMoreSpec : ChangeSpec := { name := "typesMore", fn := fun _ => fun
  | [d1, d2, d3] => { results := [.lit (.bool true)], args := [d1, d2, d3] }
  | _ => none }
def typesMoreRow : OpenClaim := { program := "ytomofgclaiaikaa", sum := "f696da463973279c2c644e5d9f56b571560dbc09baef092f1e383b46ce902c94", func := "bailment/bailmentlaw09.TypesMore", spec := "typesMore", unfollowed := true, recurses := true, apart := false }
def TypesMoreSaid : Prop := typesMoreRow.holds Try.pinned (OpenSpec.ofChange typesMoreSpec)

/-- ITS FALSE NEIGHBOUR: 'it returns false'. Refute it at one input. -/
def typesMoreWrong : ChangeSpec := { name := "typesMore", fn := fun _ => fun
  | [d1, d2, d3] => { results := [.lit (.bool false)], args := [d1, d2, d3] }
  | _ => none }
def TypesMoreWrongFalsely : Prop := typesMoreRow.holds Try.pinned (OpenSpec.ofChange typesMoreWrong)

/-- 'bailmentlaw09.TypesPick': WHATEVER THE INPUT: true; the input reads as it did. -/
def typesPickSpec : ChangeSpec := { name := "typesPick", fn := fun _ => fun
  | [d1, d2, d3] => { results := [.lit (.bool true)], args := [d1, d2, d3] }
  | _ => none }
def typesPickRow : OpenClaim := { program := "ytomofgclaiaikaa", sum := "f696da463973279c2c644e5d9f56b571560dbc09baef092f1e383b46ce902c94", func := "bailment/bailmentlaw09.TypesPick", spec := "typesPick", unfollowed := true, recurses := true, apart := false }
def TypesPickSaid : Prop := typesPickRow.holds Try.pinned (OpenSpec.ofChange typesPickSpec)

/-- ITS FALSE NEIGHBOUR: 'it returns false'. Refute it at one input. -/
def typesPickWrong : ChangeSpec := { name := "typesPick", fn := fun _ => fun
  | [d1, d2, d3] => { results := [.lit (.bool false)], args := [d1, d2, d3] }
  | _ => none }
def TypesPickWrongFalsely : Prop := typesPickRow.holds Try.pinned (OpenSpec.ofChange typesPickWrong)

/- THE SECOND FORM. 'bulk': how many values and letters a reading holds, each counted each time it is reached (what is shared counts as often as it is met; a slice's spare places count too). A statement '..UptoSaid' is the law's where the arguments, and the package variables that the reading takes, are together of bulk at most 1048576: NARROWER than '..Said'. Prove '..Said' where nothing that the law and all that it calls make is longer than what came in: it says more and counts as full. Else prove '..UptoSaid'. A law counts once. -/
mutual
def uptoBulk {H : Type} : DataW H → Nat
  | .lit (.string bytes) => bytes.length + 1
  | .lit _ => 1
  | .nil => 1
  | .ptr d => uptoBulk d + 1
  | .slice elems spare => uptoBulkAll elems + uptoBulkAll spare + 1
  | .agg parts => uptoBulkAll parts + 1
  | .iface _ d => uptoBulk d + 1
  | .map entries => uptoBulkEntries entries + 1
  | .held _ => 1
def uptoBulkAll {H : Type} : List (DataW H) → Nat
  | [] => 0
  | d :: r => uptoBulk d + uptoBulkAll r
def uptoBulkEntries {H : Type} : List (Lit × DataW H) → Nat
  | [] => 0
  | x :: r => uptoBulkEntry x + uptoBulkEntries r
def uptoBulkEntry {H : Type} : Lit × DataW H → Nat
  | (.string bytes, d) => bytes.length + uptoBulk d + 1
  | (_, d) => uptoBulk d + 1
 end
def uptoSmall : (H : Type) → List (DataW H) → Bool := fun _ ds => decide (uptoBulkAll ds ≤ 1048576)
def OpenSpec.upto (s : _root_.Go.ChangeSpec) : _root_.Go.OpenSpec := { _root_.Go.OpenSpec.ofChange s with cond := some uptoSmall }

/-- 'bailmentlaw09.TypesParts', WHERE WHAT IT READS IS OF BULK AT MOST 1048576: true; the input reads as it did. -/
def typesPartsUptoRow : OpenClaim := { program := "ytomofgclaiaikaa", sum := "f696da463973279c2c644e5d9f56b571560dbc09baef092f1e383b46ce902c94", func := "bailment/bailmentlaw09.TypesParts", spec := "typesParts", unfollowed := true, recurses := true, apart := false, narrowed := true }
def TypesPartsUptoSaid : Prop := typesPartsUptoRow.holds Try.pinned (OpenSpec.upto typesPartsSpec)

/-- 'bailmentlaw09.TypesPut', WHERE WHAT IT READS IS OF BULK AT MOST 1048576: true; the input reads as it did. -/
def typesPutUptoRow : OpenClaim := { program := "ytomofgclaiaikaa", sum := "f696da463973279c2c644e5d9f56b571560dbc09baef092f1e383b46ce902c94", func := "bailment/bailmentlaw09.TypesPut", spec := "typesPut", unfollowed := true, recurses := true, apart := false, narrowed := true }
def TypesPutUptoSaid : Prop := typesPutUptoRow.holds Try.pinned (OpenSpec.upto typesPutSpec)

/-- 'bailmentlaw09.TypesMore', WHERE WHAT IT READS IS OF BULK AT MOST 1048576: true; the input reads as it did. -/
def typesMoreUptoRow : OpenClaim := { program := "ytomofgclaiaikaa", sum := "f696da463973279c2c644e5d9f56b571560dbc09baef092f1e383b46ce902c94", func := "bailment/bailmentlaw09.TypesMore", spec := "typesMore", unfollowed := true, recurses := true, apart := false, narrowed := true }
def TypesMoreUptoSaid : Prop := typesMoreUptoRow.holds Try.pinned (OpenSpec.upto typesMoreSpec)

/-- 'bailmentlaw09.TypesPick', WHERE WHAT IT READS IS OF BULK AT MOST 1048576: true; the input reads as it did. -/
def typesPickUptoRow : OpenClaim := { program := "ytomofgclaiaikaa", sum := "f696da463973279c2c644e5d9f56b571560dbc09baef092f1e383b46ce902c94", func := "bailment/bailmentlaw09.TypesPick", spec := "typesPick", unfollowed := true, recurses := true, apart := false, narrowed := true }
def TypesPickUptoSaid : Prop := typesPickUptoRow.holds Try.pinned (OpenSpec.upto typesPickSpec)

end Rows
end Go.Proofs.Ytomofgclaiaikaa
