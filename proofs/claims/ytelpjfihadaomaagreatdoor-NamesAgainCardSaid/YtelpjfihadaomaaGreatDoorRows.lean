/-
  NARROWER THAN 'FOR EVERY INPUT', by the rows' own cells (each row's printed sentence says how): NamesResolve: laid · NamesAgain: laid · NamesGhosts: laid · NamesOrder: laid · NamesMain: laid.
  DERIVED. THE GIVEN ROWS OF THIS SEAT. 5 by the template 'for every input the law returns true; each argument reads behind the call as it read before'; 0 by the template 'total and deterministic' (their statements: YtelpjfihadaomaaGreatDoorTotals.lean).
  GIVEN WITH THE SEED: the statements are not yours to turn. If you find one false, say at which input.
  Laid BY PROGRAM, IN A SANDBOX (cutbox-rows.mjs): the forced cells as the released guide's own fill.sh prints them over the translation aedb609565998d12… (all of the seat's roots in one cut). By AI agents, Wed Nov 11 2026. No macro, syntax, notation, axiom, sorry.
-/
import Derived.Test.YtelpjfihadaomaaGreatDoorChecked
import GoSem.Claim
import GoSem.ClaimJoined
import GoSem.ClaimMapViews
import Derived.JoinedTies
import Derived.KernelRfl
namespace Go.Proofs.YtelpjfihadaomaaGreatDoor
/- THE CELL 'sum', in the pinned program and in every row, IS THE sha256 OF THE DUMP (.gsa) THAT YtelpjfihadaomaaGreatDoorProg.lean LOADS. Nothing in Lean hashes anything: it is a label: what it is worth is what the hold of that sum in a sandbox is worth. -/
noncomputable def Tryz.pinned : Pinned := { name := "ytelpjfihadaomaagreatdoor", sum := "aedb609565998d12e98322d6a967fe952e5c3f1014805e81e246001ece9f4e9e", checked := Tryz.checked }
namespace Rows
def none {H : Type} : Left H := { results := [], args := [] }

/- WHAT THE LISTED PACKAGE-LEVEL VARIABLES READ AS WHEN THE CALL BEGINS. Each datum BY PROGRAM (the guide's laid-datum.mjs) off the statement by which the dump's own 'gosem.cut.vars' lays the variable. In a bare row this is a premise. The card (YtelpjfihadaomaaGreatDoorCards.lean) ties it to the program's text. -/
def laid_bailment_lex_words {H : Type} : DataW H := .slice [.lit (.string [97, 110, 100]), .lit (.string [97, 115, 115, 117, 109, 101]), .lit (.string [98, 111, 111, 108]), .lit (.string [99, 111, 110, 116, 114, 97, 99, 116]), .lit (.string [100, 105, 118]), .lit (.string [101, 108, 115, 101]), .lit (.string [101, 110, 100]), .lit (.string [101, 110, 115, 117, 114, 101]), .lit (.string [102, 97, 108, 108, 98, 97, 99, 107]), .lit (.string [102, 97, 108, 115, 101]), .lit (.string [103, 104, 111, 115, 116]), .lit (.string [103, 117, 97, 114, 97, 110, 116, 101, 101]), .lit (.string [104, 105, 115, 116]), .lit (.string [105, 102]), .lit (.string [105, 109, 112, 111, 114, 116]), .lit (.string [105, 110, 116]), .lit (.string [108, 101, 116]), .lit (.string [109, 97, 105, 110]), .lit (.string [109, 111, 100]), .lit (.string [109, 111, 100, 101]), .lit (.string [110, 111, 100, 101]), .lit (.string [110, 111, 116]), .lit (.string [111, 110, 99, 101]), .lit (.string [111, 114]), .lit (.string [112, 114, 101]), .lit (.string [112, 114, 101, 118]), .lit (.string [114, 101, 113, 117, 105, 114, 101]), .lit (.string [114, 101, 116, 117, 114, 110, 115]), .lit (.string [115, 105, 110, 99, 101]), .lit (.string [116, 101, 108]), .lit (.string [116, 104, 101, 110]), .lit (.string [116, 114, 117, 101]), .lit (.string [118, 97, 114]), .lit (.string [119, 105, 116, 104, 105, 110]), .lit (.string [120, 111, 114])] []

/-- 'bailmentlaw08.NamesResolve': WHATEVER THE INPUT: true; the input reads as it did. -/
def namesResolveSpec : ChangeSpec := { name := "namesResolve", fn := fun _ => fun
  | [d1, d2] => { results := [.lit (.bool true)], args := [d1, d2] }
  | _ => none }
def namesResolveRow : OpenClaim := { program := "ytelpjfihadaomaagreatdoor", sum := "aedb609565998d12e98322d6a967fe952e5c3f1014805e81e246001ece9f4e9e", func := "bailment/bailmentlaw08.NamesResolve", spec := "namesResolve", inPlace := ["maps.clone"], unfollowed := true, recurses := true, named := ["bailment/lex.words"], apart := false, laid := [("bailment/lex.words", laid_bailment_lex_words)] }
def NamesResolveSaid : Prop := namesResolveRow.holds Tryz.pinned (OpenSpec.ofChange namesResolveSpec)

/-- ITS FALSE NEIGHBOUR: 'it returns false'. Refute it at one input. -/
def namesResolveWrong : ChangeSpec := { name := "namesResolve", fn := fun _ => fun
  | [d1, d2] => { results := [.lit (.bool false)], args := [d1, d2] }
  | _ => none }
def NamesResolveWrongFalsely : Prop := namesResolveRow.holds Tryz.pinned (OpenSpec.ofChange namesResolveWrong)

/-- 'bailmentlaw08.NamesAgain': WHATEVER THE INPUT: true; the input reads as it did. -/
def namesAgainSpec : ChangeSpec := { name := "namesAgain", fn := fun _ => fun
  | [d] => { results := [.lit (.bool true)], args := [d] }
  | _ => none }
def namesAgainRow : OpenClaim := { program := "ytelpjfihadaomaagreatdoor", sum := "aedb609565998d12e98322d6a967fe952e5c3f1014805e81e246001ece9f4e9e", func := "bailment/bailmentlaw08.NamesAgain", spec := "namesAgain", inPlace := ["maps.clone"], unfollowed := true, recurses := true, named := ["bailment/lex.words"], apart := false, laid := [("bailment/lex.words", laid_bailment_lex_words)] }
def NamesAgainSaid : Prop := namesAgainRow.holds Tryz.pinned (OpenSpec.ofChange namesAgainSpec)

/-- ITS FALSE NEIGHBOUR: 'it returns false'. Refute it at one input. -/
def namesAgainWrong : ChangeSpec := { name := "namesAgain", fn := fun _ => fun
  | [d] => { results := [.lit (.bool false)], args := [d] }
  | _ => none }
def NamesAgainWrongFalsely : Prop := namesAgainRow.holds Tryz.pinned (OpenSpec.ofChange namesAgainWrong)

/-- 'bailmentlaw08.NamesGhosts': WHATEVER THE INPUT: true; the input reads as it did. -/
def namesGhostsSpec : ChangeSpec := { name := "namesGhosts", fn := fun _ => fun
  | [d] => { results := [.lit (.bool true)], args := [d] }
  | _ => none }
def namesGhostsRow : OpenClaim := { program := "ytelpjfihadaomaagreatdoor", sum := "aedb609565998d12e98322d6a967fe952e5c3f1014805e81e246001ece9f4e9e", func := "bailment/bailmentlaw08.NamesGhosts", spec := "namesGhosts", inPlace := ["maps.clone"], unfollowed := true, recurses := true, named := ["bailment/lex.words"], apart := false, laid := [("bailment/lex.words", laid_bailment_lex_words)] }
def NamesGhostsSaid : Prop := namesGhostsRow.holds Tryz.pinned (OpenSpec.ofChange namesGhostsSpec)

/-- ITS FALSE NEIGHBOUR: 'it returns false'. Refute it at one input. -/
def namesGhostsWrong : ChangeSpec := { name := "namesGhosts", fn := fun _ => fun
  | [d] => { results := [.lit (.bool false)], args := [d] }
  | _ => none }
def NamesGhostsWrongFalsely : Prop := namesGhostsRow.holds Tryz.pinned (OpenSpec.ofChange namesGhostsWrong)

/-- 'bailmentlaw08.NamesOrder': WHATEVER THE INPUT: true; the input reads as it did. -/
def namesOrderSpec : ChangeSpec := { name := "namesOrder", fn := fun _ => fun
  | [d] => { results := [.lit (.bool true)], args := [d] }
  | _ => none }
def namesOrderRow : OpenClaim := { program := "ytelpjfihadaomaagreatdoor", sum := "aedb609565998d12e98322d6a967fe952e5c3f1014805e81e246001ece9f4e9e", func := "bailment/bailmentlaw08.NamesOrder", spec := "namesOrder", inPlace := ["maps.clone"], unfollowed := true, recurses := true, named := ["bailment/lex.words"], apart := false, laid := [("bailment/lex.words", laid_bailment_lex_words)] }
def NamesOrderSaid : Prop := namesOrderRow.holds Tryz.pinned (OpenSpec.ofChange namesOrderSpec)

/-- ITS FALSE NEIGHBOUR: 'it returns false'. Refute it at one input. -/
def namesOrderWrong : ChangeSpec := { name := "namesOrder", fn := fun _ => fun
  | [d] => { results := [.lit (.bool false)], args := [d] }
  | _ => none }
def NamesOrderWrongFalsely : Prop := namesOrderRow.holds Tryz.pinned (OpenSpec.ofChange namesOrderWrong)

/-- 'bailmentlaw08.NamesMain': WHATEVER THE INPUT: true; the input reads as it did. -/
def namesMainSpec : ChangeSpec := { name := "namesMain", fn := fun _ => fun
  | [d1, d2] => { results := [.lit (.bool true)], args := [d1, d2] }
  | _ => none }
def namesMainRow : OpenClaim := { program := "ytelpjfihadaomaagreatdoor", sum := "aedb609565998d12e98322d6a967fe952e5c3f1014805e81e246001ece9f4e9e", func := "bailment/bailmentlaw08.NamesMain", spec := "namesMain", inPlace := ["maps.clone"], unfollowed := true, recurses := true, named := ["bailment/lex.words"], apart := false, laid := [("bailment/lex.words", laid_bailment_lex_words)] }
def NamesMainSaid : Prop := namesMainRow.holds Tryz.pinned (OpenSpec.ofChange namesMainSpec)

/-- ITS FALSE NEIGHBOUR: 'it returns false'. Refute it at one input. -/
def namesMainWrong : ChangeSpec := { name := "namesMain", fn := fun _ => fun
  | [d1, d2] => { results := [.lit (.bool false)], args := [d1, d2] }
  | _ => none }
def NamesMainWrongFalsely : Prop := namesMainRow.holds Tryz.pinned (OpenSpec.ofChange namesMainWrong)

/- THE SECOND FORM. 'bulk': how many values and letters a reading holds, each counted each time it is reached (what is shared counts as often as it is met; a slice's spare places count too). A statement '..UptoSaid' is the law's where the arguments, and the package variables that the reading takes, are together of bulk at most 1048576: NARROWER than '..Said'. Prove '..Said' where nothing that the law and all that it calls make is longer than what came in: it says more and counts as full. Else prove '..UptoSaid'. A law counts once. -/
mutual
def uptoBulk {H : Type} : DataW H → Nat
  | .lit (.string bytes) => bytes.length + 1
  | .lit _ => 1
  | .nil => 1
  | .ptr d => uptoBulk d + 1
  | .slice elems spare => uptoBulkAll elems + uptoBulkAll spare + 1
  | .agg parts => uptoBulkAll parts + 1
  | .iface _ d => uptoBulk d + 1
  | .map entries => uptoBulkEntries entries + 1
  | .held _ => 1
def uptoBulkAll {H : Type} : List (DataW H) → Nat
  | [] => 0
  | d :: r => uptoBulk d + uptoBulkAll r
def uptoBulkEntries {H : Type} : List (Lit × DataW H) → Nat
  | [] => 0
  | x :: r => uptoBulkEntry x + uptoBulkEntries r
def uptoBulkEntry {H : Type} : Lit × DataW H → Nat
  | (.string bytes, d) => bytes.length + uptoBulk d + 1
  | (_, d) => uptoBulk d + 1
 end
def uptoSmall : (H : Type) → List (DataW H) → Bool := fun _ ds => decide (uptoBulkAll ds ≤ 1048576)
def OpenSpec.upto (s : _root_.Go.ChangeSpec) : _root_.Go.OpenSpec := { _root_.Go.OpenSpec.ofChange s with cond := some uptoSmall }

/-- 'bailmentlaw08.NamesResolve', WHERE WHAT IT READS IS OF BULK AT MOST 1048576: true; the input reads as it did. -/
def namesResolveUptoRow : OpenClaim := { program := "ytelpjfihadaomaagreatdoor", sum := "aedb609565998d12e98322d6a967fe952e5c3f1014805e81e246001ece9f4e9e", func := "bailment/bailmentlaw08.NamesResolve", spec := "namesResolve", inPlace := ["maps.clone"], unfollowed := true, recurses := true, named := ["bailment/lex.words"], apart := false, laid := [("bailment/lex.words", laid_bailment_lex_words)], narrowed := true }
def NamesResolveUptoSaid : Prop := namesResolveUptoRow.holds Tryz.pinned (OpenSpec.upto namesResolveSpec)

/-- 'bailmentlaw08.NamesAgain', WHERE WHAT IT READS IS OF BULK AT MOST 1048576: true; the input reads as it did. -/
def namesAgainUptoRow : OpenClaim := { program := "ytelpjfihadaomaagreatdoor", sum := "aedb609565998d12e98322d6a967fe952e5c3f1014805e81e246001ece9f4e9e", func := "bailment/bailmentlaw08.NamesAgain", spec := "namesAgain", inPlace := ["maps.clone"], unfollowed := true, recurses := true, named := ["bailment/lex.words"], apart := false, laid := [("bailment/lex.words", laid_bailment_lex_words)], narrowed := true }
def NamesAgainUptoSaid : Prop := namesAgainUptoRow.holds Tryz.pinned (OpenSpec.upto namesAgainSpec)

/-- 'bailmentlaw08.NamesGhosts', WHERE WHAT IT READS IS OF BULK AT MOST 1048576: true; the input reads as it did. -/
def namesGhostsUptoRow : OpenClaim := { program := "ytelpjfihadaomaagreatdoor", sum := "aedb609565998d12e98322d6a967fe952e5c3f1014805e81e246001ece9f4e9e", func := "bailment/bailmentlaw08.NamesGhosts", spec := "namesGhosts", inPlace := ["maps.clone"], unfollowed := true, recurses := true, named := ["bailment/lex.words"], apart := false, laid := [("bailment/lex.words", laid_bailment_lex_words)], narrowed := true }
def NamesGhostsUptoSaid : Prop := namesGhostsUptoRow.holds Tryz.pinned (OpenSpec.upto namesGhostsSpec)

/-- 'bailmentlaw08.NamesOrder', WHERE WHAT IT READS IS OF BULK AT MOST 1048576: true; the input reads as it did. -/
def namesOrderUptoRow : OpenClaim := { program := "ytelpjfihadaomaagreatdoor", sum := "aedb609565998d12e98322d6a967fe952e5c3f1014805e81e246001ece9f4e9e", func := "bailment/bailmentlaw08.NamesOrder", spec := "namesOrder", inPlace := ["maps.clone"], unfollowed := true, recurses := true, named := ["bailment/lex.words"], apart := false, laid := [("bailment/lex.words", laid_bailment_lex_words)], narrowed := true }
def NamesOrderUptoSaid : Prop := namesOrderUptoRow.holds Tryz.pinned (OpenSpec.upto namesOrderSpec)

/-- 'bailmentlaw08.NamesMain', WHERE WHAT IT READS IS OF BULK AT MOST 1048576: true; the input reads as it did. -/
def namesMainUptoRow : OpenClaim := { program := "ytelpjfihadaomaagreatdoor", sum := "aedb609565998d12e98322d6a967fe952e5c3f1014805e81e246001ece9f4e9e", func := "bailment/bailmentlaw08.NamesMain", spec := "namesMain", inPlace := ["maps.clone"], unfollowed := true, recurses := true, named := ["bailment/lex.words"], apart := false, laid := [("bailment/lex.words", laid_bailment_lex_words)], narrowed := true }
def NamesMainUptoSaid : Prop := namesMainUptoRow.holds Tryz.pinned (OpenSpec.upto namesMainSpec)

end Rows
end Go.Proofs.YtelpjfihadaomaaGreatDoor
