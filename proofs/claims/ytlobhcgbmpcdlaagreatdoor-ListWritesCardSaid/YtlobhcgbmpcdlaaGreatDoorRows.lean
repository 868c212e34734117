/-
  NARROWER THAN 'FOR EVERY INPUT', by the rows' own cells (each row's printed sentence says how): ListWrites: laid · ListBack: laid · ListAgain: laid · ListOrder: laid · ListApart: laid · ListUnits: laid.
  DERIVED. THE GIVEN ROWS OF THIS SEAT. 6 by the template 'for every input the law returns true; each argument reads behind the call as it read before'; 0 by the template 'total and deterministic' (their statements: YtlobhcgbmpcdlaaGreatDoorTotals.lean).
  GIVEN WITH THE SEED: the statements are not yours to turn. If you find one false, say at which input.
  Laid BY PROGRAM, IN A SANDBOX (cutbox-rows.mjs): the forced cells as the released guide's own fill.sh prints them over the translation 8b311d9038b60583… (all of the seat's roots in one cut). By AI agents, Wed Nov 11 2026. No macro, syntax, notation, axiom, sorry.
-/
import Derived.Test.YtlobhcgbmpcdlaaGreatDoorChecked
import GoSem.Claim
import GoSem.ClaimJoined
import GoSem.ClaimMapViews
import Derived.JoinedTies
import Derived.KernelRfl
namespace Go.Proofs.YtlobhcgbmpcdlaaGreatDoor
/- THE CELL 'sum', in the pinned program and in every row, IS THE sha256 OF THE DUMP (.gsa) THAT YtlobhcgbmpcdlaaGreatDoorProg.lean LOADS. Nothing in Lean hashes anything: it is a label: what it is worth is what the hold of that sum in a sandbox is worth. -/
noncomputable def Tryz.pinned : Pinned := { name := "ytlobhcgbmpcdlaagreatdoor", sum := "8b311d9038b60583224bc349ebdfaa0b740e56691db6085f0e358aa905498400", checked := Tryz.checked }
namespace Rows
def none {H : Type} : Left H := { results := [], args := [] }

/- WHAT THE LISTED PACKAGE-LEVEL VARIABLES READ AS WHEN THE CALL BEGINS. Each datum BY PROGRAM (the guide's laid-datum.mjs) off the statement by which the dump's own 'gosem.cut.vars' lays the variable. In a bare row this is a premise. The card (YtlobhcgbmpcdlaaGreatDoorCards.lean) ties it to the program's text. -/
def laid_math_bits_deBruijn32tab {H : Type} : DataW H := .agg [.lit (.int .u8 0), .lit (.int .u8 1), .lit (.int .u8 28), .lit (.int .u8 2), .lit (.int .u8 29), .lit (.int .u8 14), .lit (.int .u8 24), .lit (.int .u8 3), .lit (.int .u8 30), .lit (.int .u8 22), .lit (.int .u8 20), .lit (.int .u8 15), .lit (.int .u8 25), .lit (.int .u8 17), .lit (.int .u8 4), .lit (.int .u8 8), .lit (.int .u8 31), .lit (.int .u8 27), .lit (.int .u8 13), .lit (.int .u8 23), .lit (.int .u8 21), .lit (.int .u8 19), .lit (.int .u8 16), .lit (.int .u8 7), .lit (.int .u8 26), .lit (.int .u8 12), .lit (.int .u8 18), .lit (.int .u8 6), .lit (.int .u8 11), .lit (.int .u8 5), .lit (.int .u8 10), .lit (.int .u8 9)]
def laid_math_bits_deBruijn64tab {H : Type} : DataW H := .agg [.lit (.int .u8 0), .lit (.int .u8 1), .lit (.int .u8 56), .lit (.int .u8 2), .lit (.int .u8 57), .lit (.int .u8 49), .lit (.int .u8 28), .lit (.int .u8 3), .lit (.int .u8 61), .lit (.int .u8 58), .lit (.int .u8 42), .lit (.int .u8 50), .lit (.int .u8 38), .lit (.int .u8 29), .lit (.int .u8 17), .lit (.int .u8 4), .lit (.int .u8 62), .lit (.int .u8 47), .lit (.int .u8 59), .lit (.int .u8 36), .lit (.int .u8 45), .lit (.int .u8 43), .lit (.int .u8 51), .lit (.int .u8 22), .lit (.int .u8 53), .lit (.int .u8 39), .lit (.int .u8 33), .lit (.int .u8 30), .lit (.int .u8 24), .lit (.int .u8 18), .lit (.int .u8 12), .lit (.int .u8 5), .lit (.int .u8 63), .lit (.int .u8 55), .lit (.int .u8 48), .lit (.int .u8 27), .lit (.int .u8 60), .lit (.int .u8 41), .lit (.int .u8 37), .lit (.int .u8 16), .lit (.int .u8 46), .lit (.int .u8 35), .lit (.int .u8 44), .lit (.int .u8 21), .lit (.int .u8 52), .lit (.int .u8 32), .lit (.int .u8 23), .lit (.int .u8 11), .lit (.int .u8 54), .lit (.int .u8 26), .lit (.int .u8 40), .lit (.int .u8 15), .lit (.int .u8 34), .lit (.int .u8 20), .lit (.int .u8 31), .lit (.int .u8 10), .lit (.int .u8 25), .lit (.int .u8 14), .lit (.int .u8 19), .lit (.int .u8 9), .lit (.int .u8 13), .lit (.int .u8 8), .lit (.int .u8 7), .lit (.int .u8 6)]
def laid_internal_strconv_uint64pow10 {H : Type} : DataW H := .agg [.lit (.int .u64 1), .lit (.int .u64 10), .lit (.int .u64 100), .lit (.int .u64 1000), .lit (.int .u64 10000), .lit (.int .u64 100000), .lit (.int .u64 1000000), .lit (.int .u64 10000000), .lit (.int .u64 100000000), .lit (.int .u64 1000000000), .lit (.int .u64 10000000000), .lit (.int .u64 100000000000), .lit (.int .u64 1000000000000), .lit (.int .u64 10000000000000), .lit (.int .u64 100000000000000), .lit (.int .u64 1000000000000000), .lit (.int .u64 10000000000000000), .lit (.int .u64 100000000000000000), .lit (.int .u64 1000000000000000000), .lit (.int .u64 10000000000000000000)]
def laid_bailment_lex_words {H : Type} : DataW H := .slice [.lit (.string [97, 110, 100]), .lit (.string [97, 115, 115, 117, 109, 101]), .lit (.string [98, 111, 111, 108]), .lit (.string [99, 111, 110, 116, 114, 97, 99, 116]), .lit (.string [100, 105, 118]), .lit (.string [101, 108, 115, 101]), .lit (.string [101, 110, 100]), .lit (.string [101, 110, 115, 117, 114, 101]), .lit (.string [102, 97, 108, 108, 98, 97, 99, 107]), .lit (.string [102, 97, 108, 115, 101]), .lit (.string [103, 104, 111, 115, 116]), .lit (.string [103, 117, 97, 114, 97, 110, 116, 101, 101]), .lit (.string [104, 105, 115, 116]), .lit (.string [105, 102]), .lit (.string [105, 109, 112, 111, 114, 116]), .lit (.string [105, 110, 116]), .lit (.string [108, 101, 116]), .lit (.string [109, 97, 105, 110]), .lit (.string [109, 111, 100]), .lit (.string [109, 111, 100, 101]), .lit (.string [110, 111, 100, 101]), .lit (.string [110, 111, 116]), .lit (.string [111, 110, 99, 101]), .lit (.string [111, 114]), .lit (.string [112, 114, 101]), .lit (.string [112, 114, 101, 118]), .lit (.string [114, 101, 113, 117, 105, 114, 101]), .lit (.string [114, 101, 116, 117, 114, 110, 115]), .lit (.string [115, 105, 110, 99, 101]), .lit (.string [116, 101, 108]), .lit (.string [116, 104, 101, 110]), .lit (.string [116, 114, 117, 101]), .lit (.string [118, 97, 114]), .lit (.string [119, 105, 116, 104, 105, 110]), .lit (.string [120, 111, 114])] []

/-- 'bailmentlaw07.ListWrites': WHATEVER THE INPUT: true; the input reads as it did. -/
def listWritesSpec : ChangeSpec := { name := "listWrites", fn := fun _ => fun
  | [d] => { results := [.lit (.bool true)], args := [d] }
  | _ => none }
def listWritesRow : OpenClaim := { program := "ytlobhcgbmpcdlaagreatdoor", sum := "8b311d9038b60583224bc349ebdfaa0b740e56691db6085f0e358aa905498400", func := "bailment/bailmentlaw07.ListWrites", spec := "listWrites", inPlace := ["internal/abi.NoEscape"], unfollowed := true, recurses := true, named := ["bailment/lex.words", "internal/strconv.uint64pow10", "math/bits.deBruijn32tab", "math/bits.deBruijn64tab"], apart := false, laid := [("math/bits.deBruijn32tab", laid_math_bits_deBruijn32tab), ("math/bits.deBruijn64tab", laid_math_bits_deBruijn64tab), ("internal/strconv.uint64pow10", laid_internal_strconv_uint64pow10), ("bailment/lex.words", laid_bailment_lex_words)] }
def ListWritesSaid : Prop := listWritesRow.holds Tryz.pinned (OpenSpec.ofChange listWritesSpec)

/-- ITS FALSE NEIGHBOUR: 'it returns false'. Refute it at one input. -/
def listWritesWrong : ChangeSpec := { name := "listWrites", fn := fun _ => fun
  | [d] => { results := [.lit (.bool false)], args := [d] }
  | _ => none }
def ListWritesWrongFalsely : Prop := listWritesRow.holds Tryz.pinned (OpenSpec.ofChange listWritesWrong)

/-- 'bailmentlaw07.ListBack': WHATEVER THE INPUT: true; the input reads as it did. -/
def listBackSpec : ChangeSpec := { name := "listBack", fn := fun _ => fun
  | [d] => { results := [.lit (.bool true)], args := [d] }
  | _ => none }
def listBackRow : OpenClaim := { program := "ytlobhcgbmpcdlaagreatdoor", sum := "8b311d9038b60583224bc349ebdfaa0b740e56691db6085f0e358aa905498400", func := "bailment/bailmentlaw07.ListBack", spec := "listBack", inPlace := ["internal/abi.NoEscape"], unfollowed := true, recurses := true, named := ["bailment/lex.words", "internal/strconv.uint64pow10", "math/bits.deBruijn32tab", "math/bits.deBruijn64tab"], apart := false, laid := [("math/bits.deBruijn32tab", laid_math_bits_deBruijn32tab), ("math/bits.deBruijn64tab", laid_math_bits_deBruijn64tab), ("internal/strconv.uint64pow10", laid_internal_strconv_uint64pow10), ("bailment/lex.words", laid_bailment_lex_words)] }
def ListBackSaid : Prop := listBackRow.holds Tryz.pinned (OpenSpec.ofChange listBackSpec)

/-- ITS FALSE NEIGHBOUR: 'it returns false'. Refute it at one input. -/
def listBackWrong : ChangeSpec := { name := "listBack", fn := fun _ => fun
  | [d] => { results := [.lit (.bool false)], args := [d] }
  | _ => none }
def ListBackWrongFalsely : Prop := listBackRow.holds Tryz.pinned (OpenSpec.ofChange listBackWrong)

/-- 'bailmentlaw07.ListAgain': WHATEVER THE INPUT: true; the input reads as it did. -/
def listAgainSpec : ChangeSpec := { name := "listAgain", fn := fun _ => fun
  | [d] => { results := [.lit (.bool true)], args := [d] }
  | _ => none }
def listAgainRow : OpenClaim := { program := "ytlobhcgbmpcdlaagreatdoor", sum := "8b311d9038b60583224bc349ebdfaa0b740e56691db6085f0e358aa905498400", func := "bailment/bailmentlaw07.ListAgain", spec := "listAgain", inPlace := ["internal/abi.NoEscape"], unfollowed := true, recurses := true, named := ["bailment/lex.words", "internal/strconv.uint64pow10", "math/bits.deBruijn32tab", "math/bits.deBruijn64tab"], apart := false, laid := [("math/bits.deBruijn32tab", laid_math_bits_deBruijn32tab), ("math/bits.deBruijn64tab", laid_math_bits_deBruijn64tab), ("internal/strconv.uint64pow10", laid_internal_strconv_uint64pow10), ("bailment/lex.words", laid_bailment_lex_words)] }
def ListAgainSaid : Prop := listAgainRow.holds Tryz.pinned (OpenSpec.ofChange listAgainSpec)

/-- ITS FALSE NEIGHBOUR: 'it returns false'. Refute it at one input. -/
def listAgainWrong : ChangeSpec := { name := "listAgain", fn := fun _ => fun
  | [d] => { results := [.lit (.bool false)], args := [d] }
  | _ => none }
def ListAgainWrongFalsely : Prop := listAgainRow.holds Tryz.pinned (OpenSpec.ofChange listAgainWrong)

/-- 'bailmentlaw07.ListOrder': WHATEVER THE INPUT: true; the input reads as it did. -/
def listOrderSpec : ChangeSpec := { name := "listOrder", fn := fun _ => fun
  | [d] => { results := [.lit (.bool true)], args := [d] }
  | _ => none }
def listOrderRow : OpenClaim := { program := "ytlobhcgbmpcdlaagreatdoor", sum := "8b311d9038b60583224bc349ebdfaa0b740e56691db6085f0e358aa905498400", func := "bailment/bailmentlaw07.ListOrder", spec := "listOrder", inPlace := ["internal/abi.NoEscape"], unfollowed := true, recurses := true, named := ["bailment/lex.words", "internal/strconv.uint64pow10", "math/bits.deBruijn32tab", "math/bits.deBruijn64tab"], apart := false, laid := [("math/bits.deBruijn32tab", laid_math_bits_deBruijn32tab), ("math/bits.deBruijn64tab", laid_math_bits_deBruijn64tab), ("internal/strconv.uint64pow10", laid_internal_strconv_uint64pow10), ("bailment/lex.words", laid_bailment_lex_words)] }
def ListOrderSaid : Prop := listOrderRow.holds Tryz.pinned (OpenSpec.ofChange listOrderSpec)

/-- ITS FALSE NEIGHBOUR: 'it returns false'. Refute it at one input. -/
def listOrderWrong : ChangeSpec := { name := "listOrder", fn := fun _ => fun
  | [d] => { results := [.lit (.bool false)], args := [d] }
  | _ => none }
def ListOrderWrongFalsely : Prop := listOrderRow.holds Tryz.pinned (OpenSpec.ofChange listOrderWrong)

/-- 'bailmentlaw07.ListApart': WHATEVER THE INPUT: true; the input reads as it did. -/
def listApartSpec : ChangeSpec := { name := "listApart", fn := fun _ => fun
  | [d1, d2] => { results := [.lit (.bool true)], args := [d1, d2] }
  | _ => none }
def listApartRow : OpenClaim := { program := "ytlobhcgbmpcdlaagreatdoor", sum := "8b311d9038b60583224bc349ebdfaa0b740e56691db6085f0e358aa905498400", func := "bailment/bailmentlaw07.ListApart", spec := "listApart", inPlace := ["internal/abi.NoEscape"], unfollowed := true, recurses := true, named := ["bailment/lex.words", "internal/strconv.uint64pow10", "math/bits.deBruijn32tab", "math/bits.deBruijn64tab"], apart := false, laid := [("math/bits.deBruijn32tab", laid_math_bits_deBruijn32tab), ("math/bits.deBruijn64tab", laid_math_bits_deBruijn64tab), ("internal/strconv.uint64pow10", laid_internal_strconv_uint64pow10), ("bailment/lex.words", laid_bailment_lex_words)] }
def ListApartSaid : Prop := listApartRow.holds Tryz.pinned (OpenSpec.ofChange listApartSpec)

/-- ITS FALSE NEIGHBOUR: 'it returns false'. Refute it at one input. -/
def listApartWrong : ChangeSpec := { name := "listApart", fn := fun _ => fun
  | [d1, d2] => { results := [.lit (.bool false)], args := [d1, d2] }
  | _ => none }
def ListApartWrongFalsely : Prop := listApartRow.holds Tryz.pinned (OpenSpec.ofChange listApartWrong)

/-- 'bailmentlaw07.ListUnits': WHATEVER THE INPUT: true; the input reads as it did. -/
def listUnitsSpec : ChangeSpec := { name := "listUnits", fn := fun _ => fun
  | [d] => { results := [.lit (.bool true)], args := [d] }
  | _ => none }
def listUnitsRow : OpenClaim := { program := "ytlobhcgbmpcdlaagreatdoor", sum := "8b311d9038b60583224bc349ebdfaa0b740e56691db6085f0e358aa905498400", func := "bailment/bailmentlaw07.ListUnits", spec := "listUnits", inPlace := ["internal/abi.NoEscape"], unfollowed := true, recurses := true, named := ["bailment/lex.words", "internal/strconv.uint64pow10", "math/bits.deBruijn32tab", "math/bits.deBruijn64tab"], apart := false, laid := [("math/bits.deBruijn32tab", laid_math_bits_deBruijn32tab), ("math/bits.deBruijn64tab", laid_math_bits_deBruijn64tab), ("internal/strconv.uint64pow10", laid_internal_strconv_uint64pow10), ("bailment/lex.words", laid_bailment_lex_words)] }
def ListUnitsSaid : Prop := listUnitsRow.holds Tryz.pinned (OpenSpec.ofChange listUnitsSpec)

/-- ITS FALSE NEIGHBOUR: 'it returns false'. Refute it at one input. -/
def listUnitsWrong : ChangeSpec := { name := "listUnits", fn := fun _ => fun
  | [d] => { results := [.lit (.bool false)], args := [d] }
  | _ => none }
def ListUnitsWrongFalsely : Prop := listUnitsRow.holds Tryz.pinned (OpenSpec.ofChange listUnitsWrong)

/- THE SECOND FORM. 'bulk': how many values and letters a reading holds, each counted each time it is reached (what is shared counts as often as it is met; a slice's spare places count too). A statement '..UptoSaid' is the law's where the arguments, and the package variables that the reading takes, are together of bulk at most 1048576: NARROWER than '..Said'. Prove '..Said' where nothing that the law and all that it calls make is longer than what came in: it says more and counts as full. Else prove '..UptoSaid'. A law counts once. -/
mutual
def uptoBulk {H : Type} : DataW H → Nat
  | .lit (.string bytes) => bytes.length + 1
  | .lit _ => 1
  | .nil => 1
  | .ptr d => uptoBulk d + 1
  | .slice elems spare => uptoBulkAll elems + uptoBulkAll spare + 1
  | .agg parts => uptoBulkAll parts + 1
  | .iface _ d => uptoBulk d + 1
  | .map entries => uptoBulkEntries entries + 1
  | .held _ => 1
def uptoBulkAll {H : Type} : List (DataW H) → Nat
  | [] => 0
  | d :: r => uptoBulk d + uptoBulkAll r
def uptoBulkEntries {H : Type} : List (Lit × DataW H) → Nat
  | [] => 0
  | x :: r => uptoBulkEntry x + uptoBulkEntries r
def uptoBulkEntry {H : Type} : Lit × DataW H → Nat
  | (.string bytes, d) => bytes.length + uptoBulk d + 1
  | (_, d) => uptoBulk d + 1
 end
def uptoSmall : (H : Type) → List (DataW H) → Bool := fun _ ds => decide (uptoBulkAll ds ≤ 1048576)
def OpenSpec.upto (s : _root_.Go.ChangeSpec) : _root_.Go.OpenSpec := { _root_.Go.OpenSpec.ofChange s with cond := some uptoSmall }

/-- 'bailmentlaw07.ListWrites', WHERE WHAT IT READS IS OF BULK AT MOST 1048576: true; the input reads as it did. -/
def listWritesUptoRow : OpenClaim := { program := "ytlobhcgbmpcdlaagreatdoor", sum := "8b311d9038b60583224bc349ebdfaa0b740e56691db6085f0e358aa905498400", func := "bailment/bailmentlaw07.ListWrites", spec := "listWrites", inPlace := ["internal/abi.NoEscape"], unfollowed := true, recurses := true, named := ["bailment/lex.words", "internal/strconv.uint64pow10", "math/bits.deBruijn32tab", "math/bits.deBruijn64tab"], apart := false, laid := [("math/bits.deBruijn32tab", laid_math_bits_deBruijn32tab), ("math/bits.deBruijn64tab", laid_math_bits_deBruijn64tab), ("internal/strconv.uint64pow10", laid_internal_strconv_uint64pow10), ("bailment/lex.words", laid_bailment_lex_words)], narrowed := true }
def ListWritesUptoSaid : Prop := listWritesUptoRow.holds Tryz.pinned (OpenSpec.upto listWritesSpec)

/-- 'bailmentlaw07.ListBack', WHERE WHAT IT READS IS OF BULK AT MOST 1048576: true; the input reads as it did. -/
def listBackUptoRow : OpenClaim := { program := "ytlobhcgbmpcdlaagreatdoor", sum := "8b311d9038b60583224bc349ebdfaa0b740e56691db6085f0e358aa905498400", func := "bailment/bailmentlaw07.ListBack", spec := "listBack", inPlace := ["internal/abi.NoEscape"], unfollowed := true, recurses := true, named := ["bailment/lex.words", "internal/strconv.uint64pow10", "math/bits.deBruijn32tab", "math/bits.deBruijn64tab"], apart := false, laid := [("math/bits.deBruijn32tab", laid_math_bits_deBruijn32tab), ("math/bits.deBruijn64tab", laid_math_bits_deBruijn64tab), ("internal/strconv.uint64pow10", laid_internal_strconv_uint64pow10), ("bailment/lex.words", laid_bailment_lex_words)], narrowed := true }
def ListBackUptoSaid : Prop := listBackUptoRow.holds Tryz.pinned (OpenSpec.upto listBackSpec)

/-- 'bailmentlaw07.ListAgain', WHERE WHAT IT READS IS OF BULK AT MOST 1048576: true; the input reads as it did. -/
def listAgainUptoRow : OpenClaim := { program := "ytlobhcgbmpcdlaagreatdoor", sum := "8b311d9038b60583224bc349ebdfaa0b740e56691db6085f0e358aa905498400", func := "bailment/bailmentlaw07.ListAgain", spec := "listAgain", inPlace := ["internal/abi.NoEscape"], unfollowed := true, recurses := true, named := ["bailment/lex.words", "internal/strconv.uint64pow10", "math/bits.deBruijn32tab", "math/bits.deBruijn64tab"], apart := false, laid := [("math/bits.deBruijn32tab", laid_math_bits_deBruijn32tab), ("math/bits.deBruijn64tab", laid_math_bits_deBruijn64tab), ("internal/strconv.uint64pow10", laid_internal_strconv_uint64pow10), ("bailment/lex.words", laid_bailment_lex_words)], narrowed := true }
def ListAgainUptoSaid : Prop := listAgainUptoRow.holds Tryz.pinned (OpenSpec.upto listAgainSpec)

/-- 'bailmentlaw07.ListOrder', WHERE WHAT IT READS IS OF BULK AT MOST 1048576: true; the input reads as it did. -/
def listOrderUptoRow : OpenClaim := { program := "ytlobhcgbmpcdlaagreatdoor", sum := "8b311d9038b60583224bc349ebdfaa0b740e56691db6085f0e358aa905498400", func := "bailment/bailmentlaw07.ListOrder", spec := "listOrder", inPlace := ["internal/abi.NoEscape"], unfollowed := true, recurses := true, named := ["bailment/lex.words", "internal/strconv.uint64pow10", "math/bits.deBruijn32tab", "math/bits.deBruijn64tab"], apart := false, laid := [("math/bits.deBruijn32tab", laid_math_bits_deBruijn32tab), ("math/bits.deBruijn64tab", laid_math_bits_deBruijn64tab), ("internal/strconv.uint64pow10", laid_internal_strconv_uint64pow10), ("bailment/lex.words", laid_bailment_lex_words)], narrowed := true }
def ListOrderUptoSaid : Prop := listOrderUptoRow.holds Tryz.pinned (OpenSpec.upto listOrderSpec)

/-- 'bailmentlaw07.ListApart', WHERE WHAT IT READS IS OF BULK AT MOST 1048576: true; the input reads as it did. -/
def listApartUptoRow : OpenClaim := { program := "ytlobhcgbmpcdlaagreatdoor", sum := "8b311d9038b60583224bc349ebdfaa0b740e56691db6085f0e358aa905498400", func := "bailment/bailmentlaw07.ListApart", spec := "listApart", inPlace := ["internal/abi.NoEscape"], unfollowed := true, recurses := true, named := ["bailment/lex.words", "internal/strconv.uint64pow10", "math/bits.deBruijn32tab", "math/bits.deBruijn64tab"], apart := false, laid := [("math/bits.deBruijn32tab", laid_math_bits_deBruijn32tab), ("math/bits.deBruijn64tab", laid_math_bits_deBruijn64tab), ("internal/strconv.uint64pow10", laid_internal_strconv_uint64pow10), ("bailment/lex.words", laid_bailment_lex_words)], narrowed := true }
def ListApartUptoSaid : Prop := listApartUptoRow.holds Tryz.pinned (OpenSpec.upto listApartSpec)

/-- 'bailmentlaw07.ListUnits', WHERE WHAT IT READS IS OF BULK AT MOST 1048576: true; the input reads as it did. -/
def listUnitsUptoRow : OpenClaim := { program := "ytlobhcgbmpcdlaagreatdoor", sum := "8b311d9038b60583224bc349ebdfaa0b740e56691db6085f0e358aa905498400", func := "bailment/bailmentlaw07.ListUnits", spec := "listUnits", inPlace := ["internal/abi.NoEscape"], unfollowed := true, recurses := true, named := ["bailment/lex.words", "internal/strconv.uint64pow10", "math/bits.deBruijn32tab", "math/bits.deBruijn64tab"], apart := false, laid := [("math/bits.deBruijn32tab", laid_math_bits_deBruijn32tab), ("math/bits.deBruijn64tab", laid_math_bits_deBruijn64tab), ("internal/strconv.uint64pow10", laid_internal_strconv_uint64pow10), ("bailment/lex.words", laid_bailment_lex_words)], narrowed := true }
def ListUnitsUptoSaid : Prop := listUnitsUptoRow.holds Tryz.pinned (OpenSpec.upto listUnitsSpec)

end Rows
end Go.Proofs.YtlobhcgbmpcdlaaGreatDoor
