/-
  DERIVED. GIVEN WITH THE SEED: THE CARDS: each row of YtlobhcgbmpcdlaaGreatDoorRows.lean that lists a variable, with what it lists TIED to the program's text (the seventh form; the later family's looks); each row that meets fmt, with fmt's text TOLD by the authors' own Lean function (tested against real Go, not proved from fmt's source: count such statements apart). THE CARD IS WHAT COUNTS. Prove the row's statement (the work); the ties are given (YtlobhcgbmpcdlaaGreatDoorTie.lean); close each card by the builder's one call (the guide's Derived/Test/ToyasCard.lean, 'card_holds'). Laid BY PROGRAM, IN A SANDBOX (cutbox-door.mjs). By AI agents, Wed Nov 11 2026. No macro, syntax, notation, axiom, sorry.
-/
import Derived.Test.YtlobhcgbmpcdlaaGreatDoorRows
import GoSem.ClaimSeven
namespace Go.Proofs.YtlobhcgbmpcdlaaGreatDoor
namespace Rows

/-- THE TIED CARD OF 'bailmentlaw07.ListWrites'. -/
def listWritesCard : Claim7 := { stood := { row := listWritesRow, standIns := [], harness := (true, "39a0f7cd5f2cdd751078e4795c421c1c7f7f17bb9d8c4b4133d63d6069c71ea0"), looks := false }, kinds := [], alts := [], laidByText := true, laidKinds := [.data, .data, .data, .widerDeep], laidTests := true, laidLooks := .later }
def ListWritesCardSaid : Prop := Claim7.holds Tryz.pinned (.plain (OpenSpec.ofChange listWritesSpec)) listWritesCard

/-- THE TIED CARD OF 'bailmentlaw07.ListBack'. -/
def listBackCard : Claim7 := { stood := { row := listBackRow, standIns := [], harness := (true, "39a0f7cd5f2cdd751078e4795c421c1c7f7f17bb9d8c4b4133d63d6069c71ea0"), looks := false }, kinds := [], alts := [], laidByText := true, laidKinds := [.data, .data, .data, .widerDeep], laidTests := true, laidLooks := .later }
def ListBackCardSaid : Prop := Claim7.holds Tryz.pinned (.plain (OpenSpec.ofChange listBackSpec)) listBackCard

/-- THE TIED CARD OF 'bailmentlaw07.ListAgain'. -/
def listAgainCard : Claim7 := { stood := { row := listAgainRow, standIns := [], harness := (true, "39a0f7cd5f2cdd751078e4795c421c1c7f7f17bb9d8c4b4133d63d6069c71ea0"), looks := false }, kinds := [], alts := [], laidByText := true, laidKinds := [.data, .data, .data, .widerDeep], laidTests := true, laidLooks := .later }
def ListAgainCardSaid : Prop := Claim7.holds Tryz.pinned (.plain (OpenSpec.ofChange listAgainSpec)) listAgainCard

/-- THE TIED CARD OF 'bailmentlaw07.ListOrder'. -/
def listOrderCard : Claim7 := { stood := { row := listOrderRow, standIns := [], harness := (true, "39a0f7cd5f2cdd751078e4795c421c1c7f7f17bb9d8c4b4133d63d6069c71ea0"), looks := false }, kinds := [], alts := [], laidByText := true, laidKinds := [.data, .data, .data, .widerDeep], laidTests := true, laidLooks := .later }
def ListOrderCardSaid : Prop := Claim7.holds Tryz.pinned (.plain (OpenSpec.ofChange listOrderSpec)) listOrderCard

/-- THE TIED CARD OF 'bailmentlaw07.ListApart'. -/
def listApartCard : Claim7 := { stood := { row := listApartRow, standIns := [], harness := (true, "39a0f7cd5f2cdd751078e4795c421c1c7f7f17bb9d8c4b4133d63d6069c71ea0"), looks := false }, kinds := [], alts := [], laidByText := true, laidKinds := [.data, .data, .data, .widerDeep], laidTests := true, laidLooks := .later }
def ListApartCardSaid : Prop := Claim7.holds Tryz.pinned (.plain (OpenSpec.ofChange listApartSpec)) listApartCard

/-- THE TIED CARD OF 'bailmentlaw07.ListUnits'. -/
def listUnitsCard : Claim7 := { stood := { row := listUnitsRow, standIns := [], harness := (true, "39a0f7cd5f2cdd751078e4795c421c1c7f7f17bb9d8c4b4133d63d6069c71ea0"), looks := false }, kinds := [], alts := [], laidByText := true, laidKinds := [.data, .data, .data, .widerDeep], laidTests := true, laidLooks := .later }
def ListUnitsCardSaid : Prop := Claim7.holds Tryz.pinned (.plain (OpenSpec.ofChange listUnitsSpec)) listUnitsCard

/-- THE SECOND FORM's CARD OF 'bailmentlaw07.ListWrites'. -/
def listWritesUptoCard : Claim7 := { stood := { row := listWritesUptoRow, standIns := [], harness := (true, "39a0f7cd5f2cdd751078e4795c421c1c7f7f17bb9d8c4b4133d63d6069c71ea0"), looks := false }, kinds := [], alts := [], laidByText := true, laidKinds := [.data, .data, .data, .widerDeep], laidTests := true, laidLooks := .later }
def ListWritesUptoCardSaid : Prop := Claim7.holds Tryz.pinned (.plain (OpenSpec.upto listWritesSpec)) listWritesUptoCard

/-- THE SECOND FORM's CARD OF 'bailmentlaw07.ListBack'. -/
def listBackUptoCard : Claim7 := { stood := { row := listBackUptoRow, standIns := [], harness := (true, "39a0f7cd5f2cdd751078e4795c421c1c7f7f17bb9d8c4b4133d63d6069c71ea0"), looks := false }, kinds := [], alts := [], laidByText := true, laidKinds := [.data, .data, .data, .widerDeep], laidTests := true, laidLooks := .later }
def ListBackUptoCardSaid : Prop := Claim7.holds Tryz.pinned (.plain (OpenSpec.upto listBackSpec)) listBackUptoCard

/-- THE SECOND FORM's CARD OF 'bailmentlaw07.ListAgain'. -/
def listAgainUptoCard : Claim7 := { stood := { row := listAgainUptoRow, standIns := [], harness := (true, "39a0f7cd5f2cdd751078e4795c421c1c7f7f17bb9d8c4b4133d63d6069c71ea0"), looks := false }, kinds := [], alts := [], laidByText := true, laidKinds := [.data, .data, .data, .widerDeep], laidTests := true, laidLooks := .later }
def ListAgainUptoCardSaid : Prop := Claim7.holds Tryz.pinned (.plain (OpenSpec.upto listAgainSpec)) listAgainUptoCard

/-- THE SECOND FORM's CARD OF 'bailmentlaw07.ListOrder'. -/
def listOrderUptoCard : Claim7 := { stood := { row := listOrderUptoRow, standIns := [], harness := (true, "39a0f7cd5f2cdd751078e4795c421c1c7f7f17bb9d8c4b4133d63d6069c71ea0"), looks := false }, kinds := [], alts := [], laidByText := true, laidKinds := [.data, .data, .data, .widerDeep], laidTests := true, laidLooks := .later }
def ListOrderUptoCardSaid : Prop := Claim7.holds Tryz.pinned (.plain (OpenSpec.upto listOrderSpec)) listOrderUptoCard

/-- THE SECOND FORM's CARD OF 'bailmentlaw07.ListApart'. -/
def listApartUptoCard : Claim7 := { stood := { row := listApartUptoRow, standIns := [], harness := (true, "39a0f7cd5f2cdd751078e4795c421c1c7f7f17bb9d8c4b4133d63d6069c71ea0"), looks := false }, kinds := [], alts := [], laidByText := true, laidKinds := [.data, .data, .data, .widerDeep], laidTests := true, laidLooks := .later }
def ListApartUptoCardSaid : Prop := Claim7.holds Tryz.pinned (.plain (OpenSpec.upto listApartSpec)) listApartUptoCard

/-- THE SECOND FORM's CARD OF 'bailmentlaw07.ListUnits'. -/
def listUnitsUptoCard : Claim7 := { stood := { row := listUnitsUptoRow, standIns := [], harness := (true, "39a0f7cd5f2cdd751078e4795c421c1c7f7f17bb9d8c4b4133d63d6069c71ea0"), looks := false }, kinds := [], alts := [], laidByText := true, laidKinds := [.data, .data, .data, .widerDeep], laidTests := true, laidLooks := .later }
def ListUnitsUptoCardSaid : Prop := Claim7.holds Tryz.pinned (.plain (OpenSpec.upto listUnitsSpec)) listUnitsUptoCard
end Rows
end Go.Proofs.YtlobhcgbmpcdlaaGreatDoor
