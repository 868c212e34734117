/-
  DERIVED. GIVEN WITH THE SEED: THE CARDS: each row of YtoippcahbninnaaGreatDoorRows.lean that lists a variable, with what it lists TIED to the program's text (the seventh form; the later family's looks); each row that meets fmt, with fmt's text TOLD by the authors' own Lean function (tested against real Go, not proved from fmt's source: count such statements apart). THE CARD IS WHAT COUNTS. Prove the row's statement (the work); the ties are given (YtoippcahbninnaaGreatDoorTie.lean); close each card by the builder's one call (the guide's Derived/Test/ToyasCard.lean, 'card_holds'). Laid BY PROGRAM, IN A SANDBOX (cutbox-door.mjs). By AI agents, Wed Nov 11 2026. No macro, syntax, notation, axiom, sorry.
-/
import Derived.Test.YtoippcahbninnaaGreatDoorRows
import GoSem.ClaimSeven
namespace Go.Proofs.YtoippcahbninnaaGreatDoor
namespace Rows

/-- THE TIED CARD OF 'bailmentlaw05.ShowWrites'. -/
def showWritesCard : Claim7 := { stood := { row := showWritesRow, standIns := [], harness := (true, "e4348a1be18ac0a1d90e6334507080cd452f797b8ea9e4eb914617516e8c3072"), looks := false }, kinds := [], alts := [], laidByText := true, laidKinds := [.data, .data, .data, .widerDeep], laidTests := true, laidLooks := .later }
def ShowWritesCardSaid : Prop := Claim7.holds Tryz.pinned (.plain (OpenSpec.ofChange showWritesSpec)) showWritesCard

/-- THE TIED CARD OF 'bailmentlaw05.ShowBack'. -/
def showBackCard : Claim7 := { stood := { row := showBackRow, standIns := [], harness := (true, "e4348a1be18ac0a1d90e6334507080cd452f797b8ea9e4eb914617516e8c3072"), looks := false }, kinds := [], alts := [], laidByText := true, laidKinds := [.data, .data, .data, .widerDeep], laidTests := true, laidLooks := .later }
def ShowBackCardSaid : Prop := Claim7.holds Tryz.pinned (.plain (OpenSpec.ofChange showBackSpec)) showBackCard

/-- THE TIED CARD OF 'bailmentlaw05.ShowAgain'. -/
def showAgainCard : Claim7 := { stood := { row := showAgainRow, standIns := [], harness := (true, "e4348a1be18ac0a1d90e6334507080cd452f797b8ea9e4eb914617516e8c3072"), looks := false }, kinds := [], alts := [], laidByText := true, laidKinds := [.data, .data, .data, .widerDeep], laidTests := true, laidLooks := .later }
def ShowAgainCardSaid : Prop := Claim7.holds Tryz.pinned (.plain (OpenSpec.ofChange showAgainSpec)) showAgainCard

/-- THE TIED CARD OF 'bailmentlaw05.ShowOrder'. -/
def showOrderCard : Claim7 := { stood := { row := showOrderRow, standIns := [], harness := (true, "e4348a1be18ac0a1d90e6334507080cd452f797b8ea9e4eb914617516e8c3072"), looks := false }, kinds := [], alts := [], laidByText := true, laidKinds := [.data, .data, .data, .widerDeep], laidTests := true, laidLooks := .later }
def ShowOrderCardSaid : Prop := Claim7.holds Tryz.pinned (.plain (OpenSpec.ofChange showOrderSpec)) showOrderCard

/-- THE TIED CARD OF 'bailmentlaw05.ShowApart'. -/
def showApartCard : Claim7 := { stood := { row := showApartRow, standIns := [], harness := (true, "e4348a1be18ac0a1d90e6334507080cd452f797b8ea9e4eb914617516e8c3072"), looks := false }, kinds := [], alts := [], laidByText := true, laidKinds := [.data, .data, .data, .widerDeep], laidTests := true, laidLooks := .later }
def ShowApartCardSaid : Prop := Claim7.holds Tryz.pinned (.plain (OpenSpec.ofChange showApartSpec)) showApartCard

/-- THE SECOND FORM's CARD OF 'bailmentlaw05.ShowWrites'. -/
def showWritesUptoCard : Claim7 := { stood := { row := showWritesUptoRow, standIns := [], harness := (true, "e4348a1be18ac0a1d90e6334507080cd452f797b8ea9e4eb914617516e8c3072"), looks := false }, kinds := [], alts := [], laidByText := true, laidKinds := [.data, .data, .data, .widerDeep], laidTests := true, laidLooks := .later }
def ShowWritesUptoCardSaid : Prop := Claim7.holds Tryz.pinned (.plain (OpenSpec.upto showWritesSpec)) showWritesUptoCard

/-- THE SECOND FORM's CARD OF 'bailmentlaw05.ShowBack'. -/
def showBackUptoCard : Claim7 := { stood := { row := showBackUptoRow, standIns := [], harness := (true, "e4348a1be18ac0a1d90e6334507080cd452f797b8ea9e4eb914617516e8c3072"), looks := false }, kinds := [], alts := [], laidByText := true, laidKinds := [.data, .data, .data, .widerDeep], laidTests := true, laidLooks := .later }
def ShowBackUptoCardSaid : Prop := Claim7.holds Tryz.pinned (.plain (OpenSpec.upto showBackSpec)) showBackUptoCard

/-- THE SECOND FORM's CARD OF 'bailmentlaw05.ShowAgain'. -/
def showAgainUptoCard : Claim7 := { stood := { row := showAgainUptoRow, standIns := [], harness := (true, "e4348a1be18ac0a1d90e6334507080cd452f797b8ea9e4eb914617516e8c3072"), looks := false }, kinds := [], alts := [], laidByText := true, laidKinds := [.data, .data, .data, .widerDeep], laidTests := true, laidLooks := .later }
def ShowAgainUptoCardSaid : Prop := Claim7.holds Tryz.pinned (.plain (OpenSpec.upto showAgainSpec)) showAgainUptoCard

/-- THE SECOND FORM's CARD OF 'bailmentlaw05.ShowOrder'. -/
def showOrderUptoCard : Claim7 := { stood := { row := showOrderUptoRow, standIns := [], harness := (true, "e4348a1be18ac0a1d90e6334507080cd452f797b8ea9e4eb914617516e8c3072"), looks := false }, kinds := [], alts := [], laidByText := true, laidKinds := [.data, .data, .data, .widerDeep], laidTests := true, laidLooks := .later }
def ShowOrderUptoCardSaid : Prop := Claim7.holds Tryz.pinned (.plain (OpenSpec.upto showOrderSpec)) showOrderUptoCard

/-- THE SECOND FORM's CARD OF 'bailmentlaw05.ShowApart'. -/
def showApartUptoCard : Claim7 := { stood := { row := showApartUptoRow, standIns := [], harness := (true, "e4348a1be18ac0a1d90e6334507080cd452f797b8ea9e4eb914617516e8c3072"), looks := false }, kinds := [], alts := [], laidByText := true, laidKinds := [.data, .data, .data, .widerDeep], laidTests := true, laidLooks := .later }
def ShowApartUptoCardSaid : Prop := Claim7.holds Tryz.pinned (.plain (OpenSpec.upto showApartSpec)) showApartUptoCard
end Rows
end Go.Proofs.YtoippcahbninnaaGreatDoor
