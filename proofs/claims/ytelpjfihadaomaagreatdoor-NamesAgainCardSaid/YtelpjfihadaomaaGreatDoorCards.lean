/-
  DERIVED. GIVEN WITH THE SEED: THE CARDS: each row of YtelpjfihadaomaaGreatDoorRows.lean that lists a variable, with what it lists TIED to the program's text (the seventh form; the later family's looks); each row that meets fmt, with fmt's text TOLD by the authors' own Lean function (tested against real Go, not proved from fmt's source: count such statements apart). THE CARD IS WHAT COUNTS. Prove the row's statement (the work); the ties are given (YtelpjfihadaomaaGreatDoorTie.lean); close each card by the builder's one call (the guide's Derived/Test/ToyasCard.lean, 'card_holds'). Laid BY PROGRAM, IN A SANDBOX (cutbox-door.mjs). By AI agents, Wed Nov 11 2026. No macro, syntax, notation, axiom, sorry.
-/
import Derived.Test.YtelpjfihadaomaaGreatDoorRows
import GoSem.ClaimSeven
namespace Go.Proofs.YtelpjfihadaomaaGreatDoor
namespace Rows

/-- THE TIED CARD OF 'bailmentlaw08.NamesResolve'. -/
def namesResolveCard : Claim7 := { stood := { row := namesResolveRow, standIns := [], harness := (true, "1f55e0b84cba2a92222d9bd8c46bbaa1dd27e5a01eb3fd1aaa749a19f3bb45a6"), looks := true }, kinds := [], alts := [], laidByText := true, laidKinds := [.widerDeep], laidTests := true, laidLooks := .later }
def NamesResolveCardSaid : Prop := Claim7.holds Tryz.pinned (.plain (OpenSpec.ofChange namesResolveSpec)) namesResolveCard

/-- THE TIED CARD OF 'bailmentlaw08.NamesAgain'. -/
def namesAgainCard : Claim7 := { stood := { row := namesAgainRow, standIns := [], harness := (true, "1f55e0b84cba2a92222d9bd8c46bbaa1dd27e5a01eb3fd1aaa749a19f3bb45a6"), looks := true }, kinds := [], alts := [], laidByText := true, laidKinds := [.widerDeep], laidTests := true, laidLooks := .later }
def NamesAgainCardSaid : Prop := Claim7.holds Tryz.pinned (.plain (OpenSpec.ofChange namesAgainSpec)) namesAgainCard

/-- THE TIED CARD OF 'bailmentlaw08.NamesGhosts'. -/
def namesGhostsCard : Claim7 := { stood := { row := namesGhostsRow, standIns := [], harness := (true, "1f55e0b84cba2a92222d9bd8c46bbaa1dd27e5a01eb3fd1aaa749a19f3bb45a6"), looks := true }, kinds := [], alts := [], laidByText := true, laidKinds := [.widerDeep], laidTests := true, laidLooks := .later }
def NamesGhostsCardSaid : Prop := Claim7.holds Tryz.pinned (.plain (OpenSpec.ofChange namesGhostsSpec)) namesGhostsCard

/-- THE TIED CARD OF 'bailmentlaw08.NamesOrder'. -/
def namesOrderCard : Claim7 := { stood := { row := namesOrderRow, standIns := [], harness := (true, "1f55e0b84cba2a92222d9bd8c46bbaa1dd27e5a01eb3fd1aaa749a19f3bb45a6"), looks := true }, kinds := [], alts := [], laidByText := true, laidKinds := [.widerDeep], laidTests := true, laidLooks := .later }
def NamesOrderCardSaid : Prop := Claim7.holds Tryz.pinned (.plain (OpenSpec.ofChange namesOrderSpec)) namesOrderCard

/-- THE TIED CARD OF 'bailmentlaw08.NamesMain'. -/
def namesMainCard : Claim7 := { stood := { row := namesMainRow, standIns := [], harness := (true, "1f55e0b84cba2a92222d9bd8c46bbaa1dd27e5a01eb3fd1aaa749a19f3bb45a6"), looks := true }, kinds := [], alts := [], laidByText := true, laidKinds := [.widerDeep], laidTests := true, laidLooks := .later }
def NamesMainCardSaid : Prop := Claim7.holds Tryz.pinned (.plain (OpenSpec.ofChange namesMainSpec)) namesMainCard

/-- THE SECOND FORM's CARD OF 'bailmentlaw08.NamesResolve'. -/
def namesResolveUptoCard : Claim7 := { stood := { row := namesResolveUptoRow, standIns := [], harness := (true, "1f55e0b84cba2a92222d9bd8c46bbaa1dd27e5a01eb3fd1aaa749a19f3bb45a6"), looks := true }, kinds := [], alts := [], laidByText := true, laidKinds := [.widerDeep], laidTests := true, laidLooks := .later }
def NamesResolveUptoCardSaid : Prop := Claim7.holds Tryz.pinned (.plain (OpenSpec.upto namesResolveSpec)) namesResolveUptoCard

/-- THE SECOND FORM's CARD OF 'bailmentlaw08.NamesAgain'. -/
def namesAgainUptoCard : Claim7 := { stood := { row := namesAgainUptoRow, standIns := [], harness := (true, "1f55e0b84cba2a92222d9bd8c46bbaa1dd27e5a01eb3fd1aaa749a19f3bb45a6"), looks := true }, kinds := [], alts := [], laidByText := true, laidKinds := [.widerDeep], laidTests := true, laidLooks := .later }
def NamesAgainUptoCardSaid : Prop := Claim7.holds Tryz.pinned (.plain (OpenSpec.upto namesAgainSpec)) namesAgainUptoCard

/-- THE SECOND FORM's CARD OF 'bailmentlaw08.NamesGhosts'. -/
def namesGhostsUptoCard : Claim7 := { stood := { row := namesGhostsUptoRow, standIns := [], harness := (true, "1f55e0b84cba2a92222d9bd8c46bbaa1dd27e5a01eb3fd1aaa749a19f3bb45a6"), looks := true }, kinds := [], alts := [], laidByText := true, laidKinds := [.widerDeep], laidTests := true, laidLooks := .later }
def NamesGhostsUptoCardSaid : Prop := Claim7.holds Tryz.pinned (.plain (OpenSpec.upto namesGhostsSpec)) namesGhostsUptoCard

/-- THE SECOND FORM's CARD OF 'bailmentlaw08.NamesOrder'. -/
def namesOrderUptoCard : Claim7 := { stood := { row := namesOrderUptoRow, standIns := [], harness := (true, "1f55e0b84cba2a92222d9bd8c46bbaa1dd27e5a01eb3fd1aaa749a19f3bb45a6"), looks := true }, kinds := [], alts := [], laidByText := true, laidKinds := [.widerDeep], laidTests := true, laidLooks := .later }
def NamesOrderUptoCardSaid : Prop := Claim7.holds Tryz.pinned (.plain (OpenSpec.upto namesOrderSpec)) namesOrderUptoCard

/-- THE SECOND FORM's CARD OF 'bailmentlaw08.NamesMain'. -/
def namesMainUptoCard : Claim7 := { stood := { row := namesMainUptoRow, standIns := [], harness := (true, "1f55e0b84cba2a92222d9bd8c46bbaa1dd27e5a01eb3fd1aaa749a19f3bb45a6"), looks := true }, kinds := [], alts := [], laidByText := true, laidKinds := [.widerDeep], laidTests := true, laidLooks := .later }
def NamesMainUptoCardSaid : Prop := Claim7.holds Tryz.pinned (.plain (OpenSpec.upto namesMainSpec)) namesMainUptoCard
end Rows
end Go.Proofs.YtelpjfihadaomaaGreatDoor
