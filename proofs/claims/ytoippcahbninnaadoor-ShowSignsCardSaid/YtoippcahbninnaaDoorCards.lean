/-
  DERIVED. GIVEN WITH THE SEED: THE CARDS: each row of YtoippcahbninnaaDoorRows.lean that lists a variable, with what it lists TIED to the program's text (the seventh form; the later family's looks); each row that meets fmt, with fmt's text TOLD by the authors' own Lean function (tested against real Go, not proved from fmt's source: count such statements apart). THE CARD IS WHAT COUNTS. Prove the row's statement (the work); the ties are given (YtoippcahbninnaaDoorTie.lean); close each card by the builder's one call (the guide's Derived/Test/ToyasCard.lean, 'card_holds'). Laid BY PROGRAM, IN A SANDBOX (cutbox-door.mjs). By AI agents, Wed Nov 11 2026. No macro, syntax, notation, axiom, sorry.
-/
import Derived.Test.YtoippcahbninnaaDoorRows
import GoSem.ClaimSeven
namespace Go.Proofs.YtoippcahbninnaaDoor
namespace Rows

/-- THE TIED CARD OF 'bailmentlaw05.ShowSigns'. -/
def showSignsCard : Claim7 := { stood := { row := showSignsRow, standIns := [], harness := (true, "e692fa75c6f6b705de01eaaf26a606886b83a75958cf657b04612e6c1b2dd053"), looks := false }, kinds := [], alts := [], laidByText := true, laidKinds := [.data, .data, .data, .widerDeep], laidTests := true, laidLooks := .later }
def ShowSignsCardSaid : Prop := Claim7.holds Tryd.pinned (.plain (OpenSpec.ofChange showSignsSpec)) showSignsCard

/-- THE SECOND FORM's CARD OF 'bailmentlaw05.ShowSigns'. -/
def showSignsUptoCard : Claim7 := { stood := { row := showSignsUptoRow, standIns := [], harness := (true, "e692fa75c6f6b705de01eaaf26a606886b83a75958cf657b04612e6c1b2dd053"), looks := false }, kinds := [], alts := [], laidByText := true, laidKinds := [.data, .data, .data, .widerDeep], laidTests := true, laidLooks := .later }
def ShowSignsUptoCardSaid : Prop := Claim7.holds Tryd.pinned (.plain (OpenSpec.upto showSignsSpec)) showSignsUptoCard
end Rows
end Go.Proofs.YtoippcahbninnaaDoor
