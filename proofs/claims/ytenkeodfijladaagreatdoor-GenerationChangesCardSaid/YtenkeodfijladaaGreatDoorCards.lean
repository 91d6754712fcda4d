/-
  DERIVED. GIVEN WITH THE SEED: THE CARDS: each row of YtenkeodfijladaaGreatDoorRows.lean that lists a variable, with what it lists TIED to the program's text (the seventh form; the later family's looks); each row that meets fmt, with fmt's text TOLD by the authors' own Lean function (tested against real Go, not proved from fmt's source: count such statements apart). THE CARD IS WHAT COUNTS. Prove the row's statement (the work); the ties are given (YtenkeodfijladaaGreatDoorTie.lean); close each card by the builder's one call (the guide's Derived/Test/ToyasCard.lean, 'card_holds'). Laid BY PROGRAM, IN A SANDBOX (cutbox-door.mjs). By AI agents, Wed Nov 11 2026. No macro, syntax, notation, axiom, sorry.
-/
import Derived.Test.YtenkeodfijladaaGreatDoorRows
import GoSem.ClaimSeven
namespace Go.Proofs.YtenkeodfijladaaGreatDoor
namespace Rows

/-- THE TIED CARD OF 'needlestorelaw12.GenerationChanges'. -/
def generationChangesCard : Claim7 := { stood := { row := generationChangesRow, standIns := [], harness := (true, "f9222a096e33df00579620b2e39cd2d3a94e22831e9503cba94f7ec788fa6212"), looks := false }, kinds := [], alts := [], laidByText := true, laidKinds := [.data, .data, .data, .data, .pinned], laidTests := true, laidLooks := .later }
def GenerationChangesCardSaid : Prop := Claim7.holds Tryz.pinned (.plain (OpenSpec.ofChange generationChangesSpec)) generationChangesCard

/-- THE SECOND FORM's CARD OF 'needlestorelaw12.GenerationChanges'. -/
def generationChangesUptoCard : Claim7 := { stood := { row := generationChangesUptoRow, standIns := [], harness := (true, "f9222a096e33df00579620b2e39cd2d3a94e22831e9503cba94f7ec788fa6212"), looks := false }, kinds := [], alts := [], laidByText := true, laidKinds := [.data, .data, .data, .data, .pinned], laidTests := true, laidLooks := .later }
def GenerationChangesUptoCardSaid : Prop := Claim7.holds Tryz.pinned (.plain (OpenSpec.upto generationChangesSpec)) generationChangesUptoCard
end Rows
end Go.Proofs.YtenkeodfijladaaGreatDoor
