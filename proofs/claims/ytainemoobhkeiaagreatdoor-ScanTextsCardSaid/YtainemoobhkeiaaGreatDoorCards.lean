/-
  DERIVED. GIVEN WITH THE SEED: THE CARDS: each row of YtainemoobhkeiaaGreatDoorRows.lean that lists a variable, with what it lists TIED to the program's text (the seventh form; the later family's looks); each row that meets fmt, with fmt's text TOLD by the authors' own Lean function (tested against real Go, not proved from fmt's source: count such statements apart). THE CARD IS WHAT COUNTS. Prove the row's statement (the work); the ties are given (YtainemoobhkeiaaGreatDoorTie.lean); close each card by the builder's one call (the guide's Derived/Test/ToyasCard.lean, 'card_holds'). Laid BY PROGRAM, IN A SANDBOX (cutbox-door.mjs). By AI agents, Wed Nov 11 2026. No macro, syntax, notation, axiom, sorry.
-/
import Derived.Test.YtainemoobhkeiaaGreatDoorRows
import GoSem.ClaimSeven
namespace Go.Proofs.YtainemoobhkeiaaGreatDoor
namespace Rows

/-- THE TIED CARD OF 'racelaw28.ScanTexts'. -/
def scanTextsCard : Claim7 := { stood := { row := scanTextsRow, standIns := [], harness := (true, "55b73475071480432e6ab4b1b4110300747ae9c5376ffd49daef297889fe501f"), looks := true }, kinds := [], alts := [], laidByText := true, laidKinds := [.data, .data, .data, .sentinel, .sentinel], laidTests := true, laidLooks := .later }
def ScanTextsCardSaid : Prop := Claim7.holds Tryz.pinned (.plain (OpenSpec.ofChange scanTextsSpec)) scanTextsCard

/-- THE SECOND FORM's CARD OF 'racelaw28.ScanTexts'. -/
def scanTextsUptoCard : Claim7 := { stood := { row := scanTextsUptoRow, standIns := [], harness := (true, "55b73475071480432e6ab4b1b4110300747ae9c5376ffd49daef297889fe501f"), looks := true }, kinds := [], alts := [], laidByText := true, laidKinds := [.data, .data, .data, .sentinel, .sentinel], laidTests := true, laidLooks := .later }
def ScanTextsUptoCardSaid : Prop := Claim7.holds Tryz.pinned (.plain (OpenSpec.upto scanTextsSpec)) scanTextsUptoCard
end Rows
end Go.Proofs.YtainemoobhkeiaaGreatDoor
