/-
  DERIVED. GIVEN WITH THE SEED: THE CARDS: each row of YtainemoobhkeiaaDoorRows.lean that lists a variable, with what it lists TIED to the program's text (the seventh form; the later family's looks); each row that meets fmt, with fmt's text TOLD by the authors' own Lean function (tested against real Go, not proved from fmt's source: count such statements apart). THE CARD IS WHAT COUNTS. Prove the row's statement (the work); the ties are given (YtainemoobhkeiaaDoorTie.lean); close each card by the builder's one call (the guide's Derived/Test/ToyasCard.lean, 'card_holds'). Laid BY PROGRAM, IN A SANDBOX (cutbox-door.mjs). By AI agents, Wed Nov 11 2026. No macro, syntax, notation, axiom, sorry.
-/
import Derived.Test.YtainemoobhkeiaaDoorRows
import GoSem.ClaimSeven
namespace Go.Proofs.YtainemoobhkeiaaDoor
namespace Rows

/-- THE TIED CARD OF 'racelaw28.ScanRuns'. -/
def scanRunsCard : Claim7 := { stood := { row := scanRunsRow, standIns := [], harness := (true, "3bea1bdf862c37001c5643dafe90c75483aa257e94eb82cc181c9cf7e5c66877"), looks := true }, kinds := [], alts := [], laidByText := true, laidKinds := [.data, .data, .data], laidTests := true, laidLooks := .later }
def ScanRunsCardSaid : Prop := Claim7.holds Tryd.pinned (.plain (OpenSpec.ofChange scanRunsSpec)) scanRunsCard

/-- THE TIED CARD OF 'racelaw28.ScanMatches'. -/
def scanMatchesCard : Claim7 := { stood := { row := scanMatchesRow, standIns := [], harness := (true, "3bea1bdf862c37001c5643dafe90c75483aa257e94eb82cc181c9cf7e5c66877"), looks := true }, kinds := [], alts := [], laidByText := true, laidKinds := [.data, .data, .data], laidTests := true, laidLooks := .later }
def ScanMatchesCardSaid : Prop := Claim7.holds Tryd.pinned (.plain (OpenSpec.ofChange scanMatchesSpec)) scanMatchesCard

/-- THE TIED CARD OF 'racelaw28.ScanPages'. -/
def scanPagesCard : Claim7 := { stood := { row := scanPagesRow, standIns := [], harness := (true, "3bea1bdf862c37001c5643dafe90c75483aa257e94eb82cc181c9cf7e5c66877"), looks := true }, kinds := [], alts := [], laidByText := true, laidKinds := [.data, .data, .data], laidTests := true, laidLooks := .later }
def ScanPagesCardSaid : Prop := Claim7.holds Tryd.pinned (.plain (OpenSpec.ofChange scanPagesSpec)) scanPagesCard

/-- THE TIED CARD OF 'racelaw28.ScanHalves'. -/
def scanHalvesCard : Claim7 := { stood := { row := scanHalvesRow, standIns := [], harness := (true, "3bea1bdf862c37001c5643dafe90c75483aa257e94eb82cc181c9cf7e5c66877"), looks := true }, kinds := [], alts := [], laidByText := true, laidKinds := [.data, .data, .data], laidTests := true, laidLooks := .later }
def ScanHalvesCardSaid : Prop := Claim7.holds Tryd.pinned (.plain (OpenSpec.ofChange scanHalvesSpec)) scanHalvesCard

/-- THE TIED CARD OF 'racelaw28.ScanBack'. -/
def scanBackCard : Claim7 := { stood := { row := scanBackRow, standIns := [], harness := (true, "3bea1bdf862c37001c5643dafe90c75483aa257e94eb82cc181c9cf7e5c66877"), looks := true }, kinds := [], alts := [], laidByText := true, laidKinds := [.data, .data, .data, .sentinel, .sentinel], laidTests := true, laidLooks := .later }
def ScanBackCardSaid : Prop := Claim7.holds Tryd.pinned (.plain (OpenSpec.ofChange scanBackSpec)) scanBackCard

/-- THE SECOND FORM's CARD OF 'racelaw28.ScanRuns'. -/
def scanRunsUptoCard : Claim7 := { stood := { row := scanRunsUptoRow, standIns := [], harness := (true, "3bea1bdf862c37001c5643dafe90c75483aa257e94eb82cc181c9cf7e5c66877"), looks := true }, kinds := [], alts := [], laidByText := true, laidKinds := [.data, .data, .data], laidTests := true, laidLooks := .later }
def ScanRunsUptoCardSaid : Prop := Claim7.holds Tryd.pinned (.plain (OpenSpec.upto scanRunsSpec)) scanRunsUptoCard

/-- THE SECOND FORM's CARD OF 'racelaw28.ScanMatches'. -/
def scanMatchesUptoCard : Claim7 := { stood := { row := scanMatchesUptoRow, standIns := [], harness := (true, "3bea1bdf862c37001c5643dafe90c75483aa257e94eb82cc181c9cf7e5c66877"), looks := true }, kinds := [], alts := [], laidByText := true, laidKinds := [.data, .data, .data], laidTests := true, laidLooks := .later }
def ScanMatchesUptoCardSaid : Prop := Claim7.holds Tryd.pinned (.plain (OpenSpec.upto scanMatchesSpec)) scanMatchesUptoCard

/-- THE SECOND FORM's CARD OF 'racelaw28.ScanPages'. -/
def scanPagesUptoCard : Claim7 := { stood := { row := scanPagesUptoRow, standIns := [], harness := (true, "3bea1bdf862c37001c5643dafe90c75483aa257e94eb82cc181c9cf7e5c66877"), looks := true }, kinds := [], alts := [], laidByText := true, laidKinds := [.data, .data, .data], laidTests := true, laidLooks := .later }
def ScanPagesUptoCardSaid : Prop := Claim7.holds Tryd.pinned (.plain (OpenSpec.upto scanPagesSpec)) scanPagesUptoCard

/-- THE SECOND FORM's CARD OF 'racelaw28.ScanHalves'. -/
def scanHalvesUptoCard : Claim7 := { stood := { row := scanHalvesUptoRow, standIns := [], harness := (true, "3bea1bdf862c37001c5643dafe90c75483aa257e94eb82cc181c9cf7e5c66877"), looks := true }, kinds := [], alts := [], laidByText := true, laidKinds := [.data, .data, .data], laidTests := true, laidLooks := .later }
def ScanHalvesUptoCardSaid : Prop := Claim7.holds Tryd.pinned (.plain (OpenSpec.upto scanHalvesSpec)) scanHalvesUptoCard

/-- THE SECOND FORM's CARD OF 'racelaw28.ScanBack'. -/
def scanBackUptoCard : Claim7 := { stood := { row := scanBackUptoRow, standIns := [], harness := (true, "3bea1bdf862c37001c5643dafe90c75483aa257e94eb82cc181c9cf7e5c66877"), looks := true }, kinds := [], alts := [], laidByText := true, laidKinds := [.data, .data, .data, .sentinel, .sentinel], laidTests := true, laidLooks := .later }
def ScanBackUptoCardSaid : Prop := Claim7.holds Tryd.pinned (.plain (OpenSpec.upto scanBackSpec)) scanBackUptoCard
end Rows
end Go.Proofs.YtainemoobhkeiaaDoor
