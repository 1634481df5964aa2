/-
  DERIVED. GIVEN WITH THE SEED: THE CARDS: each row of YtonnladboikmhaaGreatDoorRows.lean that lists a variable, with what it lists TIED to the program's text (the seventh form; the later family's looks); each row that meets fmt, with fmt's text TOLD by the authors' own Lean function (tested against real Go, not proved from fmt's source: count such statements apart). THE CARD IS WHAT COUNTS. Prove the row's statement (the work); the ties are given (YtonnladboikmhaaGreatDoorTie.lean); close each card by the builder's one call (the guide's Derived/Test/ToyasCard.lean, 'card_holds'). Laid BY PROGRAM, IN A SANDBOX (cutbox-door.mjs). By AI agents, Wed Nov 11 2026. No macro, syntax, notation, axiom, sorry.
-/
import Derived.Test.YtonnladboikmhaaGreatDoorRows
import GoSem.ClaimSeven
namespace Go.Proofs.YtonnladboikmhaaGreatDoor
namespace Rows

/-- THE TIED CARD OF 'racelaw29.LinesPrints'. -/
def linesPrintsCard : Claim7 := { stood := { row := linesPrintsRow, standIns := [], harness := (true, "7a10e952791e63abf1abedcd8720322c9b6f4db8d43e3939df7c23eb82e51732"), looks := true }, kinds := [], alts := [], laidByText := true, laidKinds := [.data, .data, .data, .data, .sentinel, .sentinel, .pinned], laidTests := true, laidLooks := .later }
def LinesPrintsCardSaid : Prop := Claim7.holds Tryz.pinned (.plain (OpenSpec.ofChange linesPrintsSpec)) linesPrintsCard

/-- THE TIED CARD OF 'racelaw29.LinesBack'. -/
def linesBackCard : Claim7 := { stood := { row := linesBackRow, standIns := [], harness := (true, "7a10e952791e63abf1abedcd8720322c9b6f4db8d43e3939df7c23eb82e51732"), looks := true }, kinds := [], alts := [], laidByText := true, laidKinds := [.data, .data, .data, .data, .sentinel, .sentinel, .pinned], laidTests := true, laidLooks := .later }
def LinesBackCardSaid : Prop := Claim7.holds Tryz.pinned (.plain (OpenSpec.ofChange linesBackSpec)) linesBackCard

/-- THE TIED CARD OF 'racelaw29.LinesJoins'. -/
def linesJoinsCard : Claim7 := { stood := { row := linesJoinsRow, standIns := [], harness := (true, "7a10e952791e63abf1abedcd8720322c9b6f4db8d43e3939df7c23eb82e51732"), looks := true }, kinds := [], alts := [], laidByText := true, laidKinds := [.data, .data, .data, .data, .sentinel, .sentinel, .pinned], laidTests := true, laidLooks := .later }
def LinesJoinsCardSaid : Prop := Claim7.holds Tryz.pinned (.plain (OpenSpec.ofChange linesJoinsSpec)) linesJoinsCard

/-- THE TIED CARD OF 'racelaw29.LinesParses'. -/
def linesParsesCard : Claim7 := { stood := { row := linesParsesRow, standIns := [], harness := (true, "7a10e952791e63abf1abedcd8720322c9b6f4db8d43e3939df7c23eb82e51732"), looks := true }, kinds := [], alts := [], laidByText := true, laidKinds := [.data, .data, .data, .data, .sentinel, .sentinel, .pinned], laidTests := true, laidLooks := .later }
def LinesParsesCardSaid : Prop := Claim7.holds Tryz.pinned (.plain (OpenSpec.ofChange linesParsesSpec)) linesParsesCard

/-- THE TIED CARD OF 'racelaw29.LinesHalves'. -/
def linesHalvesCard : Claim7 := { stood := { row := linesHalvesRow, standIns := [], harness := (true, "7a10e952791e63abf1abedcd8720322c9b6f4db8d43e3939df7c23eb82e51732"), looks := true }, kinds := [], alts := [], laidByText := true, laidKinds := [.data, .data, .data, .data, .sentinel, .sentinel, .pinned], laidTests := true, laidLooks := .later }
def LinesHalvesCardSaid : Prop := Claim7.holds Tryz.pinned (.plain (OpenSpec.ofChange linesHalvesSpec)) linesHalvesCard

/-- THE SECOND FORM's CARD OF 'racelaw29.LinesPrints'. -/
def linesPrintsUptoCard : Claim7 := { stood := { row := linesPrintsUptoRow, standIns := [], harness := (true, "7a10e952791e63abf1abedcd8720322c9b6f4db8d43e3939df7c23eb82e51732"), looks := true }, kinds := [], alts := [], laidByText := true, laidKinds := [.data, .data, .data, .data, .sentinel, .sentinel, .pinned], laidTests := true, laidLooks := .later }
def LinesPrintsUptoCardSaid : Prop := Claim7.holds Tryz.pinned (.plain (OpenSpec.upto linesPrintsSpec)) linesPrintsUptoCard

/-- THE SECOND FORM's CARD OF 'racelaw29.LinesBack'. -/
def linesBackUptoCard : Claim7 := { stood := { row := linesBackUptoRow, standIns := [], harness := (true, "7a10e952791e63abf1abedcd8720322c9b6f4db8d43e3939df7c23eb82e51732"), looks := true }, kinds := [], alts := [], laidByText := true, laidKinds := [.data, .data, .data, .data, .sentinel, .sentinel, .pinned], laidTests := true, laidLooks := .later }
def LinesBackUptoCardSaid : Prop := Claim7.holds Tryz.pinned (.plain (OpenSpec.upto linesBackSpec)) linesBackUptoCard

/-- THE SECOND FORM's CARD OF 'racelaw29.LinesJoins'. -/
def linesJoinsUptoCard : Claim7 := { stood := { row := linesJoinsUptoRow, standIns := [], harness := (true, "7a10e952791e63abf1abedcd8720322c9b6f4db8d43e3939df7c23eb82e51732"), looks := true }, kinds := [], alts := [], laidByText := true, laidKinds := [.data, .data, .data, .data, .sentinel, .sentinel, .pinned], laidTests := true, laidLooks := .later }
def LinesJoinsUptoCardSaid : Prop := Claim7.holds Tryz.pinned (.plain (OpenSpec.upto linesJoinsSpec)) linesJoinsUptoCard

/-- THE SECOND FORM's CARD OF 'racelaw29.LinesParses'. -/
def linesParsesUptoCard : Claim7 := { stood := { row := linesParsesUptoRow, standIns := [], harness := (true, "7a10e952791e63abf1abedcd8720322c9b6f4db8d43e3939df7c23eb82e51732"), looks := true }, kinds := [], alts := [], laidByText := true, laidKinds := [.data, .data, .data, .data, .sentinel, .sentinel, .pinned], laidTests := true, laidLooks := .later }
def LinesParsesUptoCardSaid : Prop := Claim7.holds Tryz.pinned (.plain (OpenSpec.upto linesParsesSpec)) linesParsesUptoCard

/-- THE SECOND FORM's CARD OF 'racelaw29.LinesHalves'. -/
def linesHalvesUptoCard : Claim7 := { stood := { row := linesHalvesUptoRow, standIns := [], harness := (true, "7a10e952791e63abf1abedcd8720322c9b6f4db8d43e3939df7c23eb82e51732"), looks := true }, kinds := [], alts := [], laidByText := true, laidKinds := [.data, .data, .data, .data, .sentinel, .sentinel, .pinned], laidTests := true, laidLooks := .later }
def LinesHalvesUptoCardSaid : Prop := Claim7.holds Tryz.pinned (.plain (OpenSpec.upto linesHalvesSpec)) linesHalvesUptoCard
end Rows
end Go.Proofs.YtonnladboikmhaaGreatDoor
