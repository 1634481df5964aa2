/-
  No cell of these rows narrows 'for every input' (looked for: loops, veiled, ifaces, maps, wideKeys, modest, calm, conditions, laid).
  DERIVED. THE GIVEN ROWS OF THIS SEAT. 7 by the template 'for every input the law returns true; each argument reads behind the call as it read before'; 0 by the template 'total and deterministic' (their statements: YtmhfmbgjnebcfaaTotals.lean).
  GIVEN WITH THE SEED: the statements are not yours to turn. If you find one false, say at which input.
  Laid BY PROGRAM, IN A SANDBOX (cutbox-rows.mjs): the forced cells as the released guide's own fill.sh prints them over the translation 2410c44458308c1e… (all of the seat's roots in one cut). By AI agents, Wed Nov 11 2026. No macro, syntax, notation, axiom, sorry.
-/
import Derived.Test.YtmhfmbgjnebcfaaChecked
import GoSem.Claim
import GoSem.ClaimJoined
import GoSem.ClaimMapViews
import Derived.JoinedTies
import Derived.KernelRfl
namespace Go.Proofs.Ytmhfmbgjnebcfaa
/- THE CELL 'sum', in the pinned program and in every row, IS THE sha256 OF THE DUMP (.gsa) THAT YtmhfmbgjnebcfaaProg.lean LOADS. Nothing in Lean hashes anything: it is a label: what it is worth is what the hold of that sum in a sandbox is worth. -/
noncomputable def Try.pinned : Pinned := { name := "ytmhfmbgjnebcfaa", sum := "2410c44458308c1e32ed8ec3e6482c837774ab88a3d50dc83f5e29209e47b94a", checked := Try.checked }
namespace Rows
def none {H : Type} : Left H := { results := [], args := [] }

/-- 'racelaw30.PaceSteps': WHATEVER THE INPUT: true; the input reads as it did. -/
def paceStepsSpec : ChangeSpec := { name := "paceSteps", fn := fun _ => fun
  | [d1, d2, d3, d4, d5, d6] => { results := [.lit (.bool true)], args := [d1, d2, d3, d4, d5, d6] }
  | _ => none }
def paceStepsRow : OpenClaim := { program := "ytmhfmbgjnebcfaa", sum := "2410c44458308c1e32ed8ec3e6482c837774ab88a3d50dc83f5e29209e47b94a", func := "headrace/racelaw30.PaceSteps", spec := "paceSteps", inPlace := ["math.Float64frombits", "math.archCeil", "math.archFloor", "math.Float64bits", "math.archTrunc"], unfollowed := true, recurses := true, apart := false }
def PaceStepsSaid : Prop := paceStepsRow.holds Try.pinned (OpenSpec.ofChange paceStepsSpec)

/-- ITS FALSE NEIGHBOUR: 'it returns false'. Refute it at one input. -/
def paceStepsWrong : ChangeSpec := { name := "paceSteps", fn := fun _ => fun
  | [d1, d2, d3, d4, d5, d6] => { results := [.lit (.bool false)], args := [d1, d2, d3, d4, d5, d6] }
  | _ => none }
def PaceStepsWrongFalsely : Prop := paceStepsRow.holds Try.pinned (OpenSpec.ofChange paceStepsWrong)

/-- 'racelaw30.PaceQuantiles': WHATEVER THE INPUT: true; the input reads as it did. -/
def paceQuantilesSpec : ChangeSpec := { name := "paceQuantiles", fn := fun _ => fun
  | [d1, d2, d3] => { results := [.lit (.bool true)], args := [d1, d2, d3] }
  | _ => none }
def paceQuantilesRow : OpenClaim := { program := "ytmhfmbgjnebcfaa", sum := "2410c44458308c1e32ed8ec3e6482c837774ab88a3d50dc83f5e29209e47b94a", func := "headrace/racelaw30.PaceQuantiles", spec := "paceQuantiles", inPlace := ["math.Float64frombits", "math.archCeil", "math.archFloor", "math.Float64bits", "math.archTrunc"], unfollowed := true, recurses := true, apart := false }
def PaceQuantilesSaid : Prop := paceQuantilesRow.holds Try.pinned (OpenSpec.ofChange paceQuantilesSpec)

/-- ITS FALSE NEIGHBOUR: 'it returns false'. Refute it at one input. -/
def paceQuantilesWrong : ChangeSpec := { name := "paceQuantiles", fn := fun _ => fun
  | [d1, d2, d3] => { results := [.lit (.bool false)], args := [d1, d2, d3] }
  | _ => none }
def PaceQuantilesWrongFalsely : Prop := paceQuantilesRow.holds Try.pinned (OpenSpec.ofChange paceQuantilesWrong)

/-- 'racelaw30.PaceSorts': WHATEVER THE INPUT: true; the input reads as it did. -/
def paceSortsSpec : ChangeSpec := { name := "paceSorts", fn := fun _ => fun
  | [d] => { results := [.lit (.bool true)], args := [d] }
  | _ => none }
def paceSortsRow : OpenClaim := { program := "ytmhfmbgjnebcfaa", sum := "2410c44458308c1e32ed8ec3e6482c837774ab88a3d50dc83f5e29209e47b94a", func := "headrace/racelaw30.PaceSorts", spec := "paceSorts", inPlace := ["math.Float64frombits", "math.archCeil", "math.archFloor", "math.Float64bits", "math.archTrunc"], unfollowed := true, recurses := true, apart := false }
def PaceSortsSaid : Prop := paceSortsRow.holds Try.pinned (OpenSpec.ofChange paceSortsSpec)

/-- ITS FALSE NEIGHBOUR: 'it returns false'. Refute it at one input. -/
def paceSortsWrong : ChangeSpec := { name := "paceSorts", fn := fun _ => fun
  | [d] => { results := [.lit (.bool false)], args := [d] }
  | _ => none }
def PaceSortsWrongFalsely : Prop := paceSortsRow.holds Try.pinned (OpenSpec.ofChange paceSortsWrong)

/-- 'racelaw30.PaceStays': WHATEVER THE INPUT: true; the input reads as it did. -/
def paceStaysSpec : ChangeSpec := { name := "paceStays", fn := fun _ => fun
  | [d1, d2, d3, d4, d5] => { results := [.lit (.bool true)], args := [d1, d2, d3, d4, d5] }
  | _ => none }
def paceStaysRow : OpenClaim := { program := "ytmhfmbgjnebcfaa", sum := "2410c44458308c1e32ed8ec3e6482c837774ab88a3d50dc83f5e29209e47b94a", func := "headrace/racelaw30.PaceStays", spec := "paceStays", inPlace := ["math.Float64frombits", "math.archCeil", "math.archFloor", "math.Float64bits", "math.archTrunc"], unfollowed := true, recurses := true, apart := false }
def PaceStaysSaid : Prop := paceStaysRow.holds Try.pinned (OpenSpec.ofChange paceStaysSpec)

/-- ITS FALSE NEIGHBOUR: 'it returns false'. Refute it at one input. -/
def paceStaysWrong : ChangeSpec := { name := "paceStays", fn := fun _ => fun
  | [d1, d2, d3, d4, d5] => { results := [.lit (.bool false)], args := [d1, d2, d3, d4, d5] }
  | _ => none }
def PaceStaysWrongFalsely : Prop := paceStaysRow.holds Try.pinned (OpenSpec.ofChange paceStaysWrong)

/-- 'racelaw30.PaceLags': WHATEVER THE INPUT: true; the input reads as it did. -/
def paceLagsSpec : ChangeSpec := { name := "paceLags", fn := fun _ => fun
  | [d1, d2, d3] => { results := [.lit (.bool true)], args := [d1, d2, d3] }
  | _ => none }
def paceLagsRow : OpenClaim := { program := "ytmhfmbgjnebcfaa", sum := "2410c44458308c1e32ed8ec3e6482c837774ab88a3d50dc83f5e29209e47b94a", func := "headrace/racelaw30.PaceLags", spec := "paceLags", inPlace := ["math.Float64frombits", "math.archCeil", "math.archFloor", "math.Float64bits", "math.archTrunc"], unfollowed := true, recurses := true, apart := false }
def PaceLagsSaid : Prop := paceLagsRow.holds Try.pinned (OpenSpec.ofChange paceLagsSpec)

/-- ITS FALSE NEIGHBOUR: 'it returns false'. Refute it at one input. -/
def paceLagsWrong : ChangeSpec := { name := "paceLags", fn := fun _ => fun
  | [d1, d2, d3] => { results := [.lit (.bool false)], args := [d1, d2, d3] }
  | _ => none }
def PaceLagsWrongFalsely : Prop := paceLagsRow.holds Try.pinned (OpenSpec.ofChange paceLagsWrong)

/-- 'racelaw30.PaceLists': WHATEVER THE INPUT: true; the input reads as it did. -/
def paceListsSpec : ChangeSpec := { name := "paceLists", fn := fun _ => fun
  | [d1, d2] => { results := [.lit (.bool true)], args := [d1, d2] }
  | _ => none }
def paceListsRow : OpenClaim := { program := "ytmhfmbgjnebcfaa", sum := "2410c44458308c1e32ed8ec3e6482c837774ab88a3d50dc83f5e29209e47b94a", func := "headrace/racelaw30.PaceLists", spec := "paceLists", inPlace := ["math.Float64frombits", "math.archCeil", "math.archFloor", "math.Float64bits", "math.archTrunc"], unfollowed := true, recurses := true, apart := false }
def PaceListsSaid : Prop := paceListsRow.holds Try.pinned (OpenSpec.ofChange paceListsSpec)

/-- ITS FALSE NEIGHBOUR: 'it returns false'. Refute it at one input. -/
def paceListsWrong : ChangeSpec := { name := "paceLists", fn := fun _ => fun
  | [d1, d2] => { results := [.lit (.bool false)], args := [d1, d2] }
  | _ => none }
def PaceListsWrongFalsely : Prop := paceListsRow.holds Try.pinned (OpenSpec.ofChange paceListsWrong)

/-- 'racelaw30.PaceGauges': WHATEVER THE INPUT: true; the input reads as it did. -/
def paceGaugesSpec : ChangeSpec := { name := "paceGauges", fn := fun _ => fun
  | [d1, d2] => { results := [.lit (.bool true)], args := [d1, d2] }
  | _ => none }
def paceGaugesRow : OpenClaim := { program := "ytmhfmbgjnebcfaa", sum := "2410c44458308c1e32ed8ec3e6482c837774ab88a3d50dc83f5e29209e47b94a", func := "headrace/racelaw30.PaceGauges", spec := "paceGauges", inPlace := ["math.Float64frombits", "math.archCeil", "math.archFloor", "math.Float64bits", "math.archTrunc"], unfollowed := true, recurses := true, apart := false }
def PaceGaugesSaid : Prop := paceGaugesRow.holds Try.pinned (OpenSpec.ofChange paceGaugesSpec)

/-- ITS FALSE NEIGHBOUR: 'it returns false'. Refute it at one input. -/
def paceGaugesWrong : ChangeSpec := { name := "paceGauges", fn := fun _ => fun
  | [d1, d2] => { results := [.lit (.bool false)], args := [d1, d2] }
  | _ => none }
def PaceGaugesWrongFalsely : Prop := paceGaugesRow.holds Try.pinned (OpenSpec.ofChange paceGaugesWrong)

/- THE SECOND FORM. 'bulk': how many values and letters a reading holds, each counted each time it is reached (what is shared counts as often as it is met; a slice's spare places count too). A statement '..UptoSaid' is the law's where the arguments, and the package variables that the reading takes, are together of bulk at most 1048576: NARROWER than '..Said'. Prove '..Said' where nothing that the law and all that it calls make is longer than what came in: it says more and counts as full. Else prove '..UptoSaid'. A law counts once. -/
mutual
def uptoBulk {H : Type} : DataW H → Nat
  | .lit (.string bytes) => bytes.length + 1
  | .lit _ => 1
  | .nil => 1
  | .ptr d => uptoBulk d + 1
  | .slice elems spare => uptoBulkAll elems + uptoBulkAll spare + 1
  | .agg parts => uptoBulkAll parts + 1
  | .iface _ d => uptoBulk d + 1
  | .map entries => uptoBulkEntries entries + 1
  | .held _ => 1
def uptoBulkAll {H : Type} : List (DataW H) → Nat
  | [] => 0
  | d :: r => uptoBulk d + uptoBulkAll r
def uptoBulkEntries {H : Type} : List (Lit × DataW H) → Nat
  | [] => 0
  | x :: r => uptoBulkEntry x + uptoBulkEntries r
def uptoBulkEntry {H : Type} : Lit × DataW H → Nat
  | (.string bytes, d) => bytes.length + uptoBulk d + 1
  | (_, d) => uptoBulk d + 1
 end
def uptoSmall : (H : Type) → List (DataW H) → Bool := fun _ ds => decide (uptoBulkAll ds ≤ 1048576)
def OpenSpec.upto (s : _root_.Go.ChangeSpec) : _root_.Go.OpenSpec := { _root_.Go.OpenSpec.ofChange s with cond := some uptoSmall }

/-- 'racelaw30.PaceSteps', WHERE WHAT IT READS IS OF BULK AT MOST 1048576: true; the input reads as it did. -/
def paceStepsUptoRow : OpenClaim := { program := "ytmhfmbgjnebcfaa", sum := "2410c44458308c1e32ed8ec3e6482c837774ab88a3d50dc83f5e29209e47b94a", func := "headrace/racelaw30.PaceSteps", spec := "paceSteps", inPlace := ["math.Float64frombits", "math.archCeil", "math.archFloor", "math.Float64bits", "math.archTrunc"], unfollowed := true, recurses := true, apart := false, narrowed := true }
def PaceStepsUptoSaid : Prop := paceStepsUptoRow.holds Try.pinned (OpenSpec.upto paceStepsSpec)

/-- 'racelaw30.PaceQuantiles', WHERE WHAT IT READS IS OF BULK AT MOST 1048576: true; the input reads as it did. -/
def paceQuantilesUptoRow : OpenClaim := { program := "ytmhfmbgjnebcfaa", sum := "2410c44458308c1e32ed8ec3e6482c837774ab88a3d50dc83f5e29209e47b94a", func := "headrace/racelaw30.PaceQuantiles", spec := "paceQuantiles", inPlace := ["math.Float64frombits", "math.archCeil", "math.archFloor", "math.Float64bits", "math.archTrunc"], unfollowed := true, recurses := true, apart := false, narrowed := true }
def PaceQuantilesUptoSaid : Prop := paceQuantilesUptoRow.holds Try.pinned (OpenSpec.upto paceQuantilesSpec)

/-- 'racelaw30.PaceSorts', WHERE WHAT IT READS IS OF BULK AT MOST 1048576: true; the input reads as it did. -/
def paceSortsUptoRow : OpenClaim := { program := "ytmhfmbgjnebcfaa", sum := "2410c44458308c1e32ed8ec3e6482c837774ab88a3d50dc83f5e29209e47b94a", func := "headrace/racelaw30.PaceSorts", spec := "paceSorts", inPlace := ["math.Float64frombits", "math.archCeil", "math.archFloor", "math.Float64bits", "math.archTrunc"], unfollowed := true, recurses := true, apart := false, narrowed := true }
def PaceSortsUptoSaid : Prop := paceSortsUptoRow.holds Try.pinned (OpenSpec.upto paceSortsSpec)

/-- 'racelaw30.PaceStays', WHERE WHAT IT READS IS OF BULK AT MOST 1048576: true; the input reads as it did. -/
def paceStaysUptoRow : OpenClaim := { program := "ytmhfmbgjnebcfaa", sum := "2410c44458308c1e32ed8ec3e6482c837774ab88a3d50dc83f5e29209e47b94a", func := "headrace/racelaw30.PaceStays", spec := "paceStays", inPlace := ["math.Float64frombits", "math.archCeil", "math.archFloor", "math.Float64bits", "math.archTrunc"], unfollowed := true, recurses := true, apart := false, narrowed := true }
def PaceStaysUptoSaid : Prop := paceStaysUptoRow.holds Try.pinned (OpenSpec.upto paceStaysSpec)

/-- 'racelaw30.PaceLags', WHERE WHAT IT READS IS OF BULK AT MOST 1048576: true; the input reads as it did. -/
def paceLagsUptoRow : OpenClaim := { program := "ytmhfmbgjnebcfaa", sum := "2410c44458308c1e32ed8ec3e6482c837774ab88a3d50dc83f5e29209e47b94a", func := "headrace/racelaw30.PaceLags", spec := "paceLags", inPlace := ["math.Float64frombits", "math.archCeil", "math.archFloor", "math.Float64bits", "math.archTrunc"], unfollowed := true, recurses := true, apart := false, narrowed := true }
def PaceLagsUptoSaid : Prop := paceLagsUptoRow.holds Try.pinned (OpenSpec.upto paceLagsSpec)

/-- 'racelaw30.PaceLists', WHERE WHAT IT READS IS OF BULK AT MOST 1048576: true; the input reads as it did. -/
def paceListsUptoRow : OpenClaim := { program := "ytmhfmbgjnebcfaa", sum := "2410c44458308c1e32ed8ec3e6482c837774ab88a3d50dc83f5e29209e47b94a", func := "headrace/racelaw30.PaceLists", spec := "paceLists", inPlace := ["math.Float64frombits", "math.archCeil", "math.archFloor", "math.Float64bits", "math.archTrunc"], unfollowed := true, recurses := true, apart := false, narrowed := true }
def PaceListsUptoSaid : Prop := paceListsUptoRow.holds Try.pinned (OpenSpec.upto paceListsSpec)

/-- 'racelaw30.PaceGauges', WHERE WHAT IT READS IS OF BULK AT MOST 1048576: true; the input reads as it did. -/
def paceGaugesUptoRow : OpenClaim := { program := "ytmhfmbgjnebcfaa", sum := "2410c44458308c1e32ed8ec3e6482c837774ab88a3d50dc83f5e29209e47b94a", func := "headrace/racelaw30.PaceGauges", spec := "paceGauges", inPlace := ["math.Float64frombits", "math.archCeil", "math.archFloor", "math.Float64bits", "math.archTrunc"], unfollowed := true, recurses := true, apart := false, narrowed := true }
def PaceGaugesUptoSaid : Prop := paceGaugesUptoRow.holds Try.pinned (OpenSpec.upto paceGaugesSpec)

end Rows
end Go.Proofs.Ytmhfmbgjnebcfaa
