/-
  No cell of these rows narrows 'for every input' (looked for: loops, veiled, ifaces, maps, wideKeys, modest, calm, conditions, laid).
  DERIVED. THE GIVEN ROWS OF THIS SEAT. 3 by the template 'for every input the law returns true; each argument reads behind the call as it read before'; 0 by the template 'total and deterministic' (their statements: YtdjfbkllbeeabaaTotals.lean).
  GIVEN WITH THE SEED: the statements are not yours to turn. If you find one false, say at which input.
  Laid BY PROGRAM, IN A SANDBOX (cutbox-rows.mjs): the forced cells as the released guide's own fill.sh prints them over the translation 129dcea0c9ba5add… (all of the seat's roots in one cut). By AI agents, Wed Nov 11 2026. No macro, syntax, notation, axiom, sorry.
-/
import Derived.Test.YtdjfbkllbeeabaaChecked
import GoSem.Claim
import GoSem.ClaimJoined
import GoSem.ClaimMapViews
import Derived.JoinedTies
import Derived.KernelRfl
namespace Go.Proofs.Ytdjfbkllbeeabaa
/- THE CELL 'sum', in the pinned program and in every row, IS THE sha256 OF THE DUMP (.gsa) THAT YtdjfbkllbeeabaaProg.lean LOADS. Nothing in Lean hashes anything: it is a label: what it is worth is what the hold of that sum in a sandbox is worth. -/
noncomputable def Try.pinned : Pinned := { name := "ytdjfbkllbeeabaa", sum := "129dcea0c9ba5add8dfe290fc0c24a386431c1ce41baf09f8a6f7d15384c0cab", checked := Try.checked }
namespace Rows
def none {H : Type} : Left H := { results := [], args := [] }

/-- 'racelaw20.MergeTurns': WHATEVER THE INPUT: true; the input reads as it did. -/
def mergeTurnsSpec : ChangeSpec := { name := "mergeTurns", fn := fun _ => fun
  | [d] => { results := [.lit (.bool true)], args := [d] }
  | _ => none }
def mergeTurnsRow : OpenClaim := { program := "ytdjfbkllbeeabaa", sum := "129dcea0c9ba5add8dfe290fc0c24a386431c1ce41baf09f8a6f7d15384c0cab", func := "headrace/racelaw20.MergeTurns", spec := "mergeTurns", inPlace := ["math.Float64bits", "math.Float64frombits", "slices.overlaps[headrace/api.Fragment]"], unfollowed := true, recurses := true, apart := false }
def MergeTurnsSaid : Prop := mergeTurnsRow.holds Try.pinned (OpenSpec.ofChange mergeTurnsSpec)

/-- ITS FALSE NEIGHBOUR: 'it returns false'. Refute it at one input. -/
def mergeTurnsWrong : ChangeSpec := { name := "mergeTurns", fn := fun _ => fun
  | [d] => { results := [.lit (.bool false)], args := [d] }
  | _ => none }
def MergeTurnsWrongFalsely : Prop := mergeTurnsRow.holds Try.pinned (OpenSpec.ofChange mergeTurnsWrong)

/-- 'racelaw20.MergeNever': WHATEVER THE INPUT: true; the input reads as it did. -/
def mergeNeverSpec : ChangeSpec := { name := "mergeNever", fn := fun _ => fun
  | [d1, d2, d3] => { results := [.lit (.bool true)], args := [d1, d2, d3] }
  | _ => none }
def mergeNeverRow : OpenClaim := { program := "ytdjfbkllbeeabaa", sum := "129dcea0c9ba5add8dfe290fc0c24a386431c1ce41baf09f8a6f7d15384c0cab", func := "headrace/racelaw20.MergeNever", spec := "mergeNever", inPlace := ["math.Float64bits", "math.Float64frombits", "slices.overlaps[headrace/api.Fragment]"], unfollowed := true, recurses := true, apart := false }
def MergeNeverSaid : Prop := mergeNeverRow.holds Try.pinned (OpenSpec.ofChange mergeNeverSpec)

/-- ITS FALSE NEIGHBOUR: 'it returns false'. Refute it at one input. -/
def mergeNeverWrong : ChangeSpec := { name := "mergeNever", fn := fun _ => fun
  | [d1, d2, d3] => { results := [.lit (.bool false)], args := [d1, d2, d3] }
  | _ => none }
def MergeNeverWrongFalsely : Prop := mergeNeverRow.holds Try.pinned (OpenSpec.ofChange mergeNeverWrong)

/-- 'racelaw20.MergeHigh': WHATEVER THE INPUT: true; the input reads as it did. -/
def mergeHighSpec : ChangeSpec := { name := "mergeHigh", fn := fun _ => fun
  | [d1, d2, d3] => { results := [.lit (.bool true)], args := [d1, d2, d3] }
  | _ => none }
def mergeHighRow : OpenClaim := { program := "ytdjfbkllbeeabaa", sum := "129dcea0c9ba5add8dfe290fc0c24a386431c1ce41baf09f8a6f7d15384c0cab", func := "headrace/racelaw20.MergeHigh", spec := "mergeHigh", inPlace := ["math.Float64bits", "math.Float64frombits", "slices.overlaps[headrace/api.Fragment]"], unfollowed := true, recurses := true, apart := false }
def MergeHighSaid : Prop := mergeHighRow.holds Try.pinned (OpenSpec.ofChange mergeHighSpec)

/-- ITS FALSE NEIGHBOUR: 'it returns false'. Refute it at one input. -/
def mergeHighWrong : ChangeSpec := { name := "mergeHigh", fn := fun _ => fun
  | [d1, d2, d3] => { results := [.lit (.bool false)], args := [d1, d2, d3] }
  | _ => none }
def MergeHighWrongFalsely : Prop := mergeHighRow.holds Try.pinned (OpenSpec.ofChange mergeHighWrong)

/- THE SECOND FORM. 'bulk': how many values and letters a reading holds, each counted each time it is reached (what is shared counts as often as it is met; a slice's spare places count too). A statement '..UptoSaid' is the law's where the arguments, and the package variables that the reading takes, are together of bulk at most 1048576: NARROWER than '..Said'. Prove '..Said' where nothing that the law and all that it calls make is longer than what came in: it says more and counts as full. Else prove '..UptoSaid'. A law counts once. -/
mutual
def uptoBulk {H : Type} : DataW H → Nat
  | .lit (.string bytes) => bytes.length + 1
  | .lit _ => 1
  | .nil => 1
  | .ptr d => uptoBulk d + 1
  | .slice elems spare => uptoBulkAll elems + uptoBulkAll spare + 1
  | .agg parts => uptoBulkAll parts + 1
  | .iface _ d => uptoBulk d + 1
  | .map entries => uptoBulkEntries entries + 1
  | .held _ => 1
def uptoBulkAll {H : Type} : List (DataW H) → Nat
  | [] => 0
  | d :: r => uptoBulk d + uptoBulkAll r
def uptoBulkEntries {H : Type} : List (Lit × DataW H) → Nat
  | [] => 0
  | x :: r => uptoBulkEntry x + uptoBulkEntries r
def uptoBulkEntry {H : Type} : Lit × DataW H → Nat
  | (.string bytes, d) => bytes.length + uptoBulk d + 1
  | (_, d) => uptoBulk d + 1
 end
def uptoSmall : (H : Type) → List (DataW H) → Bool := fun _ ds => decide (uptoBulkAll ds ≤ 1048576)
def OpenSpec.upto (s : _root_.Go.ChangeSpec) : _root_.Go.OpenSpec := { _root_.Go.OpenSpec.ofChange s with cond := some uptoSmall }

/-- 'racelaw20.MergeTurns', WHERE WHAT IT READS IS OF BULK AT MOST 1048576: true; the input reads as it did. -/
def mergeTurnsUptoRow : OpenClaim := { program := "ytdjfbkllbeeabaa", sum := "129dcea0c9ba5add8dfe290fc0c24a386431c1ce41baf09f8a6f7d15384c0cab", func := "headrace/racelaw20.MergeTurns", spec := "mergeTurns", inPlace := ["math.Float64bits", "math.Float64frombits", "slices.overlaps[headrace/api.Fragment]"], unfollowed := true, recurses := true, apart := false, narrowed := true }
def MergeTurnsUptoSaid : Prop := mergeTurnsUptoRow.holds Try.pinned (OpenSpec.upto mergeTurnsSpec)

/-- 'racelaw20.MergeNever', WHERE WHAT IT READS IS OF BULK AT MOST 1048576: true; the input reads as it did. -/
def mergeNeverUptoRow : OpenClaim := { program := "ytdjfbkllbeeabaa", sum := "129dcea0c9ba5add8dfe290fc0c24a386431c1ce41baf09f8a6f7d15384c0cab", func := "headrace/racelaw20.MergeNever", spec := "mergeNever", inPlace := ["math.Float64bits", "math.Float64frombits", "slices.overlaps[headrace/api.Fragment]"], unfollowed := true, recurses := true, apart := false, narrowed := true }
def MergeNeverUptoSaid : Prop := mergeNeverUptoRow.holds Try.pinned (OpenSpec.upto mergeNeverSpec)

/-- 'racelaw20.MergeHigh', WHERE WHAT IT READS IS OF BULK AT MOST 1048576: true; the input reads as it did. -/
def mergeHighUptoRow : OpenClaim := { program := "ytdjfbkllbeeabaa", sum := "129dcea0c9ba5add8dfe290fc0c24a386431c1ce41baf09f8a6f7d15384c0cab", func := "headrace/racelaw20.MergeHigh", spec := "mergeHigh", inPlace := ["math.Float64bits", "math.Float64frombits", "slices.overlaps[headrace/api.Fragment]"], unfollowed := true, recurses := true, apart := false, narrowed := true }
def MergeHighUptoSaid : Prop := mergeHighUptoRow.holds Try.pinned (OpenSpec.upto mergeHighSpec)

end Rows
end Go.Proofs.Ytdjfbkllbeeabaa
