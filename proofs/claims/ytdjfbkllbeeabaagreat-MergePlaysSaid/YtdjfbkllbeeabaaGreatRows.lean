/-
  No cell of these rows narrows 'for every input' (looked for: loops, veiled, ifaces, maps, wideKeys, modest, calm, conditions, laid).
  DERIVED. THE GIVEN ROWS OF THIS SEAT. 2 by the template 'for every input the law returns true; each argument reads behind the call as it read before'; 0 by the template 'total and deterministic' (their statements: YtdjfbkllbeeabaaGreatTotals.lean).
  GIVEN WITH THE SEED: the statements are not yours to turn. If you find one false, say at which input.
  Laid BY PROGRAM, IN A SANDBOX (cutbox-rows.mjs): the forced cells as the released guide's own fill.sh prints them over the translation 7faa1a844e19cf39… (all of the seat's roots in one cut). By AI agents, Wed Nov 11 2026. No macro, syntax, notation, axiom, sorry.
-/
import Derived.Test.YtdjfbkllbeeabaaGreatChecked
import GoSem.Claim
import GoSem.ClaimJoined
import GoSem.ClaimMapViews
import Derived.JoinedTies
import Derived.KernelRfl
namespace Go.Proofs.YtdjfbkllbeeabaaGreat
/- THE CELL 'sum', in the pinned program and in every row, IS THE sha256 OF THE DUMP (.gsa) THAT YtdjfbkllbeeabaaGreatProg.lean LOADS. Nothing in Lean hashes anything: it is a label: what it is worth is what the hold of that sum in a sandbox is worth. -/
noncomputable def Tryz.pinned : Pinned := { name := "ytdjfbkllbeeabaagreat", sum := "7faa1a844e19cf39e82c07408061614ce0c5b11c47d3758bf14c4607678d1539", checked := Tryz.checked }
namespace Rows
def none {H : Type} : Left H := { results := [], args := [] }

/-- 'racelaw20.MergePlays': WHATEVER THE INPUT: true; the input reads as it did. -/
def mergePlaysSpec : ChangeSpec := { name := "mergePlays", fn := fun _ => fun
  | [d1, d2, d3] => { results := [.lit (.bool true)], args := [d1, d2, d3] }
  | _ => none }
def mergePlaysRow : OpenClaim := { program := "ytdjfbkllbeeabaagreat", sum := "7faa1a844e19cf39e82c07408061614ce0c5b11c47d3758bf14c4607678d1539", func := "headrace/racelaw20.MergePlays", spec := "mergePlays", inPlace := ["math.Float64bits", "math.Float64frombits", "slices.overlaps[headrace/api.Fragment]"], unfollowed := true, recurses := true, apart := false }
def MergePlaysSaid : Prop := mergePlaysRow.holds Tryz.pinned (OpenSpec.ofChange mergePlaysSpec)

/-- ITS FALSE NEIGHBOUR: 'it returns false'. Refute it at one input. -/
def mergePlaysWrong : ChangeSpec := { name := "mergePlays", fn := fun _ => fun
  | [d1, d2, d3] => { results := [.lit (.bool false)], args := [d1, d2, d3] }
  | _ => none }
def MergePlaysWrongFalsely : Prop := mergePlaysRow.holds Tryz.pinned (OpenSpec.ofChange mergePlaysWrong)

/-- 'racelaw20.MergeWhole': WHATEVER THE INPUT: true; the input reads as it did. -/
def mergeWholeSpec : ChangeSpec := { name := "mergeWhole", fn := fun _ => fun
  | [d1, d2] => { results := [.lit (.bool true)], args := [d1, d2] }
  | _ => none }
def mergeWholeRow : OpenClaim := { program := "ytdjfbkllbeeabaagreat", sum := "7faa1a844e19cf39e82c07408061614ce0c5b11c47d3758bf14c4607678d1539", func := "headrace/racelaw20.MergeWhole", spec := "mergeWhole", inPlace := ["math.Float64bits", "math.Float64frombits", "slices.overlaps[headrace/api.Fragment]"], unfollowed := true, recurses := true, apart := false }
def MergeWholeSaid : Prop := mergeWholeRow.holds Tryz.pinned (OpenSpec.ofChange mergeWholeSpec)

/-- ITS FALSE NEIGHBOUR: 'it returns false'. Refute it at one input. -/
def mergeWholeWrong : ChangeSpec := { name := "mergeWhole", fn := fun _ => fun
  | [d1, d2] => { results := [.lit (.bool false)], args := [d1, d2] }
  | _ => none }
def MergeWholeWrongFalsely : Prop := mergeWholeRow.holds Tryz.pinned (OpenSpec.ofChange mergeWholeWrong)

/- THE SECOND FORM. 'bulk': how many values and letters a reading holds, each counted each time it is reached (what is shared counts as often as it is met; a slice's spare places count too). A statement '..UptoSaid' is the law's where the arguments, and the package variables that the reading takes, are together of bulk at most 1048576: NARROWER than '..Said'. Prove '..Said' where nothing that the law and all that it calls make is longer than what came in: it says more and counts as full. Else prove '..UptoSaid'. A law counts once. -/
mutual
def uptoBulk {H : Type} : DataW H → Nat
  | .lit (.string bytes) => bytes.length + 1
  | .lit _ => 1
  | .nil => 1
  | .ptr d => uptoBulk d + 1
  | .slice elems spare => uptoBulkAll elems + uptoBulkAll spare + 1
  | .agg parts => uptoBulkAll parts + 1
  | .iface _ d => uptoBulk d + 1
  | .map entries => uptoBulkEntries entries + 1
  | .held _ => 1
def uptoBulkAll {H : Type} : List (DataW H) → Nat
  | [] => 0
  | d :: r => uptoBulk d + uptoBulkAll r
def uptoBulkEntries {H : Type} : List (Lit × DataW H) → Nat
  | [] => 0
  | x :: r => uptoBulkEntry x + uptoBulkEntries r
def uptoBulkEntry {H : Type} : Lit × DataW H → Nat
  | (.string bytes, d) => bytes.length + uptoBulk d + 1
  | (_, d) => uptoBulk d + 1
 end
def uptoSmall : (H : Type) → List (DataW H) → Bool := fun _ ds => decide (uptoBulkAll ds ≤ 1048576)
def OpenSpec.upto (s : _root_.Go.ChangeSpec) : _root_.Go.OpenSpec := { _root_.Go.OpenSpec.ofChange s with cond := some uptoSmall }

/-- 'racelaw20.MergePlays', WHERE WHAT IT READS IS OF BULK AT MOST 1048576: true; the input reads as it did. -/
def mergePlaysUptoRow : OpenClaim := { program := "ytdjfbkllbeeabaagreat", sum := "7faa1a844e19cf39e82c07408061614ce0c5b11c47d3758bf14c4607678d1539", func := "headrace/racelaw20.MergePlays", spec := "mergePlays", inPlace := ["math.Float64bits", "math.Float64frombits", "slices.overlaps[headrace/api.Fragment]"], unfollowed := true, recurses := true, apart := false, narrowed := true }
def MergePlaysUptoSaid : Prop := mergePlaysUptoRow.holds Tryz.pinned (OpenSpec.upto mergePlaysSpec)

/-- 'racelaw20.MergeWhole', WHERE WHAT IT READS IS OF BULK AT MOST 1048576: true; the input reads as it did. -/
def mergeWholeUptoRow : OpenClaim := { program := "ytdjfbkllbeeabaagreat", sum := "7faa1a844e19cf39e82c07408061614ce0c5b11c47d3758bf14c4607678d1539", func := "headrace/racelaw20.MergeWhole", spec := "mergeWhole", inPlace := ["math.Float64bits", "math.Float64frombits", "slices.overlaps[headrace/api.Fragment]"], unfollowed := true, recurses := true, apart := false, narrowed := true }
def MergeWholeUptoSaid : Prop := mergeWholeUptoRow.holds Tryz.pinned (OpenSpec.upto mergeWholeSpec)

end Rows
end Go.Proofs.YtdjfbkllbeeabaaGreat
