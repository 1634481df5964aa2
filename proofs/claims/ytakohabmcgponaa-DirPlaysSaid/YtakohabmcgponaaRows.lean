/-
  No cell of these rows narrows 'for every input' (looked for: loops, veiled, ifaces, maps, wideKeys, modest, calm, conditions, laid).
  DERIVED. THE GIVEN ROWS OF THIS SEAT. 4 by the template 'for every input the law returns true; each argument reads behind the call as it read before'; 0 by the template 'total and deterministic' (their statements: YtakohabmcgponaaTotals.lean).
  GIVEN WITH THE SEED: the statements are not yours to turn. If you find one false, say at which input.
  Laid BY PROGRAM, IN A SANDBOX (cutbox-rows.mjs): the forced cells as the released guide's own fill.sh prints them over the translation 20c3f9eb41782a31… (all of the seat's roots in one cut). By AI agents, Wed Nov 11 2026. No macro, syntax, notation, axiom, sorry.
-/
import Derived.Test.YtakohabmcgponaaChecked
import GoSem.Claim
import GoSem.ClaimJoined
import GoSem.ClaimMapViews
import Derived.JoinedTies
import Derived.KernelRfl
namespace Go.Proofs.Ytakohabmcgponaa
/- THE CELL 'sum', in the pinned program and in every row, IS THE sha256 OF THE DUMP (.gsa) THAT YtakohabmcgponaaProg.lean LOADS. Nothing in Lean hashes anything: it is a label: what it is worth is what the hold of that sum in a sandbox is worth. -/
noncomputable def Try.pinned : Pinned := { name := "ytakohabmcgponaa", sum := "20c3f9eb41782a319db40111ab7713e0fc0a87ecc99f4d06a7586b13a75cf917", checked := Try.checked }
namespace Rows
def none {H : Type} : Left H := { results := [], args := [] }

/-- 'racelaw14.DirSplits': WHATEVER THE INPUT: true; the input reads as it did. -/
def dirSplitsSpec : ChangeSpec := { name := "dirSplits", fn := fun _ => fun
  | [d1, d2, d3, d4, d5] => { results := [.lit (.bool true)], args := [d1, d2, d3, d4, d5] }
  | _ => none }
def dirSplitsRow : OpenClaim := { program := "ytakohabmcgponaa", sum := "20c3f9eb41782a319db40111ab7713e0fc0a87ecc99f4d06a7586b13a75cf917", func := "headrace/racelaw14.DirSplits", spec := "dirSplits", inPlace := ["math.Float64frombits", "math.Float64bits"], unfollowed := true, recurses := true, apart := false }
def DirSplitsSaid : Prop := dirSplitsRow.holds Try.pinned (OpenSpec.ofChange dirSplitsSpec)

/-- ITS FALSE NEIGHBOUR: 'it returns false'. Refute it at one input. -/
def dirSplitsWrong : ChangeSpec := { name := "dirSplits", fn := fun _ => fun
  | [d1, d2, d3, d4, d5] => { results := [.lit (.bool false)], args := [d1, d2, d3, d4, d5] }
  | _ => none }
def DirSplitsWrongFalsely : Prop := dirSplitsRow.holds Try.pinned (OpenSpec.ofChange dirSplitsWrong)

/-- 'racelaw14.DirAgain': WHATEVER THE INPUT: true; the input reads as it did. -/
def dirAgainSpec : ChangeSpec := { name := "dirAgain", fn := fun _ => fun
  | [d1, d2] => { results := [.lit (.bool true)], args := [d1, d2] }
  | _ => none }
def dirAgainRow : OpenClaim := { program := "ytakohabmcgponaa", sum := "20c3f9eb41782a319db40111ab7713e0fc0a87ecc99f4d06a7586b13a75cf917", func := "headrace/racelaw14.DirAgain", spec := "dirAgain", inPlace := ["math.Float64frombits", "math.Float64bits"], unfollowed := true, recurses := true, apart := false }
def DirAgainSaid : Prop := dirAgainRow.holds Try.pinned (OpenSpec.ofChange dirAgainSpec)

/-- ITS FALSE NEIGHBOUR: 'it returns false'. Refute it at one input. -/
def dirAgainWrong : ChangeSpec := { name := "dirAgain", fn := fun _ => fun
  | [d1, d2] => { results := [.lit (.bool false)], args := [d1, d2] }
  | _ => none }
def DirAgainWrongFalsely : Prop := dirAgainRow.holds Try.pinned (OpenSpec.ofChange dirAgainWrong)

/-- 'racelaw14.DirPlays': WHATEVER THE INPUT: true; the input reads as it did. -/
def dirPlaysSpec : ChangeSpec := { name := "dirPlays", fn := fun _ => fun
  | [d1, d2, d3] => { results := [.lit (.bool true)], args := [d1, d2, d3] }
  | _ => none }
def dirPlaysRow : OpenClaim := { program := "ytakohabmcgponaa", sum := "20c3f9eb41782a319db40111ab7713e0fc0a87ecc99f4d06a7586b13a75cf917", func := "headrace/racelaw14.DirPlays", spec := "dirPlays", inPlace := ["math.Float64frombits", "math.Float64bits"], unfollowed := true, recurses := true, apart := false }
def DirPlaysSaid : Prop := dirPlaysRow.holds Try.pinned (OpenSpec.ofChange dirPlaysSpec)

/-- ITS FALSE NEIGHBOUR: 'it returns false'. Refute it at one input. -/
def dirPlaysWrong : ChangeSpec := { name := "dirPlays", fn := fun _ => fun
  | [d1, d2, d3] => { results := [.lit (.bool false)], args := [d1, d2, d3] }
  | _ => none }
def DirPlaysWrongFalsely : Prop := dirPlaysRow.holds Try.pinned (OpenSpec.ofChange dirPlaysWrong)

/-- 'racelaw14.DirGroups': WHATEVER THE INPUT: true; the input reads as it did. -/
def dirGroupsSpec : ChangeSpec := { name := "dirGroups", fn := fun _ => fun
  | [d1, d2, d3] => { results := [.lit (.bool true)], args := [d1, d2, d3] }
  | _ => none }
def dirGroupsRow : OpenClaim := { program := "ytakohabmcgponaa", sum := "20c3f9eb41782a319db40111ab7713e0fc0a87ecc99f4d06a7586b13a75cf917", func := "headrace/racelaw14.DirGroups", spec := "dirGroups", inPlace := ["math.Float64frombits", "math.Float64bits"], unfollowed := true, recurses := true, apart := false }
def DirGroupsSaid : Prop := dirGroupsRow.holds Try.pinned (OpenSpec.ofChange dirGroupsSpec)

/-- ITS FALSE NEIGHBOUR: 'it returns false'. Refute it at one input. -/
def dirGroupsWrong : ChangeSpec := { name := "dirGroups", fn := fun _ => fun
  | [d1, d2, d3] => { results := [.lit (.bool false)], args := [d1, d2, d3] }
  | _ => none }
def DirGroupsWrongFalsely : Prop := dirGroupsRow.holds Try.pinned (OpenSpec.ofChange dirGroupsWrong)

/- THE SECOND FORM. 'bulk': how many values and letters a reading holds, each counted each time it is reached (what is shared counts as often as it is met; a slice's spare places count too). A statement '..UptoSaid' is the law's where the arguments, and the package variables that the reading takes, are together of bulk at most 1048576: NARROWER than '..Said'. Prove '..Said' where nothing that the law and all that it calls make is longer than what came in: it says more and counts as full. Else prove '..UptoSaid'. A law counts once. -/
mutual
def uptoBulk {H : Type} : DataW H → Nat
  | .lit (.string bytes) => bytes.length + 1
  | .lit _ => 1
  | .nil => 1
  | .ptr d => uptoBulk d + 1
  | .slice elems spare => uptoBulkAll elems + uptoBulkAll spare + 1
  | .agg parts => uptoBulkAll parts + 1
  | .iface _ d => uptoBulk d + 1
  | .map entries => uptoBulkEntries entries + 1
  | .held _ => 1
def uptoBulkAll {H : Type} : List (DataW H) → Nat
  | [] => 0
  | d :: r => uptoBulk d + uptoBulkAll r
def uptoBulkEntries {H : Type} : List (Lit × DataW H) → Nat
  | [] => 0
  | x :: r => uptoBulkEntry x + uptoBulkEntries r
def uptoBulkEntry {H : Type} : Lit × DataW H → Nat
  | (.string bytes, d) => bytes.length + uptoBulk d + 1
  | (_, d) => uptoBulk d + 1
 end
def uptoSmall : (H : Type) → List (DataW H) → Bool := fun _ ds => decide (uptoBulkAll ds ≤ 1048576)
def OpenSpec.upto (s : _root_.Go.ChangeSpec) : _root_.Go.OpenSpec := { _root_.Go.OpenSpec.ofChange s with cond := some uptoSmall }

/-- 'racelaw14.DirSplits', WHERE WHAT IT READS IS OF BULK AT MOST 1048576: true; the input reads as it did. -/
def dirSplitsUptoRow : OpenClaim := { program := "ytakohabmcgponaa", sum := "20c3f9eb41782a319db40111ab7713e0fc0a87ecc99f4d06a7586b13a75cf917", func := "headrace/racelaw14.DirSplits", spec := "dirSplits", inPlace := ["math.Float64frombits", "math.Float64bits"], unfollowed := true, recurses := true, apart := false, narrowed := true }
def DirSplitsUptoSaid : Prop := dirSplitsUptoRow.holds Try.pinned (OpenSpec.upto dirSplitsSpec)

/-- 'racelaw14.DirAgain', WHERE WHAT IT READS IS OF BULK AT MOST 1048576: true; the input reads as it did. -/
def dirAgainUptoRow : OpenClaim := { program := "ytakohabmcgponaa", sum := "20c3f9eb41782a319db40111ab7713e0fc0a87ecc99f4d06a7586b13a75cf917", func := "headrace/racelaw14.DirAgain", spec := "dirAgain", inPlace := ["math.Float64frombits", "math.Float64bits"], unfollowed := true, recurses := true, apart := false, narrowed := true }
def DirAgainUptoSaid : Prop := dirAgainUptoRow.holds Try.pinned (OpenSpec.upto dirAgainSpec)

/-- 'racelaw14.DirPlays', WHERE WHAT IT READS IS OF BULK AT MOST 1048576: true; the input reads as it did. -/
def dirPlaysUptoRow : OpenClaim := { program := "ytakohabmcgponaa", sum := "20c3f9eb41782a319db40111ab7713e0fc0a87ecc99f4d06a7586b13a75cf917", func := "headrace/racelaw14.DirPlays", spec := "dirPlays", inPlace := ["math.Float64frombits", "math.Float64bits"], unfollowed := true, recurses := true, apart := false, narrowed := true }
def DirPlaysUptoSaid : Prop := dirPlaysUptoRow.holds Try.pinned (OpenSpec.upto dirPlaysSpec)

/-- 'racelaw14.DirGroups', WHERE WHAT IT READS IS OF BULK AT MOST 1048576: true; the input reads as it did. -/
def dirGroupsUptoRow : OpenClaim := { program := "ytakohabmcgponaa", sum := "20c3f9eb41782a319db40111ab7713e0fc0a87ecc99f4d06a7586b13a75cf917", func := "headrace/racelaw14.DirGroups", spec := "dirGroups", inPlace := ["math.Float64frombits", "math.Float64bits"], unfollowed := true, recurses := true, apart := false, narrowed := true }
def DirGroupsUptoSaid : Prop := dirGroupsUptoRow.holds Try.pinned (OpenSpec.upto dirGroupsSpec)

end Rows
end Go.Proofs.Ytakohabmcgponaa
