/-
  No cell of these rows narrows 'for every input' (looked for: loops, veiled, ifaces, maps, wideKeys, modest, calm, conditions, laid).
  DERIVED. THE GIVEN ROWS OF THIS SEAT. 5 by the template 'for every input the law returns true; each argument reads behind the call as it read before'; 0 by the template 'total and deterministic' (their statements: YtpnfpndhdnmhkaaGreatTotals.lean).
  GIVEN WITH THE SEED: the statements are not yours to turn. If you find one false, say at which input.
  Laid BY PROGRAM, IN A SANDBOX (cutbox-rows.mjs): the forced cells as the released guide's own fill.sh prints them over the translation a032cce943206810… (all of the seat's roots in one cut). By AI agents, Wed Nov 11 2026. No macro, syntax, notation, axiom, sorry.
-/
import Derived.Test.YtpnfpndhdnmhkaaGreatChecked
import GoSem.Claim
import GoSem.ClaimJoined
import GoSem.ClaimMapViews
import Derived.JoinedTies
import Derived.KernelRfl
namespace Go.Proofs.YtpnfpndhdnmhkaaGreat
/- THE CELL 'sum', in the pinned program and in every row, IS THE sha256 OF THE DUMP (.gsa) THAT YtpnfpndhdnmhkaaGreatProg.lean LOADS. Nothing in Lean hashes anything: it is a label: what it is worth is what the hold of that sum in a sandbox is worth. -/
noncomputable def Tryz.pinned : Pinned := { name := "ytpnfpndhdnmhkaagreat", sum := "a032cce9432068106b23f025f89cccd61b3f4d17878632d7f2f7ad777e640ad2", checked := Tryz.checked }
namespace Rows
def none {H : Type} : Left H := { results := [], args := [] }

/-- 'racelaw10.MvccEnds': WHATEVER THE INPUT: true; the input reads as it did. -/
def mvccEndsSpec : ChangeSpec := { name := "mvccEnds", fn := fun _ => fun
  | [d1, d2, d3, d4, d5, d6, d7] => { results := [.lit (.bool true)], args := [d1, d2, d3, d4, d5, d6, d7] }
  | _ => none }
def mvccEndsRow : OpenClaim := { program := "ytpnfpndhdnmhkaagreat", sum := "a032cce9432068106b23f025f89cccd61b3f4d17878632d7f2f7ad777e640ad2", func := "headrace/racelaw10.MvccEnds", spec := "mvccEnds", inPlace := ["math.Float64bits", "math.Float64frombits", "slices.overlaps[headrace/api.Version]"], unfollowed := true, recurses := true, plainKeys := false, apart := false }
def MvccEndsSaid : Prop := mvccEndsRow.holds Tryz.pinned (OpenSpec.ofChange mvccEndsSpec)

/-- ITS FALSE NEIGHBOUR: 'it returns false'. Refute it at one input. -/
def mvccEndsWrong : ChangeSpec := { name := "mvccEnds", fn := fun _ => fun
  | [d1, d2, d3, d4, d5, d6, d7] => { results := [.lit (.bool false)], args := [d1, d2, d3, d4, d5, d6, d7] }
  | _ => none }
def MvccEndsWrongFalsely : Prop := mvccEndsRow.holds Tryz.pinned (OpenSpec.ofChange mvccEndsWrong)

/-- 'racelaw10.MvccWhole': WHATEVER THE INPUT: true; the input reads as it did. -/
def mvccWholeSpec : ChangeSpec := { name := "mvccWhole", fn := fun _ => fun
  | [d1, d2, d3, d4] => { results := [.lit (.bool true)], args := [d1, d2, d3, d4] }
  | _ => none }
def mvccWholeRow : OpenClaim := { program := "ytpnfpndhdnmhkaagreat", sum := "a032cce9432068106b23f025f89cccd61b3f4d17878632d7f2f7ad777e640ad2", func := "headrace/racelaw10.MvccWhole", spec := "mvccWhole", inPlace := ["math.Float64bits", "math.Float64frombits", "slices.overlaps[headrace/api.Version]"], unfollowed := true, recurses := true, plainKeys := false, apart := false }
def MvccWholeSaid : Prop := mvccWholeRow.holds Tryz.pinned (OpenSpec.ofChange mvccWholeSpec)

/-- ITS FALSE NEIGHBOUR: 'it returns false'. Refute it at one input. -/
def mvccWholeWrong : ChangeSpec := { name := "mvccWhole", fn := fun _ => fun
  | [d1, d2, d3, d4] => { results := [.lit (.bool false)], args := [d1, d2, d3, d4] }
  | _ => none }
def MvccWholeWrongFalsely : Prop := mvccWholeRow.holds Tryz.pinned (OpenSpec.ofChange mvccWholeWrong)

/-- 'racelaw10.MvccPlays': WHATEVER THE INPUT: true; the input reads as it did. -/
def mvccPlaysSpec : ChangeSpec := { name := "mvccPlays", fn := fun _ => fun
  | [d] => { results := [.lit (.bool true)], args := [d] }
  | _ => none }
def mvccPlaysRow : OpenClaim := { program := "ytpnfpndhdnmhkaagreat", sum := "a032cce9432068106b23f025f89cccd61b3f4d17878632d7f2f7ad777e640ad2", func := "headrace/racelaw10.MvccPlays", spec := "mvccPlays", inPlace := ["math.Float64bits", "math.Float64frombits", "slices.overlaps[headrace/api.Version]"], unfollowed := true, recurses := true, plainKeys := false, apart := false }
def MvccPlaysSaid : Prop := mvccPlaysRow.holds Tryz.pinned (OpenSpec.ofChange mvccPlaysSpec)

/-- ITS FALSE NEIGHBOUR: 'it returns false'. Refute it at one input. -/
def mvccPlaysWrong : ChangeSpec := { name := "mvccPlays", fn := fun _ => fun
  | [d] => { results := [.lit (.bool false)], args := [d] }
  | _ => none }
def MvccPlaysWrongFalsely : Prop := mvccPlaysRow.holds Tryz.pinned (OpenSpec.ofChange mvccPlaysWrong)

/-- 'racelaw10.MvccAnew': WHATEVER THE INPUT: true; the input reads as it did. -/
def mvccAnewSpec : ChangeSpec := { name := "mvccAnew", fn := fun _ => fun
  | [d1, d2] => { results := [.lit (.bool true)], args := [d1, d2] }
  | _ => none }
def mvccAnewRow : OpenClaim := { program := "ytpnfpndhdnmhkaagreat", sum := "a032cce9432068106b23f025f89cccd61b3f4d17878632d7f2f7ad777e640ad2", func := "headrace/racelaw10.MvccAnew", spec := "mvccAnew", inPlace := ["math.Float64bits", "math.Float64frombits", "slices.overlaps[headrace/api.Version]"], unfollowed := true, recurses := true, plainKeys := false, apart := false }
def MvccAnewSaid : Prop := mvccAnewRow.holds Tryz.pinned (OpenSpec.ofChange mvccAnewSpec)

/-- ITS FALSE NEIGHBOUR: 'it returns false'. Refute it at one input. -/
def mvccAnewWrong : ChangeSpec := { name := "mvccAnew", fn := fun _ => fun
  | [d1, d2] => { results := [.lit (.bool false)], args := [d1, d2] }
  | _ => none }
def MvccAnewWrongFalsely : Prop := mvccAnewRow.holds Tryz.pinned (OpenSpec.ofChange mvccAnewWrong)

/-- 'racelaw10.MvccLoads': WHATEVER THE INPUT: true; the input reads as it did. -/
def mvccLoadsSpec : ChangeSpec := { name := "mvccLoads", fn := fun _ => fun
  | [d1, d2, d3] => { results := [.lit (.bool true)], args := [d1, d2, d3] }
  | _ => none }
def mvccLoadsRow : OpenClaim := { program := "ytpnfpndhdnmhkaagreat", sum := "a032cce9432068106b23f025f89cccd61b3f4d17878632d7f2f7ad777e640ad2", func := "headrace/racelaw10.MvccLoads", spec := "mvccLoads", inPlace := ["math.Float64bits", "math.Float64frombits", "slices.overlaps[headrace/api.Version]"], unfollowed := true, recurses := true, plainKeys := false, apart := false }
def MvccLoadsSaid : Prop := mvccLoadsRow.holds Tryz.pinned (OpenSpec.ofChange mvccLoadsSpec)

/-- ITS FALSE NEIGHBOUR: 'it returns false'. Refute it at one input. -/
def mvccLoadsWrong : ChangeSpec := { name := "mvccLoads", fn := fun _ => fun
  | [d1, d2, d3] => { results := [.lit (.bool false)], args := [d1, d2, d3] }
  | _ => none }
def MvccLoadsWrongFalsely : Prop := mvccLoadsRow.holds Tryz.pinned (OpenSpec.ofChange mvccLoadsWrong)

/- THE SECOND FORM. 'bulk': how many values and letters a reading holds, each counted each time it is reached (what is shared counts as often as it is met; a slice's spare places count too). A statement '..UptoSaid' is the law's where the arguments, and the package variables that the reading takes, are together of bulk at most 1048576: NARROWER than '..Said'. Prove '..Said' where nothing that the law and all that it calls make is longer than what came in: it says more and counts as full. Else prove '..UptoSaid'. A law counts once. -/
mutual
def uptoBulk {H : Type} : DataW H → Nat
  | .lit (.string bytes) => bytes.length + 1
  | .lit _ => 1
  | .nil => 1
  | .ptr d => uptoBulk d + 1
  | .slice elems spare => uptoBulkAll elems + uptoBulkAll spare + 1
  | .agg parts => uptoBulkAll parts + 1
  | .iface _ d => uptoBulk d + 1
  | .map entries => uptoBulkEntries entries + 1
  | .held _ => 1
def uptoBulkAll {H : Type} : List (DataW H) → Nat
  | [] => 0
  | d :: r => uptoBulk d + uptoBulkAll r
def uptoBulkEntries {H : Type} : List (Lit × DataW H) → Nat
  | [] => 0
  | x :: r => uptoBulkEntry x + uptoBulkEntries r
def uptoBulkEntry {H : Type} : Lit × DataW H → Nat
  | (.string bytes, d) => bytes.length + uptoBulk d + 1
  | (_, d) => uptoBulk d + 1
 end
def uptoSmall : (H : Type) → List (DataW H) → Bool := fun _ ds => decide (uptoBulkAll ds ≤ 1048576)
def OpenSpec.upto (s : _root_.Go.ChangeSpec) : _root_.Go.OpenSpec := { _root_.Go.OpenSpec.ofChange s with cond := some uptoSmall }

/-- 'racelaw10.MvccEnds', WHERE WHAT IT READS IS OF BULK AT MOST 1048576: true; the input reads as it did. -/
def mvccEndsUptoRow : OpenClaim := { program := "ytpnfpndhdnmhkaagreat", sum := "a032cce9432068106b23f025f89cccd61b3f4d17878632d7f2f7ad777e640ad2", func := "headrace/racelaw10.MvccEnds", spec := "mvccEnds", inPlace := ["math.Float64bits", "math.Float64frombits", "slices.overlaps[headrace/api.Version]"], unfollowed := true, recurses := true, plainKeys := false, apart := false, narrowed := true }
def MvccEndsUptoSaid : Prop := mvccEndsUptoRow.holds Tryz.pinned (OpenSpec.upto mvccEndsSpec)

/-- 'racelaw10.MvccWhole', WHERE WHAT IT READS IS OF BULK AT MOST 1048576: true; the input reads as it did. -/
def mvccWholeUptoRow : OpenClaim := { program := "ytpnfpndhdnmhkaagreat", sum := "a032cce9432068106b23f025f89cccd61b3f4d17878632d7f2f7ad777e640ad2", func := "headrace/racelaw10.MvccWhole", spec := "mvccWhole", inPlace := ["math.Float64bits", "math.Float64frombits", "slices.overlaps[headrace/api.Version]"], unfollowed := true, recurses := true, plainKeys := false, apart := false, narrowed := true }
def MvccWholeUptoSaid : Prop := mvccWholeUptoRow.holds Tryz.pinned (OpenSpec.upto mvccWholeSpec)

/-- 'racelaw10.MvccPlays', WHERE WHAT IT READS IS OF BULK AT MOST 1048576: true; the input reads as it did. -/
def mvccPlaysUptoRow : OpenClaim := { program := "ytpnfpndhdnmhkaagreat", sum := "a032cce9432068106b23f025f89cccd61b3f4d17878632d7f2f7ad777e640ad2", func := "headrace/racelaw10.MvccPlays", spec := "mvccPlays", inPlace := ["math.Float64bits", "math.Float64frombits", "slices.overlaps[headrace/api.Version]"], unfollowed := true, recurses := true, plainKeys := false, apart := false, narrowed := true }
def MvccPlaysUptoSaid : Prop := mvccPlaysUptoRow.holds Tryz.pinned (OpenSpec.upto mvccPlaysSpec)

/-- 'racelaw10.MvccAnew', WHERE WHAT IT READS IS OF BULK AT MOST 1048576: true; the input reads as it did. -/
def mvccAnewUptoRow : OpenClaim := { program := "ytpnfpndhdnmhkaagreat", sum := "a032cce9432068106b23f025f89cccd61b3f4d17878632d7f2f7ad777e640ad2", func := "headrace/racelaw10.MvccAnew", spec := "mvccAnew", inPlace := ["math.Float64bits", "math.Float64frombits", "slices.overlaps[headrace/api.Version]"], unfollowed := true, recurses := true, plainKeys := false, apart := false, narrowed := true }
def MvccAnewUptoSaid : Prop := mvccAnewUptoRow.holds Tryz.pinned (OpenSpec.upto mvccAnewSpec)

/-- 'racelaw10.MvccLoads', WHERE WHAT IT READS IS OF BULK AT MOST 1048576: true; the input reads as it did. -/
def mvccLoadsUptoRow : OpenClaim := { program := "ytpnfpndhdnmhkaagreat", sum := "a032cce9432068106b23f025f89cccd61b3f4d17878632d7f2f7ad777e640ad2", func := "headrace/racelaw10.MvccLoads", spec := "mvccLoads", inPlace := ["math.Float64bits", "math.Float64frombits", "slices.overlaps[headrace/api.Version]"], unfollowed := true, recurses := true, plainKeys := false, apart := false, narrowed := true }
def MvccLoadsUptoSaid : Prop := mvccLoadsUptoRow.holds Tryz.pinned (OpenSpec.upto mvccLoadsSpec)

end Rows
end Go.Proofs.YtpnfpndhdnmhkaaGreat
