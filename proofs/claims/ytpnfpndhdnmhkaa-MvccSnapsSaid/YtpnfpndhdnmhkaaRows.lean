/-
  No cell of these rows narrows 'for every input' (looked for: loops, veiled, ifaces, maps, wideKeys, modest, calm, conditions, laid).
  DERIVED. THE GIVEN ROWS OF THIS SEAT. 4 by the template 'for every input the law returns true; each argument reads behind the call as it read before'; 0 by the template 'total and deterministic' (their statements: YtpnfpndhdnmhkaaTotals.lean).
  GIVEN WITH THE SEED: the statements are not yours to turn. If you find one false, say at which input.
  Laid BY PROGRAM, IN A SANDBOX (cutbox-rows.mjs): the forced cells as the released guide's own fill.sh prints them over the translation 30b74b51a0442118… (all of the seat's roots in one cut). By AI agents, Wed Nov 11 2026. No macro, syntax, notation, axiom, sorry.
-/
import Derived.Test.YtpnfpndhdnmhkaaChecked
import GoSem.Claim
import GoSem.ClaimJoined
import GoSem.ClaimMapViews
import Derived.JoinedTies
import Derived.KernelRfl
namespace Go.Proofs.Ytpnfpndhdnmhkaa
/- THE CELL 'sum', in the pinned program and in every row, IS THE sha256 OF THE DUMP (.gsa) THAT YtpnfpndhdnmhkaaProg.lean LOADS. Nothing in Lean hashes anything: it is a label: what it is worth is what the hold of that sum in a sandbox is worth. -/
noncomputable def Try.pinned : Pinned := { name := "ytpnfpndhdnmhkaa", sum := "30b74b51a044211867cf0e6340a6c4e693befb36c185072e63cfd80804ceeb46", checked := Try.checked }
namespace Rows
def none {H : Type} : Left H := { results := [], args := [] }

/-- 'racelaw10.MvccKinds': WHATEVER THE INPUT: true; the input reads as it did. -/
def mvccKindsSpec : ChangeSpec := { name := "mvccKinds", fn := fun _ => fun
  | [d1, d2, d3] => { results := [.lit (.bool true)], args := [d1, d2, d3] }
  | _ => none }
def mvccKindsRow : OpenClaim := { program := "ytpnfpndhdnmhkaa", sum := "30b74b51a044211867cf0e6340a6c4e693befb36c185072e63cfd80804ceeb46", func := "headrace/racelaw10.MvccKinds", spec := "mvccKinds", inPlace := ["math.Float64bits", "math.Float64frombits", "slices.overlaps[headrace/api.Version]"], unfollowed := true, recurses := true, plainKeys := false, apart := false }
def MvccKindsSaid : Prop := mvccKindsRow.holds Try.pinned (OpenSpec.ofChange mvccKindsSpec)

/-- ITS FALSE NEIGHBOUR: 'it returns false'. Refute it at one input. -/
def mvccKindsWrong : ChangeSpec := { name := "mvccKinds", fn := fun _ => fun
  | [d1, d2, d3] => { results := [.lit (.bool false)], args := [d1, d2, d3] }
  | _ => none }
def MvccKindsWrongFalsely : Prop := mvccKindsRow.holds Try.pinned (OpenSpec.ofChange mvccKindsWrong)

/-- 'racelaw10.MvccLocks': WHATEVER THE INPUT: true; the input reads as it did. -/
def mvccLocksSpec : ChangeSpec := { name := "mvccLocks", fn := fun _ => fun
  | [d] => { results := [.lit (.bool true)], args := [d] }
  | _ => none }
def mvccLocksRow : OpenClaim := { program := "ytpnfpndhdnmhkaa", sum := "30b74b51a044211867cf0e6340a6c4e693befb36c185072e63cfd80804ceeb46", func := "headrace/racelaw10.MvccLocks", spec := "mvccLocks", inPlace := ["math.Float64bits", "math.Float64frombits", "slices.overlaps[headrace/api.Version]"], unfollowed := true, recurses := true, plainKeys := false, apart := false }
def MvccLocksSaid : Prop := mvccLocksRow.holds Try.pinned (OpenSpec.ofChange mvccLocksSpec)

/-- ITS FALSE NEIGHBOUR: 'it returns false'. Refute it at one input. -/
def mvccLocksWrong : ChangeSpec := { name := "mvccLocks", fn := fun _ => fun
  | [d] => { results := [.lit (.bool false)], args := [d] }
  | _ => none }
def MvccLocksWrongFalsely : Prop := mvccLocksRow.holds Try.pinned (OpenSpec.ofChange mvccLocksWrong)

/-- 'racelaw10.MvccStays': WHATEVER THE INPUT: true; the input reads as it did. -/
def mvccStaysSpec : ChangeSpec := { name := "mvccStays", fn := fun _ => fun
  | [d1, d2, d3, d4] => { results := [.lit (.bool true)], args := [d1, d2, d3, d4] }
  | _ => none }
def mvccStaysRow : OpenClaim := { program := "ytpnfpndhdnmhkaa", sum := "30b74b51a044211867cf0e6340a6c4e693befb36c185072e63cfd80804ceeb46", func := "headrace/racelaw10.MvccStays", spec := "mvccStays", inPlace := ["math.Float64bits", "math.Float64frombits", "slices.overlaps[headrace/api.Version]"], unfollowed := true, recurses := true, plainKeys := false, apart := false }
def MvccStaysSaid : Prop := mvccStaysRow.holds Try.pinned (OpenSpec.ofChange mvccStaysSpec)

/-- ITS FALSE NEIGHBOUR: 'it returns false'. Refute it at one input. -/
def mvccStaysWrong : ChangeSpec := { name := "mvccStays", fn := fun _ => fun
  | [d1, d2, d3, d4] => { results := [.lit (.bool false)], args := [d1, d2, d3, d4] }
  | _ => none }
def MvccStaysWrongFalsely : Prop := mvccStaysRow.holds Try.pinned (OpenSpec.ofChange mvccStaysWrong)

/-- 'racelaw10.MvccSnaps': WHATEVER THE INPUT: true; the input reads as it did. -/
def mvccSnapsSpec : ChangeSpec := { name := "mvccSnaps", fn := fun _ => fun
  | [d1, d2] => { results := [.lit (.bool true)], args := [d1, d2] }
  | _ => none }
def mvccSnapsRow : OpenClaim := { program := "ytpnfpndhdnmhkaa", sum := "30b74b51a044211867cf0e6340a6c4e693befb36c185072e63cfd80804ceeb46", func := "headrace/racelaw10.MvccSnaps", spec := "mvccSnaps", inPlace := ["math.Float64bits", "math.Float64frombits", "slices.overlaps[headrace/api.Version]"], unfollowed := true, recurses := true, plainKeys := false, apart := false }
def MvccSnapsSaid : Prop := mvccSnapsRow.holds Try.pinned (OpenSpec.ofChange mvccSnapsSpec)

/-- ITS FALSE NEIGHBOUR: 'it returns false'. Refute it at one input. -/
def mvccSnapsWrong : ChangeSpec := { name := "mvccSnaps", fn := fun _ => fun
  | [d1, d2] => { results := [.lit (.bool false)], args := [d1, d2] }
  | _ => none }
def MvccSnapsWrongFalsely : Prop := mvccSnapsRow.holds Try.pinned (OpenSpec.ofChange mvccSnapsWrong)

/- THE SECOND FORM. 'bulk': how many values and letters a reading holds, each counted each time it is reached (what is shared counts as often as it is met; a slice's spare places count too). A statement '..UptoSaid' is the law's where the arguments, and the package variables that the reading takes, are together of bulk at most 1048576: NARROWER than '..Said'. Prove '..Said' where nothing that the law and all that it calls make is longer than what came in: it says more and counts as full. Else prove '..UptoSaid'. A law counts once. -/
mutual
def uptoBulk {H : Type} : DataW H → Nat
  | .lit (.string bytes) => bytes.length + 1
  | .lit _ => 1
  | .nil => 1
  | .ptr d => uptoBulk d + 1
  | .slice elems spare => uptoBulkAll elems + uptoBulkAll spare + 1
  | .agg parts => uptoBulkAll parts + 1
  | .iface _ d => uptoBulk d + 1
  | .map entries => uptoBulkEntries entries + 1
  | .held _ => 1
def uptoBulkAll {H : Type} : List (DataW H) → Nat
  | [] => 0
  | d :: r => uptoBulk d + uptoBulkAll r
def uptoBulkEntries {H : Type} : List (Lit × DataW H) → Nat
  | [] => 0
  | x :: r => uptoBulkEntry x + uptoBulkEntries r
def uptoBulkEntry {H : Type} : Lit × DataW H → Nat
  | (.string bytes, d) => bytes.length + uptoBulk d + 1
  | (_, d) => uptoBulk d + 1
 end
def uptoSmall : (H : Type) → List (DataW H) → Bool := fun _ ds => decide (uptoBulkAll ds ≤ 1048576)
def OpenSpec.upto (s : _root_.Go.ChangeSpec) : _root_.Go.OpenSpec := { _root_.Go.OpenSpec.ofChange s with cond := some uptoSmall }

/-- 'racelaw10.MvccKinds', WHERE WHAT IT READS IS OF BULK AT MOST 1048576: true; the input reads as it did. -/
def mvccKindsUptoRow : OpenClaim := { program := "ytpnfpndhdnmhkaa", sum := "30b74b51a044211867cf0e6340a6c4e693befb36c185072e63cfd80804ceeb46", func := "headrace/racelaw10.MvccKinds", spec := "mvccKinds", inPlace := ["math.Float64bits", "math.Float64frombits", "slices.overlaps[headrace/api.Version]"], unfollowed := true, recurses := true, plainKeys := false, apart := false, narrowed := true }
def MvccKindsUptoSaid : Prop := mvccKindsUptoRow.holds Try.pinned (OpenSpec.upto mvccKindsSpec)

/-- 'racelaw10.MvccLocks', WHERE WHAT IT READS IS OF BULK AT MOST 1048576: true; the input reads as it did. -/
def mvccLocksUptoRow : OpenClaim := { program := "ytpnfpndhdnmhkaa", sum := "30b74b51a044211867cf0e6340a6c4e693befb36c185072e63cfd80804ceeb46", func := "headrace/racelaw10.MvccLocks", spec := "mvccLocks", inPlace := ["math.Float64bits", "math.Float64frombits", "slices.overlaps[headrace/api.Version]"], unfollowed := true, recurses := true, plainKeys := false, apart := false, narrowed := true }
def MvccLocksUptoSaid : Prop := mvccLocksUptoRow.holds Try.pinned (OpenSpec.upto mvccLocksSpec)

/-- 'racelaw10.MvccStays', WHERE WHAT IT READS IS OF BULK AT MOST 1048576: true; the input reads as it did. -/
def mvccStaysUptoRow : OpenClaim := { program := "ytpnfpndhdnmhkaa", sum := "30b74b51a044211867cf0e6340a6c4e693befb36c185072e63cfd80804ceeb46", func := "headrace/racelaw10.MvccStays", spec := "mvccStays", inPlace := ["math.Float64bits", "math.Float64frombits", "slices.overlaps[headrace/api.Version]"], unfollowed := true, recurses := true, plainKeys := false, apart := false, narrowed := true }
def MvccStaysUptoSaid : Prop := mvccStaysUptoRow.holds Try.pinned (OpenSpec.upto mvccStaysSpec)

/-- 'racelaw10.MvccSnaps', WHERE WHAT IT READS IS OF BULK AT MOST 1048576: true; the input reads as it did. -/
def mvccSnapsUptoRow : OpenClaim := { program := "ytpnfpndhdnmhkaa", sum := "30b74b51a044211867cf0e6340a6c4e693befb36c185072e63cfd80804ceeb46", func := "headrace/racelaw10.MvccSnaps", spec := "mvccSnaps", inPlace := ["math.Float64bits", "math.Float64frombits", "slices.overlaps[headrace/api.Version]"], unfollowed := true, recurses := true, plainKeys := false, apart := false, narrowed := true }
def MvccSnapsUptoSaid : Prop := mvccSnapsUptoRow.holds Try.pinned (OpenSpec.upto mvccSnapsSpec)

end Rows
end Go.Proofs.Ytpnfpndhdnmhkaa
