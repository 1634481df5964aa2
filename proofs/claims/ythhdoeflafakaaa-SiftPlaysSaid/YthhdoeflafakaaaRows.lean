/-
  No cell of these rows narrows 'for every input' (looked for: loops, veiled, ifaces, maps, wideKeys, modest, calm, conditions, laid).
  DERIVED. THE GIVEN ROWS OF THIS SEAT. 4 by the template 'for every input the law returns true; each argument reads behind the call as it read before'; 0 by the template 'total and deterministic' (their statements: YthhdoeflafakaaaTotals.lean).
  GIVEN WITH THE SEED: the statements are not yours to turn. If you find one false, say at which input.
  Laid BY PROGRAM, IN A SANDBOX (cutbox-rows.mjs): the forced cells as the released guide's own fill.sh prints them over the translation 52d0feebf5984bdd… (all of the seat's roots in one cut). By AI agents, Wed Nov 11 2026. No macro, syntax, notation, axiom, sorry.
-/
import Derived.Test.YthhdoeflafakaaaChecked
import GoSem.Claim
import GoSem.ClaimJoined
import GoSem.ClaimMapViews
import Derived.JoinedTies
import Derived.KernelRfl
namespace Go.Proofs.Ythhdoeflafakaaa
/- THE CELL 'sum', in the pinned program and in every row, IS THE sha256 OF THE DUMP (.gsa) THAT YthhdoeflafakaaaProg.lean LOADS. Nothing in Lean hashes anything: it is a label: what it is worth is what the hold of that sum in a sandbox is worth. -/
noncomputable def Try.pinned : Pinned := { name := "ythhdoeflafakaaa", sum := "52d0feebf5984bddc1d72cb5f0dbc494ea3d5a8d0a1a55a334fdfc024c8409ba", checked := Try.checked }
namespace Rows
def none {H : Type} : Left H := { results := [], args := [] }

/-- 'racelaw19.SiftWhole': WHATEVER THE INPUT: true; the input reads as it did. -/
def siftWholeSpec : ChangeSpec := { name := "siftWhole", fn := fun _ => fun
  | [d] => { results := [.lit (.bool true)], args := [d] }
  | _ => none }
def siftWholeRow : OpenClaim := { program := "ythhdoeflafakaaa", sum := "52d0feebf5984bddc1d72cb5f0dbc494ea3d5a8d0a1a55a334fdfc024c8409ba", func := "headrace/racelaw19.SiftWhole", spec := "siftWhole", inPlace := ["math.Float64bits", "math.Float64frombits", "slices.overlaps[headrace/api.Fragment]"], unfollowed := true, recurses := true, apart := false }
def SiftWholeSaid : Prop := siftWholeRow.holds Try.pinned (OpenSpec.ofChange siftWholeSpec)

/-- ITS FALSE NEIGHBOUR: 'it returns false'. Refute it at one input. -/
def siftWholeWrong : ChangeSpec := { name := "siftWhole", fn := fun _ => fun
  | [d] => { results := [.lit (.bool false)], args := [d] }
  | _ => none }
def SiftWholeWrongFalsely : Prop := siftWholeRow.holds Try.pinned (OpenSpec.ofChange siftWholeWrong)

/-- 'racelaw19.SiftHas': WHATEVER THE INPUT: true; the input reads as it did. -/
def siftHasSpec : ChangeSpec := { name := "siftHas", fn := fun _ => fun
  | [d] => { results := [.lit (.bool true)], args := [d] }
  | _ => none }
def siftHasRow : OpenClaim := { program := "ythhdoeflafakaaa", sum := "52d0feebf5984bddc1d72cb5f0dbc494ea3d5a8d0a1a55a334fdfc024c8409ba", func := "headrace/racelaw19.SiftHas", spec := "siftHas", inPlace := ["math.Float64bits", "math.Float64frombits", "slices.overlaps[headrace/api.Fragment]"], unfollowed := true, recurses := true, apart := false }
def SiftHasSaid : Prop := siftHasRow.holds Try.pinned (OpenSpec.ofChange siftHasSpec)

/-- ITS FALSE NEIGHBOUR: 'it returns false'. Refute it at one input. -/
def siftHasWrong : ChangeSpec := { name := "siftHas", fn := fun _ => fun
  | [d] => { results := [.lit (.bool false)], args := [d] }
  | _ => none }
def SiftHasWrongFalsely : Prop := siftHasRow.holds Try.pinned (OpenSpec.ofChange siftHasWrong)

/-- 'racelaw19.SiftPlays': WHATEVER THE INPUT: true; the input reads as it did. -/
def siftPlaysSpec : ChangeSpec := { name := "siftPlays", fn := fun _ => fun
  | [d] => { results := [.lit (.bool true)], args := [d] }
  | _ => none }
def siftPlaysRow : OpenClaim := { program := "ythhdoeflafakaaa", sum := "52d0feebf5984bddc1d72cb5f0dbc494ea3d5a8d0a1a55a334fdfc024c8409ba", func := "headrace/racelaw19.SiftPlays", spec := "siftPlays", inPlace := ["math.Float64bits", "math.Float64frombits", "slices.overlaps[headrace/api.Fragment]"], unfollowed := true, recurses := true, apart := false }
def SiftPlaysSaid : Prop := siftPlaysRow.holds Try.pinned (OpenSpec.ofChange siftPlaysSpec)

/-- ITS FALSE NEIGHBOUR: 'it returns false'. Refute it at one input. -/
def siftPlaysWrong : ChangeSpec := { name := "siftPlays", fn := fun _ => fun
  | [d] => { results := [.lit (.bool false)], args := [d] }
  | _ => none }
def SiftPlaysWrongFalsely : Prop := siftPlaysRow.holds Try.pinned (OpenSpec.ofChange siftPlaysWrong)

/-- 'racelaw19.SiftTurns': WHATEVER THE INPUT: true; the input reads as it did. -/
def siftTurnsSpec : ChangeSpec := { name := "siftTurns", fn := fun _ => fun
  | [d1, d2] => { results := [.lit (.bool true)], args := [d1, d2] }
  | _ => none }
def siftTurnsRow : OpenClaim := { program := "ythhdoeflafakaaa", sum := "52d0feebf5984bddc1d72cb5f0dbc494ea3d5a8d0a1a55a334fdfc024c8409ba", func := "headrace/racelaw19.SiftTurns", spec := "siftTurns", inPlace := ["math.Float64bits", "math.Float64frombits", "slices.overlaps[headrace/api.Fragment]"], unfollowed := true, recurses := true, apart := false }
def SiftTurnsSaid : Prop := siftTurnsRow.holds Try.pinned (OpenSpec.ofChange siftTurnsSpec)

/-- ITS FALSE NEIGHBOUR: 'it returns false'. Refute it at one input. -/
def siftTurnsWrong : ChangeSpec := { name := "siftTurns", fn := fun _ => fun
  | [d1, d2] => { results := [.lit (.bool false)], args := [d1, d2] }
  | _ => none }
def SiftTurnsWrongFalsely : Prop := siftTurnsRow.holds Try.pinned (OpenSpec.ofChange siftTurnsWrong)

/- THE SECOND FORM. 'bulk': how many values and letters a reading holds, each counted each time it is reached (what is shared counts as often as it is met; a slice's spare places count too). A statement '..UptoSaid' is the law's where the arguments, and the package variables that the reading takes, are together of bulk at most 1048576: NARROWER than '..Said'. Prove '..Said' where nothing that the law and all that it calls make is longer than what came in: it says more and counts as full. Else prove '..UptoSaid'. A law counts once. -/
mutual
def uptoBulk {H : Type} : DataW H → Nat
  | .lit (.string bytes) => bytes.length + 1
  | .lit _ => 1
  | .nil => 1
  | .ptr d => uptoBulk d + 1
  | .slice elems spare => uptoBulkAll elems + uptoBulkAll spare + 1
  | .agg parts => uptoBulkAll parts + 1
  | .iface _ d => uptoBulk d + 1
  | .map entries => uptoBulkEntries entries + 1
  | .held _ => 1
def uptoBulkAll {H : Type} : List (DataW H) → Nat
  | [] => 0
  | d :: r => uptoBulk d + uptoBulkAll r
def uptoBulkEntries {H : Type} : List (Lit × DataW H) → Nat
  | [] => 0
  | x :: r => uptoBulkEntry x + uptoBulkEntries r
def uptoBulkEntry {H : Type} : Lit × DataW H → Nat
  | (.string bytes, d) => bytes.length + uptoBulk d + 1
  | (_, d) => uptoBulk d + 1
 end
def uptoSmall : (H : Type) → List (DataW H) → Bool := fun _ ds => decide (uptoBulkAll ds ≤ 1048576)
def OpenSpec.upto (s : _root_.Go.ChangeSpec) : _root_.Go.OpenSpec := { _root_.Go.OpenSpec.ofChange s with cond := some uptoSmall }

/-- 'racelaw19.SiftWhole', WHERE WHAT IT READS IS OF BULK AT MOST 1048576: true; the input reads as it did. -/
def siftWholeUptoRow : OpenClaim := { program := "ythhdoeflafakaaa", sum := "52d0feebf5984bddc1d72cb5f0dbc494ea3d5a8d0a1a55a334fdfc024c8409ba", func := "headrace/racelaw19.SiftWhole", spec := "siftWhole", inPlace := ["math.Float64bits", "math.Float64frombits", "slices.overlaps[headrace/api.Fragment]"], unfollowed := true, recurses := true, apart := false, narrowed := true }
def SiftWholeUptoSaid : Prop := siftWholeUptoRow.holds Try.pinned (OpenSpec.upto siftWholeSpec)

/-- 'racelaw19.SiftHas', WHERE WHAT IT READS IS OF BULK AT MOST 1048576: true; the input reads as it did. -/
def siftHasUptoRow : OpenClaim := { program := "ythhdoeflafakaaa", sum := "52d0feebf5984bddc1d72cb5f0dbc494ea3d5a8d0a1a55a334fdfc024c8409ba", func := "headrace/racelaw19.SiftHas", spec := "siftHas", inPlace := ["math.Float64bits", "math.Float64frombits", "slices.overlaps[headrace/api.Fragment]"], unfollowed := true, recurses := true, apart := false, narrowed := true }
def SiftHasUptoSaid : Prop := siftHasUptoRow.holds Try.pinned (OpenSpec.upto siftHasSpec)

/-- 'racelaw19.SiftPlays', WHERE WHAT IT READS IS OF BULK AT MOST 1048576: true; the input reads as it did. -/
def siftPlaysUptoRow : OpenClaim := { program := "ythhdoeflafakaaa", sum := "52d0feebf5984bddc1d72cb5f0dbc494ea3d5a8d0a1a55a334fdfc024c8409ba", func := "headrace/racelaw19.SiftPlays", spec := "siftPlays", inPlace := ["math.Float64bits", "math.Float64frombits", "slices.overlaps[headrace/api.Fragment]"], unfollowed := true, recurses := true, apart := false, narrowed := true }
def SiftPlaysUptoSaid : Prop := siftPlaysUptoRow.holds Try.pinned (OpenSpec.upto siftPlaysSpec)

/-- 'racelaw19.SiftTurns', WHERE WHAT IT READS IS OF BULK AT MOST 1048576: true; the input reads as it did. -/
def siftTurnsUptoRow : OpenClaim := { program := "ythhdoeflafakaaa", sum := "52d0feebf5984bddc1d72cb5f0dbc494ea3d5a8d0a1a55a334fdfc024c8409ba", func := "headrace/racelaw19.SiftTurns", spec := "siftTurns", inPlace := ["math.Float64bits", "math.Float64frombits", "slices.overlaps[headrace/api.Fragment]"], unfollowed := true, recurses := true, apart := false, narrowed := true }
def SiftTurnsUptoSaid : Prop := siftTurnsUptoRow.holds Try.pinned (OpenSpec.upto siftTurnsSpec)

end Rows
end Go.Proofs.Ythhdoeflafakaaa
