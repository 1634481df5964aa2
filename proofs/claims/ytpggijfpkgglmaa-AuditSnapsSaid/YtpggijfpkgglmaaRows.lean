/-
  No cell of these rows narrows 'for every input' (looked for: loops, veiled, ifaces, maps, wideKeys, modest, calm, conditions, laid).
  DERIVED. THE GIVEN ROWS OF THIS SEAT. 5 by the template 'for every input the law returns true; each argument reads behind the call as it read before'; 0 by the template 'total and deterministic' (their statements: YtpggijfpkgglmaaTotals.lean).
  GIVEN WITH THE SEED: the statements are not yours to turn. If you find one false, say at which input.
  Laid BY PROGRAM, IN A SANDBOX (cutbox-rows.mjs): the forced cells as the released guide's own fill.sh prints them over the translation c52f76ebcb5bebcc… (all of the seat's roots in one cut). By AI agents, Wed Nov 11 2026. No macro, syntax, notation, axiom, sorry.
-/
import Derived.Test.YtpggijfpkgglmaaChecked
import GoSem.Claim
import GoSem.ClaimJoined
import GoSem.ClaimMapViews
import Derived.JoinedTies
import Derived.KernelRfl
namespace Go.Proofs.Ytpggijfpkgglmaa
/- THE CELL 'sum', in the pinned program and in every row, IS THE sha256 OF THE DUMP (.gsa) THAT YtpggijfpkgglmaaProg.lean LOADS. Nothing in Lean hashes anything: it is a label: what it is worth is what the hold of that sum in a sandbox is worth. -/
noncomputable def Try.pinned : Pinned := { name := "ytpggijfpkgglmaa", sum := "c52f76ebcb5bebcc3da719c00da0d7c27dff1bf9d5bcf8fded2a16e5e1b7adee", checked := Try.checked }
namespace Rows
def none {H : Type} : Left H := { results := [], args := [] }

/-- 'racelaw25.AuditOrders': WHATEVER THE INPUT: true; the input reads as it did. -/
def auditOrdersSpec : ChangeSpec := { name := "auditOrders", fn := fun _ => fun
  | [d1, d2] => { results := [.lit (.bool true)], args := [d1, d2] }
  | _ => none }
def auditOrdersRow : OpenClaim := { program := "ytpggijfpkgglmaa", sum := "c52f76ebcb5bebcc3da719c00da0d7c27dff1bf9d5bcf8fded2a16e5e1b7adee", func := "headrace/racelaw25.AuditOrders", spec := "auditOrders", inPlace := ["math.Float64bits", "math.Float64frombits"], unfollowed := true, recurses := true, apart := false }
def AuditOrdersSaid : Prop := auditOrdersRow.holds Try.pinned (OpenSpec.ofChange auditOrdersSpec)

/-- ITS FALSE NEIGHBOUR: 'it returns false'. Refute it at one input. -/
def auditOrdersWrong : ChangeSpec := { name := "auditOrders", fn := fun _ => fun
  | [d1, d2] => { results := [.lit (.bool false)], args := [d1, d2] }
  | _ => none }
def AuditOrdersWrongFalsely : Prop := auditOrdersRow.holds Try.pinned (OpenSpec.ofChange auditOrdersWrong)

/-- 'racelaw25.AuditReads': WHATEVER THE INPUT: true; the input reads as it did. -/
def auditReadsSpec : ChangeSpec := { name := "auditReads", fn := fun _ => fun
  | [d] => { results := [.lit (.bool true)], args := [d] }
  | _ => none }
def auditReadsRow : OpenClaim := { program := "ytpggijfpkgglmaa", sum := "c52f76ebcb5bebcc3da719c00da0d7c27dff1bf9d5bcf8fded2a16e5e1b7adee", func := "headrace/racelaw25.AuditReads", spec := "auditReads", inPlace := ["math.Float64bits", "math.Float64frombits"], unfollowed := true, recurses := true, apart := false }
def AuditReadsSaid : Prop := auditReadsRow.holds Try.pinned (OpenSpec.ofChange auditReadsSpec)

/-- ITS FALSE NEIGHBOUR: 'it returns false'. Refute it at one input. -/
def auditReadsWrong : ChangeSpec := { name := "auditReads", fn := fun _ => fun
  | [d] => { results := [.lit (.bool false)], args := [d] }
  | _ => none }
def AuditReadsWrongFalsely : Prop := auditReadsRow.holds Try.pinned (OpenSpec.ofChange auditReadsWrong)

/-- 'racelaw25.AuditTrue': WHATEVER THE INPUT: true; the input reads as it did. -/
def auditTrueSpec : ChangeSpec := { name := "auditTrue", fn := fun _ => fun
  | [d1, d2, d3] => { results := [.lit (.bool true)], args := [d1, d2, d3] }
  | _ => none }
def auditTrueRow : OpenClaim := { program := "ytpggijfpkgglmaa", sum := "c52f76ebcb5bebcc3da719c00da0d7c27dff1bf9d5bcf8fded2a16e5e1b7adee", func := "headrace/racelaw25.AuditTrue", spec := "auditTrue", inPlace := ["math.Float64bits", "math.Float64frombits"], unfollowed := true, recurses := true, apart := false }
def AuditTrueSaid : Prop := auditTrueRow.holds Try.pinned (OpenSpec.ofChange auditTrueSpec)

/-- ITS FALSE NEIGHBOUR: 'it returns false'. Refute it at one input. -/
def auditTrueWrong : ChangeSpec := { name := "auditTrue", fn := fun _ => fun
  | [d1, d2, d3] => { results := [.lit (.bool false)], args := [d1, d2, d3] }
  | _ => none }
def AuditTrueWrongFalsely : Prop := auditTrueRow.holds Try.pinned (OpenSpec.ofChange auditTrueWrong)

/-- 'racelaw25.AuditChanges': WHATEVER THE INPUT: true; the input reads as it did. -/
def auditChangesSpec : ChangeSpec := { name := "auditChanges", fn := fun _ => fun
  | [d1, d2] => { results := [.lit (.bool true)], args := [d1, d2] }
  | _ => none }
def auditChangesRow : OpenClaim := { program := "ytpggijfpkgglmaa", sum := "c52f76ebcb5bebcc3da719c00da0d7c27dff1bf9d5bcf8fded2a16e5e1b7adee", func := "headrace/racelaw25.AuditChanges", spec := "auditChanges", inPlace := ["math.Float64bits", "math.Float64frombits"], unfollowed := true, recurses := true, apart := false }
def AuditChangesSaid : Prop := auditChangesRow.holds Try.pinned (OpenSpec.ofChange auditChangesSpec)

/-- ITS FALSE NEIGHBOUR: 'it returns false'. Refute it at one input. -/
def auditChangesWrong : ChangeSpec := { name := "auditChanges", fn := fun _ => fun
  | [d1, d2] => { results := [.lit (.bool false)], args := [d1, d2] }
  | _ => none }
def AuditChangesWrongFalsely : Prop := auditChangesRow.holds Try.pinned (OpenSpec.ofChange auditChangesWrong)

/-- 'racelaw25.AuditSnaps': WHATEVER THE INPUT: true; the input reads as it did. -/
def auditSnapsSpec : ChangeSpec := { name := "auditSnaps", fn := fun _ => fun
  | [d1, d2, d3] => { results := [.lit (.bool true)], args := [d1, d2, d3] }
  | _ => none }
def auditSnapsRow : OpenClaim := { program := "ytpggijfpkgglmaa", sum := "c52f76ebcb5bebcc3da719c00da0d7c27dff1bf9d5bcf8fded2a16e5e1b7adee", func := "headrace/racelaw25.AuditSnaps", spec := "auditSnaps", inPlace := ["math.Float64bits", "math.Float64frombits"], unfollowed := true, recurses := true, apart := false }
def AuditSnapsSaid : Prop := auditSnapsRow.holds Try.pinned (OpenSpec.ofChange auditSnapsSpec)

/-- ITS FALSE NEIGHBOUR: 'it returns false'. Refute it at one input. -/
def auditSnapsWrong : ChangeSpec := { name := "auditSnaps", fn := fun _ => fun
  | [d1, d2, d3] => { results := [.lit (.bool false)], args := [d1, d2, d3] }
  | _ => none }
def AuditSnapsWrongFalsely : Prop := auditSnapsRow.holds Try.pinned (OpenSpec.ofChange auditSnapsWrong)

/- THE SECOND FORM. 'bulk': how many values and letters a reading holds, each counted each time it is reached (what is shared counts as often as it is met; a slice's spare places count too). A statement '..UptoSaid' is the law's where the arguments, and the package variables that the reading takes, are together of bulk at most 1048576: NARROWER than '..Said'. Prove '..Said' where nothing that the law and all that it calls make is longer than what came in: it says more and counts as full. Else prove '..UptoSaid'. A law counts once. -/
mutual
def uptoBulk {H : Type} : DataW H → Nat
  | .lit (.string bytes) => bytes.length + 1
  | .lit _ => 1
  | .nil => 1
  | .ptr d => uptoBulk d + 1
  | .slice elems spare => uptoBulkAll elems + uptoBulkAll spare + 1
  | .agg parts => uptoBulkAll parts + 1
  | .iface _ d => uptoBulk d + 1
  | .map entries => uptoBulkEntries entries + 1
  | .held _ => 1
def uptoBulkAll {H : Type} : List (DataW H) → Nat
  | [] => 0
  | d :: r => uptoBulk d + uptoBulkAll r
def uptoBulkEntries {H : Type} : List (Lit × DataW H) → Nat
  | [] => 0
  | x :: r => uptoBulkEntry x + uptoBulkEntries r
def uptoBulkEntry {H : Type} : Lit × DataW H → Nat
  | (.string bytes, d) => bytes.length + uptoBulk d + 1
  | (_, d) => uptoBulk d + 1
 end
def uptoSmall : (H : Type) → List (DataW H) → Bool := fun _ ds => decide (uptoBulkAll ds ≤ 1048576)
def OpenSpec.upto (s : _root_.Go.ChangeSpec) : _root_.Go.OpenSpec := { _root_.Go.OpenSpec.ofChange s with cond := some uptoSmall }

/-- 'racelaw25.AuditOrders', WHERE WHAT IT READS IS OF BULK AT MOST 1048576: true; the input reads as it did. -/
def auditOrdersUptoRow : OpenClaim := { program := "ytpggijfpkgglmaa", sum := "c52f76ebcb5bebcc3da719c00da0d7c27dff1bf9d5bcf8fded2a16e5e1b7adee", func := "headrace/racelaw25.AuditOrders", spec := "auditOrders", inPlace := ["math.Float64bits", "math.Float64frombits"], unfollowed := true, recurses := true, apart := false, narrowed := true }
def AuditOrdersUptoSaid : Prop := auditOrdersUptoRow.holds Try.pinned (OpenSpec.upto auditOrdersSpec)

/-- 'racelaw25.AuditReads', WHERE WHAT IT READS IS OF BULK AT MOST 1048576: true; the input reads as it did. -/
def auditReadsUptoRow : OpenClaim := { program := "ytpggijfpkgglmaa", sum := "c52f76ebcb5bebcc3da719c00da0d7c27dff1bf9d5bcf8fded2a16e5e1b7adee", func := "headrace/racelaw25.AuditReads", spec := "auditReads", inPlace := ["math.Float64bits", "math.Float64frombits"], unfollowed := true, recurses := true, apart := false, narrowed := true }
def AuditReadsUptoSaid : Prop := auditReadsUptoRow.holds Try.pinned (OpenSpec.upto auditReadsSpec)

/-- 'racelaw25.AuditTrue', WHERE WHAT IT READS IS OF BULK AT MOST 1048576: true; the input reads as it did. -/
def auditTrueUptoRow : OpenClaim := { program := "ytpggijfpkgglmaa", sum := "c52f76ebcb5bebcc3da719c00da0d7c27dff1bf9d5bcf8fded2a16e5e1b7adee", func := "headrace/racelaw25.AuditTrue", spec := "auditTrue", inPlace := ["math.Float64bits", "math.Float64frombits"], unfollowed := true, recurses := true, apart := false, narrowed := true }
def AuditTrueUptoSaid : Prop := auditTrueUptoRow.holds Try.pinned (OpenSpec.upto auditTrueSpec)

/-- 'racelaw25.AuditChanges', WHERE WHAT IT READS IS OF BULK AT MOST 1048576: true; the input reads as it did. -/
def auditChangesUptoRow : OpenClaim := { program := "ytpggijfpkgglmaa", sum := "c52f76ebcb5bebcc3da719c00da0d7c27dff1bf9d5bcf8fded2a16e5e1b7adee", func := "headrace/racelaw25.AuditChanges", spec := "auditChanges", inPlace := ["math.Float64bits", "math.Float64frombits"], unfollowed := true, recurses := true, apart := false, narrowed := true }
def AuditChangesUptoSaid : Prop := auditChangesUptoRow.holds Try.pinned (OpenSpec.upto auditChangesSpec)

/-- 'racelaw25.AuditSnaps', WHERE WHAT IT READS IS OF BULK AT MOST 1048576: true; the input reads as it did. -/
def auditSnapsUptoRow : OpenClaim := { program := "ytpggijfpkgglmaa", sum := "c52f76ebcb5bebcc3da719c00da0d7c27dff1bf9d5bcf8fded2a16e5e1b7adee", func := "headrace/racelaw25.AuditSnaps", spec := "auditSnaps", inPlace := ["math.Float64bits", "math.Float64frombits"], unfollowed := true, recurses := true, apart := false, narrowed := true }
def AuditSnapsUptoSaid : Prop := auditSnapsUptoRow.holds Try.pinned (OpenSpec.upto auditSnapsSpec)

end Rows
end Go.Proofs.Ytpggijfpkgglmaa
