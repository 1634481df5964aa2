/- The statement of AuditReads. -/
import Derived.Test.YtpggijfpkgglmaaL1
import Derived.Test.YtpggijfpkgglmaaA14
import Derived.Test.YtpggijfpkgglmaaSxY
import Derived.Test.YtpggijfpkgglmaaRows
set_option linter.unusedSimpArgs false
set_option linter.unusedVariables false
namespace Go.Proofs.Ytpggijfpkgglmaa
open Sx Go.ChangeShapes Go.WideShapes Go.ChangeAt Go.RowKit

theorem AuditReads_key {H : Type} (enc : TypeId × Value → H) (W : World) (args : Array Value) (h : ArgsZ enc Try.prog W Try.f4.params.toList args.toList) :
    Calls Try.prog 4 args W fun e W' => e = .returned (.bool true) ∧ Ext No W W' := by
  rw [Try.params4] at h
  obtain ⟨u0, us0, hargs, g0, r0⟩ := argsZ_cons h
  obtain rfl := argsZ_nil r0
  obtain ⟨ad, c, l, rfl, hs, hw, -, hc, hzl⟩ := argZ_deeds g0
  obtain rfl : args = #[.slice ad l.length c] := by cases args; simp_all
  exact Reads_all l hs hw (by omega)

set_option maxRecDepth 100000 in
theorem AuditReads_lifted (os : Os) (started : os.Started) (H : Type) (enc : TypeId × Value → H) :
    ReturnsInHanded {} Try.checked os 4 .any (Rows.auditReadsSpec.pre6 enc Try.prog Try.f4 Rows.auditReadsRow.domain false) (Rows.auditReadsSpec.post enc Try.prog Try.f4 false true false false) := by
  exact lift_trueZ (C := Try.checked) (t := 4) own started (by kernel_rfl) Try.func4
    (ChangeSpec.witness6 (enc := enc) (C := Try.checked) false ⟨#[], #[.slice none 0 0], []⟩ 8 (by kernel_rfl) (by kernel_rfl) (by kernel_rfl) (by kernel_rfl))
    laidOut (by kernel_rfl) (by kernel_rfl) Try.underlying4 rfl (fun ds h => by
    obtain ⟨a0, rfl⟩ := list_1 h (by rw [Try.params4]; rfl)
    rfl) (AuditReads_key enc)
theorem AuditReads_holds : Rows.AuditReadsSaid :=
  OpenClaim.holds_of_wide 4 Try.f4 rfl rfl rfl rfl rfl rfl rfl ⟨rfl, rfl, rfl, rfl, rfl⟩ rfl rfl rfl rfl rfl (by kernel_rfl) Try.func4 (by kernel_rfl)
    (of_decide_eq_true (by kernel_rfl)) (by unfold Func.isWrapper; first | (rw [if_pos (by decide +kernel)]; kernel_rfl) | (rw [if_neg (by decide +kernel)]; exact ⟨rfl, rfl⟩))
    (fun os started H enc _ => AuditReads_lifted os started H enc)

end Go.Proofs.Ytpggijfpkgglmaa
