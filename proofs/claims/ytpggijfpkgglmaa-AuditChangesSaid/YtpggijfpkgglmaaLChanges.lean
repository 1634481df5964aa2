/- The statement of AuditChanges. -/
import Derived.Test.YtpggijfpkgglmaaL2
import Derived.Test.YtpggijfpkgglmaaA20
import Derived.Test.YtpggijfpkgglmaaSxY
import Derived.Test.YtpggijfpkgglmaaRows
set_option linter.unusedSimpArgs false
set_option linter.unusedVariables false
namespace Go.Proofs.Ytpggijfpkgglmaa
open Sx Go.ChangeShapes Go.WideShapes Go.ChangeAt Go.RowKit

theorem AuditChanges_key {H : Type} (enc : TypeId × Value → H) (W : World) (args : Array Value) (h : ArgsZ enc Try.prog W Try.f6.params.toList args.toList) :
    Calls Try.prog 6 args W fun e W' => e = .returned (.bool true) ∧ Ext No W W' := by
  rw [Try.params6] at h
  obtain ⟨u0, us0, hargs, g0, r0⟩ := argsZ_cons h
  obtain ⟨u1, us1, rfl, g1, r1⟩ := argsZ_cons r0
  obtain rfl := argsZ_nil r1
  obtain ⟨ad, c, l, rfl, hs, hb1, hn1, hc, hzl⟩ := argZ_pairs g0
  obtain ⟨ad1, c1, m, rfl, hs2, hb2, -, hc2, hzm⟩ := argZ_pairs g1
  obtain rfl : args = #[.slice ad l.length c, .slice ad1 m.length c1] := by cases args; simp_all
  exact Changes_all l m hs hs2 hb1 hb2 hn1 hc hc2 (by omega) (by omega)

set_option maxRecDepth 100000 in
theorem AuditChanges_lifted (os : Os) (started : os.Started) (H : Type) (enc : TypeId × Value → H) :
    ReturnsInHanded {} Try.checked os 6 .any (Rows.auditChangesSpec.pre6 enc Try.prog Try.f6 Rows.auditChangesRow.domain false) (Rows.auditChangesSpec.post enc Try.prog Try.f6 false true false false) := by
  exact lift_trueZ (C := Try.checked) (t := 4) own started (by kernel_rfl) Try.func6
    (ChangeSpec.witness6 (enc := enc) (C := Try.checked) false ⟨#[], #[.slice none 0 0, .slice none 0 0], []⟩ 8 (by kernel_rfl) (by kernel_rfl) (by kernel_rfl) (by kernel_rfl))
    laidOut (by kernel_rfl) (by kernel_rfl) Try.underlying4 rfl (fun ds h => by
    obtain ⟨a0, a1, rfl⟩ := list_2 h (by rw [Try.params6]; rfl)
    rfl) (AuditChanges_key enc)
theorem AuditChanges_holds : Rows.AuditChangesSaid :=
  OpenClaim.holds_of_wide 6 Try.f6 rfl rfl rfl rfl rfl rfl rfl ⟨rfl, rfl, rfl, rfl, rfl⟩ rfl rfl rfl rfl rfl (by kernel_rfl) Try.func6 (by kernel_rfl)
    (of_decide_eq_true (by kernel_rfl)) (by unfold Func.isWrapper; first | (rw [if_pos (by decide +kernel)]; kernel_rfl) | (rw [if_neg (by decide +kernel)]; exact ⟨rfl, rfl⟩))
    (fun os started H enc _ => AuditChanges_lifted os started H enc)

end Go.Proofs.Ytpggijfpkgglmaa
