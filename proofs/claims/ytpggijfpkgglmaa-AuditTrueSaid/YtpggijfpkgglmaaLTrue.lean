/- The statement of AuditTrue. -/
import Derived.Test.YtpggijfpkgglmaaL0
import Derived.Test.YtpggijfpkgglmaaA17
import Derived.Test.YtpggijfpkgglmaaSxY
import Derived.Test.YtpggijfpkgglmaaRows
set_option linter.unusedSimpArgs false
set_option linter.unusedVariables false
namespace Go.Proofs.Ytpggijfpkgglmaa
open Sx Go.ChangeShapes Go.WideShapes Go.ChangeAt Go.RowKit

theorem AuditTrue_key {H : Type} (enc : TypeId × Value → H) (W : World) (args : Array Value) (h : ArgsZ enc Try.prog W Try.f5.params.toList args.toList) :
    Calls Try.prog 5 args W fun e W' => e = .returned (.bool true) ∧ Ext No W W' := by
  rw [Try.params5] at h
  obtain ⟨u0, us0, hargs, g0, r0⟩ := argsZ_cons h
  obtain ⟨u1, us1, rfl, g1, r1⟩ := argsZ_cons r0
  obtain ⟨u2, us2, rfl, g2, r2⟩ := argsZ_cons r1
  obtain rfl := argsZ_nil r2
  obtain ⟨ad, c, l, rfl, hs, hw, -, hc, hzl⟩ := argZ_ents g0
  obtain ⟨at9, rfl, hlat9, hbat9⟩ := argZ_int Try.underlying3 g1
  obtain ⟨v9, rfl, hvv9⟩ := argZ_vl g2
  obtain rfl : args = #[.slice ad l.length c, .int .i64 at9, Value.agg #[.int .i64 v9.k, .float .f64 v9.num, .string ⟨v9.tx.toArray⟩]] := by cases args; simp_all
  exact True_all l at9 v9 hs hw hc (by omega) hlat9 hbat9

set_option maxRecDepth 100000 in
theorem AuditTrue_lifted (os : Os) (started : os.Started) (H : Type) (enc : TypeId × Value → H) :
    ReturnsInHanded {} Try.checked os 5 .any (Rows.auditTrueSpec.pre6 enc Try.prog Try.f5 Rows.auditTrueRow.domain false) (Rows.auditTrueSpec.post enc Try.prog Try.f5 false true false false) := by
  exact lift_trueZ (C := Try.checked) (t := 4) own started (by kernel_rfl) Try.func5
    (ChangeSpec.witness6 (enc := enc) (C := Try.checked) false ⟨#[], #[.slice none 0 0, .int .i64 0, .agg #[.int .i64 0, .float .f64 0, .string .empty]], []⟩ 8 (by kernel_rfl) (by kernel_rfl) (by kernel_rfl) (by kernel_rfl))
    laidOut (by kernel_rfl) (by kernel_rfl) Try.underlying4 rfl (fun ds h => by
    obtain ⟨a0, a1, a2, rfl⟩ := list_3 h (by rw [Try.params5]; rfl)
    rfl) (AuditTrue_key enc)
theorem AuditTrue_holds : Rows.AuditTrueSaid :=
  OpenClaim.holds_of_wide 5 Try.f5 rfl rfl rfl rfl rfl rfl rfl ⟨rfl, rfl, rfl, rfl, rfl⟩ rfl rfl rfl rfl rfl (by kernel_rfl) Try.func5 (by kernel_rfl)
    (of_decide_eq_true (by kernel_rfl)) (by unfold Func.isWrapper; first | (rw [if_pos (by decide +kernel)]; kernel_rfl) | (rw [if_neg (by decide +kernel)]; exact ⟨rfl, rfl⟩))
    (fun os started H enc _ => AuditTrue_lifted os started H enc)

end Go.Proofs.Ytpggijfpkgglmaa
