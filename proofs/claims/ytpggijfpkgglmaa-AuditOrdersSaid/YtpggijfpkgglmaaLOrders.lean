/- The statement of AuditOrders. -/
import Derived.Test.YtpggijfpkgglmaaL0
import Derived.Test.YtpggijfpkgglmaaA15
import Derived.Test.YtpggijfpkgglmaaSxY
import Derived.Test.YtpggijfpkgglmaaRows
set_option linter.unusedSimpArgs false
set_option linter.unusedVariables false
namespace Go.Proofs.Ytpggijfpkgglmaa
open Sx Go.ChangeShapes Go.WideShapes Go.ChangeAt Go.RowKit

theorem AuditOrders_key {H : Type} (enc : TypeId × Value → H) (W : World) (args : Array Value) (h : ArgsZ enc Try.prog W Try.f3.params.toList args.toList) :
    Calls Try.prog 3 args W fun e W' => e = .returned (.bool true) ∧ Ext No W W' := by
  rw [Try.params3] at h
  obtain ⟨u0, us0, hargs, g0, r0⟩ := argsZ_cons h
  obtain ⟨u1, us1, rfl, g1, r1⟩ := argsZ_cons r0
  obtain rfl := argsZ_nil r1
  obtain ⟨ad, c, l, rfl, hs, hw, -, hc, hzl⟩ := argZ_ents g0
  obtain ⟨s9, rfl, -⟩ := argZ_stamp g1
  obtain rfl : args = #[.slice ad l.length c, Value.agg #[.int .i64 s9.w, .int .i64 s9.l, .int .i64 s9.n]] := by cases args; simp_all
  exact Orders_all l s9 hs hw hc (by omega)

set_option maxRecDepth 100000 in
theorem AuditOrders_lifted (os : Os) (started : os.Started) (H : Type) (enc : TypeId × Value → H) :
    ReturnsInHanded {} Try.checked os 3 .any (Rows.auditOrdersSpec.pre6 enc Try.prog Try.f3 Rows.auditOrdersRow.domain false) (Rows.auditOrdersSpec.post enc Try.prog Try.f3 false true false false) := by
  exact lift_trueZ (C := Try.checked) (t := 4) own started (by kernel_rfl) Try.func3
    (ChangeSpec.witness6 (enc := enc) (C := Try.checked) false ⟨#[], #[.slice none 0 0, .agg #[.int .i64 0, .int .i64 0, .int .i64 0]], []⟩ 8 (by kernel_rfl) (by kernel_rfl) (by kernel_rfl) (by kernel_rfl))
    laidOut (by kernel_rfl) (by kernel_rfl) Try.underlying4 rfl (fun ds h => by
    obtain ⟨a0, a1, rfl⟩ := list_2 h (by rw [Try.params3]; rfl)
    rfl) (AuditOrders_key enc)
theorem AuditOrders_holds : Rows.AuditOrdersSaid :=
  OpenClaim.holds_of_wide 3 Try.f3 rfl rfl rfl rfl rfl rfl rfl ⟨rfl, rfl, rfl, rfl, rfl⟩ rfl rfl rfl rfl rfl (by kernel_rfl) Try.func3 (by kernel_rfl)
    (of_decide_eq_true (by kernel_rfl)) (by unfold Func.isWrapper; first | (rw [if_pos (by decide +kernel)]; kernel_rfl) | (rw [if_neg (by decide +kernel)]; exact ⟨rfl, rfl⟩))
    (fun os started H enc _ => AuditOrders_lifted os started H enc)

end Go.Proofs.Ytpggijfpkgglmaa
