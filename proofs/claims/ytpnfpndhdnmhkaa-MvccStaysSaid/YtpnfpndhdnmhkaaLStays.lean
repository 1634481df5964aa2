/- The statement of MvccStays. -/
import Derived.Test.YtpnfpndhdnmhkaaL0
import Derived.Test.YtpnfpndhdnmhkaaK13
import Derived.Test.YtpnfpndhdnmhkaaSxY
import Derived.Test.YtpnfpndhdnmhkaaRows
set_option linter.unusedSimpArgs false
set_option linter.unusedVariables false
namespace Go.Proofs.Ytpnfpndhdnmhkaa
open Sx Go.ChangeShapes Go.WideShapes Go.ChangeAt Go.RowKit

theorem MvccStays_key {H : Type} (enc : TypeId × Value → H) (W : World) (args : Array Value) (h : ArgsZ enc Try.prog W Try.f5.params.toList args.toList) :
    Calls Try.prog 5 args W fun e W' => e = .returned (.bool true) ∧ Ext No W W' := by
  rw [Try.params5] at h
  obtain ⟨u0, us0, hargs, g0, r0⟩ := argsZ_cons h
  obtain ⟨u1, us1, rfl, g1, r1⟩ := argsZ_cons r0
  obtain ⟨u2, us2, rfl, g2, r2⟩ := argsZ_cons r1
  obtain ⟨u3, us3, rfl, g3, r3⟩ := argsZ_cons r2
  obtain rfl := argsZ_nil r3
  obtain ⟨ad, c, l, rfl, hsl, hwl, -, -, hzl⟩ := argZ_ops g0
  obtain ⟨adb, cb, m, rfl, hsm, hwm, -, -, hzm⟩ := argZ_ops g1
  obtain ⟨k9, rfl, hkk9⟩ := argZ_str Try.underlying9 g2
  obtain ⟨at_, rfl, -⟩ := argZ_st g3
  obtain rfl : args = #[.slice ad l.length c, .slice adb m.length cb, .string ⟨k9.toArray⟩, Value.agg #[.int .i64 at_.w, .int .i64 at_.l, .int .i64 at_.n]] := by cases args; simp_all
  exact Stays_all l hsl (by omega) (fun x hx => (hwl x hx).1) (fun x hx => (hwl x hx).2) m hsm (by omega) (fun x hx => (hwm x hx).1) (fun x hx => (hwm x hx).2) k9 hkk9 at_

set_option maxRecDepth 100000 in
theorem MvccStays_lifted (os : Os) (started : os.Started) (H : Type) (enc : TypeId × Value → H) :
    ReturnsInHanded {} Try.checked os 5 .any (Rows.mvccStaysSpec.pre6 enc Try.prog Try.f5 Rows.mvccStaysRow.domain false) (Rows.mvccStaysSpec.post enc Try.prog Try.f5 false true false false) := by
  exact lift_trueZ (C := Try.checked) (t := 4) own started (by kernel_rfl) Try.func5
    (ChangeSpec.witness6 (enc := enc) (C := Try.checked) false ⟨#[], #[.slice none 0 0, .slice none 0 0, .string .empty, .agg #[.int .i64 0, .int .i64 0, .int .i64 0]], []⟩ 8 (by kernel_rfl) (by kernel_rfl) (by kernel_rfl) (by kernel_rfl))
    laidOut (by kernel_rfl) (by kernel_rfl) Try.underlying4 rfl (fun ds h => by
    obtain ⟨a0, a1, a2, a3, rfl⟩ := list_4 h (by rw [Try.params5]; rfl)
    rfl) (MvccStays_key enc)
theorem MvccStays_holds : Rows.MvccStaysSaid :=
  OpenClaim.holds_of_wide 5 Try.f5 rfl rfl rfl rfl rfl rfl rfl ⟨rfl, rfl, rfl, rfl, rfl⟩ rfl rfl rfl rfl rfl (by kernel_rfl) Try.func5 (by kernel_rfl)
    (of_decide_eq_true (by kernel_rfl)) (by unfold Func.isWrapper; first | (rw [if_pos (by decide +kernel)]; kernel_rfl) | (rw [if_neg (by decide +kernel)]; exact ⟨rfl, rfl⟩))
    (fun os started H enc _ => MvccStays_lifted os started H enc)

end Go.Proofs.Ytpnfpndhdnmhkaa
