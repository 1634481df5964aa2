/- The statement of MvccAnew. -/
import Derived.Test.YtpnfpndhdnmhkaaGreatL0
import Derived.Test.YtpnfpndhdnmhkaaGreatK22
import Derived.Test.YtpnfpndhdnmhkaaGreatSxY
import Derived.Test.YtpnfpndhdnmhkaaGreatRows
set_option linter.unusedSimpArgs false
set_option linter.unusedVariables false
namespace Go.Proofs.YtpnfpndhdnmhkaaGreat
open Sx Go.ChangeShapes Go.WideShapes Go.ChangeAt Go.RowKit

theorem MvccAnew_key {H : Type} (enc : TypeId × Value → H) (W : World) (args : Array Value) (h : ArgsZ enc Tryz.prog W Tryz.f6.params.toList args.toList) :
    Calls Tryz.prog 6 args W fun e W' => e = .returned (.bool true) ∧ Ext No W W' := by
  rw [Tryz.params6] at h
  obtain ⟨u0, us0, hargs, g0, r0⟩ := argsZ_cons h
  obtain ⟨u1, us1, rfl, g1, r1⟩ := argsZ_cons r0
  obtain rfl := argsZ_nil r1
  obtain ⟨ad, c, l, rfl, hsl, hwl, -, -, hzl⟩ := argZ_ops g0
  obtain ⟨adb, cb, m, rfl, hsm, hwm, -, -, hzm⟩ := argZ_ops g1
  obtain rfl : args = #[.slice ad l.length c, .slice adb m.length cb] := by cases args; simp_all
  exact Anew_all l hsl (by omega) (fun x hx => (hwl x hx).1) (fun x hx => (hwl x hx).2) m hsm (by omega) (fun x hx => (hwm x hx).1) (fun x hx => (hwm x hx).2)

set_option maxRecDepth 100000 in
theorem MvccAnew_lifted (os : Os) (started : os.Started) (H : Type) (enc : TypeId × Value → H) :
    ReturnsInHanded {} Tryz.checked os 6 .any (Rows.mvccAnewSpec.pre6 enc Tryz.prog Tryz.f6 Rows.mvccAnewRow.domain false) (Rows.mvccAnewSpec.post enc Tryz.prog Tryz.f6 false true false false) := by
  exact lift_trueZ (C := Tryz.checked) (t := 4) own started (by kernel_rfl) Tryz.func6
    (ChangeSpec.witness6 (enc := enc) (C := Tryz.checked) false ⟨#[], #[.slice none 0 0, .slice none 0 0], []⟩ 8 (by kernel_rfl) (by kernel_rfl) (by kernel_rfl) (by kernel_rfl))
    laidOut (by kernel_rfl) (by kernel_rfl) Tryz.underlying4 rfl (fun ds h => by
    obtain ⟨a0, a1, rfl⟩ := list_2 h (by rw [Tryz.params6]; rfl)
    rfl) (MvccAnew_key enc)
theorem MvccAnew_holds : Rows.MvccAnewSaid :=
  OpenClaim.holds_of_wide 6 Tryz.f6 rfl rfl rfl rfl rfl rfl rfl ⟨rfl, rfl, rfl, rfl, rfl⟩ rfl rfl rfl rfl rfl (by kernel_rfl) Tryz.func6 (by kernel_rfl)
    (of_decide_eq_true (by kernel_rfl)) (by unfold Func.isWrapper; first | (rw [if_pos (by decide +kernel)]; kernel_rfl) | (rw [if_neg (by decide +kernel)]; exact ⟨rfl, rfl⟩))
    (fun os started H enc _ => MvccAnew_lifted os started H enc)

end Go.Proofs.YtpnfpndhdnmhkaaGreat
