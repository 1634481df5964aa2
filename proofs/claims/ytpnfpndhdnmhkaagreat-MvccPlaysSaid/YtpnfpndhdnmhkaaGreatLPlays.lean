/- The statement of MvccPlays. -/
import Derived.Test.YtpnfpndhdnmhkaaGreatL0
import Derived.Test.YtpnfpndhdnmhkaaGreatK31
import Derived.Test.YtpnfpndhdnmhkaaGreatSxY
import Derived.Test.YtpnfpndhdnmhkaaGreatRows
set_option linter.unusedSimpArgs false
set_option linter.unusedVariables false
namespace Go.Proofs.YtpnfpndhdnmhkaaGreat
open Sx Go.ChangeShapes Go.WideShapes Go.ChangeAt Go.RowKit

theorem MvccPlays_key {H : Type} (enc : TypeId × Value → H) (W : World) (args : Array Value) (h : ArgsZ enc Tryz.prog W Tryz.f5.params.toList args.toList) :
    Calls Tryz.prog 5 args W fun e W' => e = .returned (.bool true) ∧ Ext No W W' := by
  rw [Tryz.params5] at h
  obtain ⟨u0, us0, hargs, g0, r0⟩ := argsZ_cons h
  obtain rfl := argsZ_nil r0
  obtain ⟨ad, c, l, rfl, hsl, hwl, -, -, hzl⟩ := argZ_ops g0
  obtain rfl : args = #[.slice ad l.length c] := by cases args; simp_all
  exact Plays_all l hsl (by omega) (fun x hx => (hwl x hx).1) (fun x hx => (hwl x hx).2)

set_option maxRecDepth 100000 in
theorem MvccPlays_lifted (os : Os) (started : os.Started) (H : Type) (enc : TypeId × Value → H) :
    ReturnsInHanded {} Tryz.checked os 5 .any (Rows.mvccPlaysSpec.pre6 enc Tryz.prog Tryz.f5 Rows.mvccPlaysRow.domain false) (Rows.mvccPlaysSpec.post enc Tryz.prog Tryz.f5 false true false false) := by
  exact lift_trueZ (C := Tryz.checked) (t := 4) own started (by kernel_rfl) Tryz.func5
    (ChangeSpec.witness6 (enc := enc) (C := Tryz.checked) false ⟨#[], #[.slice none 0 0], []⟩ 8 (by kernel_rfl) (by kernel_rfl) (by kernel_rfl) (by kernel_rfl))
    laidOut (by kernel_rfl) (by kernel_rfl) Tryz.underlying4 rfl (fun ds h => by
    obtain ⟨a0, rfl⟩ := list_1 h (by rw [Tryz.params5]; rfl)
    rfl) (MvccPlays_key enc)
theorem MvccPlays_holds : Rows.MvccPlaysSaid :=
  OpenClaim.holds_of_wide 5 Tryz.f5 rfl rfl rfl rfl rfl rfl rfl ⟨rfl, rfl, rfl, rfl, rfl⟩ rfl rfl rfl rfl rfl (by kernel_rfl) Tryz.func5 (by kernel_rfl)
    (of_decide_eq_true (by kernel_rfl)) (by unfold Func.isWrapper; first | (rw [if_pos (by decide +kernel)]; kernel_rfl) | (rw [if_neg (by decide +kernel)]; exact ⟨rfl, rfl⟩))
    (fun os started H enc _ => MvccPlays_lifted os started H enc)

end Go.Proofs.YtpnfpndhdnmhkaaGreat
