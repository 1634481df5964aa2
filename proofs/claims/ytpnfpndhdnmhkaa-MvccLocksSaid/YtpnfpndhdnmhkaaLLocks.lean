/- The statement of MvccLocks. -/
import Derived.Test.YtpnfpndhdnmhkaaL0
import Derived.Test.YtpnfpndhdnmhkaaK12
import Derived.Test.YtpnfpndhdnmhkaaSxY
import Derived.Test.YtpnfpndhdnmhkaaRows
set_option linter.unusedSimpArgs false
set_option linter.unusedVariables false
namespace Go.Proofs.Ytpnfpndhdnmhkaa
open Sx Go.ChangeShapes Go.WideShapes Go.ChangeAt Go.RowKit

theorem MvccLocks_key {H : Type} (enc : TypeId × Value → H) (W : World) (args : Array Value) (h : ArgsZ enc Try.prog W Try.f4.params.toList args.toList) :
    Calls Try.prog 4 args W fun e W' => e = .returned (.bool true) ∧ Ext No W W' := by
  rw [Try.params4] at h
  obtain ⟨u0, us0, hargs, g0, r0⟩ := argsZ_cons h
  obtain rfl := argsZ_nil r0
  obtain ⟨ad, c, l, rfl, hsl, hwl, -, -, hzl⟩ := argZ_ops g0
  obtain rfl : args = #[.slice ad l.length c] := by cases args; simp_all
  exact Locks_all l hsl (by omega) (fun x hx => (hwl x hx).1) (fun x hx => (hwl x hx).2)

set_option maxRecDepth 100000 in
theorem MvccLocks_lifted (os : Os) (started : os.Started) (H : Type) (enc : TypeId × Value → H) :
    ReturnsInHanded {} Try.checked os 4 .any (Rows.mvccLocksSpec.pre6 enc Try.prog Try.f4 Rows.mvccLocksRow.domain false) (Rows.mvccLocksSpec.post enc Try.prog Try.f4 false true false false) := by
  exact lift_trueZ (C := Try.checked) (t := 4) own started (by kernel_rfl) Try.func4
    (ChangeSpec.witness6 (enc := enc) (C := Try.checked) false ⟨#[], #[.slice none 0 0], []⟩ 8 (by kernel_rfl) (by kernel_rfl) (by kernel_rfl) (by kernel_rfl))
    laidOut (by kernel_rfl) (by kernel_rfl) Try.underlying4 rfl (fun ds h => by
    obtain ⟨a0, rfl⟩ := list_1 h (by rw [Try.params4]; rfl)
    rfl) (MvccLocks_key enc)
theorem MvccLocks_holds : Rows.MvccLocksSaid :=
  OpenClaim.holds_of_wide 4 Try.f4 rfl rfl rfl rfl rfl rfl rfl ⟨rfl, rfl, rfl, rfl, rfl⟩ rfl rfl rfl rfl rfl (by kernel_rfl) Try.func4 (by kernel_rfl)
    (of_decide_eq_true (by kernel_rfl)) (by unfold Func.isWrapper; first | (rw [if_pos (by decide +kernel)]; kernel_rfl) | (rw [if_neg (by decide +kernel)]; exact ⟨rfl, rfl⟩))
    (fun os started H enc _ => MvccLocks_lifted os started H enc)

end Go.Proofs.Ytpnfpndhdnmhkaa
