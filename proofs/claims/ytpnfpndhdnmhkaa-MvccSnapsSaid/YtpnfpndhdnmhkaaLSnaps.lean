/- The statement of MvccSnaps. -/
import Derived.Test.YtpnfpndhdnmhkaaL0
import Derived.Test.YtpnfpndhdnmhkaaK13
import Derived.Test.YtpnfpndhdnmhkaaSxY
import Derived.Test.YtpnfpndhdnmhkaaRows
set_option linter.unusedSimpArgs false
set_option linter.unusedVariables false
namespace Go.Proofs.Ytpnfpndhdnmhkaa
open Sx Go.ChangeShapes Go.WideShapes Go.ChangeAt Go.RowKit

theorem MvccSnaps_key {H : Type} (enc : TypeId × Value → H) (W : World) (args : Array Value) (h : ArgsZ enc Try.prog W Try.f6.params.toList args.toList) :
    Calls Try.prog 6 args W fun e W' => e = .returned (.bool true) ∧ Ext No W W' := by
  rw [Try.params6] at h
  obtain ⟨u0, us0, hargs, g0, r0⟩ := argsZ_cons h
  obtain ⟨u1, us1, rfl, g1, r1⟩ := argsZ_cons r0
  obtain rfl := argsZ_nil r1
  obtain ⟨ad, c, l, rfl, hsl, hwl, -, -, hzl⟩ := argZ_ops g0
  obtain ⟨at_, rfl, -⟩ := argZ_st g1
  obtain rfl : args = #[.slice ad l.length c, Value.agg #[.int .i64 at_.w, .int .i64 at_.l, .int .i64 at_.n]] := by cases args; simp_all
  exact Snaps_all l hsl (by omega) (fun x hx => (hwl x hx).1) (fun x hx => (hwl x hx).2) at_

set_option maxRecDepth 100000 in
theorem MvccSnaps_lifted (os : Os) (started : os.Started) (H : Type) (enc : TypeId × Value → H) :
    ReturnsInHanded {} Try.checked os 6 .any (Rows.mvccSnapsSpec.pre6 enc Try.prog Try.f6 Rows.mvccSnapsRow.domain false) (Rows.mvccSnapsSpec.post enc Try.prog Try.f6 false true false false) := by
  exact lift_trueZ (C := Try.checked) (t := 4) own started (by kernel_rfl) Try.func6
    (ChangeSpec.witness6 (enc := enc) (C := Try.checked) false ⟨#[], #[.slice none 0 0, .agg #[.int .i64 0, .int .i64 0, .int .i64 0]], []⟩ 8 (by kernel_rfl) (by kernel_rfl) (by kernel_rfl) (by kernel_rfl))
    laidOut (by kernel_rfl) (by kernel_rfl) Try.underlying4 rfl (fun ds h => by
    obtain ⟨a0, a1, rfl⟩ := list_2 h (by rw [Try.params6]; rfl)
    rfl) (MvccSnaps_key enc)
theorem MvccSnaps_holds : Rows.MvccSnapsSaid :=
  OpenClaim.holds_of_wide 6 Try.f6 rfl rfl rfl rfl rfl rfl rfl ⟨rfl, rfl, rfl, rfl, rfl⟩ rfl rfl rfl rfl rfl (by kernel_rfl) Try.func6 (by kernel_rfl)
    (of_decide_eq_true (by kernel_rfl)) (by unfold Func.isWrapper; first | (rw [if_pos (by decide +kernel)]; kernel_rfl) | (rw [if_neg (by decide +kernel)]; exact ⟨rfl, rfl⟩))
    (fun os started H enc _ => MvccSnaps_lifted os started H enc)

end Go.Proofs.Ytpnfpndhdnmhkaa
