/- The statement of MergeTurns. -/
import Derived.Test.YtdjfbkllbeeabaaL0
import Derived.Test.YtdjfbkllbeeabaaM9
import Derived.Test.YtdjfbkllbeeabaaSxY
import Derived.Test.YtdjfbkllbeeabaaRows
set_option linter.unusedSimpArgs false
set_option linter.unusedVariables false
namespace Go.Proofs.Ytdjfbkllbeeabaa
open Sx Go.ChangeShapes Go.WideShapes Go.ChangeAt Go.RowKit

theorem MergeTurns_key {H : Type} (enc : TypeId × Value → H) (W : World) (args : Array Value) (h : ArgsZ enc Try.prog W Try.f3.params.toList args.toList) :
    Calls Try.prog 3 args W fun e W' => e = .returned (.bool true) ∧ Ext No W W' := by
  rw [Try.params3] at h
  obtain ⟨u0, us0, hargs, g0, r0⟩ := argsZ_cons h
  obtain rfl := argsZ_nil r0
  obtain ⟨ad, c, l, rfl, hs, hw, -, hlc, hzl⟩ := argZ_ops g0
  obtain rfl : args = #[.slice ad l.length c] := by cases args; simp_all
  exact Turns_all l hs hw (by omega)

set_option maxRecDepth 100000 in
theorem MergeTurns_lifted (os : Os) (started : os.Started) (H : Type) (enc : TypeId × Value → H) :
    ReturnsInHanded {} Try.checked os 3 .any (Rows.mergeTurnsSpec.pre6 enc Try.prog Try.f3 Rows.mergeTurnsRow.domain false) (Rows.mergeTurnsSpec.post enc Try.prog Try.f3 false true false false) := by
  exact lift_trueZ (C := Try.checked) (t := 4) own started (by kernel_rfl) Try.func3
    (ChangeSpec.witness6 (enc := enc) (C := Try.checked) false ⟨#[], #[.slice none 0 0], []⟩ 8 (by kernel_rfl) (by kernel_rfl) (by kernel_rfl) (by kernel_rfl))
    laidOut (by kernel_rfl) (by kernel_rfl) Try.underlying4 rfl (fun ds h => by
    obtain ⟨a0, rfl⟩ := list_1 h (by rw [Try.params3]; rfl)
    rfl) (MergeTurns_key enc)
theorem MergeTurns_holds : Rows.MergeTurnsSaid :=
  OpenClaim.holds_of_wide 3 Try.f3 rfl rfl rfl rfl rfl rfl rfl ⟨rfl, rfl, rfl, rfl, rfl⟩ rfl rfl rfl rfl rfl (by kernel_rfl) Try.func3 (by kernel_rfl)
    (of_decide_eq_true (by kernel_rfl)) (by unfold Func.isWrapper; first | (rw [if_pos (by decide +kernel)]; kernel_rfl) | (rw [if_neg (by decide +kernel)]; exact ⟨rfl, rfl⟩))
    (fun os started H enc _ => MergeTurns_lifted os started H enc)

end Go.Proofs.Ytdjfbkllbeeabaa
