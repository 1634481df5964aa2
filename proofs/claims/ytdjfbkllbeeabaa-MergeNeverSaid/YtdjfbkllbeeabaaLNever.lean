/- The statement of MergeNever. -/
import Derived.Test.YtdjfbkllbeeabaaL0
import Derived.Test.YtdjfbkllbeeabaaM5
import Derived.Test.YtdjfbkllbeeabaaSxY
import Derived.Test.YtdjfbkllbeeabaaRows
set_option linter.unusedSimpArgs false
set_option linter.unusedVariables false
namespace Go.Proofs.Ytdjfbkllbeeabaa
open Sx Go.ChangeShapes Go.WideShapes Go.ChangeAt Go.RowKit

theorem MergeNever_key {H : Type} (enc : TypeId × Value → H) (W : World) (args : Array Value) (h : ArgsZ enc Try.prog W Try.f4.params.toList args.toList) :
    Calls Try.prog 4 args W fun e W' => e = .returned (.bool true) ∧ Ext No W W' := by
  rw [Try.params4] at h
  obtain ⟨u0, us0, hargs, g0, r0⟩ := argsZ_cons h
  obtain ⟨u1, us1, rfl, g1, r1⟩ := argsZ_cons r0
  obtain ⟨u2, us2, rfl, g2, r2⟩ := argsZ_cons r1
  obtain rfl := argsZ_nil r2
  obtain ⟨most, rfl, hlmost, hbmost⟩ := argZ_int Try.underlying3 g0
  obtain ⟨ad, c, l, rfl, hs, hw, -, hlc, hzl⟩ := argZ_ops g1
  obtain ⟨more, rfl, hlmore, hbmore⟩ := argZ_int Try.underlying3 g2
  obtain rfl : args = #[.int .i64 most, .slice ad l.length c, .int .i64 more] := by cases args; simp_all
  exact Never_all l hs hw (by omega) most more

set_option maxRecDepth 100000 in
theorem MergeNever_lifted (os : Os) (started : os.Started) (H : Type) (enc : TypeId × Value → H) :
    ReturnsInHanded {} Try.checked os 4 .any (Rows.mergeNeverSpec.pre6 enc Try.prog Try.f4 Rows.mergeNeverRow.domain false) (Rows.mergeNeverSpec.post enc Try.prog Try.f4 false true false false) := by
  exact lift_trueZ (C := Try.checked) (t := 4) own started (by kernel_rfl) Try.func4
    (ChangeSpec.witness6 (enc := enc) (C := Try.checked) false ⟨#[], #[.int .i64 0, .slice none 0 0, .int .i64 0], []⟩ 8 (by kernel_rfl) (by kernel_rfl) (by kernel_rfl) (by kernel_rfl))
    laidOut (by kernel_rfl) (by kernel_rfl) Try.underlying4 rfl (fun ds h => by
    obtain ⟨a0, a1, a2, rfl⟩ := list_3 h (by rw [Try.params4]; rfl)
    rfl) (MergeNever_key enc)
theorem MergeNever_holds : Rows.MergeNeverSaid :=
  OpenClaim.holds_of_wide 4 Try.f4 rfl rfl rfl rfl rfl rfl rfl ⟨rfl, rfl, rfl, rfl, rfl⟩ rfl rfl rfl rfl rfl (by kernel_rfl) Try.func4 (by kernel_rfl)
    (of_decide_eq_true (by kernel_rfl)) (by unfold Func.isWrapper; first | (rw [if_pos (by decide +kernel)]; kernel_rfl) | (rw [if_neg (by decide +kernel)]; exact ⟨rfl, rfl⟩))
    (fun os started H enc _ => MergeNever_lifted os started H enc)

end Go.Proofs.Ytdjfbkllbeeabaa
