/- The statement of MergeHigh. -/
import Derived.Test.YtdjfbkllbeeabaaL0
import Derived.Test.YtdjfbkllbeeabaaM7
import Derived.Test.YtdjfbkllbeeabaaSxY
import Derived.Test.YtdjfbkllbeeabaaRows
set_option linter.unusedSimpArgs false
set_option linter.unusedVariables false
namespace Go.Proofs.Ytdjfbkllbeeabaa
open Sx Go.ChangeShapes Go.WideShapes Go.ChangeAt Go.RowKit

theorem MergeHigh_key {H : Type} (enc : TypeId × Value → H) (W : World) (args : Array Value) (h : ArgsZ enc Try.prog W Try.f5.params.toList args.toList) :
    Calls Try.prog 5 args W fun e W' => e = .returned (.bool true) ∧ Ext No W W' := by
  rw [Try.params5] at h
  obtain ⟨u0, us0, hargs, g0, r0⟩ := argsZ_cons h
  obtain ⟨u1, us1, rfl, g1, r1⟩ := argsZ_cons r0
  obtain ⟨u2, us2, rfl, g2, r2⟩ := argsZ_cons r1
  obtain rfl := argsZ_nil r2
  obtain ⟨most, rfl, hlmost, hbmost⟩ := argZ_int Try.underlying3 g0
  obtain ⟨h0, rfl⟩ := argZ_st g1
  obtain ⟨ad, c, l, rfl, hs, hw, -, hlc, hzl⟩ := argZ_ops g2
  obtain rfl : args = #[.int .i64 most, .agg (Stp.cells h0).toArray, .slice ad l.length c] := by cases args; simp_all
  exact High_all l hs hw (by omega) most h0

set_option maxRecDepth 100000 in
theorem MergeHigh_lifted (os : Os) (started : os.Started) (H : Type) (enc : TypeId × Value → H) :
    ReturnsInHanded {} Try.checked os 5 .any (Rows.mergeHighSpec.pre6 enc Try.prog Try.f5 Rows.mergeHighRow.domain false) (Rows.mergeHighSpec.post enc Try.prog Try.f5 false true false false) := by
  exact lift_trueZ (C := Try.checked) (t := 4) own started (by kernel_rfl) Try.func5
    (ChangeSpec.witness6 (enc := enc) (C := Try.checked) false ⟨#[], #[.int .i64 0, .agg #[.int .i64 0, .int .i64 0, .int .i64 0], .slice none 0 0], []⟩ 8 (by kernel_rfl) (by kernel_rfl) (by kernel_rfl) (by kernel_rfl))
    laidOut (by kernel_rfl) (by kernel_rfl) Try.underlying4 rfl (fun ds h => by
    obtain ⟨a0, a1, a2, rfl⟩ := list_3 h (by rw [Try.params5]; rfl)
    rfl) (MergeHigh_key enc)
theorem MergeHigh_holds : Rows.MergeHighSaid :=
  OpenClaim.holds_of_wide 5 Try.f5 rfl rfl rfl rfl rfl rfl rfl ⟨rfl, rfl, rfl, rfl, rfl⟩ rfl rfl rfl rfl rfl (by kernel_rfl) Try.func5 (by kernel_rfl)
    (of_decide_eq_true (by kernel_rfl)) (by unfold Func.isWrapper; first | (rw [if_pos (by decide +kernel)]; kernel_rfl) | (rw [if_neg (by decide +kernel)]; exact ⟨rfl, rfl⟩))
    (fun os started H enc _ => MergeHigh_lifted os started H enc)

end Go.Proofs.Ytdjfbkllbeeabaa
