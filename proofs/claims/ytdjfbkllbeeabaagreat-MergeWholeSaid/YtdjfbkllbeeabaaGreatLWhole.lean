/- The statement of MergeWhole. -/
import Derived.Test.YtdjfbkllbeeabaaGreatL0
import Derived.Test.YtdjfbkllbeeabaaGreatM12
import Derived.Test.YtdjfbkllbeeabaaGreatSxY
import Derived.Test.YtdjfbkllbeeabaaGreatRows
set_option linter.unusedSimpArgs false
set_option linter.unusedVariables false
namespace Go.Proofs.YtdjfbkllbeeabaaGreat
open Sx Go.ChangeShapes Go.WideShapes Go.ChangeAt Go.RowKit

theorem MergeWhole_key {H : Type} (enc : TypeId × Value → H) (W : World) (args : Array Value) (h : ArgsZ enc Tryz.prog W Tryz.f4.params.toList args.toList) :
    Calls Tryz.prog 4 args W fun e W' => e = .returned (.bool true) ∧ Ext No W W' := by
  rw [Tryz.params4] at h
  obtain ⟨u0, us0, hargs, g0, r0⟩ := argsZ_cons h
  obtain ⟨u1, us1, rfl, g1, r1⟩ := argsZ_cons r0
  obtain rfl := argsZ_nil r1
  obtain ⟨most, rfl, hlmost, hbmost⟩ := argZ_int Tryz.underlying3 g0
  obtain ⟨ad, c, l, rfl, hs, hw, -, hlc, hzl⟩ := argZ_ops g1
  obtain rfl : args = #[.int .i64 most, .slice ad l.length c] := by cases args; simp_all
  exact Whole_all l hs hw (by omega) most

set_option maxRecDepth 100000 in
theorem MergeWhole_lifted (os : Os) (started : os.Started) (H : Type) (enc : TypeId × Value → H) :
    ReturnsInHanded {} Tryz.checked os 4 .any (Rows.mergeWholeSpec.pre6 enc Tryz.prog Tryz.f4 Rows.mergeWholeRow.domain false) (Rows.mergeWholeSpec.post enc Tryz.prog Tryz.f4 false true false false) := by
  exact lift_trueZ (C := Tryz.checked) (t := 4) own started (by kernel_rfl) Tryz.func4
    (ChangeSpec.witness6 (enc := enc) (C := Tryz.checked) false ⟨#[], #[.int .i64 0, .slice none 0 0], []⟩ 8 (by kernel_rfl) (by kernel_rfl) (by kernel_rfl) (by kernel_rfl))
    laidOut (by kernel_rfl) (by kernel_rfl) Tryz.underlying4 rfl (fun ds h => by
    obtain ⟨a0, a1, rfl⟩ := list_2 h (by rw [Tryz.params4]; rfl)
    rfl) (MergeWhole_key enc)
theorem MergeWhole_holds : Rows.MergeWholeSaid :=
  OpenClaim.holds_of_wide 4 Tryz.f4 rfl rfl rfl rfl rfl rfl rfl ⟨rfl, rfl, rfl, rfl, rfl⟩ rfl rfl rfl rfl rfl (by kernel_rfl) Tryz.func4 (by kernel_rfl)
    (of_decide_eq_true (by kernel_rfl)) (by unfold Func.isWrapper; first | (rw [if_pos (by decide +kernel)]; kernel_rfl) | (rw [if_neg (by decide +kernel)]; exact ⟨rfl, rfl⟩))
    (fun os started H enc _ => MergeWhole_lifted os started H enc)

end Go.Proofs.YtdjfbkllbeeabaaGreat
