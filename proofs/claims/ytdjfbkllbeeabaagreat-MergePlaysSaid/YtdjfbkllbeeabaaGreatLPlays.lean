/- The statement of MergePlays. -/
import Derived.Test.YtdjfbkllbeeabaaGreatL0
import Derived.Test.YtdjfbkllbeeabaaGreatM19
import Derived.Test.YtdjfbkllbeeabaaGreatSxY
import Derived.Test.YtdjfbkllbeeabaaGreatRows
set_option linter.unusedSimpArgs false
set_option linter.unusedVariables false
namespace Go.Proofs.YtdjfbkllbeeabaaGreat
open Sx Go.ChangeShapes Go.WideShapes Go.ChangeAt Go.RowKit

theorem MergePlays_key {H : Type} (enc : TypeId × Value → H) (W : World) (args : Array Value) (h : ArgsZ enc Tryz.prog W Tryz.f3.params.toList args.toList) :
    Calls Tryz.prog 3 args W fun e W' => e = .returned (.bool true) ∧ Ext No W W' := by
  rw [Tryz.params3] at h
  obtain ⟨u0, us0, hargs, g0, r0⟩ := argsZ_cons h
  obtain ⟨u1, us1, rfl, g1, r1⟩ := argsZ_cons r0
  obtain ⟨u2, us2, rfl, g2, r2⟩ := argsZ_cons r1
  obtain rfl := argsZ_nil r2
  obtain ⟨most, rfl, hlmost, hbmost⟩ := argZ_int Tryz.underlying3 g0
  obtain ⟨h0, rfl⟩ := argZ_st g1
  obtain ⟨ad, c, l, rfl, hs, hw, -, hlc, hzl⟩ := argZ_ops g2
  obtain rfl : args = #[.int .i64 most, .agg (Stp.cells h0).toArray, .slice ad l.length c] := by cases args; simp_all
  exact Plays_all l hs hw (by omega) most h0

set_option maxRecDepth 100000 in
theorem MergePlays_lifted (os : Os) (started : os.Started) (H : Type) (enc : TypeId × Value → H) :
    ReturnsInHanded {} Tryz.checked os 3 .any (Rows.mergePlaysSpec.pre6 enc Tryz.prog Tryz.f3 Rows.mergePlaysRow.domain false) (Rows.mergePlaysSpec.post enc Tryz.prog Tryz.f3 false true false false) := by
  exact lift_trueZ (C := Tryz.checked) (t := 4) own started (by kernel_rfl) Tryz.func3
    (ChangeSpec.witness6 (enc := enc) (C := Tryz.checked) false ⟨#[], #[.int .i64 0, .agg #[.int .i64 0, .int .i64 0, .int .i64 0], .slice none 0 0], []⟩ 8 (by kernel_rfl) (by kernel_rfl) (by kernel_rfl) (by kernel_rfl))
    laidOut (by kernel_rfl) (by kernel_rfl) Tryz.underlying4 rfl (fun ds h => by
    obtain ⟨a0, a1, a2, rfl⟩ := list_3 h (by rw [Tryz.params3]; rfl)
    rfl) (MergePlays_key enc)
theorem MergePlays_holds : Rows.MergePlaysSaid :=
  OpenClaim.holds_of_wide 3 Tryz.f3 rfl rfl rfl rfl rfl rfl rfl ⟨rfl, rfl, rfl, rfl, rfl⟩ rfl rfl rfl rfl rfl (by kernel_rfl) Tryz.func3 (by kernel_rfl)
    (of_decide_eq_true (by kernel_rfl)) (by unfold Func.isWrapper; first | (rw [if_pos (by decide +kernel)]; kernel_rfl) | (rw [if_neg (by decide +kernel)]; exact ⟨rfl, rfl⟩))
    (fun os started H enc _ => MergePlays_lifted os started H enc)

end Go.Proofs.YtdjfbkllbeeabaaGreat
