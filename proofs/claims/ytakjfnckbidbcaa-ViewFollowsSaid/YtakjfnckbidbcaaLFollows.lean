/- The statement of ViewFollows. -/
import Derived.Test.YtakjfnckbidbcaaL1
import Derived.Test.YtakjfnckbidbcaaV19
import Derived.Test.YtakjfnckbidbcaaSxY
import Derived.Test.YtakjfnckbidbcaaRows
set_option linter.unusedSimpArgs false
set_option linter.unusedVariables false
namespace Go.Proofs.Ytakjfnckbidbcaa
open Sx Go.ChangeShapes Go.WideShapes Go.ChangeAt Go.RowKit

theorem ViewFollows_key {H : Type} (enc : TypeId × Value → H) (W : World) (args : Array Value) (h : ArgsZ enc Try.prog W Try.f4.params.toList args.toList) :
    Calls Try.prog 4 args W fun e W' => e = .returned (.bool true) ∧ Ext No W W' := by
  rw [Try.params4] at h
  obtain ⟨u0, us0, hargs, g0, r0⟩ := argsZ_cons h
  obtain ⟨u1, us1, rfl, g1, r1⟩ := argsZ_cons r0
  obtain rfl := argsZ_nil r1
  obtain ⟨cut, rfl, hlcut, hbcut⟩ := argZ_int Try.underlying3 g0
  obtain ⟨ad, c, l, rfl, hs, hw, -, -, hzl⟩ := argZ_ents g1
  obtain rfl : args = #[.int .i64 cut, .slice ad l.length c] := by cases args; simp_all
  exact Follows_all cut l hs hw (by omega)

set_option maxRecDepth 100000 in
theorem ViewFollows_lifted (os : Os) (started : os.Started) (H : Type) (enc : TypeId × Value → H) :
    ReturnsInHanded {} Try.checked os 4 .any (Rows.viewFollowsSpec.pre6 enc Try.prog Try.f4 Rows.viewFollowsRow.domain false) (Rows.viewFollowsSpec.post enc Try.prog Try.f4 false true false false) := by
  exact lift_trueZ (C := Try.checked) (t := 4) own started (by kernel_rfl) Try.func4
    (ChangeSpec.witness6 (enc := enc) (C := Try.checked) false ⟨#[], #[.int .i64 0, .slice none 0 0], []⟩ 8 (by kernel_rfl) (by kernel_rfl) (by kernel_rfl) (by kernel_rfl))
    laidOut (by kernel_rfl) (by kernel_rfl) Try.underlying4 rfl (fun ds h => by
    obtain ⟨a0, a1, rfl⟩ := list_2 h (by rw [Try.params4]; rfl)
    rfl) (ViewFollows_key enc)
theorem ViewFollows_holds : Rows.ViewFollowsSaid :=
  OpenClaim.holds_of_wide 4 Try.f4 rfl rfl rfl rfl rfl rfl rfl ⟨rfl, rfl, rfl, rfl, rfl⟩ rfl rfl rfl rfl rfl (by kernel_rfl) Try.func4 (by kernel_rfl)
    (of_decide_eq_true (by kernel_rfl)) (by unfold Func.isWrapper; first | (rw [if_pos (by decide +kernel)]; kernel_rfl) | (rw [if_neg (by decide +kernel)]; exact ⟨rfl, rfl⟩))
    (fun os started H enc _ => ViewFollows_lifted os started H enc)

end Go.Proofs.Ytakjfnckbidbcaa
