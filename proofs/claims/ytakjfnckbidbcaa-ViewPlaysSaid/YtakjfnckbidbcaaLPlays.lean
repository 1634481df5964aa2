/- The statement of ViewPlays. -/
import Derived.Test.YtakjfnckbidbcaaL1
import Derived.Test.YtakjfnckbidbcaaSxY
import Derived.Test.YtakjfnckbidbcaaRows
set_option linter.unusedSimpArgs false
set_option linter.unusedVariables false
namespace Go.Proofs.Ytakjfnckbidbcaa
open Sx Go.ChangeShapes Go.WideShapes Go.ChangeAt Go.RowKit

theorem ViewPlays_key {H : Type} (enc : TypeId × Value → H) (W : World) (args : Array Value) (h : ArgsZ enc Try.prog W Try.f3.params.toList args.toList) :
    Calls Try.prog 3 args W fun e W' => e = .returned (.bool true) ∧ Ext No W W' := by
  rw [Try.params3] at h
  obtain ⟨u0, us0, hargs, g0, r0⟩ := argsZ_cons h
  obtain ⟨u1, us1, rfl, g1, r1⟩ := argsZ_cons r0
  obtain ⟨u2, us2, rfl, g2, r2⟩ := argsZ_cons r1
  obtain rfl := argsZ_nil r2
  obtain ⟨cut, rfl, hlcut, hbcut⟩ := argZ_int Try.underlying3 g0
  obtain ⟨ad, c, l, rfl, hs, hw, -, -, hzl⟩ := argZ_ents g1
  obtain ⟨nm, rfl, hbnm⟩ := argZ_str Try.underlying9 g2
  obtain rfl : args = #[.int .i64 cut, .slice ad l.length c, .string ⟨nm.toArray⟩] := by cases args; simp_all
  exact Plays_all cut l nm hs hw (by omega) hbnm

set_option maxRecDepth 100000 in
theorem ViewPlays_lifted (os : Os) (started : os.Started) (H : Type) (enc : TypeId × Value → H) :
    ReturnsInHanded {} Try.checked os 3 .any (Rows.viewPlaysSpec.pre6 enc Try.prog Try.f3 Rows.viewPlaysRow.domain false) (Rows.viewPlaysSpec.post enc Try.prog Try.f3 false true false false) := by
  exact lift_trueZ (C := Try.checked) (t := 4) own started (by kernel_rfl) Try.func3
    (ChangeSpec.witness6 (enc := enc) (C := Try.checked) false ⟨#[], #[.int .i64 0, .slice none 0 0, .string .empty], []⟩ 8 (by kernel_rfl) (by kernel_rfl) (by kernel_rfl) (by kernel_rfl))
    laidOut (by kernel_rfl) (by kernel_rfl) Try.underlying4 rfl (fun ds h => by
    obtain ⟨a0, a1, a2, rfl⟩ := list_3 h (by rw [Try.params3]; rfl)
    rfl) (ViewPlays_key enc)
theorem ViewPlays_holds : Rows.ViewPlaysSaid :=
  OpenClaim.holds_of_wide 3 Try.f3 rfl rfl rfl rfl rfl rfl rfl ⟨rfl, rfl, rfl, rfl, rfl⟩ rfl rfl rfl rfl rfl (by kernel_rfl) Try.func3 (by kernel_rfl)
    (of_decide_eq_true (by kernel_rfl)) (by unfold Func.isWrapper; first | (rw [if_pos (by decide +kernel)]; kernel_rfl) | (rw [if_neg (by decide +kernel)]; exact ⟨rfl, rfl⟩))
    (fun os started H enc _ => ViewPlays_lifted os started H enc)

end Go.Proofs.Ytakjfnckbidbcaa
