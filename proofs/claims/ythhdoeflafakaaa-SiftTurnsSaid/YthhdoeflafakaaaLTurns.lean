/- The statement of SiftTurns. -/
import Derived.Test.YthhdoeflafakaaaL0
import Derived.Test.YthhdoeflafakaaaS11
import Derived.Test.YthhdoeflafakaaaSxY
import Derived.Test.YthhdoeflafakaaaRows
set_option linter.unusedSimpArgs false
set_option linter.unusedVariables false
namespace Go.Proofs.Ythhdoeflafakaaa
open Sx Go.ChangeShapes Go.WideShapes Go.ChangeAt Go.RowKit

theorem SiftTurns_key {H : Type} (enc : TypeId × Value → H) (W : World) (args : Array Value) (h : ArgsZ enc Try.prog W Try.f6.params.toList args.toList) :
    Calls Try.prog 6 args W fun e W' => e = .returned (.bool true) ∧ Ext No W W' := by
  rw [Try.params6] at h
  obtain ⟨u0, us0, hargs, g0, r0⟩ := argsZ_cons h
  obtain ⟨u1, us1, rfl, g1, r1⟩ := argsZ_cons r0
  obtain rfl := argsZ_nil r1
  obtain ⟨ad, c, l, rfl, hs, hw, -, hlc, hzl⟩ := argZ_ops g0
  obtain ⟨at_, rfl⟩ := argZ_st g1
  obtain rfl : args = #[.slice ad l.length c, .agg (Stp.cells at_).toArray] := by cases args; simp_all
  exact Turns_all l hs hw (by omega) hlc at_

set_option maxRecDepth 100000 in
theorem SiftTurns_lifted (os : Os) (started : os.Started) (H : Type) (enc : TypeId × Value → H) :
    ReturnsInHanded {} Try.checked os 6 .any (Rows.siftTurnsSpec.pre6 enc Try.prog Try.f6 Rows.siftTurnsRow.domain false) (Rows.siftTurnsSpec.post enc Try.prog Try.f6 false true false false) := by
  exact lift_trueZ (C := Try.checked) (t := 4) own started (by kernel_rfl) Try.func6
    (ChangeSpec.witness6 (enc := enc) (C := Try.checked) false ⟨#[], #[.slice none 0 0, .agg #[.int .i64 0, .int .i64 0, .int .i64 0]], []⟩ 8 (by kernel_rfl) (by kernel_rfl) (by kernel_rfl) (by kernel_rfl))
    laidOut (by kernel_rfl) (by kernel_rfl) Try.underlying4 rfl (fun ds h => by
    obtain ⟨a0, a1, rfl⟩ := list_2 h (by rw [Try.params6]; rfl)
    rfl) (SiftTurns_key enc)
theorem SiftTurns_holds : Rows.SiftTurnsSaid :=
  OpenClaim.holds_of_wide 6 Try.f6 rfl rfl rfl rfl rfl rfl rfl ⟨rfl, rfl, rfl, rfl, rfl⟩ rfl rfl rfl rfl rfl (by kernel_rfl) Try.func6 (by kernel_rfl)
    (of_decide_eq_true (by kernel_rfl)) (by unfold Func.isWrapper; first | (rw [if_pos (by decide +kernel)]; kernel_rfl) | (rw [if_neg (by decide +kernel)]; exact ⟨rfl, rfl⟩))
    (fun os started H enc _ => SiftTurns_lifted os started H enc)

end Go.Proofs.Ythhdoeflafakaaa
