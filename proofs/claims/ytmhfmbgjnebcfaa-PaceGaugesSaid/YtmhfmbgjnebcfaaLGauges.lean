/- The statement of PaceGauges. -/
import Derived.Test.YtmhfmbgjnebcfaaL0
import Derived.Test.YtmhfmbgjnebcfaaW7
import Derived.Test.YtmhfmbgjnebcfaaSxP
import Derived.Test.YtmhfmbgjnebcfaaRows
set_option linter.unusedSimpArgs false
set_option linter.unusedVariables false
namespace Go.Proofs.Ytmhfmbgjnebcfaa
open Sx Go.ChangeShapes Go.WideShapes Go.ChangeAt Go.RowKit

theorem PaceGauges_key {H : Type} (enc : TypeId × Value → H) (W : World) (args : Array Value) (h : Args enc Try.prog W Try.f9.params.toList args.toList) :
    Calls Try.prog 9 args W fun e W' => e = .returned (.bool true) ∧ Ext No W W' := by
  rw [Try.params9] at h
  obtain ⟨u0, us0, hargs, g0, r0⟩ := args_cons h
  obtain ⟨u1, us1, rfl, g1, r1⟩ := args_cons r0
  obtain rfl := args_nil r1
  obtain ⟨x1, rfl, hbx1⟩ := arg_flt g0
  obtain ⟨ad, c, l, rfl, hs, hl, hnil, hb⟩ := arg_flts g1
  obtain rfl : args = #[.float .f64 x1, .slice ad l.length c] := by cases args; simp_all
  cases hp : partF x1 with
  | true => exact Gauges_yes x1 ad c l W hs hl hp
  | false => exact Gauges_no x1 ad c l W hs hl hp

set_option maxRecDepth 100000 in
theorem PaceGauges_lifted (os : Os) (started : os.Started) (H : Type) (enc : TypeId × Value → H) :
    ReturnsInHanded {} Try.checked os 9 .any (Rows.paceGaugesSpec.pre6 enc Try.prog Try.f9 Rows.paceGaugesRow.domain false) (Rows.paceGaugesSpec.post enc Try.prog Try.f9 false true false false) := by
  exact lift_true (C := Try.checked) (t := 4) own started (by kernel_rfl) Try.func9
    (ChangeSpec.witness6 (enc := enc) (C := Try.checked) false ⟨#[], #[.float .f64 0, .slice none 0 0], []⟩ 8 (by kernel_rfl) (by kernel_rfl) (by kernel_rfl) (by kernel_rfl))
    laidOut (by kernel_rfl) (by kernel_rfl) Try.underlying4 rfl (fun ds h => by
    obtain ⟨a0, a1, rfl⟩ := list_2 h (by rw [Try.params9]; rfl)
    rfl) (PaceGauges_key enc)
theorem PaceGauges_holds : Rows.PaceGaugesSaid :=
  OpenClaim.holds_of_wide 9 Try.f9 rfl rfl rfl rfl rfl rfl rfl ⟨rfl, rfl, rfl, rfl, rfl⟩ rfl rfl rfl rfl rfl (by kernel_rfl) Try.func9 (by kernel_rfl)
    (of_decide_eq_true (by kernel_rfl)) (by unfold Func.isWrapper; first | (rw [if_pos (by decide +kernel)]; kernel_rfl) | (rw [if_neg (by decide +kernel)]; exact ⟨rfl, rfl⟩))
    (fun os started H enc _ => PaceGauges_lifted os started H enc)

end Go.Proofs.Ytmhfmbgjnebcfaa
