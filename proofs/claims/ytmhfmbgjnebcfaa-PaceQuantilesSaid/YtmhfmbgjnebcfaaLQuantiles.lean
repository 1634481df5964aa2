/- The statement of PaceQuantiles. -/
import Derived.Test.YtmhfmbgjnebcfaaL0
import Derived.Test.YtmhfmbgjnebcfaaW9
import Derived.Test.YtmhfmbgjnebcfaaSxP
import Derived.Test.YtmhfmbgjnebcfaaRows
set_option linter.unusedSimpArgs false
set_option linter.unusedVariables false
namespace Go.Proofs.Ytmhfmbgjnebcfaa
open Sx Go.ChangeShapes Go.WideShapes Go.ChangeAt Go.RowKit

theorem PaceQuantiles_key {H : Type} (enc : TypeId × Value → H) (W : World) (args : Array Value) (h : Args enc Try.prog W Try.f4.params.toList args.toList) :
    Calls Try.prog 4 args W fun e W' => e = .returned (.bool true) ∧ Ext No W W' := by
  rw [Try.params4] at h
  obtain ⟨u0, us0, hargs, g0, r0⟩ := args_cons h
  obtain ⟨u1, us1, rfl, g1, r1⟩ := args_cons r0
  obtain ⟨u2, us2, rfl, g2, r2⟩ := args_cons r1
  obtain rfl := args_nil r2
  obtain ⟨ad, c, l, rfl, hs, hl, hnil, hb⟩ := arg_flts g0
  obtain ⟨p, rfl, hbp⟩ := arg_flt g1
  obtain ⟨q, rfl, hbq⟩ := arg_flt g2
  obtain rfl : args = #[.slice ad l.length c, .float .f64 p, .float .f64 q] := by cases args; simp_all
  exact Quantiles_calls p q hbp hbq ad c l W hs hl hb

set_option maxRecDepth 100000 in
theorem PaceQuantiles_lifted (os : Os) (started : os.Started) (H : Type) (enc : TypeId × Value → H) :
    ReturnsInHanded {} Try.checked os 4 .any (Rows.paceQuantilesSpec.pre6 enc Try.prog Try.f4 Rows.paceQuantilesRow.domain false) (Rows.paceQuantilesSpec.post enc Try.prog Try.f4 false true false false) := by
  exact lift_true (C := Try.checked) (t := 4) own started (by kernel_rfl) Try.func4
    (ChangeSpec.witness6 (enc := enc) (C := Try.checked) false ⟨#[], #[.slice none 0 0, .float .f64 0, .float .f64 0], []⟩ 8 (by kernel_rfl) (by kernel_rfl) (by kernel_rfl) (by kernel_rfl))
    laidOut (by kernel_rfl) (by kernel_rfl) Try.underlying4 rfl (fun ds h => by
    obtain ⟨a0, a1, a2, rfl⟩ := list_3 h (by rw [Try.params4]; rfl)
    rfl) (PaceQuantiles_key enc)
theorem PaceQuantiles_holds : Rows.PaceQuantilesSaid :=
  OpenClaim.holds_of_wide 4 Try.f4 rfl rfl rfl rfl rfl rfl rfl ⟨rfl, rfl, rfl, rfl, rfl⟩ rfl rfl rfl rfl rfl (by kernel_rfl) Try.func4 (by kernel_rfl)
    (of_decide_eq_true (by kernel_rfl)) (by unfold Func.isWrapper; first | (rw [if_pos (by decide +kernel)]; kernel_rfl) | (rw [if_neg (by decide +kernel)]; exact ⟨rfl, rfl⟩))
    (fun os started H enc _ => PaceQuantiles_lifted os started H enc)

end Go.Proofs.Ytmhfmbgjnebcfaa
