/- The statement of PaceStays. -/
import Derived.Test.YtmhfmbgjnebcfaaL0
import Derived.Test.YtmhfmbgjnebcfaaW10
import Derived.Test.YtmhfmbgjnebcfaaSxP
import Derived.Test.YtmhfmbgjnebcfaaRows
set_option linter.unusedSimpArgs false
set_option linter.unusedVariables false
namespace Go.Proofs.Ytmhfmbgjnebcfaa
open Sx Go.ChangeShapes Go.WideShapes Go.ChangeAt Go.RowKit

theorem PaceStays_key {H : Type} (enc : TypeId × Value → H) (W : World) (args : Array Value) (h : Args enc Try.prog W Try.f6.params.toList args.toList) :
    Calls Try.prog 6 args W fun e W' => e = .returned (.bool true) ∧ Ext No W W' := by
  rw [Try.params6] at h
  obtain ⟨u0, us0, hargs, g0, r0⟩ := args_cons h
  obtain ⟨u1, us1, rfl, g1, r1⟩ := args_cons r0
  obtain ⟨u2, us2, rfl, g2, r2⟩ := args_cons r1
  obtain ⟨u3, us3, rfl, g3, r3⟩ := args_cons r2
  obtain ⟨u4, us4, rfl, g4, r4⟩ := args_cons r3
  obtain rfl := args_nil r4
  obtain ⟨x1, rfl, hbx1⟩ := arg_flt g0
  obtain ⟨x2, rfl, hbx2⟩ := arg_flt g1
  obtain ⟨n, rfl, hln, hbn⟩ := arg_int Try.underlying3 g2
  obtain ⟨x3, rfl, hbx3⟩ := arg_flt g3
  obtain ⟨x4, rfl, hbx4⟩ := arg_flt g4
  obtain rfl : args = #[.float .f64 x1, .float .f64 x2, .int .i64 n, .float .f64 x3, .float .f64 x4] := by cases args; simp_all
  exact Stays_calls x1 x2 n x3 x4 hbx1 hbx2 hbx3 hbx4 hln hbn W

set_option maxRecDepth 100000 in
theorem PaceStays_lifted (os : Os) (started : os.Started) (H : Type) (enc : TypeId × Value → H) :
    ReturnsInHanded {} Try.checked os 6 .any (Rows.paceStaysSpec.pre6 enc Try.prog Try.f6 Rows.paceStaysRow.domain false) (Rows.paceStaysSpec.post enc Try.prog Try.f6 false true false false) := by
  exact lift_true (C := Try.checked) (t := 4) own started (by kernel_rfl) Try.func6
    (ChangeSpec.witness6 (enc := enc) (C := Try.checked) false ⟨#[], #[.float .f64 0, .float .f64 0, .int .i64 0, .float .f64 0, .float .f64 0], []⟩ 8 (by kernel_rfl) (by kernel_rfl) (by kernel_rfl) (by kernel_rfl))
    laidOut (by kernel_rfl) (by kernel_rfl) Try.underlying4 rfl (fun ds h => by
    obtain ⟨a0, a1, a2, a3, a4, rfl⟩ := list_5 h (by rw [Try.params6]; rfl)
    rfl) (PaceStays_key enc)
theorem PaceStays_holds : Rows.PaceStaysSaid :=
  OpenClaim.holds_of_wide 6 Try.f6 rfl rfl rfl rfl rfl rfl rfl ⟨rfl, rfl, rfl, rfl, rfl⟩ rfl rfl rfl rfl rfl (by kernel_rfl) Try.func6 (by kernel_rfl)
    (of_decide_eq_true (by kernel_rfl)) (by unfold Func.isWrapper; first | (rw [if_pos (by decide +kernel)]; kernel_rfl) | (rw [if_neg (by decide +kernel)]; exact ⟨rfl, rfl⟩))
    (fun os started H enc _ => PaceStays_lifted os started H enc)

end Go.Proofs.Ytmhfmbgjnebcfaa
