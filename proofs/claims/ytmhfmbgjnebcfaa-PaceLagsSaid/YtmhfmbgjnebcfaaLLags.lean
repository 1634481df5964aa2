/- The statement of PaceLags. -/
import Derived.Test.YtmhfmbgjnebcfaaL0
import Derived.Test.YtmhfmbgjnebcfaaW5
import Derived.Test.YtmhfmbgjnebcfaaSxP
import Derived.Test.YtmhfmbgjnebcfaaRows
set_option linter.unusedSimpArgs false
set_option linter.unusedVariables false
namespace Go.Proofs.Ytmhfmbgjnebcfaa
open Sx Go.ChangeShapes Go.WideShapes Go.ChangeAt Go.RowKit

theorem PaceLags_key {H : Type} (enc : TypeId × Value → H) (W : World) (args : Array Value) (h : Args enc Try.prog W Try.f7.params.toList args.toList) :
    Calls Try.prog 7 args W fun e W' => e = .returned (.bool true) ∧ Ext No W W' := by
  rw [Try.params7] at h
  obtain ⟨u0, us0, hargs, g0, r0⟩ := args_cons h
  obtain ⟨u1, us1, rfl, g1, r1⟩ := args_cons r0
  obtain ⟨u2, us2, rfl, g2, r2⟩ := args_cons r1
  obtain rfl := args_nil r2
  obtain ⟨s1, rfl⟩ := arg_stamp g0
  obtain ⟨s2, rfl⟩ := arg_stamp g1
  obtain ⟨n, rfl, hln, hbn⟩ := arg_int Try.underlying3 g2
  obtain rfl : args = #[.agg #[.int .i64 s1.wall, .int .i64 s1.logical, .int .i64 s1.node], .agg #[.int .i64 s2.wall, .int .i64 s2.logical, .int .i64 s2.node], .int .i64 n] := by cases args; simp_all
  exact Lags_calls s1 s2 n W

set_option maxRecDepth 100000 in
theorem PaceLags_lifted (os : Os) (started : os.Started) (H : Type) (enc : TypeId × Value → H) :
    ReturnsInHanded {} Try.checked os 7 .any (Rows.paceLagsSpec.pre6 enc Try.prog Try.f7 Rows.paceLagsRow.domain false) (Rows.paceLagsSpec.post enc Try.prog Try.f7 false true false false) := by
  exact lift_true (C := Try.checked) (t := 4) own started (by kernel_rfl) Try.func7
    (ChangeSpec.witness6 (enc := enc) (C := Try.checked) false ⟨#[], #[.agg #[.int .i64 0, .int .i64 0, .int .i64 0], .agg #[.int .i64 0, .int .i64 0, .int .i64 0], .int .i64 0], []⟩ 8 (by kernel_rfl) (by kernel_rfl) (by kernel_rfl) (by kernel_rfl))
    laidOut (by kernel_rfl) (by kernel_rfl) Try.underlying4 rfl (fun ds h => by
    obtain ⟨a0, a1, a2, rfl⟩ := list_3 h (by rw [Try.params7]; rfl)
    rfl) (PaceLags_key enc)
theorem PaceLags_holds : Rows.PaceLagsSaid :=
  OpenClaim.holds_of_wide 7 Try.f7 rfl rfl rfl rfl rfl rfl rfl ⟨rfl, rfl, rfl, rfl, rfl⟩ rfl rfl rfl rfl rfl (by kernel_rfl) Try.func7 (by kernel_rfl)
    (of_decide_eq_true (by kernel_rfl)) (by unfold Func.isWrapper; first | (rw [if_pos (by decide +kernel)]; kernel_rfl) | (rw [if_neg (by decide +kernel)]; exact ⟨rfl, rfl⟩))
    (fun os started H enc _ => PaceLags_lifted os started H enc)

end Go.Proofs.Ytmhfmbgjnebcfaa
