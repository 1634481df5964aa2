/- The statement of PaceSorts. -/
import Derived.Test.YtmhfmbgjnebcfaaL0
import Derived.Test.YtmhfmbgjnebcfaaW8
import Derived.Test.YtmhfmbgjnebcfaaSxP
import Derived.Test.YtmhfmbgjnebcfaaRows
set_option linter.unusedSimpArgs false
set_option linter.unusedVariables false
namespace Go.Proofs.Ytmhfmbgjnebcfaa
open Sx Go.ChangeShapes Go.WideShapes Go.ChangeAt Go.RowKit

theorem PaceSorts_key {H : Type} (enc : TypeId × Value → H) (W : World) (args : Array Value) (h : Args enc Try.prog W Try.f5.params.toList args.toList) :
    Calls Try.prog 5 args W fun e W' => e = .returned (.bool true) ∧ Ext No W W' := by
  rw [Try.params5] at h
  obtain ⟨u0, us0, hargs, g0, r0⟩ := args_cons h
  obtain rfl := args_nil r0
  obtain ⟨ad, c, l, rfl, hs, hl, hnil, hb⟩ := arg_flts g0
  obtain rfl : args = #[.slice ad l.length c] := by cases args; simp_all
  exact Sorts_calls ad c l W hs hl hnil hb

set_option maxRecDepth 100000 in
theorem PaceSorts_lifted (os : Os) (started : os.Started) (H : Type) (enc : TypeId × Value → H) :
    ReturnsInHanded {} Try.checked os 5 .any (Rows.paceSortsSpec.pre6 enc Try.prog Try.f5 Rows.paceSortsRow.domain false) (Rows.paceSortsSpec.post enc Try.prog Try.f5 false true false false) := by
  exact lift_true (C := Try.checked) (t := 4) own started (by kernel_rfl) Try.func5
    (ChangeSpec.witness6 (enc := enc) (C := Try.checked) false ⟨#[], #[.slice none 0 0], []⟩ 8 (by kernel_rfl) (by kernel_rfl) (by kernel_rfl) (by kernel_rfl))
    laidOut (by kernel_rfl) (by kernel_rfl) Try.underlying4 rfl (fun ds h => by
    obtain ⟨a0, rfl⟩ := list_1 h (by rw [Try.params5]; rfl)
    rfl) (PaceSorts_key enc)
theorem PaceSorts_holds : Rows.PaceSortsSaid :=
  OpenClaim.holds_of_wide 5 Try.f5 rfl rfl rfl rfl rfl rfl rfl ⟨rfl, rfl, rfl, rfl, rfl⟩ rfl rfl rfl rfl rfl (by kernel_rfl) Try.func5 (by kernel_rfl)
    (of_decide_eq_true (by kernel_rfl)) (by unfold Func.isWrapper; first | (rw [if_pos (by decide +kernel)]; kernel_rfl) | (rw [if_neg (by decide +kernel)]; exact ⟨rfl, rfl⟩))
    (fun os started H enc _ => PaceSorts_lifted os started H enc)

end Go.Proofs.Ytmhfmbgjnebcfaa
