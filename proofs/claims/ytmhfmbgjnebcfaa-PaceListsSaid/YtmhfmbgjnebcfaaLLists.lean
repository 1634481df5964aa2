/- The statement of PaceLists. -/
import Derived.Test.YtmhfmbgjnebcfaaL0
import Derived.Test.YtmhfmbgjnebcfaaW8
import Derived.Test.YtmhfmbgjnebcfaaSxP
import Derived.Test.YtmhfmbgjnebcfaaRows
set_option linter.unusedSimpArgs false
set_option linter.unusedVariables false
namespace Go.Proofs.Ytmhfmbgjnebcfaa
open Sx Go.ChangeShapes Go.WideShapes Go.ChangeAt Go.RowKit

theorem PaceLists_key {H : Type} (enc : TypeId × Value → H) (W : World) (args : Array Value) (h : Args enc Try.prog W Try.f8.params.toList args.toList) :
    Calls Try.prog 8 args W fun e W' => e = .returned (.bool true) ∧ Ext No W W' := by
  rw [Try.params8] at h
  obtain ⟨u0, us0, hargs, g0, r0⟩ := args_cons h
  obtain ⟨u1, us1, rfl, g1, r1⟩ := args_cons r0
  obtain rfl := args_nil r1
  obtain ⟨ad, c, l, rfl, hs, hl, hnil, hb⟩ := arg_flts g0
  obtain ⟨q, rfl, hbq⟩ := arg_flt g1
  obtain rfl : args = #[.slice ad l.length c, .float .f64 q] := by cases args; simp_all
  exact Lists_calls q hbq ad c l W hs hl hnil hb

set_option maxRecDepth 100000 in
theorem PaceLists_lifted (os : Os) (started : os.Started) (H : Type) (enc : TypeId × Value → H) :
    ReturnsInHanded {} Try.checked os 8 .any (Rows.paceListsSpec.pre6 enc Try.prog Try.f8 Rows.paceListsRow.domain false) (Rows.paceListsSpec.post enc Try.prog Try.f8 false true false false) := by
  exact lift_true (C := Try.checked) (t := 4) own started (by kernel_rfl) Try.func8
    (ChangeSpec.witness6 (enc := enc) (C := Try.checked) false ⟨#[], #[.slice none 0 0, .float .f64 0], []⟩ 8 (by kernel_rfl) (by kernel_rfl) (by kernel_rfl) (by kernel_rfl))
    laidOut (by kernel_rfl) (by kernel_rfl) Try.underlying4 rfl (fun ds h => by
    obtain ⟨a0, a1, rfl⟩ := list_2 h (by rw [Try.params8]; rfl)
    rfl) (PaceLists_key enc)
theorem PaceLists_holds : Rows.PaceListsSaid :=
  OpenClaim.holds_of_wide 8 Try.f8 rfl rfl rfl rfl rfl rfl rfl ⟨rfl, rfl, rfl, rfl, rfl⟩ rfl rfl rfl rfl rfl (by kernel_rfl) Try.func8 (by kernel_rfl)
    (of_decide_eq_true (by kernel_rfl)) (by unfold Func.isWrapper; first | (rw [if_pos (by decide +kernel)]; kernel_rfl) | (rw [if_neg (by decide +kernel)]; exact ⟨rfl, rfl⟩))
    (fun os started H enc _ => PaceLists_lifted os started H enc)

end Go.Proofs.Ytmhfmbgjnebcfaa
