/- The statement of DirAgain. -/
import Derived.Test.YtakohabmcgponaaL0
import Derived.Test.YtakohabmcgponaaW9
import Derived.Test.YtakohabmcgponaaSxP
import Derived.Test.YtakohabmcgponaaRows
set_option linter.unusedSimpArgs false
set_option linter.unusedVariables false
namespace Go.Proofs.Ytakohabmcgponaa
open Sx Go.ChangeShapes Go.WideShapes Go.ChangeAt Go.RowKit

theorem DirAgain_key {H : Type} (enc : TypeId × Value → H) (W : World) (args : Array Value) (h : Args enc Try.prog W Try.f4.params.toList args.toList) :
    Calls Try.prog 4 args W fun e W' => e = .returned (.bool true) ∧ Ext No W W' := by
  rw [Try.params4] at h
  obtain ⟨u0, us0, hargs, g0, r0⟩ := args_cons h
  obtain ⟨u1, us1, rfl, g1, r1⟩ := args_cons r0
  obtain rfl := args_nil r1
  obtain ⟨n, rfl, hln, hbn⟩ := arg_int Try.underlying3 g0
  obtain ⟨ad, c, l, rfl, hs, hl, hw⟩ := arg_rgs g1
  obtain rfl : args = #[.int .i64 n, .slice ad l.length c] := by cases args; simp_all
  by_cases hn : n < 1 ∨ 12 < n
  · exact Again_no n hn l W
  · obtain ⟨m, rfl⟩ : ∃ m : Nat, n = (m : Int) := ⟨n.toNat, by omega⟩
    exact Again_yes m (by omega) (by omega) l hs hl hw

set_option maxRecDepth 100000 in
theorem DirAgain_lifted (os : Os) (started : os.Started) (H : Type) (enc : TypeId × Value → H) :
    ReturnsInHanded {} Try.checked os 4 .any (Rows.dirAgainSpec.pre6 enc Try.prog Try.f4 Rows.dirAgainRow.domain false) (Rows.dirAgainSpec.post enc Try.prog Try.f4 false true false false) := by
  exact lift_true (C := Try.checked) (t := 4) own started (by kernel_rfl) Try.func4
    (ChangeSpec.witness6 (enc := enc) (C := Try.checked) false ⟨#[], #[.int .i64 0, .slice none 0 0], []⟩ 8 (by kernel_rfl) (by kernel_rfl) (by kernel_rfl) (by kernel_rfl))
    laidOut (by kernel_rfl) (by kernel_rfl) Try.underlying4 rfl (fun ds h => by
    obtain ⟨a0, a1, rfl⟩ := list_2 h (by rw [Try.params4]; rfl)
    rfl) (DirAgain_key enc)
theorem DirAgain_holds : Rows.DirAgainSaid :=
  OpenClaim.holds_of_wide 4 Try.f4 rfl rfl rfl rfl rfl rfl rfl ⟨rfl, rfl, rfl, rfl, rfl⟩ rfl rfl rfl rfl rfl (by kernel_rfl) Try.func4 (by kernel_rfl)
    (of_decide_eq_true (by kernel_rfl)) (by unfold Func.isWrapper; first | (rw [if_pos (by decide +kernel)]; kernel_rfl) | (rw [if_neg (by decide +kernel)]; exact ⟨rfl, rfl⟩))
    (fun os started H enc _ => DirAgain_lifted os started H enc)

end Go.Proofs.Ytakohabmcgponaa
