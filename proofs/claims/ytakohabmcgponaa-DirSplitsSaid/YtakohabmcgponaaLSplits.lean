/- The statement of DirSplits. -/
import Derived.Test.YtakohabmcgponaaL1
import Derived.Test.YtakohabmcgponaaW12
import Derived.Test.YtakohabmcgponaaSxP
import Derived.Test.YtakohabmcgponaaRows
set_option linter.unusedSimpArgs false
set_option linter.unusedVariables false
namespace Go.Proofs.Ytakohabmcgponaa
open Sx Go.ChangeShapes Go.WideShapes Go.ChangeAt Go.RowKit

theorem DirSplits_key {H : Type} (enc : TypeId × Value → H) (W : World) (args : Array Value) (h : Args enc Try.prog W Try.f3.params.toList args.toList) :
    Calls Try.prog 3 args W fun e W' => e = .returned (.bool true) ∧ Ext No W W' := by
  rw [Try.params3] at h
  obtain ⟨u0, us0, hargs, g0, r0⟩ := args_cons h
  obtain ⟨u1, us1, rfl, g1, r1⟩ := args_cons r0
  obtain ⟨u2, us2, rfl, g2, r2⟩ := args_cons r1
  obtain ⟨u3, us3, rfl, g3, r3⟩ := args_cons r2
  obtain ⟨u4, us4, rfl, g4, r4⟩ := args_cons r3
  obtain rfl := args_nil r4
  obtain ⟨n, rfl, hln, hbn⟩ := arg_int Try.underlying3 g0
  obtain ⟨ad1, c1, wh, rfl, hs1, hl1, hb1⟩ := arg_ints g1
  obtain ⟨ad2, c2, ps, rfl, hs2, hl2, hb2⟩ := arg_flts g2
  obtain ⟨ad3, c3, ts, rfl, hs3, hl3, hb3⟩ := arg_bools g3
  obtain ⟨ad4, c4, ks, rfl, hs4, hl4, hb4⟩ := arg_strs g4
  obtain rfl : args = #[.int .i64 n, .slice ad1 wh.length c1, .slice ad2 ps.length c2, .slice ad3 ts.length c3, .slice ad4 ks.length c4] := by cases args; simp_all
  by_cases hn : n < 1 ∨ 12 < n
  · exact Splits_no n hn wh ps ts ks hs1 hs2 hs3 hs4 hl4 hb4 hb2
  · obtain ⟨m, rfl⟩ : ∃ m : Nat, n = (m : Int) := ⟨n.toNat, by omega⟩
    exact Splits_yes m (by omega) (by omega) wh ps ts ks hs1 hs2 hs3 hs4 hl4 hb4 hb2

set_option maxRecDepth 100000 in
theorem DirSplits_lifted (os : Os) (started : os.Started) (H : Type) (enc : TypeId × Value → H) :
    ReturnsInHanded {} Try.checked os 3 .any (Rows.dirSplitsSpec.pre6 enc Try.prog Try.f3 Rows.dirSplitsRow.domain false) (Rows.dirSplitsSpec.post enc Try.prog Try.f3 false true false false) := by
  exact lift_true (C := Try.checked) (t := 4) own started (by kernel_rfl) Try.func3
    (ChangeSpec.witness6 (enc := enc) (C := Try.checked) false ⟨#[], #[.int .i64 0, .slice none 0 0, .slice none 0 0, .slice none 0 0, .slice none 0 0], []⟩ 8 (by kernel_rfl) (by kernel_rfl) (by kernel_rfl) (by kernel_rfl))
    laidOut (by kernel_rfl) (by kernel_rfl) Try.underlying4 rfl (fun ds h => by
    obtain ⟨a0, a1, a2, a3, a4, rfl⟩ := list_5 h (by rw [Try.params3]; rfl)
    rfl) (DirSplits_key enc)
theorem DirSplits_holds : Rows.DirSplitsSaid :=
  OpenClaim.holds_of_wide 3 Try.f3 rfl rfl rfl rfl rfl rfl rfl ⟨rfl, rfl, rfl, rfl, rfl⟩ rfl rfl rfl rfl rfl (by kernel_rfl) Try.func3 (by kernel_rfl)
    (of_decide_eq_true (by kernel_rfl)) (by unfold Func.isWrapper; first | (rw [if_pos (by decide +kernel)]; kernel_rfl) | (rw [if_neg (by decide +kernel)]; exact ⟨rfl, rfl⟩))
    (fun os started H enc _ => DirSplits_lifted os started H enc)

end Go.Proofs.Ytakohabmcgponaa
