/- The statement of DirGroups. -/
import Derived.Test.YtakohabmcgponaaLZ0
import Derived.Test.YtakohabmcgponaaW15
import Derived.Test.YtakohabmcgponaaSxY
import Derived.Test.YtakohabmcgponaaRows
set_option linter.unusedSimpArgs false
set_option linter.unusedVariables false
namespace Go.Proofs.Ytakohabmcgponaa
open Sx Go.ChangeShapes Go.WideShapes Go.ChangeAt Go.RowKit

theorem DirGroups_key {H : Type} (enc : TypeId × Value → H) (W : World) (args : Array Value) (h : ArgsZ enc Try.prog W Try.f6.params.toList args.toList) :
    Calls Try.prog 6 args W fun e W' => e = .returned (.bool true) ∧ Ext No W W' := by
  rw [Try.params6] at h
  obtain ⟨u0, us0, hargs, g0, r0⟩ := argsZ_cons h
  obtain ⟨u1, us1, rfl, g1, r1⟩ := argsZ_cons r0
  obtain ⟨u2, us2, rfl, g2, r2⟩ := argsZ_cons r1
  obtain rfl := argsZ_nil r2
  obtain ⟨n, rfl, hln, hbn⟩ := argZ_int Try.underlying3 g0
  obtain ⟨ad, c, l, rfl, hs, hw, hlc, hln, hl⟩ := argZ_rgs g1
  obtain ⟨ad4, c4, ks, rfl, hs4, hkb, hks⟩ := argZ_strs g2
  obtain rfl : args = #[.int .i64 n, .slice ad l.length c, .slice ad4 ks.length c4] := by cases args; simp_all
  by_cases hn : n < 1 ∨ 12 < n
  · exact Groups_no n hn l ks hs4 (by omega) hkb
  · obtain ⟨m, rfl⟩ : ∃ m : Nat, n = (m : Int) := ⟨n.toNat, by omega⟩
    exact Groups_yes m (by omega) (by omega) l ks hs hs4 hw (by omega) hkb

set_option maxRecDepth 100000 in
theorem DirGroups_lifted (os : Os) (started : os.Started) (H : Type) (enc : TypeId × Value → H) :
    ReturnsInHanded {} Try.checked os 6 .any (Rows.dirGroupsSpec.pre6 enc Try.prog Try.f6 Rows.dirGroupsRow.domain false) (Rows.dirGroupsSpec.post enc Try.prog Try.f6 false true false false) := by
  exact lift_trueZ (C := Try.checked) (t := 4) own started (by kernel_rfl) Try.func6
    (ChangeSpec.witness6 (enc := enc) (C := Try.checked) false ⟨#[], #[.int .i64 0, .slice none 0 0, .slice none 0 0], []⟩ 8 (by kernel_rfl) (by kernel_rfl) (by kernel_rfl) (by kernel_rfl))
    laidOut (by kernel_rfl) (by kernel_rfl) Try.underlying4 rfl (fun ds h => by
    obtain ⟨a0, a1, a2, rfl⟩ := list_3 h (by rw [Try.params6]; rfl)
    rfl) (DirGroups_key enc)
theorem DirGroups_holds : Rows.DirGroupsSaid :=
  OpenClaim.holds_of_wide 6 Try.f6 rfl rfl rfl rfl rfl rfl rfl ⟨rfl, rfl, rfl, rfl, rfl⟩ rfl rfl rfl rfl rfl (by kernel_rfl) Try.func6 (by kernel_rfl)
    (of_decide_eq_true (by kernel_rfl)) (by unfold Func.isWrapper; first | (rw [if_pos (by decide +kernel)]; kernel_rfl) | (rw [if_neg (by decide +kernel)]; exact ⟨rfl, rfl⟩))
    (fun os started H enc _ => DirGroups_lifted os started H enc)

end Go.Proofs.Ytakohabmcgponaa
