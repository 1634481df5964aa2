/- The statement of MvccLoads. -/
import Derived.Test.YtpnfpndhdnmhkaaGreatL0
import Derived.Test.YtpnfpndhdnmhkaaGreatK34
import Derived.Test.YtpnfpndhdnmhkaaGreatSxY
import Derived.Test.YtpnfpndhdnmhkaaGreatRows
set_option linter.unusedSimpArgs false
set_option linter.unusedVariables false
namespace Go.Proofs.YtpnfpndhdnmhkaaGreat
open Sx Go.ChangeShapes Go.WideShapes Go.ChangeAt Go.RowKit

theorem MvccLoads_key {H : Type} (enc : TypeId × Value → H) (W : World) (args : Array Value) (h : ArgsZ enc Tryz.prog W Tryz.f7.params.toList args.toList) :
    Calls Tryz.prog 7 args W fun e W' => e = .returned (.bool true) ∧ Ext No W W' := by
  rw [Tryz.params7] at h
  obtain ⟨u0, us0, hargs, g0, r0⟩ := argsZ_cons h
  obtain ⟨u1, us1, rfl, g1, r1⟩ := argsZ_cons r0
  obtain ⟨u2, us2, rfl, g2, r2⟩ := argsZ_cons r1
  obtain rfl := argsZ_nil r2
  obtain ⟨adh, ch, m, rfl, hsm, hwm, -, -, hzm⟩ := argZ_his g0
  obtain ⟨adp, cp, ps, rfl, hsps, hwps, -, -, hzps⟩ := argZ_pns g1
  obtain ⟨ad, c, l, rfl, hsl, hwl, -, -, hzl⟩ := argZ_ops g2
  obtain rfl : args = #[.slice adh m.length ch, .slice adp ps.length cp, .slice ad l.length c] := by cases args; simp_all
  by_cases hld : ldE (m.map Hs.p) (ps.map Pn.p) = 0
  · exact Loads_yes l hsl (by omega) (fun x hx => (hwl x hx).1) (fun x hx => (hwl x hx).2) m hsm (by omega) (fun x hx => (hwm x hx).1) (fun x hx => (hwm x hx).2) ps hsps (by omega) (fun x hx => (hwps x hx).1) (fun x hx => ⟨(hwps x hx).2.1, (hwps x hx).2.2.1⟩) hld
  · exact Loads_no l hsl (by omega) (fun x hx => (hwl x hx).1) (fun x hx => (hwl x hx).2) m hsm (by omega) (fun x hx => (hwm x hx).1) (fun x hx => (hwm x hx).2) ps hsps (by omega) (fun x hx => (hwps x hx).1) (fun x hx => ⟨(hwps x hx).2.1, (hwps x hx).2.2.1⟩) hld

set_option maxRecDepth 100000 in
theorem MvccLoads_lifted (os : Os) (started : os.Started) (H : Type) (enc : TypeId × Value → H) :
    ReturnsInHanded {} Tryz.checked os 7 .any (Rows.mvccLoadsSpec.pre6 enc Tryz.prog Tryz.f7 Rows.mvccLoadsRow.domain false) (Rows.mvccLoadsSpec.post enc Tryz.prog Tryz.f7 false true false false) := by
  exact lift_trueZ (C := Tryz.checked) (t := 4) own started (by kernel_rfl) Tryz.func7
    (ChangeSpec.witness6 (enc := enc) (C := Tryz.checked) false ⟨#[], #[.slice none 0 0, .slice none 0 0, .slice none 0 0], []⟩ 8 (by kernel_rfl) (by kernel_rfl) (by kernel_rfl) (by kernel_rfl))
    laidOut (by kernel_rfl) (by kernel_rfl) Tryz.underlying4 rfl (fun ds h => by
    obtain ⟨a0, a1, a2, rfl⟩ := list_3 h (by rw [Tryz.params7]; rfl)
    rfl) (MvccLoads_key enc)
theorem MvccLoads_holds : Rows.MvccLoadsSaid :=
  OpenClaim.holds_of_wide 7 Tryz.f7 rfl rfl rfl rfl rfl rfl rfl ⟨rfl, rfl, rfl, rfl, rfl⟩ rfl rfl rfl rfl rfl (by kernel_rfl) Tryz.func7 (by kernel_rfl)
    (of_decide_eq_true (by kernel_rfl)) (by unfold Func.isWrapper; first | (rw [if_pos (by decide +kernel)]; kernel_rfl) | (rw [if_neg (by decide +kernel)]; exact ⟨rfl, rfl⟩))
    (fun os started H enc _ => MvccLoads_lifted os started H enc)

end Go.Proofs.YtpnfpndhdnmhkaaGreat
