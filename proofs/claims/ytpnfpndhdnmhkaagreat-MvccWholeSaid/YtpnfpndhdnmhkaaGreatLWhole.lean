/- The statement of MvccWhole. -/
import Derived.Test.YtpnfpndhdnmhkaaGreatL0
import Derived.Test.YtpnfpndhdnmhkaaGreatK18
import Derived.Test.YtpnfpndhdnmhkaaGreatSxY
import Derived.Test.YtpnfpndhdnmhkaaGreatRows
set_option linter.unusedSimpArgs false
set_option linter.unusedVariables false
namespace Go.Proofs.YtpnfpndhdnmhkaaGreat
open Sx Go.ChangeShapes Go.WideShapes Go.ChangeAt Go.RowKit

theorem MvccWhole_key {H : Type} (enc : TypeId × Value → H) (W : World) (args : Array Value) (h : ArgsZ enc Tryz.prog W Tryz.f4.params.toList args.toList) :
    Calls Tryz.prog 4 args W fun e W' => e = .returned (.bool true) ∧ Ext No W W' := by
  rw [Tryz.params4] at h
  obtain ⟨u0, us0, hargs, g0, r0⟩ := argsZ_cons h
  obtain ⟨u1, us1, rfl, g1, r1⟩ := argsZ_cons r0
  obtain ⟨u2, us2, rfl, g2, r2⟩ := argsZ_cons r1
  obtain ⟨u3, us3, rfl, g3, r3⟩ := argsZ_cons r2
  obtain rfl := argsZ_nil r3
  obtain ⟨ad, c, l, rfl, hsl, hwl, -, -, hzl⟩ := argZ_ops g0
  obtain ⟨x, rfl, ⟨hs1, hs2⟩, hpt, hpb, hpn1, hpn2⟩ := argZ_pn g1
  obtain ⟨f1, rfl⟩ := argZ_bool Tryz.underlying4 g2
  obtain ⟨at_, rfl, -⟩ := argZ_st g3
  obtain rfl : args = #[.slice ad l.length c, Value.agg #[.int .i64 x.t.co, .int .i64 x.t.li, .int .i64 x.t.sq, .int .i64 x.s.w, .int .i64 x.s.l, .int .i64 x.s.n, .slice x.ra x.rs.length x.rc, .slice x.wa x.ws.length x.wc], .bool f1, Value.agg #[.int .i64 at_.w, .int .i64 at_.l, .int .i64 at_.n]] := by cases args; simp_all
  exact Whole_all x f1 at_ l hsl (by omega) (fun x hx => (hwl x hx).1) (fun x hx => (hwl x hx).2) hs1 hs2 hpt hpb hpn1 hpn2

set_option maxRecDepth 100000 in
theorem MvccWhole_lifted (os : Os) (started : os.Started) (H : Type) (enc : TypeId × Value → H) :
    ReturnsInHanded {} Tryz.checked os 4 .any (Rows.mvccWholeSpec.pre6 enc Tryz.prog Tryz.f4 Rows.mvccWholeRow.domain false) (Rows.mvccWholeSpec.post enc Tryz.prog Tryz.f4 false true false false) := by
  exact lift_trueZ (C := Tryz.checked) (t := 4) own started (by kernel_rfl) Tryz.func4
    (ChangeSpec.witness6 (enc := enc) (C := Tryz.checked) false ⟨#[], #[.slice none 0 0, .agg #[.int .i64 0, .int .i64 0, .int .i64 0, .int .i64 0, .int .i64 0, .int .i64 0, .slice none 0 0, .slice none 0 0], .bool false, .agg #[.int .i64 0, .int .i64 0, .int .i64 0]], []⟩ 8 (by kernel_rfl) (by kernel_rfl) (by kernel_rfl) (by kernel_rfl))
    laidOut (by kernel_rfl) (by kernel_rfl) Tryz.underlying4 rfl (fun ds h => by
    obtain ⟨a0, a1, a2, a3, rfl⟩ := list_4 h (by rw [Tryz.params4]; rfl)
    rfl) (MvccWhole_key enc)
theorem MvccWhole_holds : Rows.MvccWholeSaid :=
  OpenClaim.holds_of_wide 4 Tryz.f4 rfl rfl rfl rfl rfl rfl rfl ⟨rfl, rfl, rfl, rfl, rfl⟩ rfl rfl rfl rfl rfl (by kernel_rfl) Tryz.func4 (by kernel_rfl)
    (of_decide_eq_true (by kernel_rfl)) (by unfold Func.isWrapper; first | (rw [if_pos (by decide +kernel)]; kernel_rfl) | (rw [if_neg (by decide +kernel)]; exact ⟨rfl, rfl⟩))
    (fun os started H enc _ => MvccWhole_lifted os started H enc)

end Go.Proofs.YtpnfpndhdnmhkaaGreat
