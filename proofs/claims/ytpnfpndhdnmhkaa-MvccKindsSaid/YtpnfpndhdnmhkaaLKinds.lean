/- The statement of MvccKinds. -/
import Derived.Test.YtpnfpndhdnmhkaaL0
import Derived.Test.YtpnfpndhdnmhkaaSxY
import Derived.Test.YtpnfpndhdnmhkaaRows
set_option linter.unusedSimpArgs false
set_option linter.unusedVariables false
namespace Go.Proofs.Ytpnfpndhdnmhkaa
open Sx Go.ChangeShapes Go.WideShapes Go.ChangeAt Go.RowKit

theorem MvccKinds_key {H : Type} (enc : TypeId × Value → H) (W : World) (args : Array Value) (h : ArgsZ enc Try.prog W Try.f3.params.toList args.toList) :
    Calls Try.prog 3 args W fun e W' => e = .returned (.bool true) ∧ Ext No W W' := by
  rw [Try.params3] at h
  obtain ⟨u0, us0, hargs, g0, r0⟩ := argsZ_cons h
  obtain ⟨u1, us1, rfl, g1, r1⟩ := argsZ_cons r0
  obtain ⟨u2, us2, rfl, g2, r2⟩ := argsZ_cons r1
  obtain rfl := argsZ_nil r2
  obtain ⟨t, rfl, hwt⟩ := argZ_tx g0
  obtain ⟨q, rfl, hwq⟩ := argZ_tx g1
  obtain ⟨x, rfl, ⟨hs1, hs2⟩, hpt, hpb, hpn1, hpn2⟩ := argZ_pn g2
  obtain rfl : args = #[Value.agg #[.int .i64 t.co, .int .i64 t.li, .int .i64 t.sq], Value.agg #[.int .i64 q.co, .int .i64 q.li, .int .i64 q.sq], Value.agg #[.int .i64 x.t.co, .int .i64 x.t.li, .int .i64 x.t.sq, .int .i64 x.s.w, .int .i64 x.s.l, .int .i64 x.s.n, .slice x.ra x.rs.length x.rc, .slice x.wa x.ws.length x.wc]] := by cases args; simp_all
  exact Kinds_all t q x hs1 hs2 hpb

set_option maxRecDepth 100000 in
theorem MvccKinds_lifted (os : Os) (started : os.Started) (H : Type) (enc : TypeId × Value → H) :
    ReturnsInHanded {} Try.checked os 3 .any (Rows.mvccKindsSpec.pre6 enc Try.prog Try.f3 Rows.mvccKindsRow.domain false) (Rows.mvccKindsSpec.post enc Try.prog Try.f3 false true false false) := by
  exact lift_trueZ (C := Try.checked) (t := 4) own started (by kernel_rfl) Try.func3
    (ChangeSpec.witness6 (enc := enc) (C := Try.checked) false ⟨#[], #[.agg #[.int .i64 0, .int .i64 0, .int .i64 0], .agg #[.int .i64 0, .int .i64 0, .int .i64 0], .agg #[.int .i64 0, .int .i64 0, .int .i64 0, .int .i64 0, .int .i64 0, .int .i64 0, .slice none 0 0, .slice none 0 0]], []⟩ 8 (by kernel_rfl) (by kernel_rfl) (by kernel_rfl) (by kernel_rfl))
    laidOut (by kernel_rfl) (by kernel_rfl) Try.underlying4 rfl (fun ds h => by
    obtain ⟨a0, a1, a2, rfl⟩ := list_3 h (by rw [Try.params3]; rfl)
    rfl) (MvccKinds_key enc)
theorem MvccKinds_holds : Rows.MvccKindsSaid :=
  OpenClaim.holds_of_wide 3 Try.f3 rfl rfl rfl rfl rfl rfl rfl ⟨rfl, rfl, rfl, rfl, rfl⟩ rfl rfl rfl rfl rfl (by kernel_rfl) Try.func3 (by kernel_rfl)
    (of_decide_eq_true (by kernel_rfl)) (by unfold Func.isWrapper; first | (rw [if_pos (by decide +kernel)]; kernel_rfl) | (rw [if_neg (by decide +kernel)]; exact ⟨rfl, rfl⟩))
    (fun os started H enc _ => MvccKinds_lifted os started H enc)

end Go.Proofs.Ytpnfpndhdnmhkaa
