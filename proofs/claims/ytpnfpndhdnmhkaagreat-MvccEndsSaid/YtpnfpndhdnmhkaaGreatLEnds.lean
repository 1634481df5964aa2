/- The statement of MvccEnds. -/
import Derived.Test.YtpnfpndhdnmhkaaGreatL0
import Derived.Test.YtpnfpndhdnmhkaaGreatK16
import Derived.Test.YtpnfpndhdnmhkaaGreatSxY
import Derived.Test.YtpnfpndhdnmhkaaGreatRows
set_option linter.unusedSimpArgs false
set_option linter.unusedVariables false
namespace Go.Proofs.YtpnfpndhdnmhkaaGreat
open Sx Go.ChangeShapes Go.WideShapes Go.ChangeAt Go.RowKit

theorem MvccEnds_key {H : Type} (enc : TypeId × Value → H) (W : World) (args : Array Value) (h : ArgsZ enc Tryz.prog W Tryz.f3.params.toList args.toList) :
    Calls Tryz.prog 3 args W fun e W' => e = .returned (.bool true) ∧ Ext No W W' := by
  rw [Tryz.params3] at h
  obtain ⟨u0, us0, hargs, g0, r0⟩ := argsZ_cons h
  obtain ⟨u1, us1, rfl, g1, r1⟩ := argsZ_cons r0
  obtain ⟨u2, us2, rfl, g2, r2⟩ := argsZ_cons r1
  obtain ⟨u3, us3, rfl, g3, r3⟩ := argsZ_cons r2
  obtain ⟨u4, us4, rfl, g4, r4⟩ := argsZ_cons r3
  obtain ⟨u5, us5, rfl, g5, r5⟩ := argsZ_cons r4
  obtain ⟨u6, us6, rfl, g6, r6⟩ := argsZ_cons r5
  obtain rfl := argsZ_nil r6
  obtain ⟨ad, c, l, rfl, hsl, hwl, -, -, hzl⟩ := argZ_ops g0
  obtain ⟨t1, rfl, hwt1⟩ := argZ_tx g1
  obtain ⟨t2, rfl, hwt2⟩ := argZ_tx g2
  obtain ⟨x9, rfl, -⟩ := argZ_st g3
  obtain ⟨y9, rfl, -⟩ := argZ_st g4
  obtain ⟨f1, rfl⟩ := argZ_bool Tryz.underlying4 g5
  obtain ⟨f2, rfl⟩ := argZ_bool Tryz.underlying4 g6
  obtain rfl : args = #[.slice ad l.length c, Value.agg #[.int .i64 t1.co, .int .i64 t1.li, .int .i64 t1.sq], Value.agg #[.int .i64 t2.co, .int .i64 t2.li, .int .i64 t2.sq], Value.agg #[.int .i64 x9.w, .int .i64 x9.l, .int .i64 x9.n], Value.agg #[.int .i64 y9.w, .int .i64 y9.l, .int .i64 y9.n], .bool f1, .bool f2] := by cases args; simp_all
  exact Ends_all t1 t2 hwt1 hwt2 x9 y9 f1 f2 l hsl (by omega) (fun x hx => (hwl x hx).1) (fun x hx => (hwl x hx).2)

set_option maxRecDepth 100000 in
theorem MvccEnds_lifted (os : Os) (started : os.Started) (H : Type) (enc : TypeId × Value → H) :
    ReturnsInHanded {} Tryz.checked os 3 .any (Rows.mvccEndsSpec.pre6 enc Tryz.prog Tryz.f3 Rows.mvccEndsRow.domain false) (Rows.mvccEndsSpec.post enc Tryz.prog Tryz.f3 false true false false) := by
  exact lift_trueZ (C := Tryz.checked) (t := 4) own started (by kernel_rfl) Tryz.func3
    (ChangeSpec.witness6 (enc := enc) (C := Tryz.checked) false ⟨#[], #[.slice none 0 0, .agg #[.int .i64 0, .int .i64 0, .int .i64 0], .agg #[.int .i64 0, .int .i64 0, .int .i64 0], .agg #[.int .i64 0, .int .i64 0, .int .i64 0], .agg #[.int .i64 0, .int .i64 0, .int .i64 0], .bool false, .bool false], []⟩ 8 (by kernel_rfl) (by kernel_rfl) (by kernel_rfl) (by kernel_rfl))
    laidOut (by kernel_rfl) (by kernel_rfl) Tryz.underlying4 rfl (fun ds h => by
    obtain ⟨a0, a1, a2, a3, a4, a5, a6, rfl⟩ := list_7 h (by rw [Tryz.params3]; rfl)
    rfl) (MvccEnds_key enc)
theorem MvccEnds_holds : Rows.MvccEndsSaid :=
  OpenClaim.holds_of_wide 3 Tryz.f3 rfl rfl rfl rfl rfl rfl rfl ⟨rfl, rfl, rfl, rfl, rfl⟩ rfl rfl rfl rfl rfl (by kernel_rfl) Tryz.func3 (by kernel_rfl)
    (of_decide_eq_true (by kernel_rfl)) (by unfold Func.isWrapper; first | (rw [if_pos (by decide +kernel)]; kernel_rfl) | (rw [if_neg (by decide +kernel)]; exact ⟨rfl, rfl⟩))
    (fun os started H enc _ => MvccEnds_lifted os started H enc)

end Go.Proofs.YtpnfpndhdnmhkaaGreat
