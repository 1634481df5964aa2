/- The statement of AuditSnaps. -/
import Derived.Test.YtpggijfpkgglmaaL3
import Derived.Test.YtpggijfpkgglmaaSxY
import Derived.Test.YtpggijfpkgglmaaRows
set_option linter.unusedSimpArgs false
set_option linter.unusedVariables false
namespace Go.Proofs.Ytpggijfpkgglmaa
open Sx Go.ChangeShapes Go.WideShapes Go.ChangeAt Go.RowKit

theorem AuditSnaps_key {H : Type} (enc : TypeId × Value → H) (W : World) (args : Array Value) (h : ArgsZ enc Try.prog W Try.f7.params.toList args.toList) :
    Calls Try.prog 7 args W fun e W' => e = .returned (.bool true) ∧ Ext No W W' := by
  rw [Try.params7] at h
  obtain ⟨u0, us0, hargs, g0, r0⟩ := argsZ_cons h
  obtain ⟨u1, us1, rfl, g1, r1⟩ := argsZ_cons r0
  obtain ⟨u2, us2, rfl, g2, r2⟩ := argsZ_cons r1
  obtain rfl := argsZ_nil r2
  obtain ⟨ad, c, l, rfl, hs, hw, -, hc, hzl⟩ := argZ_ents g0
  obtain ⟨ad1, c1, ts, rfl, hs2, -, -, -, hzts⟩ := argZ_ints g1
  obtain ⟨s9, rfl, -⟩ := argZ_stamp g2
  obtain rfl : args = #[.slice ad l.length c, .slice ad1 ts.length c1, Value.agg #[.int .i64 s9.w, .int .i64 s9.l, .int .i64 s9.n]] := by cases args; simp_all
  exact Snaps_all l ts s9 hs hw hc (by omega) hs2 (by omega)

set_option maxRecDepth 100000 in
theorem AuditSnaps_lifted (os : Os) (started : os.Started) (H : Type) (enc : TypeId × Value → H) :
    ReturnsInHanded {} Try.checked os 7 .any (Rows.auditSnapsSpec.pre6 enc Try.prog Try.f7 Rows.auditSnapsRow.domain false) (Rows.auditSnapsSpec.post enc Try.prog Try.f7 false true false false) := by
  exact lift_trueZ (C := Try.checked) (t := 4) own started (by kernel_rfl) Try.func7
    (ChangeSpec.witness6 (enc := enc) (C := Try.checked) false ⟨#[], #[.slice none 0 0, .slice none 0 0, .agg #[.int .i64 0, .int .i64 0, .int .i64 0]], []⟩ 8 (by kernel_rfl) (by kernel_rfl) (by kernel_rfl) (by kernel_rfl))
    laidOut (by kernel_rfl) (by kernel_rfl) Try.underlying4 rfl (fun ds h => by
    obtain ⟨a0, a1, a2, rfl⟩ := list_3 h (by rw [Try.params7]; rfl)
    rfl) (AuditSnaps_key enc)
theorem AuditSnaps_holds : Rows.AuditSnapsSaid :=
  OpenClaim.holds_of_wide 7 Try.f7 rfl rfl rfl rfl rfl rfl rfl ⟨rfl, rfl, rfl, rfl, rfl⟩ rfl rfl rfl rfl rfl (by kernel_rfl) Try.func7 (by kernel_rfl)
    (of_decide_eq_true (by kernel_rfl)) (by unfold Func.isWrapper; first | (rw [if_pos (by decide +kernel)]; kernel_rfl) | (rw [if_neg (by decide +kernel)]; exact ⟨rfl, rfl⟩))
    (fun os started H enc _ => AuditSnaps_lifted os started H enc)

end Go.Proofs.Ytpggijfpkgglmaa
