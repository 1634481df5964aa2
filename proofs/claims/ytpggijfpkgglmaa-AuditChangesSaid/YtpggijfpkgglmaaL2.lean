/- Reading pairs. -/
import Derived.Test.YtpggijfpkgglmaaL0
set_option linter.unusedSimpArgs false
set_option linter.unusedVariables false
namespace Go.Proofs.Ytpggijfpkgglmaa
open Sx Go.ChangeShapes Go.WideShapes Go.ChangeAt Go.RowKit

theorem Try.cells73 : Try.prog.cellsOf 73 = 4 := by kernel_rfl

theorem rz_pr {H : Type} {enc : TypeId × Value → H} {w : World} {base : Nat} {spare : Nat → Bool} {held : Bool} (cs : List Value) (hl : cs.length = 4) (h : Rz enc Try.prog w base spare held 73 cs) : ∃ r : Wt, cs = r.cells ∧ r.wf := by
  obtain ⟨c0, c1, c2, c3, rfl⟩ : ∃ c0 c1 c2 c3, cs = [c0, c1, c2, c3] := by
    match cs, hl with
    | [c0, c1, c2, c3], _ => exact ⟨_, _, _, _, rfl⟩
  have h1 := rz_at Try.underlying73 h 0 rfl (ty := 9) (off := 0) rfl rfl Try.cells9 (ds := [c0]) rfl
  obtain ⟨v0, e0, b0⟩ := rz_str Try.underlying9 h1
  simp only [List.cons.injEq, and_true] at e0; subst e0
  have h2 := rz_at Try.underlying73 h 1 rfl (ty := 39) (off := 1) rfl rfl Try.cells39 (ds := [c1, c2, c3]) rfl
  have h3 := rz_at Try.underlying39 h2 0 rfl (ty := 3) (off := 0) rfl rfl Try.cells3 (ds := [c1]) rfl
  obtain ⟨v1, e1, b1, b1'⟩ := rz_int Try.underlying3 h3
  simp only [List.cons.injEq, and_true] at e1; subst e1
  have h4 := rz_at Try.underlying39 h2 1 rfl (ty := 37) (off := 1) rfl rfl Try.cells37 (ds := [c2]) rfl
  obtain ⟨v2, e2, b2⟩ := rz_flt Try.underlying37 h4
  simp only [List.cons.injEq, and_true] at e2; subst e2
  have h5 := rz_at Try.underlying39 h2 2 rfl (ty := 9) (off := 2) rfl rfl Try.cells9 (ds := [c3]) rfl
  obtain ⟨v3, e3, b3⟩ := rz_str Try.underlying9 h5
  simp only [List.cons.injEq, and_true] at e3; subst e3
  exact ⟨⟨v0, ⟨v1, v2, v3⟩⟩, rfl, ⟨b0, ⟨b1, b1', b2, b3⟩⟩⟩

theorem argZ_pairs {H : Type} {enc : TypeId × Value → H} {W : World} {v : Value} (h : ArgZ enc Try.prog W 43 v) : ∃ ad c l, v = .slice ad (List.length l) c ∧ Ss W ad Wt.cells 4 l ∧ (∀ r ∈ l, r.wf) ∧ (ad = none → l.length = 0 ∧ c = 0) ∧ l.length ≤ c ∧ l.length * 48 ≤ 140737488351232 := by
  obtain ⟨ad, c, l, rfl, h1, h2, h3, h4, h5, h6⟩ := argZ_things (en := Wt.cells) (R := fun r => r.wf) Try.underlying43 Try.cells73 (by decide) Wt.len (fun cs hl hz => rz_pr cs hl hz) h
  rw [show Try.prog.bytesOf 73 = 48 from by kernel_rfl] at h6
  exact ⟨ad, c, l, rfl, h1, h2, h3, h4, h6⟩

end Go.Proofs.Ytpggijfpkgglmaa
