/- Reading entries. -/
import Derived.Test.YtakjfnckbidbcaaL0
import Derived.Test.YtakjfnckbidbcaaV12
set_option linter.unusedSimpArgs false
set_option linter.unusedVariables false
namespace Go.Proofs.Ytakjfnckbidbcaa
open Sx Go.ChangeShapes Go.WideShapes Go.ChangeAt Go.RowKit

theorem Try.cells35 : Try.prog.cellsOf 35 = 3 := by kernel_rfl
theorem Try.cells39 : Try.prog.cellsOf 39 = 3 := by kernel_rfl
theorem Try.cells40 : Try.prog.cellsOf 40 = 1 := by kernel_rfl
theorem Try.cells42 : Try.prog.cellsOf 42 = 7 := by kernel_rfl
theorem Try.cells50 : Try.prog.cellsOf 50 = 4 := by kernel_rfl

theorem rz_wr {H : Type} {enc : TypeId × Value → H} {w : World} {base : Nat} {spare : Nat → Bool} {held : Bool} (cs : List Value) (hl : cs.length = 4) (h : Rz enc Try.prog w base spare held 50 cs) : ∃ r : Wt, cs = r.cells ∧ r.wf := by
  obtain ⟨c0, c1, c2, c3, rfl⟩ : ∃ c0 c1 c2 c3, cs = [c0, c1, c2, c3] := by
    match cs, hl with
    | [c0, c1, c2, c3], _ => exact ⟨_, _, _, _, rfl⟩
  have h1 := rz_at Try.underlying50 h 0 rfl (ty := 9) (off := 0) rfl rfl Try.cells9 (ds := [c0]) rfl
  obtain ⟨v0, e0, b0⟩ := rz_str Try.underlying9 h1
  simp only [List.cons.injEq, and_true] at e0; subst e0
  have h2 := rz_at Try.underlying50 h 1 rfl (ty := 48) (off := 1) rfl rfl Try.cells48 (ds := [c1, c2, c3]) rfl
  have h3 := rz_at Try.underlying48 h2 0 rfl (ty := 3) (off := 0) rfl rfl Try.cells3 (ds := [c1]) rfl
  obtain ⟨v1, e1, b1, b1'⟩ := rz_int Try.underlying3 h3
  simp only [List.cons.injEq, and_true] at e1; subst e1
  have h4 := rz_at Try.underlying48 h2 1 rfl (ty := 46) (off := 1) rfl rfl Try.cells46 (ds := [c2]) rfl
  obtain ⟨v2, e2, b2⟩ := rz_flt Try.underlying46 h4
  simp only [List.cons.injEq, and_true] at e2; subst e2
  have h5 := rz_at Try.underlying48 h2 2 rfl (ty := 9) (off := 2) rfl rfl Try.cells9 (ds := [c3]) rfl
  obtain ⟨v3, e3, b3⟩ := rz_str Try.underlying9 h5
  simp only [List.cons.injEq, and_true] at e3; subst e3
  exact ⟨⟨v0, ⟨v1, v2, v3⟩⟩, rfl, ⟨b0, ⟨b1, b1', b2, b3⟩⟩⟩

theorem rz_en {H : Type} {enc : TypeId × Value → H} {w : World} {base : Nat} {spare : Nat → Bool} {held : Bool} (cs : List Value) (hl : cs.length = 7) (h : Rz enc Try.prog w base spare held 42 cs) : ∃ r : En, cs = r.cells ∧ (Ss w r.ad Wt.cells 4 r.ws ∧ (∀ y ∈ r.ws, y.wf) ∧ r.ws.length ≤ 9223372036854775806) := by
  obtain ⟨c0, c1, c2, c3, c4, c5, c6, rfl⟩ : ∃ c0 c1 c2 c3 c4 c5 c6, cs = [c0, c1, c2, c3, c4, c5, c6] := by
    match cs, hl with
    | [c0, c1, c2, c3, c4, c5, c6], _ => exact ⟨_, _, _, _, _, _, _, rfl⟩
  have h1 := rz_at Try.underlying42 h 0 rfl (ty := 39) (off := 0) rfl rfl Try.cells39 (ds := [c0, c1, c2]) rfl
  have h2 := rz_at Try.underlying39 h1 0 rfl (ty := 3) (off := 0) rfl rfl Try.cells3 (ds := [c0]) rfl
  obtain ⟨v0, e0, b0, b0'⟩ := rz_int Try.underlying3 h2
  simp only [List.cons.injEq, and_true] at e0; subst e0
  have h3 := rz_at Try.underlying39 h1 1 rfl (ty := 3) (off := 1) rfl rfl Try.cells3 (ds := [c1]) rfl
  obtain ⟨v1, e1, b1, b1'⟩ := rz_int Try.underlying3 h3
  simp only [List.cons.injEq, and_true] at e1; subst e1
  have h4 := rz_at Try.underlying39 h1 2 rfl (ty := 3) (off := 2) rfl rfl Try.cells3 (ds := [c2]) rfl
  obtain ⟨v2, e2, b2, b2'⟩ := rz_int Try.underlying3 h4
  simp only [List.cons.injEq, and_true] at e2; subst e2
  have h5 := rz_at Try.underlying42 h 1 rfl (ty := 35) (off := 3) rfl rfl Try.cells35 (ds := [c3, c4, c5]) rfl
  have h6 := rz_at Try.underlying35 h5 0 rfl (ty := 3) (off := 0) rfl rfl Try.cells3 (ds := [c3]) rfl
  obtain ⟨v3, e3, b3, b3'⟩ := rz_int Try.underlying3 h6
  simp only [List.cons.injEq, and_true] at e3; subst e3
  have h7 := rz_at Try.underlying35 h5 1 rfl (ty := 3) (off := 1) rfl rfl Try.cells3 (ds := [c4]) rfl
  obtain ⟨v4, e4, b4, b4'⟩ := rz_int Try.underlying3 h7
  simp only [List.cons.injEq, and_true] at e4; subst e4
  have h8 := rz_at Try.underlying35 h5 2 rfl (ty := 3) (off := 2) rfl rfl Try.cells3 (ds := [c5]) rfl
  obtain ⟨v5, e5, b5, b5'⟩ := rz_int Try.underlying3 h8
  simp only [List.cons.injEq, and_true] at e5; subst e5
  have h9 := rz_at Try.underlying42 h 2 rfl (ty := 40) (off := 6) rfl rfl Try.cells40 (ds := [c6]) rfl
  obtain ⟨ad6, cc6, v6, e6, s6, r6, n6, m6, -, z6⟩ := rz_things (en := Wt.cells) (R := fun r => r.wf) Try.underlying40 Try.cells50 (by decide) Wt.len (fun cs hl hz => rz_wr cs hl hz) h9
  rw [show Try.prog.bytesOf 50 = 48 from by kernel_rfl] at z6
  simp only [List.cons.injEq, and_true] at e6; subst e6
  exact ⟨⟨⟨v0, v1, v2⟩, ⟨v3, v4, v5⟩, ad6, cc6, v6⟩, rfl, ⟨s6, r6, by show v6.length ≤ _; omega⟩⟩

theorem argZ_ents {H : Type} {enc : TypeId × Value → H} {W : World} {v : Value} (h : ArgZ enc Try.prog W 22 v) : ∃ ad c l, v = .slice ad (List.length l) c ∧ Ss W ad En.cells 7 l ∧ (∀ r ∈ l, (Ss W r.ad Wt.cells 4 r.ws ∧ (∀ y ∈ r.ws, y.wf) ∧ r.ws.length ≤ 9223372036854775806)) ∧ (ad = none → l.length = 0 ∧ c = 0) ∧ l.length ≤ c ∧ l.length * 72 ≤ 140737488351232 := by
  obtain ⟨ad, c, l, rfl, h1, h2, h3, h4, h5, h6⟩ := argZ_things (en := En.cells) (R := fun r => (Ss W r.ad Wt.cells 4 r.ws ∧ (∀ y ∈ r.ws, y.wf) ∧ r.ws.length ≤ 9223372036854775806)) Try.underlying22 Try.cells42 (by decide) En.len (fun cs hl hz => rz_en cs hl hz) h
  rw [show Try.prog.bytesOf 42 = 72 from by kernel_rfl] at h6
  exact ⟨ad, c, l, rfl, h1, h2, h3, h4, h6⟩

end Go.Proofs.Ytakjfnckbidbcaa
