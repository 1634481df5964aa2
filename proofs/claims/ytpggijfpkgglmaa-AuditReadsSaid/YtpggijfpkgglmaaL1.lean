/- Reading deeds. -/
import Derived.Test.YtpggijfpkgglmaaL0
set_option linter.unusedSimpArgs false
set_option linter.unusedVariables false
namespace Go.Proofs.Ytpggijfpkgglmaa
open Sx Go.ChangeShapes Go.WideShapes Go.ChangeAt Go.RowKit

theorem Try.cells49 : Try.prog.cellsOf 49 = 1 := by kernel_rfl
theorem Try.cells51 : Try.prog.cellsOf 51 = 8 := by kernel_rfl
theorem Try.cells59 : Try.prog.cellsOf 59 = 7 := by kernel_rfl

theorem rz_sn {H : Type} {enc : TypeId × Value → H} {w : World} {base : Nat} {spare : Nat → Bool} {held : Bool} (cs : List Value) (hl : cs.length = 7) (h : Rz enc Try.prog w base spare held 59 cs) : ∃ r : Sn, cs = r.cells ∧ r.wf := by
  obtain ⟨c0, c1, c2, c3, c4, c5, c6, rfl⟩ : ∃ c0 c1 c2 c3 c4 c5 c6, cs = [c0, c1, c2, c3, c4, c5, c6] := by
    match cs, hl with
    | [c0, c1, c2, c3, c4, c5, c6], _ => exact ⟨_, _, _, _, _, _, _, rfl⟩
  have h1 := rz_at Try.underlying59 h 0 rfl (ty := 9) (off := 0) rfl rfl Try.cells9 (ds := [c0]) rfl
  obtain ⟨v0, e0, b0⟩ := rz_str Try.underlying9 h1
  simp only [List.cons.injEq, and_true] at e0; subst e0
  have h2 := rz_at Try.underlying59 h 1 rfl (ty := 39) (off := 1) rfl rfl Try.cells39 (ds := [c1, c2, c3]) rfl
  have h3 := rz_at Try.underlying39 h2 0 rfl (ty := 3) (off := 0) rfl rfl Try.cells3 (ds := [c1]) rfl
  obtain ⟨v1, e1, b1, b1'⟩ := rz_int Try.underlying3 h3
  simp only [List.cons.injEq, and_true] at e1; subst e1
  have h4 := rz_at Try.underlying39 h2 1 rfl (ty := 37) (off := 1) rfl rfl Try.cells37 (ds := [c2]) rfl
  obtain ⟨v2, e2, b2⟩ := rz_flt Try.underlying37 h4
  simp only [List.cons.injEq, and_true] at e2; subst e2
  have h5 := rz_at Try.underlying39 h2 2 rfl (ty := 9) (off := 2) rfl rfl Try.cells9 (ds := [c3]) rfl
  obtain ⟨v3, e3, b3⟩ := rz_str Try.underlying9 h5
  simp only [List.cons.injEq, and_true] at e3; subst e3
  have h6 := rz_at Try.underlying59 h 2 rfl (ty := 24) (off := 4) rfl rfl Try.cells24 (ds := [c4, c5, c6]) rfl
  have h7 := rz_at Try.underlying24 h6 0 rfl (ty := 3) (off := 0) rfl rfl Try.cells3 (ds := [c4]) rfl
  obtain ⟨v4, e4, b4, b4'⟩ := rz_int Try.underlying3 h7
  simp only [List.cons.injEq, and_true] at e4; subst e4
  have h8 := rz_at Try.underlying24 h6 1 rfl (ty := 3) (off := 1) rfl rfl Try.cells3 (ds := [c5]) rfl
  obtain ⟨v5, e5, b5, b5'⟩ := rz_int Try.underlying3 h8
  simp only [List.cons.injEq, and_true] at e5; subst e5
  have h9 := rz_at Try.underlying24 h6 2 rfl (ty := 3) (off := 2) rfl rfl Try.cells3 (ds := [c6]) rfl
  obtain ⟨v6, e6, b6, b6'⟩ := rz_int Try.underlying3 h9
  simp only [List.cons.injEq, and_true] at e6; subst e6
  exact ⟨⟨v0, ⟨v1, v2, v3⟩, ⟨v4, v5, v6⟩⟩, rfl, ⟨b0, ⟨b1, b1', b2, b3⟩⟩⟩

theorem rz_dn {H : Type} {enc : TypeId × Value → H} {w : World} {base : Nat} {spare : Nat → Bool} {held : Bool} (cs : List Value) (hl : cs.length = 8) (h : Rz enc Try.prog w base spare held 51 cs) : ∃ r : Dn, cs = r.cells ∧ ((Ss w r.ad Wt.cells 4 r.ws ∧ (∀ y ∈ r.ws, y.wf) ∧ r.ws.length ≤ 9223372036854775806 ∧ (r.ad = none → r.ws.length = 0 ∧ r.c = 0)) ∧ (Ss w r.sa Sn.cells 7 r.sn ∧ (∀ y ∈ r.sn, y.wf) ∧ r.sn.length ≤ 9223372036854775806)) := by
  obtain ⟨c0, c1, c2, c3, c4, c5, c6, c7, rfl⟩ : ∃ c0 c1 c2 c3 c4 c5 c6 c7, cs = [c0, c1, c2, c3, c4, c5, c6, c7] := by
    match cs, hl with
    | [c0, c1, c2, c3, c4, c5, c6, c7], _ => exact ⟨_, _, _, _, _, _, _, _, rfl⟩
  have h1 := rz_at Try.underlying51 h 0 rfl (ty := 36) (off := 0) rfl rfl Try.cells36 (ds := [c0, c1, c2, c3, c4, c5, c6]) rfl
  have h2 := rz_at Try.underlying36 h1 0 rfl (ty := 33) (off := 0) rfl rfl Try.cells33 (ds := [c0, c1, c2]) rfl
  have h3 := rz_at Try.underlying33 h2 0 rfl (ty := 3) (off := 0) rfl rfl Try.cells3 (ds := [c0]) rfl
  obtain ⟨v0, e0, b0, b0'⟩ := rz_int Try.underlying3 h3
  simp only [List.cons.injEq, and_true] at e0; subst e0
  have h4 := rz_at Try.underlying33 h2 1 rfl (ty := 3) (off := 1) rfl rfl Try.cells3 (ds := [c1]) rfl
  obtain ⟨v1, e1, b1, b1'⟩ := rz_int Try.underlying3 h4
  simp only [List.cons.injEq, and_true] at e1; subst e1
  have h5 := rz_at Try.underlying33 h2 2 rfl (ty := 3) (off := 2) rfl rfl Try.cells3 (ds := [c2]) rfl
  obtain ⟨v2, e2, b2, b2'⟩ := rz_int Try.underlying3 h5
  simp only [List.cons.injEq, and_true] at e2; subst e2
  have h6 := rz_at Try.underlying36 h1 1 rfl (ty := 24) (off := 3) rfl rfl Try.cells24 (ds := [c3, c4, c5]) rfl
  have h7 := rz_at Try.underlying24 h6 0 rfl (ty := 3) (off := 0) rfl rfl Try.cells3 (ds := [c3]) rfl
  obtain ⟨v3, e3, b3, b3'⟩ := rz_int Try.underlying3 h7
  simp only [List.cons.injEq, and_true] at e3; subst e3
  have h8 := rz_at Try.underlying24 h6 1 rfl (ty := 3) (off := 1) rfl rfl Try.cells3 (ds := [c4]) rfl
  obtain ⟨v4, e4, b4, b4'⟩ := rz_int Try.underlying3 h8
  simp only [List.cons.injEq, and_true] at e4; subst e4
  have h9 := rz_at Try.underlying24 h6 2 rfl (ty := 3) (off := 2) rfl rfl Try.cells3 (ds := [c5]) rfl
  obtain ⟨v5, e5, b5, b5'⟩ := rz_int Try.underlying3 h9
  simp only [List.cons.injEq, and_true] at e5; subst e5
  have h10 := rz_at Try.underlying36 h1 2 rfl (ty := 34) (off := 6) rfl rfl Try.cells34 (ds := [c6]) rfl
  obtain ⟨ad6, cc6, v6, e6, s6, r6, n6, m6, -, z6⟩ := rz_things (en := Wt.cells) (R := fun r => r.wf) Try.underlying34 Try.cells41 (by decide) Wt.len (fun cs hl hz => rz_wr cs hl hz) h10
  rw [show Try.prog.bytesOf 41 = 48 from by kernel_rfl] at z6
  simp only [List.cons.injEq, and_true] at e6; subst e6
  have h11 := rz_at Try.underlying51 h 1 rfl (ty := 49) (off := 7) rfl rfl Try.cells49 (ds := [c7]) rfl
  obtain ⟨ad7, cc7, v7, e7, s7, r7, n7, m7, -, z7⟩ := rz_things (en := Sn.cells) (R := fun r => r.wf) Try.underlying49 Try.cells59 (by decide) Sn.len (fun cs hl hz => rz_sn cs hl hz) h11
  rw [show Try.prog.bytesOf 59 = 72 from by kernel_rfl] at z7
  simp only [List.cons.injEq, and_true] at e7; subst e7
  exact ⟨⟨⟨v0, v1, v2⟩, ⟨v3, v4, v5⟩, ad6, cc6, v6, ad7, cc7, v7⟩, rfl, ⟨⟨s6, r6, by show v6.length ≤ _; omega, n6⟩, ⟨s7, r7, by show v7.length ≤ _; omega⟩⟩⟩

theorem argZ_deeds {H : Type} {enc : TypeId × Value → H} {W : World} {v : Value} (h : ArgZ enc Try.prog W 46 v) : ∃ ad c l, v = .slice ad (List.length l) c ∧ Ss W ad Dn.cells 8 l ∧ (∀ r ∈ l, ((Ss W r.ad Wt.cells 4 r.ws ∧ (∀ y ∈ r.ws, y.wf) ∧ r.ws.length ≤ 9223372036854775806 ∧ (r.ad = none → r.ws.length = 0 ∧ r.c = 0)) ∧ (Ss W r.sa Sn.cells 7 r.sn ∧ (∀ y ∈ r.sn, y.wf) ∧ r.sn.length ≤ 9223372036854775806))) ∧ (ad = none → l.length = 0 ∧ c = 0) ∧ l.length ≤ c ∧ l.length * 96 ≤ 140737488351232 := by
  obtain ⟨ad, c, l, rfl, h1, h2, h3, h4, h5, h6⟩ := argZ_things (en := Dn.cells) (R := fun r => ((Ss W r.ad Wt.cells 4 r.ws ∧ (∀ y ∈ r.ws, y.wf) ∧ r.ws.length ≤ 9223372036854775806 ∧ (r.ad = none → r.ws.length = 0 ∧ r.c = 0)) ∧ (Ss W r.sa Sn.cells 7 r.sn ∧ (∀ y ∈ r.sn, y.wf) ∧ r.sn.length ≤ 9223372036854775806))) Try.underlying46 Try.cells51 (by decide) Dn.len (fun cs hl hz => rz_dn cs hl hz) h
  rw [show Try.prog.bytesOf 51 = 96 from by kernel_rfl] at h6
  exact ⟨ad, c, l, rfl, h1, h2, h3, h4, h6⟩

end Go.Proofs.Ytpggijfpkgglmaa
