/- Reading entries. -/
import Derived.Test.YtpggijfpkgglmaaA7
import Derived.Test.YtpggijfpkgglmaaC2
import Derived.Test.YtpggijfpkgglmaaSxY
set_option linter.unusedSimpArgs false
set_option linter.unusedVariables false
namespace Go.Proofs.Ytpggijfpkgglmaa
open Sx Go.ChangeShapes Go.WideShapes Go.ChangeAt Go.RowKit

theorem own : ownKnob Try.prog.godebug = none := by kernel_rfl
theorem laidOut : laidOutB Try.prog = true := by kernel_rfl

theorem Try.cells3 : Try.prog.cellsOf 3 = 1 := by kernel_rfl
theorem Try.cells9 : Try.prog.cellsOf 9 = 1 := by kernel_rfl
theorem Try.cells24 : Try.prog.cellsOf 24 = 3 := by kernel_rfl
theorem Try.cells33 : Try.prog.cellsOf 33 = 3 := by kernel_rfl
theorem Try.cells34 : Try.prog.cellsOf 34 = 1 := by kernel_rfl
theorem Try.cells36 : Try.prog.cellsOf 36 = 7 := by kernel_rfl
theorem Try.cells37 : Try.prog.cellsOf 37 = 1 := by kernel_rfl
theorem Try.cells39 : Try.prog.cellsOf 39 = 3 := by kernel_rfl
theorem Try.cells41 : Try.prog.cellsOf 41 = 4 := by kernel_rfl

theorem rz_wr {H : Type} {enc : TypeId × Value → H} {w : World} {base : Nat} {spare : Nat → Bool} {held : Bool} (cs : List Value) (hl : cs.length = 4) (h : Rz enc Try.prog w base spare held 41 cs) : ∃ r : Wt, cs = r.cells ∧ r.wf := by
  obtain ⟨c0, c1, c2, c3, rfl⟩ : ∃ c0 c1 c2 c3, cs = [c0, c1, c2, c3] := by
    match cs, hl with
    | [c0, c1, c2, c3], _ => exact ⟨_, _, _, _, rfl⟩
  have h1 := rz_at Try.underlying41 h 0 rfl (ty := 9) (off := 0) rfl rfl Try.cells9 (ds := [c0]) rfl
  obtain ⟨v0, e0, b0⟩ := rz_str Try.underlying9 h1
  simp only [List.cons.injEq, and_true] at e0; subst e0
  have h2 := rz_at Try.underlying41 h 1 rfl (ty := 39) (off := 1) rfl rfl Try.cells39 (ds := [c1, c2, c3]) rfl
  have h3 := rz_at Try.underlying39 h2 0 rfl (ty := 3) (off := 0) rfl rfl Try.cells3 (ds := [c1]) rfl
  obtain ⟨v1, e1, b1, b1'⟩ := rz_int Try.underlying3 h3
  simp only [List.cons.injEq, and_true] at e1; subst e1
  have h4 := rz_at Try.underlying39 h2 1 rfl (ty := 37) (off := 1) rfl rfl Try.cells37 (ds := [c2]) rfl
  obtain ⟨v2, e2, b2⟩ := rz_flt Try.underlying37 h4
  simp only [List.cons.injEq, and_true] at e2; subst e2
  have h5 := rz_at Try.underlying39 h2 2 rfl (ty := 9) (off := 2) rfl rfl Try.cells9 (ds := [c3]) rfl
  obtain ⟨v3, e3, b3⟩ := rz_str Try.underlying9 h5
  simp only [List.cons.injEq, and_true] at e3; subst e3
  exact ⟨⟨v0, ⟨v1, v2, v3⟩⟩, rfl, ⟨b0, ⟨b1, b1', b2, b3⟩⟩⟩

theorem rz_en {H : Type} {enc : TypeId × Value → H} {w : World} {base : Nat} {spare : Nat → Bool} {held : Bool} (cs : List Value) (hl : cs.length = 7) (h : Rz enc Try.prog w base spare held 36 cs) : ∃ r : En, cs = r.cells ∧ (Ss w r.ad Wt.cells 4 r.ws ∧ (∀ y ∈ r.ws, y.wf) ∧ r.ws.length ≤ 9223372036854775806 ∧ (r.ad = none → r.ws.length = 0 ∧ r.c = 0)) := by
  obtain ⟨c0, c1, c2, c3, c4, c5, c6, rfl⟩ : ∃ c0 c1 c2 c3 c4 c5 c6, cs = [c0, c1, c2, c3, c4, c5, c6] := by
    match cs, hl with
    | [c0, c1, c2, c3, c4, c5, c6], _ => exact ⟨_, _, _, _, _, _, _, rfl⟩
  have h1 := rz_at Try.underlying36 h 0 rfl (ty := 33) (off := 0) rfl rfl Try.cells33 (ds := [c0, c1, c2]) rfl
  have h2 := rz_at Try.underlying33 h1 0 rfl (ty := 3) (off := 0) rfl rfl Try.cells3 (ds := [c0]) rfl
  obtain ⟨v0, e0, b0, b0'⟩ := rz_int Try.underlying3 h2
  simp only [List.cons.injEq, and_true] at e0; subst e0
  have h3 := rz_at Try.underlying33 h1 1 rfl (ty := 3) (off := 1) rfl rfl Try.cells3 (ds := [c1]) rfl
  obtain ⟨v1, e1, b1, b1'⟩ := rz_int Try.underlying3 h3
  simp only [List.cons.injEq, and_true] at e1; subst e1
  have h4 := rz_at Try.underlying33 h1 2 rfl (ty := 3) (off := 2) rfl rfl Try.cells3 (ds := [c2]) rfl
  obtain ⟨v2, e2, b2, b2'⟩ := rz_int Try.underlying3 h4
  simp only [List.cons.injEq, and_true] at e2; subst e2
  have h5 := rz_at Try.underlying36 h 1 rfl (ty := 24) (off := 3) rfl rfl Try.cells24 (ds := [c3, c4, c5]) rfl
  have h6 := rz_at Try.underlying24 h5 0 rfl (ty := 3) (off := 0) rfl rfl Try.cells3 (ds := [c3]) rfl
  obtain ⟨v3, e3, b3, b3'⟩ := rz_int Try.underlying3 h6
  simp only [List.cons.injEq, and_true] at e3; subst e3
  have h7 := rz_at Try.underlying24 h5 1 rfl (ty := 3) (off := 1) rfl rfl Try.cells3 (ds := [c4]) rfl
  obtain ⟨v4, e4, b4, b4'⟩ := rz_int Try.underlying3 h7
  simp only [List.cons.injEq, and_true] at e4; subst e4
  have h8 := rz_at Try.underlying24 h5 2 rfl (ty := 3) (off := 2) rfl rfl Try.cells3 (ds := [c5]) rfl
  obtain ⟨v5, e5, b5, b5'⟩ := rz_int Try.underlying3 h8
  simp only [List.cons.injEq, and_true] at e5; subst e5
  have h9 := rz_at Try.underlying36 h 2 rfl (ty := 34) (off := 6) rfl rfl Try.cells34 (ds := [c6]) rfl
  obtain ⟨ad6, cc6, v6, e6, s6, r6, n6, m6, -, z6⟩ := rz_things (en := Wt.cells) (R := fun r => r.wf) Try.underlying34 Try.cells41 (by decide) Wt.len (fun cs hl hz => rz_wr cs hl hz) h9
  rw [show Try.prog.bytesOf 41 = 48 from by kernel_rfl] at z6
  simp only [List.cons.injEq, and_true] at e6; subst e6
  exact ⟨⟨⟨v0, v1, v2⟩, ⟨v3, v4, v5⟩, ad6, cc6, v6⟩, rfl, ⟨s6, r6, by show v6.length ≤ _; omega, n6⟩⟩

theorem argZ_ents {H : Type} {enc : TypeId × Value → H} {W : World} {v : Value} (h : ArgZ enc Try.prog W 22 v) : ∃ ad c l, v = .slice ad (List.length l) c ∧ Ss W ad En.cells 7 l ∧ (∀ r ∈ l, (Ss W r.ad Wt.cells 4 r.ws ∧ (∀ y ∈ r.ws, y.wf) ∧ r.ws.length ≤ 9223372036854775806 ∧ (r.ad = none → r.ws.length = 0 ∧ r.c = 0))) ∧ (ad = none → l.length = 0 ∧ c = 0) ∧ l.length ≤ c ∧ l.length * 72 ≤ 140737488351232 := by
  obtain ⟨ad, c, l, rfl, h1, h2, h3, h4, h5, h6⟩ := argZ_things (en := En.cells) (R := fun r => (Ss W r.ad Wt.cells 4 r.ws ∧ (∀ y ∈ r.ws, y.wf) ∧ r.ws.length ≤ 9223372036854775806 ∧ (r.ad = none → r.ws.length = 0 ∧ r.c = 0))) Try.underlying22 Try.cells36 (by decide) En.len (fun cs hl hz => rz_en cs hl hz) h
  rw [show Try.prog.bytesOf 36 = 72 from by kernel_rfl] at h6
  exact ⟨ad, c, l, rfl, h1, h2, h3, h4, h6⟩

theorem list_1 {α : Type} {ds : List α} {n : Nat} (h : ds.length = n) (hn : n = 1) : ∃ a0, ds = [a0] := by
  subst hn
  match ds, h with
  | [a0], _ => exact ⟨a0, rfl⟩

theorem list_2 {α : Type} {ds : List α} {n : Nat} (h : ds.length = n) (hn : n = 2) : ∃ a0 a1, ds = [a0, a1] := by
  subst hn
  match ds, h with
  | [a0, a1], _ => exact ⟨a0, a1, rfl⟩

theorem list_3 {α : Type} {ds : List α} {n : Nat} (h : ds.length = n) (hn : n = 3) : ∃ a0 a1 a2, ds = [a0, a1, a2] := by
  subst hn
  match ds, h with
  | [a0, a1, a2], _ => exact ⟨a0, a1, a2, rfl⟩



theorem rz_stamp {H : Type} {enc : TypeId × Value → H} {w : World} {base : Nat} {spare : Nat → Bool} {held : Bool} (cs : List Value) (hl : cs.length = 3) (h : Rz enc Try.prog w base spare held 24 cs) : ∃ r : Stp, cs = r.cells ∧ True := by
  obtain ⟨c0, c1, c2, rfl⟩ : ∃ c0 c1 c2, cs = [c0, c1, c2] := by
    match cs, hl with
    | [c0, c1, c2], _ => exact ⟨_, _, _, rfl⟩
  have h1 := rz_at Try.underlying24 h 0 rfl (ty := 3) (off := 0) rfl rfl Try.cells3 (ds := [c0]) rfl
  obtain ⟨v0, e0, b0, b0'⟩ := rz_int Try.underlying3 h1
  simp only [List.cons.injEq, and_true] at e0; subst e0
  have h2 := rz_at Try.underlying24 h 1 rfl (ty := 3) (off := 1) rfl rfl Try.cells3 (ds := [c1]) rfl
  obtain ⟨v1, e1, b1, b1'⟩ := rz_int Try.underlying3 h2
  simp only [List.cons.injEq, and_true] at e1; subst e1
  have h3 := rz_at Try.underlying24 h 2 rfl (ty := 3) (off := 2) rfl rfl Try.cells3 (ds := [c2]) rfl
  obtain ⟨v2, e2, b2, b2'⟩ := rz_int Try.underlying3 h3
  simp only [List.cons.injEq, and_true] at e2; subst e2
  exact ⟨⟨v0, v1, v2⟩, rfl, trivial⟩

theorem rz_vl {H : Type} {enc : TypeId × Value → H} {w : World} {base : Nat} {spare : Nat → Bool} {held : Bool} (cs : List Value) (hl : cs.length = 3) (h : Rz enc Try.prog w base spare held 39 cs) : ∃ r : Vl, cs = r.cells ∧ r.wf := by
  obtain ⟨c0, c1, c2, rfl⟩ : ∃ c0 c1 c2, cs = [c0, c1, c2] := by
    match cs, hl with
    | [c0, c1, c2], _ => exact ⟨_, _, _, rfl⟩
  have h1 := rz_at Try.underlying39 h 0 rfl (ty := 3) (off := 0) rfl rfl Try.cells3 (ds := [c0]) rfl
  obtain ⟨v0, e0, b0, b0'⟩ := rz_int Try.underlying3 h1
  simp only [List.cons.injEq, and_true] at e0; subst e0
  have h2 := rz_at Try.underlying39 h 1 rfl (ty := 37) (off := 1) rfl rfl Try.cells37 (ds := [c1]) rfl
  obtain ⟨v1, e1, b1⟩ := rz_flt Try.underlying37 h2
  simp only [List.cons.injEq, and_true] at e1; subst e1
  have h3 := rz_at Try.underlying39 h 2 rfl (ty := 9) (off := 2) rfl rfl Try.cells9 (ds := [c2]) rfl
  obtain ⟨v2, e2, b2⟩ := rz_str Try.underlying9 h3
  simp only [List.cons.injEq, and_true] at e2; subst e2
  exact ⟨⟨v0, v1, v2⟩, rfl, ⟨b0, b0', b1, b2⟩⟩

theorem argZ_stamp {H : Type} {enc : TypeId × Value → H} {W : World} {v : Value} (h : ArgZ enc Try.prog W 24 v) : ∃ s : Stp, v = .agg #[.int .i64 s.w, .int .i64 s.l, .int .i64 s.n] ∧ True := by
  obtain ⟨cs, rfl, hl, hz⟩ := argZ_struct Try.underlying24 h
  rw [Try.cells24] at hl
  obtain ⟨s, rfl, hr⟩ := rz_stamp cs hl hz
  exact ⟨s, rfl, hr⟩

theorem argZ_vl {H : Type} {enc : TypeId × Value → H} {W : World} {v : Value} (h : ArgZ enc Try.prog W 39 v) : ∃ s : Vl, v = .agg #[.int .i64 s.k, .float .f64 s.num, .string ⟨s.tx.toArray⟩] ∧ s.wf := by
  obtain ⟨cs, rfl, hl, hz⟩ := argZ_struct Try.underlying39 h
  rw [Try.cells39] at hl
  obtain ⟨s, rfl, hr⟩ := rz_vl cs hl hz
  exact ⟨s, rfl, hr⟩

end Go.Proofs.Ytpggijfpkgglmaa
