/- Reading operations. -/
import Derived.Test.YthhdoeflafakaaaS8
import Derived.Test.YthhdoeflafakaaaSxY
set_option linter.unusedSimpArgs false
set_option linter.unusedVariables false
namespace Go.Proofs.Ythhdoeflafakaaa
open Sx Go.ChangeShapes Go.WideShapes Go.ChangeAt Go.RowKit

theorem own : ownKnob Try.prog.godebug = none := by kernel_rfl
theorem laidOut : laidOutB Try.prog = true := by kernel_rfl

theorem Try.cells3 : Try.prog.cellsOf 3 = 1 := by kernel_rfl
theorem Try.cells9 : Try.prog.cellsOf 9 = 1 := by kernel_rfl
theorem Try.cells28 : Try.prog.cellsOf 28 = 3 := by kernel_rfl
theorem Try.cells32 : Try.prog.cellsOf 32 = 3 := by kernel_rfl
theorem Try.cells33 : Try.prog.cellsOf 33 = 1 := by kernel_rfl
theorem Try.cells35 : Try.prog.cellsOf 35 = 9 := by kernel_rfl
theorem Try.cells37 : Try.prog.cellsOf 37 = 14 := by kernel_rfl
theorem Try.cells46 : Try.prog.cellsOf 46 = 1 := by kernel_rfl
theorem Try.cells48 : Try.prog.cellsOf 48 = 3 := by kernel_rfl
theorem Try.cells50 : Try.prog.cellsOf 50 = 4 := by kernel_rfl

theorem rz_wr {H : Type} {enc : TypeId × Value → H} {w : World} {base : Nat} {spare : Nat → Bool} {held : Bool} (cs : List Value) (hl : cs.length = 4) (h : Rz enc Try.prog w base spare held 50 cs) : ∃ r : Wt, cs = r.cells ∧ r.wf := by
  obtain ⟨c0, c1, c2, c3, rfl⟩ : ∃ c0 c1 c2 c3, cs = [c0, c1, c2, c3] := by
    match cs, hl with
    | [c0, c1, c2, c3], _ => exact ⟨_, _, _, _, rfl⟩
  have h1 := rz_at Try.underlying50 h 0 rfl (ty := 9) (off := 0) rfl rfl Try.cells9 (ds := [c0]) rfl
  obtain ⟨v0, e0, b0⟩ := rz_str Try.underlying9 h1
  simp only [List.cons.injEq, and_true] at e0; subst e0
  have h2 := rz_at Try.underlying50 h 1 rfl (ty := 48) (off := 1) rfl rfl Try.cells48 (ds := [c1, c2, c3]) rfl
  have h3 := rz_at Try.underlying48 h2 0 rfl (ty := 3) (off := 0) rfl rfl Try.cells3 (ds := [c1]) rfl
  obtain ⟨v1, e1, b1, b1'⟩ := rz_int Try.underlying3 h3
  simp only [List.cons.injEq, and_true] at e1; subst e1
  have h4 := rz_at Try.underlying48 h2 1 rfl (ty := 46) (off := 1) rfl rfl Try.cells46 (ds := [c2]) rfl
  obtain ⟨v2, e2, b2⟩ := rz_flt Try.underlying46 h4
  simp only [List.cons.injEq, and_true] at e2; subst e2
  have h5 := rz_at Try.underlying48 h2 2 rfl (ty := 9) (off := 2) rfl rfl Try.cells9 (ds := [c3]) rfl
  obtain ⟨v3, e3, b3⟩ := rz_str Try.underlying9 h5
  simp only [List.cons.injEq, and_true] at e3; subst e3
  exact ⟨⟨v0, ⟨v1, v2, v3⟩⟩, rfl, ⟨b0, ⟨b1, b1', b2, b3⟩⟩⟩

theorem rz_op {H : Type} {enc : TypeId × Value → H} {w : World} {base : Nat} {spare : Nat → Bool} {held : Bool} (cs : List Value) (hl : cs.length = 14) (h : Rz enc Try.prog w base spare held 37 cs) : ∃ r : Op, cs = r.cells ∧ (Ss w r.f.ad Wt.cells 4 r.f.ws ∧ (∀ y ∈ r.f.ws, y.wf) ∧ (r.f.ad = none → r.f.ws.length = 0 ∧ r.f.c = 0) ∧ r.f.ws.length ≤ 9223372036854775806) := by
  obtain ⟨c0, c1, c2, c3, c4, c5, c6, c7, c8, c9, c10, c11, c12, c13, rfl⟩ : ∃ c0 c1 c2 c3 c4 c5 c6 c7 c8 c9 c10 c11 c12 c13, cs = [c0, c1, c2, c3, c4, c5, c6, c7, c8, c9, c10, c11, c12, c13] := by
    match cs, hl with
    | [c0, c1, c2, c3, c4, c5, c6, c7, c8, c9, c10, c11, c12, c13], _ => exact ⟨_, _, _, _, _, _, _, _, _, _, _, _, _, _, rfl⟩
  have h1 := rz_at Try.underlying37 h 0 rfl (ty := 3) (off := 0) rfl rfl Try.cells3 (ds := [c0]) rfl
  obtain ⟨v0, e0, b0, b0'⟩ := rz_int Try.underlying3 h1
  simp only [List.cons.injEq, and_true] at e0; subst e0
  have h2 := rz_at Try.underlying37 h 1 rfl (ty := 3) (off := 1) rfl rfl Try.cells3 (ds := [c1]) rfl
  obtain ⟨v1, e1, b1, b1'⟩ := rz_int Try.underlying3 h2
  simp only [List.cons.injEq, and_true] at e1; subst e1
  have h3 := rz_at Try.underlying37 h 2 rfl (ty := 35) (off := 2) rfl rfl Try.cells35 (ds := [c2, c3, c4, c5, c6, c7, c8, c9, c10]) rfl
  have h4 := rz_at Try.underlying35 h3 0 rfl (ty := 3) (off := 0) rfl rfl Try.cells3 (ds := [c2]) rfl
  obtain ⟨v2, e2, b2, b2'⟩ := rz_int Try.underlying3 h4
  simp only [List.cons.injEq, and_true] at e2; subst e2
  have h5 := rz_at Try.underlying35 h3 1 rfl (ty := 3) (off := 1) rfl rfl Try.cells3 (ds := [c3]) rfl
  obtain ⟨v3, e3, b3, b3'⟩ := rz_int Try.underlying3 h5
  simp only [List.cons.injEq, and_true] at e3; subst e3
  have h6 := rz_at Try.underlying35 h3 2 rfl (ty := 32) (off := 2) rfl rfl Try.cells32 (ds := [c4, c5, c6]) rfl
  have h7 := rz_at Try.underlying32 h6 0 rfl (ty := 3) (off := 0) rfl rfl Try.cells3 (ds := [c4]) rfl
  obtain ⟨v4, e4, b4, b4'⟩ := rz_int Try.underlying3 h7
  simp only [List.cons.injEq, and_true] at e4; subst e4
  have h8 := rz_at Try.underlying32 h6 1 rfl (ty := 3) (off := 1) rfl rfl Try.cells3 (ds := [c5]) rfl
  obtain ⟨v5, e5, b5, b5'⟩ := rz_int Try.underlying3 h8
  simp only [List.cons.injEq, and_true] at e5; subst e5
  have h9 := rz_at Try.underlying32 h6 2 rfl (ty := 3) (off := 2) rfl rfl Try.cells3 (ds := [c6]) rfl
  obtain ⟨v6, e6, b6, b6'⟩ := rz_int Try.underlying3 h9
  simp only [List.cons.injEq, and_true] at e6; subst e6
  have h10 := rz_at Try.underlying35 h3 3 rfl (ty := 28) (off := 5) rfl rfl Try.cells28 (ds := [c7, c8, c9]) rfl
  have h11 := rz_at Try.underlying28 h10 0 rfl (ty := 3) (off := 0) rfl rfl Try.cells3 (ds := [c7]) rfl
  obtain ⟨v7, e7, b7, b7'⟩ := rz_int Try.underlying3 h11
  simp only [List.cons.injEq, and_true] at e7; subst e7
  have h12 := rz_at Try.underlying28 h10 1 rfl (ty := 3) (off := 1) rfl rfl Try.cells3 (ds := [c8]) rfl
  obtain ⟨v8, e8, b8, b8'⟩ := rz_int Try.underlying3 h12
  simp only [List.cons.injEq, and_true] at e8; subst e8
  have h13 := rz_at Try.underlying28 h10 2 rfl (ty := 3) (off := 2) rfl rfl Try.cells3 (ds := [c9]) rfl
  obtain ⟨v9, e9, b9, b9'⟩ := rz_int Try.underlying3 h13
  simp only [List.cons.injEq, and_true] at e9; subst e9
  have h14 := rz_at Try.underlying35 h3 4 rfl (ty := 33) (off := 8) rfl rfl Try.cells33 (ds := [c10]) rfl
  obtain ⟨ad10, cc10, v10, e10, s10, r10, n10, m10, -, z10⟩ := rz_things (en := Wt.cells) (R := fun r => r.wf) Try.underlying33 Try.cells50 (by decide) Wt.len (fun cs hl hz => rz_wr cs hl hz) h14
  rw [show Try.prog.bytesOf 50 = 48 from by kernel_rfl] at z10
  simp only [List.cons.injEq, and_true] at e10; subst e10
  have h15 := rz_at Try.underlying37 h 3 rfl (ty := 28) (off := 11) rfl rfl Try.cells28 (ds := [c11, c12, c13]) rfl
  have h16 := rz_at Try.underlying28 h15 0 rfl (ty := 3) (off := 0) rfl rfl Try.cells3 (ds := [c11]) rfl
  obtain ⟨v11, e11, b11, b11'⟩ := rz_int Try.underlying3 h16
  simp only [List.cons.injEq, and_true] at e11; subst e11
  have h17 := rz_at Try.underlying28 h15 1 rfl (ty := 3) (off := 1) rfl rfl Try.cells3 (ds := [c12]) rfl
  obtain ⟨v12, e12, b12, b12'⟩ := rz_int Try.underlying3 h17
  simp only [List.cons.injEq, and_true] at e12; subst e12
  have h18 := rz_at Try.underlying28 h15 2 rfl (ty := 3) (off := 2) rfl rfl Try.cells3 (ds := [c13]) rfl
  obtain ⟨v13, e13, b13, b13'⟩ := rz_int Try.underlying3 h18
  simp only [List.cons.injEq, and_true] at e13; subst e13
  exact ⟨⟨v0, v1, ⟨v2, v3, ⟨v4, v5, v6⟩, ⟨v7, v8, v9⟩, ad10, cc10, v10⟩, ⟨v11, v12, v13⟩⟩, rfl, ⟨s10, r10, n10, by show v10.length ≤ _; omega⟩⟩

theorem rz_st {H : Type} {enc : TypeId × Value → H} {w : World} {base : Nat} {spare : Nat → Bool} {held : Bool} (cs : List Value) (hl : cs.length = 3) (h : Rz enc Try.prog w base spare held 28 cs) : ∃ r : Stp, cs = r.cells ∧ True := by
  obtain ⟨c0, c1, c2, rfl⟩ : ∃ c0 c1 c2, cs = [c0, c1, c2] := by
    match cs, hl with
    | [c0, c1, c2], _ => exact ⟨_, _, _, rfl⟩
  have h1 := rz_at Try.underlying28 h 0 rfl (ty := 3) (off := 0) rfl rfl Try.cells3 (ds := [c0]) rfl
  obtain ⟨v0, e0, b0, b0'⟩ := rz_int Try.underlying3 h1
  simp only [List.cons.injEq, and_true] at e0; subst e0
  have h2 := rz_at Try.underlying28 h 1 rfl (ty := 3) (off := 1) rfl rfl Try.cells3 (ds := [c1]) rfl
  obtain ⟨v1, e1, b1, b1'⟩ := rz_int Try.underlying3 h2
  simp only [List.cons.injEq, and_true] at e1; subst e1
  have h3 := rz_at Try.underlying28 h 2 rfl (ty := 3) (off := 2) rfl rfl Try.cells3 (ds := [c2]) rfl
  obtain ⟨v2, e2, b2, b2'⟩ := rz_int Try.underlying3 h3
  simp only [List.cons.injEq, and_true] at e2; subst e2
  exact ⟨⟨v0, v1, v2⟩, rfl, trivial⟩

theorem argZ_ops {H : Type} {enc : TypeId × Value → H} {W : World} {v : Value} (h : ArgZ enc Try.prog W 22 v) : ∃ ad c l, v = .slice ad (List.length l) c ∧ Ss W ad Op.cells 14 l ∧ (∀ r ∈ l, (Ss W r.f.ad Wt.cells 4 r.f.ws ∧ (∀ y ∈ r.f.ws, y.wf) ∧ (r.f.ad = none → r.f.ws.length = 0 ∧ r.f.c = 0) ∧ r.f.ws.length ≤ 9223372036854775806)) ∧ (ad = none → l.length = 0 ∧ c = 0) ∧ l.length ≤ c ∧ l.length * 128 ≤ 140737488351232 := by
  obtain ⟨ad, c, l, rfl, h1, h2, h3, h4, h5, h6⟩ := argZ_things (en := Op.cells) (R := fun r => (Ss W r.f.ad Wt.cells 4 r.f.ws ∧ (∀ y ∈ r.f.ws, y.wf) ∧ (r.f.ad = none → r.f.ws.length = 0 ∧ r.f.c = 0) ∧ r.f.ws.length ≤ 9223372036854775806)) Try.underlying22 Try.cells37 (by decide) Op.len (fun cs hl hz => rz_op cs hl hz) h
  rw [show Try.prog.bytesOf 37 = 128 from by kernel_rfl] at h6
  exact ⟨ad, c, l, rfl, h1, h2, h3, h4, h6⟩

theorem argZ_st {H : Type} {enc : TypeId × Value → H} {W : World} {v : Value} (h : ArgZ enc Try.prog W 28 v) : ∃ s : Stp, v = .agg s.cells.toArray := by
  obtain ⟨cs, rfl, hl, hz⟩ := argZ_struct Try.underlying28 h
  obtain ⟨r, rfl, -⟩ := rz_st cs (by rw [hl]; exact Try.cells28) hz
  exact ⟨r, rfl⟩

theorem list_1 {α : Type} {ds : List α} {n : Nat} (h : ds.length = n) (hn : n = 1) : ∃ a0, ds = [a0] := by
  subst hn
  match ds, h with
  | [a0], _ => exact ⟨a0, rfl⟩

theorem list_2 {α : Type} {ds : List α} {n : Nat} (h : ds.length = n) (hn : n = 2) : ∃ a0 a1, ds = [a0, a1] := by
  subst hn
  match ds, h with
  | [a0, a1], _ => exact ⟨a0, a1, rfl⟩

theorem list_3 {α : Type} {ds : List α} {n : Nat} (h : ds.length = n) (hn : n = 3) : ∃ a0 a1 a2, ds = [a0, a1, a2] := by
  subst hn
  match ds, h with
  | [a0, a1, a2], _ => exact ⟨a0, a1, a2, rfl⟩

end Go.Proofs.Ythhdoeflafakaaa
