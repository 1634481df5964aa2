/- Reading operations. -/
import Derived.Test.YtdjfbkllbeeabaaGreatM0
import Derived.Test.YtdjfbkllbeeabaaGreatC2
import Derived.Test.YtdjfbkllbeeabaaGreatSxY
set_option linter.unusedSimpArgs false
set_option linter.unusedVariables false
namespace Go.Proofs.YtdjfbkllbeeabaaGreat
open Sx Go.ChangeShapes Go.WideShapes Go.ChangeAt Go.RowKit

theorem own : ownKnob Tryz.prog.godebug = none := by kernel_rfl
theorem laidOut : laidOutB Tryz.prog = true := by kernel_rfl

theorem Tryz.cells3 : Tryz.prog.cellsOf 3 = 1 := by kernel_rfl
theorem Tryz.cells9 : Tryz.prog.cellsOf 9 = 1 := by kernel_rfl
theorem Tryz.cells23 : Tryz.prog.cellsOf 23 = 3 := by kernel_rfl
theorem Tryz.cells35 : Tryz.prog.cellsOf 35 = 3 := by kernel_rfl
theorem Tryz.cells36 : Tryz.prog.cellsOf 36 = 1 := by kernel_rfl
theorem Tryz.cells38 : Tryz.prog.cellsOf 38 = 9 := by kernel_rfl
theorem Tryz.cells40 : Tryz.prog.cellsOf 40 = 15 := by kernel_rfl
theorem Tryz.cells45 : Tryz.prog.cellsOf 45 = 1 := by kernel_rfl
theorem Tryz.cells47 : Tryz.prog.cellsOf 47 = 3 := by kernel_rfl
theorem Tryz.cells49 : Tryz.prog.cellsOf 49 = 4 := by kernel_rfl

theorem rz_wr {H : Type} {enc : TypeId × Value → H} {w : World} {base : Nat} {spare : Nat → Bool} {held : Bool} (cs : List Value) (hl : cs.length = 4) (h : Rz enc Tryz.prog w base spare held 49 cs) : ∃ r : Wt, cs = r.cells ∧ r.wf := by
  obtain ⟨c0, c1, c2, c3, rfl⟩ : ∃ c0 c1 c2 c3, cs = [c0, c1, c2, c3] := by
    match cs, hl with
    | [c0, c1, c2, c3], _ => exact ⟨_, _, _, _, rfl⟩
  have h1 := rz_at Tryz.underlying49 h 0 rfl (ty := 9) (off := 0) rfl rfl Tryz.cells9 (ds := [c0]) rfl
  obtain ⟨v0, e0, b0⟩ := rz_str Tryz.underlying9 h1
  simp only [List.cons.injEq, and_true] at e0; subst e0
  have h2 := rz_at Tryz.underlying49 h 1 rfl (ty := 47) (off := 1) rfl rfl Tryz.cells47 (ds := [c1, c2, c3]) rfl
  have h3 := rz_at Tryz.underlying47 h2 0 rfl (ty := 3) (off := 0) rfl rfl Tryz.cells3 (ds := [c1]) rfl
  obtain ⟨v1, e1, b1, b1'⟩ := rz_int Tryz.underlying3 h3
  simp only [List.cons.injEq, and_true] at e1; subst e1
  have h4 := rz_at Tryz.underlying47 h2 1 rfl (ty := 45) (off := 1) rfl rfl Tryz.cells45 (ds := [c2]) rfl
  obtain ⟨v2, e2, b2⟩ := rz_flt Tryz.underlying45 h4
  simp only [List.cons.injEq, and_true] at e2; subst e2
  have h5 := rz_at Tryz.underlying47 h2 2 rfl (ty := 9) (off := 2) rfl rfl Tryz.cells9 (ds := [c3]) rfl
  obtain ⟨v3, e3, b3⟩ := rz_str Tryz.underlying9 h5
  simp only [List.cons.injEq, and_true] at e3; subst e3
  exact ⟨⟨v0, ⟨v1, v2, v3⟩⟩, rfl, ⟨b0, ⟨b1, b1', b2, b3⟩⟩⟩

theorem rz_op {H : Type} {enc : TypeId × Value → H} {w : World} {base : Nat} {spare : Nat → Bool} {held : Bool} (cs : List Value) (hl : cs.length = 15) (h : Rz enc Tryz.prog w base spare held 40 cs) : ∃ r : Op, cs = r.cells ∧ (Ss w r.f.ad Wt.cells 4 r.f.ws ∧ (∀ y ∈ r.f.ws, y.wf) ∧ (r.f.ad = none → r.f.ws.length = 0 ∧ r.f.c = 0) ∧ r.f.ws.length ≤ 9223372036854775806 ∧ OpB r) := by
  obtain ⟨c0, c1, c2, c3, c4, c5, c6, c7, c8, c9, c10, c11, c12, c13, c14, rfl⟩ : ∃ c0 c1 c2 c3 c4 c5 c6 c7 c8 c9 c10 c11 c12 c13 c14, cs = [c0, c1, c2, c3, c4, c5, c6, c7, c8, c9, c10, c11, c12, c13, c14] := by
    match cs, hl with
    | [c0, c1, c2, c3, c4, c5, c6, c7, c8, c9, c10, c11, c12, c13, c14], _ => exact ⟨_, _, _, _, _, _, _, _, _, _, _, _, _, _, _, rfl⟩
  have h1 := rz_at Tryz.underlying40 h 0 rfl (ty := 3) (off := 0) rfl rfl Tryz.cells3 (ds := [c0]) rfl
  obtain ⟨v0, e0, b0, b0'⟩ := rz_int Tryz.underlying3 h1
  simp only [List.cons.injEq, and_true] at e0; subst e0
  have h2 := rz_at Tryz.underlying40 h 1 rfl (ty := 3) (off := 1) rfl rfl Tryz.cells3 (ds := [c1]) rfl
  obtain ⟨v1, e1, b1, b1'⟩ := rz_int Tryz.underlying3 h2
  simp only [List.cons.injEq, and_true] at e1; subst e1
  have h3 := rz_at Tryz.underlying40 h 2 rfl (ty := 3) (off := 2) rfl rfl Tryz.cells3 (ds := [c2]) rfl
  obtain ⟨v2, e2, b2, b2'⟩ := rz_int Tryz.underlying3 h3
  simp only [List.cons.injEq, and_true] at e2; subst e2
  have h4 := rz_at Tryz.underlying40 h 3 rfl (ty := 23) (off := 3) rfl rfl Tryz.cells23 (ds := [c3, c4, c5]) rfl
  have h5 := rz_at Tryz.underlying23 h4 0 rfl (ty := 3) (off := 0) rfl rfl Tryz.cells3 (ds := [c3]) rfl
  obtain ⟨v3, e3, b3, b3'⟩ := rz_int Tryz.underlying3 h5
  simp only [List.cons.injEq, and_true] at e3; subst e3
  have h6 := rz_at Tryz.underlying23 h4 1 rfl (ty := 3) (off := 1) rfl rfl Tryz.cells3 (ds := [c4]) rfl
  obtain ⟨v4, e4, b4, b4'⟩ := rz_int Tryz.underlying3 h6
  simp only [List.cons.injEq, and_true] at e4; subst e4
  have h7 := rz_at Tryz.underlying23 h4 2 rfl (ty := 3) (off := 2) rfl rfl Tryz.cells3 (ds := [c5]) rfl
  obtain ⟨v5, e5, b5, b5'⟩ := rz_int Tryz.underlying3 h7
  simp only [List.cons.injEq, and_true] at e5; subst e5
  have h8 := rz_at Tryz.underlying40 h 4 rfl (ty := 38) (off := 6) rfl rfl Tryz.cells38 (ds := [c6, c7, c8, c9, c10, c11, c12, c13, c14]) rfl
  have h9 := rz_at Tryz.underlying38 h8 0 rfl (ty := 3) (off := 0) rfl rfl Tryz.cells3 (ds := [c6]) rfl
  obtain ⟨v6, e6, b6, b6'⟩ := rz_int Tryz.underlying3 h9
  simp only [List.cons.injEq, and_true] at e6; subst e6
  have h10 := rz_at Tryz.underlying38 h8 1 rfl (ty := 3) (off := 1) rfl rfl Tryz.cells3 (ds := [c7]) rfl
  obtain ⟨v7, e7, b7, b7'⟩ := rz_int Tryz.underlying3 h10
  simp only [List.cons.injEq, and_true] at e7; subst e7
  have h11 := rz_at Tryz.underlying38 h8 2 rfl (ty := 35) (off := 2) rfl rfl Tryz.cells35 (ds := [c8, c9, c10]) rfl
  have h12 := rz_at Tryz.underlying35 h11 0 rfl (ty := 3) (off := 0) rfl rfl Tryz.cells3 (ds := [c8]) rfl
  obtain ⟨v8, e8, b8, b8'⟩ := rz_int Tryz.underlying3 h12
  simp only [List.cons.injEq, and_true] at e8; subst e8
  have h13 := rz_at Tryz.underlying35 h11 1 rfl (ty := 3) (off := 1) rfl rfl Tryz.cells3 (ds := [c9]) rfl
  obtain ⟨v9, e9, b9, b9'⟩ := rz_int Tryz.underlying3 h13
  simp only [List.cons.injEq, and_true] at e9; subst e9
  have h14 := rz_at Tryz.underlying35 h11 2 rfl (ty := 3) (off := 2) rfl rfl Tryz.cells3 (ds := [c10]) rfl
  obtain ⟨v10, e10, b10, b10'⟩ := rz_int Tryz.underlying3 h14
  simp only [List.cons.injEq, and_true] at e10; subst e10
  have h15 := rz_at Tryz.underlying38 h8 3 rfl (ty := 23) (off := 5) rfl rfl Tryz.cells23 (ds := [c11, c12, c13]) rfl
  have h16 := rz_at Tryz.underlying23 h15 0 rfl (ty := 3) (off := 0) rfl rfl Tryz.cells3 (ds := [c11]) rfl
  obtain ⟨v11, e11, b11, b11'⟩ := rz_int Tryz.underlying3 h16
  simp only [List.cons.injEq, and_true] at e11; subst e11
  have h17 := rz_at Tryz.underlying23 h15 1 rfl (ty := 3) (off := 1) rfl rfl Tryz.cells3 (ds := [c12]) rfl
  obtain ⟨v12, e12, b12, b12'⟩ := rz_int Tryz.underlying3 h17
  simp only [List.cons.injEq, and_true] at e12; subst e12
  have h18 := rz_at Tryz.underlying23 h15 2 rfl (ty := 3) (off := 2) rfl rfl Tryz.cells3 (ds := [c13]) rfl
  obtain ⟨v13, e13, b13, b13'⟩ := rz_int Tryz.underlying3 h18
  simp only [List.cons.injEq, and_true] at e13; subst e13
  have h19 := rz_at Tryz.underlying38 h8 4 rfl (ty := 36) (off := 8) rfl rfl Tryz.cells36 (ds := [c14]) rfl
  obtain ⟨ad14, cc14, v14, e14, s14, r14, n14, m14, -, z14⟩ := rz_things (en := Wt.cells) (R := fun r => r.wf) Tryz.underlying36 Tryz.cells49 (by decide) Wt.len (fun cs hl hz => rz_wr cs hl hz) h19
  rw [show Tryz.prog.bytesOf 49 = 48 from by kernel_rfl] at z14
  simp only [List.cons.injEq, and_true] at e14; subst e14
  exact ⟨⟨v0, v1, v2, ⟨v3, v4, v5⟩, ⟨v6, v7, ⟨v8, v9, v10⟩, ⟨v11, v12, v13⟩, ad14, cc14, v14⟩⟩, rfl, ⟨s14, r14, n14, by show v14.length ≤ _; omega, ⟨b1, b1', b6, b6'⟩⟩⟩

theorem rz_st {H : Type} {enc : TypeId × Value → H} {w : World} {base : Nat} {spare : Nat → Bool} {held : Bool} (cs : List Value) (hl : cs.length = 3) (h : Rz enc Tryz.prog w base spare held 23 cs) : ∃ r : Stp, cs = r.cells ∧ True := by
  obtain ⟨c0, c1, c2, rfl⟩ : ∃ c0 c1 c2, cs = [c0, c1, c2] := by
    match cs, hl with
    | [c0, c1, c2], _ => exact ⟨_, _, _, rfl⟩
  have h1 := rz_at Tryz.underlying23 h 0 rfl (ty := 3) (off := 0) rfl rfl Tryz.cells3 (ds := [c0]) rfl
  obtain ⟨v0, e0, b0, b0'⟩ := rz_int Tryz.underlying3 h1
  simp only [List.cons.injEq, and_true] at e0; subst e0
  have h2 := rz_at Tryz.underlying23 h 1 rfl (ty := 3) (off := 1) rfl rfl Tryz.cells3 (ds := [c1]) rfl
  obtain ⟨v1, e1, b1, b1'⟩ := rz_int Tryz.underlying3 h2
  simp only [List.cons.injEq, and_true] at e1; subst e1
  have h3 := rz_at Tryz.underlying23 h 2 rfl (ty := 3) (off := 2) rfl rfl Tryz.cells3 (ds := [c2]) rfl
  obtain ⟨v2, e2, b2, b2'⟩ := rz_int Tryz.underlying3 h3
  simp only [List.cons.injEq, and_true] at e2; subst e2
  exact ⟨⟨v0, v1, v2⟩, rfl, trivial⟩

theorem argZ_ops {H : Type} {enc : TypeId × Value → H} {W : World} {v : Value} (h : ArgZ enc Tryz.prog W 24 v) : ∃ ad c l, v = .slice ad (List.length l) c ∧ Ss W ad Op.cells 15 l ∧ (∀ r ∈ l, (Ss W r.f.ad Wt.cells 4 r.f.ws ∧ (∀ y ∈ r.f.ws, y.wf) ∧ (r.f.ad = none → r.f.ws.length = 0 ∧ r.f.c = 0) ∧ r.f.ws.length ≤ 9223372036854775806 ∧ OpB r)) ∧ (ad = none → l.length = 0 ∧ c = 0) ∧ l.length ≤ c ∧ l.length * 136 ≤ 140737488351232 := by
  obtain ⟨ad, c, l, rfl, h1, h2, h3, h4, h5, h6⟩ := argZ_things (en := Op.cells) (R := fun r => (Ss W r.f.ad Wt.cells 4 r.f.ws ∧ (∀ y ∈ r.f.ws, y.wf) ∧ (r.f.ad = none → r.f.ws.length = 0 ∧ r.f.c = 0) ∧ r.f.ws.length ≤ 9223372036854775806 ∧ OpB r)) Tryz.underlying24 Tryz.cells40 (by decide) Op.len (fun cs hl hz => rz_op cs hl hz) h
  rw [show Tryz.prog.bytesOf 40 = 136 from by kernel_rfl] at h6
  exact ⟨ad, c, l, rfl, h1, h2, h3, h4, h6⟩

theorem argZ_st {H : Type} {enc : TypeId × Value → H} {W : World} {v : Value} (h : ArgZ enc Tryz.prog W 23 v) : ∃ s : Stp, v = .agg s.cells.toArray := by
  obtain ⟨cs, rfl, hl, hz⟩ := argZ_struct Tryz.underlying23 h
  obtain ⟨r, rfl, -⟩ := rz_st cs (by rw [hl]; exact Tryz.cells23) hz
  exact ⟨r, rfl⟩

theorem list_1 {α : Type} {ds : List α} {n : Nat} (h : ds.length = n) (hn : n = 1) : ∃ a0, ds = [a0] := by
  subst hn
  match ds, h with
  | [a0], _ => exact ⟨a0, rfl⟩

theorem list_2 {α : Type} {ds : List α} {n : Nat} (h : ds.length = n) (hn : n = 2) : ∃ a0 a1, ds = [a0, a1] := by
  subst hn
  match ds, h with
  | [a0, a1], _ => exact ⟨a0, a1, rfl⟩

theorem list_3 {α : Type} {ds : List α} {n : Nat} (h : ds.length = n) (hn : n = 3) : ∃ a0 a1 a2, ds = [a0, a1, a2] := by
  subst hn
  match ds, h with
  | [a0, a1, a2], _ => exact ⟨a0, a1, a2, rfl⟩

end Go.Proofs.YtdjfbkllbeeabaaGreat
