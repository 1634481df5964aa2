/- Reading the arguments. -/
import Derived.Test.YtainemoobhkeiaaGreatDoorN2
import Derived.Test.YtainemoobhkeiaaGreatDoorN3
import Derived.Test.YtainemoobhkeiaaGreatDoorSxP
set_option linter.unusedSimpArgs false
set_option linter.unusedVariables false
namespace Go.Proofs.YtainemoobhkeiaaGreatDoor
open Sx Go.ChangeShapes Go.WideShapes Go.ChangeAt Go.RowKit
theorem own : ownKnob Tryz.prog.godebug = none := by kernel_rfl
theorem laidOut : laidOutB Tryz.prog = true := by kernel_rfl
theorem Tryz.cells3 : Tryz.prog.cellsOf 3 = 1 := by kernel_rfl
theorem Tryz.cells4 : Tryz.prog.cellsOf 4 = 1 := by kernel_rfl
theorem Tryz.cells9 : Tryz.prog.cellsOf 9 = 1 := by kernel_rfl
theorem Tryz.cells22 : Tryz.prog.cellsOf 22 = 1 := by kernel_rfl
theorem Tryz.cells24 : Tryz.prog.cellsOf 24 = 3 := by kernel_rfl
theorem read_query {H : Type} {enc : TypeId × Value → H} {w : World} {base : Nat} {spare : Nat → Bool} {held : Bool} (n : Nat) (cs : List Value) (y : DataW H × List MemPlace) (hl : cs.length = 12) (h : DataW.trod enc Tryz.prog w base spare held n 26 cs = some y) :
    ∃ (v0 : List UInt8) (v1 : List UInt8) (v2 : Int) (v3 : Int) (v4 : Nat) (v5 : List UInt8) (v6 : Int) (v7 : Nat) (v8 : List UInt8) (v9 : Bool) (v10 : Int) (v11 : List UInt8), cs = (⟨v0, v1, v2, ⟨v3, v4, v5⟩, ⟨v6, v7, v8⟩, v9, v10, v11⟩ : Query).cells ∧ v0.length ≤ 9223372036854775807 ∧ v1.length ≤ 9223372036854775807 ∧ (-9223372036854775808 ≤ v2 ∧ v2 ≤ 9223372036854775807) ∧ (-9223372036854775808 ≤ v3 ∧ v3 ≤ 9223372036854775807) ∧ v4 < 2 ^ 64 ∧ v5.length ≤ 9223372036854775807 ∧ (-9223372036854775808 ≤ v6 ∧ v6 ≤ 9223372036854775807) ∧ v7 < 2 ^ 64 ∧ v8.length ≤ 9223372036854775807 ∧ (-9223372036854775808 ≤ v10 ∧ v10 ≤ 9223372036854775807) ∧ v11.length ≤ 9223372036854775807 := by
  obtain ⟨c0, c1, c2, c3, c4, c5, c6, c7, c8, c9, c10, c11, rfl⟩ : ∃ c0 c1 c2 c3 c4 c5 c6 c7 c8 c9 c10 c11, cs = [c0, c1, c2, c3, c4, c5, c6, c7, c8, c9, c10, c11] := by
    match cs, hl with
    | [c0, c1, c2, c3, c4, c5, c6, c7, c8, c9, c10, c11], _ => exact ⟨_, _, _, _, _, _, _, _, _, _, _, _, rfl⟩
  obtain ⟨n1, y1, h1⟩ := Sx.rd_at Tryz.underlying26 h 0 rfl (ty := 9) (off := 0) rfl rfl Tryz.cells9 (ds := [c0]) rfl
  obtain ⟨v0, e0, b0⟩ := Sx.read_str Tryz.underlying9 h1
  simp only [List.cons.injEq, and_true] at e0; subst e0
  obtain ⟨n2, y2, h2⟩ := Sx.rd_at Tryz.underlying26 h 1 rfl (ty := 9) (off := 1) rfl rfl Tryz.cells9 (ds := [c1]) rfl
  obtain ⟨v1, e1, b1⟩ := Sx.read_str Tryz.underlying9 h2
  simp only [List.cons.injEq, and_true] at e1; subst e1
  obtain ⟨n3, y3, h3⟩ := Sx.rd_at Tryz.underlying26 h 2 rfl (ty := 3) (off := 2) rfl rfl Tryz.cells3 (ds := [c2]) rfl
  obtain ⟨v2, e2, b2, b2'⟩ := Sx.read_int Tryz.underlying3 h3
  simp only [List.cons.injEq, and_true] at e2; subst e2
  obtain ⟨n4, y4, h4⟩ := Sx.rd_at Tryz.underlying26 h 3 rfl (ty := 24) (off := 3) rfl rfl Tryz.cells24 (ds := [c3, c4, c5]) rfl
  obtain ⟨n5, y5, h5⟩ := Sx.rd_at Tryz.underlying24 h4 0 rfl (ty := 3) (off := 0) rfl rfl Tryz.cells3 (ds := [c3]) rfl
  obtain ⟨v3, e3, b3, b3'⟩ := Sx.read_int Tryz.underlying3 h5
  simp only [List.cons.injEq, and_true] at e3; subst e3
  obtain ⟨n6, y6, h6⟩ := Sx.rd_at Tryz.underlying24 h4 1 rfl (ty := 22) (off := 1) rfl rfl Tryz.cells22 (ds := [c4]) rfl
  obtain ⟨v4, e4, b4⟩ := Sx.read_flt Tryz.underlying22 h6
  simp only [List.cons.injEq, and_true] at e4; subst e4
  obtain ⟨n7, y7, h7⟩ := Sx.rd_at Tryz.underlying24 h4 2 rfl (ty := 9) (off := 2) rfl rfl Tryz.cells9 (ds := [c5]) rfl
  obtain ⟨v5, e5, b5⟩ := Sx.read_str Tryz.underlying9 h7
  simp only [List.cons.injEq, and_true] at e5; subst e5
  obtain ⟨n8, y8, h8⟩ := Sx.rd_at Tryz.underlying26 h 4 rfl (ty := 24) (off := 6) rfl rfl Tryz.cells24 (ds := [c6, c7, c8]) rfl
  obtain ⟨n9, y9, h9⟩ := Sx.rd_at Tryz.underlying24 h8 0 rfl (ty := 3) (off := 0) rfl rfl Tryz.cells3 (ds := [c6]) rfl
  obtain ⟨v6, e6, b6, b6'⟩ := Sx.read_int Tryz.underlying3 h9
  simp only [List.cons.injEq, and_true] at e6; subst e6
  obtain ⟨n10, y10, h10⟩ := Sx.rd_at Tryz.underlying24 h8 1 rfl (ty := 22) (off := 1) rfl rfl Tryz.cells22 (ds := [c7]) rfl
  obtain ⟨v7, e7, b7⟩ := Sx.read_flt Tryz.underlying22 h10
  simp only [List.cons.injEq, and_true] at e7; subst e7
  obtain ⟨n11, y11, h11⟩ := Sx.rd_at Tryz.underlying24 h8 2 rfl (ty := 9) (off := 2) rfl rfl Tryz.cells9 (ds := [c8]) rfl
  obtain ⟨v8, e8, b8⟩ := Sx.read_str Tryz.underlying9 h11
  simp only [List.cons.injEq, and_true] at e8; subst e8
  obtain ⟨n12, y12, h12⟩ := Sx.rd_at Tryz.underlying26 h 5 rfl (ty := 4) (off := 9) rfl rfl Tryz.cells4 (ds := [c9]) rfl
  obtain ⟨v9, e9⟩ := Sx.read_bool Tryz.underlying4 h12
  simp only [List.cons.injEq, and_true] at e9; subst e9
  obtain ⟨n13, y13, h13⟩ := Sx.rd_at Tryz.underlying26 h 6 rfl (ty := 3) (off := 10) rfl rfl Tryz.cells3 (ds := [c10]) rfl
  obtain ⟨v10, e10, b10, b10'⟩ := Sx.read_int Tryz.underlying3 h13
  simp only [List.cons.injEq, and_true] at e10; subst e10
  obtain ⟨n14, y14, h14⟩ := Sx.rd_at Tryz.underlying26 h 7 rfl (ty := 9) (off := 11) rfl rfl Tryz.cells9 (ds := [c11]) rfl
  obtain ⟨v11, e11, b11⟩ := Sx.read_str Tryz.underlying9 h14
  simp only [List.cons.injEq, and_true] at e11; subst e11
  exact ⟨v0, v1, v2, v3, v4, v5, v6, v7, v8, v9, v10, v11, rfl, b0, b1, ⟨b2, b2'⟩, ⟨b3, b3'⟩, b4, b5, ⟨b6, b6'⟩, b7, b8, ⟨b10, b10'⟩, b11⟩
theorem list_2 {α : Type} {ds : List α} {n : Nat} (h : ds.length = n) (hn : n = 2) : ∃ a0 a1, ds = [a0, a1] := by
  subst hn
  match ds, h with
  | [a0, a1], _ => exact ⟨a0, a1, rfl⟩
end Go.Proofs.YtainemoobhkeiaaGreatDoor
