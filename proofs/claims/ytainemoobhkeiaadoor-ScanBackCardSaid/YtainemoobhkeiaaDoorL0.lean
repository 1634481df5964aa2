/- Reading the arguments. -/
import Derived.Test.YtainemoobhkeiaaDoorN2
import Derived.Test.YtainemoobhkeiaaDoorN3
import Derived.Test.YtainemoobhkeiaaDoorSxP
set_option linter.unusedSimpArgs false
set_option linter.unusedVariables false
namespace Go.Proofs.YtainemoobhkeiaaDoor
open Sx Go.ChangeShapes Go.WideShapes Go.ChangeAt Go.RowKit

theorem own : ownKnob Tryd.prog.godebug = none := by kernel_rfl
theorem laidOut : laidOutB Tryd.prog = true := by kernel_rfl

theorem Tryd.cells3 : Tryd.prog.cellsOf 3 = 1 := by kernel_rfl
theorem Tryd.cells4 : Tryd.prog.cellsOf 4 = 1 := by kernel_rfl
theorem Tryd.cells9 : Tryd.prog.cellsOf 9 = 1 := by kernel_rfl
theorem Tryd.cells23 : Tryd.prog.cellsOf 23 = 1 := by kernel_rfl
theorem Tryd.cells25 : Tryd.prog.cellsOf 25 = 3 := by kernel_rfl
theorem Tryd.cells27 : Tryd.prog.cellsOf 27 = 12 := by kernel_rfl
theorem Tryd.cells45 : Tryd.prog.cellsOf 45 = 4 := by kernel_rfl

theorem read_pair {H : Type} {enc : TypeId × Value → H} {w : World} {base : Nat} {spare : Nat → Bool} {held : Bool} (n : Nat) (cs : List Value) (y : DataW H × List MemPlace) (hl : cs.length = 4) (h : DataW.trod enc Tryd.prog w base spare held n 45 cs = some y) :
    ∃ (v0 : List UInt8) (v1 : Int) (v2 : Nat) (v3 : List UInt8), cs = (⟨v0, ⟨v1, v2, v3⟩⟩ : Pair).cells ∧ v0.length ≤ 9223372036854775807 ∧ (-9223372036854775808 ≤ v1 ∧ v1 ≤ 9223372036854775807) ∧ v3.length ≤ 9223372036854775807 := by
  obtain ⟨c0, c1, c2, c3, rfl⟩ : ∃ c0 c1 c2 c3, cs = [c0, c1, c2, c3] := by
    match cs, hl with
    | [c0, c1, c2, c3], _ => exact ⟨_, _, _, _, rfl⟩
  obtain ⟨n1, y1, h1⟩ := Sx.rd_at Tryd.underlying45 h 0 rfl (ty := 9) (off := 0) rfl rfl Tryd.cells9 (ds := [c0]) rfl
  obtain ⟨v0, e0, b0⟩ := Sx.read_str Tryd.underlying9 h1
  simp only [List.cons.injEq, and_true] at e0; subst e0
  obtain ⟨n2, y2, h2⟩ := Sx.rd_at Tryd.underlying45 h 1 rfl (ty := 25) (off := 1) rfl rfl Tryd.cells25 (ds := [c1, c2, c3]) rfl
  obtain ⟨n3, y3, h3⟩ := Sx.rd_at Tryd.underlying25 h2 0 rfl (ty := 3) (off := 0) rfl rfl Tryd.cells3 (ds := [c1]) rfl
  obtain ⟨v1, e1, b1, b1'⟩ := Sx.read_int Tryd.underlying3 h3
  simp only [List.cons.injEq, and_true] at e1; subst e1
  obtain ⟨n4, y4, h4⟩ := Sx.rd_at Tryd.underlying25 h2 1 rfl (ty := 23) (off := 1) rfl rfl Tryd.cells23 (ds := [c2]) rfl
  obtain ⟨v2, e2, b2⟩ := Sx.read_flt Tryd.underlying23 h4
  simp only [List.cons.injEq, and_true] at e2; subst e2
  obtain ⟨n5, y5, h5⟩ := Sx.rd_at Tryd.underlying25 h2 2 rfl (ty := 9) (off := 2) rfl rfl Tryd.cells9 (ds := [c3]) rfl
  obtain ⟨v3, e3, b3⟩ := Sx.read_str Tryd.underlying9 h5
  simp only [List.cons.injEq, and_true] at e3; subst e3
  exact ⟨v0, v1, v2, v3, rfl, b0, ⟨b1, b1'⟩, b3⟩

theorem read_query {H : Type} {enc : TypeId × Value → H} {w : World} {base : Nat} {spare : Nat → Bool} {held : Bool} (n : Nat) (cs : List Value) (y : DataW H × List MemPlace) (hl : cs.length = 12) (h : DataW.trod enc Tryd.prog w base spare held n 27 cs = some y) :
    ∃ (v0 : List UInt8) (v1 : List UInt8) (v2 : Int) (v3 : Int) (v4 : Nat) (v5 : List UInt8) (v6 : Int) (v7 : Nat) (v8 : List UInt8) (v9 : Bool) (v10 : Int) (v11 : List UInt8), cs = (⟨v0, v1, v2, ⟨v3, v4, v5⟩, ⟨v6, v7, v8⟩, v9, v10, v11⟩ : Query).cells ∧ v0.length ≤ 9223372036854775807 ∧ v1.length ≤ 9223372036854775807 ∧ (-9223372036854775808 ≤ v2 ∧ v2 ≤ 9223372036854775807) ∧ (-9223372036854775808 ≤ v3 ∧ v3 ≤ 9223372036854775807) ∧ v4 < 2 ^ 64 ∧ v5.length ≤ 9223372036854775807 ∧ (-9223372036854775808 ≤ v6 ∧ v6 ≤ 9223372036854775807) ∧ v7 < 2 ^ 64 ∧ v8.length ≤ 9223372036854775807 ∧ (-9223372036854775808 ≤ v10 ∧ v10 ≤ 9223372036854775807) ∧ v11.length ≤ 9223372036854775807 := by
  obtain ⟨c0, c1, c2, c3, c4, c5, c6, c7, c8, c9, c10, c11, rfl⟩ : ∃ c0 c1 c2 c3 c4 c5 c6 c7 c8 c9 c10 c11, cs = [c0, c1, c2, c3, c4, c5, c6, c7, c8, c9, c10, c11] := by
    match cs, hl with
    | [c0, c1, c2, c3, c4, c5, c6, c7, c8, c9, c10, c11], _ => exact ⟨_, _, _, _, _, _, _, _, _, _, _, _, rfl⟩
  obtain ⟨n1, y1, h1⟩ := Sx.rd_at Tryd.underlying27 h 0 rfl (ty := 9) (off := 0) rfl rfl Tryd.cells9 (ds := [c0]) rfl
  obtain ⟨v0, e0, b0⟩ := Sx.read_str Tryd.underlying9 h1
  simp only [List.cons.injEq, and_true] at e0; subst e0
  obtain ⟨n2, y2, h2⟩ := Sx.rd_at Tryd.underlying27 h 1 rfl (ty := 9) (off := 1) rfl rfl Tryd.cells9 (ds := [c1]) rfl
  obtain ⟨v1, e1, b1⟩ := Sx.read_str Tryd.underlying9 h2
  simp only [List.cons.injEq, and_true] at e1; subst e1
  obtain ⟨n3, y3, h3⟩ := Sx.rd_at Tryd.underlying27 h 2 rfl (ty := 3) (off := 2) rfl rfl Tryd.cells3 (ds := [c2]) rfl
  obtain ⟨v2, e2, b2, b2'⟩ := Sx.read_int Tryd.underlying3 h3
  simp only [List.cons.injEq, and_true] at e2; subst e2
  obtain ⟨n4, y4, h4⟩ := Sx.rd_at Tryd.underlying27 h 3 rfl (ty := 25) (off := 3) rfl rfl Tryd.cells25 (ds := [c3, c4, c5]) rfl
  obtain ⟨n5, y5, h5⟩ := Sx.rd_at Tryd.underlying25 h4 0 rfl (ty := 3) (off := 0) rfl rfl Tryd.cells3 (ds := [c3]) rfl
  obtain ⟨v3, e3, b3, b3'⟩ := Sx.read_int Tryd.underlying3 h5
  simp only [List.cons.injEq, and_true] at e3; subst e3
  obtain ⟨n6, y6, h6⟩ := Sx.rd_at Tryd.underlying25 h4 1 rfl (ty := 23) (off := 1) rfl rfl Tryd.cells23 (ds := [c4]) rfl
  obtain ⟨v4, e4, b4⟩ := Sx.read_flt Tryd.underlying23 h6
  simp only [List.cons.injEq, and_true] at e4; subst e4
  obtain ⟨n7, y7, h7⟩ := Sx.rd_at Tryd.underlying25 h4 2 rfl (ty := 9) (off := 2) rfl rfl Tryd.cells9 (ds := [c5]) rfl
  obtain ⟨v5, e5, b5⟩ := Sx.read_str Tryd.underlying9 h7
  simp only [List.cons.injEq, and_true] at e5; subst e5
  obtain ⟨n8, y8, h8⟩ := Sx.rd_at Tryd.underlying27 h 4 rfl (ty := 25) (off := 6) rfl rfl Tryd.cells25 (ds := [c6, c7, c8]) rfl
  obtain ⟨n9, y9, h9⟩ := Sx.rd_at Tryd.underlying25 h8 0 rfl (ty := 3) (off := 0) rfl rfl Tryd.cells3 (ds := [c6]) rfl
  obtain ⟨v6, e6, b6, b6'⟩ := Sx.read_int Tryd.underlying3 h9
  simp only [List.cons.injEq, and_true] at e6; subst e6
  obtain ⟨n10, y10, h10⟩ := Sx.rd_at Tryd.underlying25 h8 1 rfl (ty := 23) (off := 1) rfl rfl Tryd.cells23 (ds := [c7]) rfl
  obtain ⟨v7, e7, b7⟩ := Sx.read_flt Tryd.underlying23 h10
  simp only [List.cons.injEq, and_true] at e7; subst e7
  obtain ⟨n11, y11, h11⟩ := Sx.rd_at Tryd.underlying25 h8 2 rfl (ty := 9) (off := 2) rfl rfl Tryd.cells9 (ds := [c8]) rfl
  obtain ⟨v8, e8, b8⟩ := Sx.read_str Tryd.underlying9 h11
  simp only [List.cons.injEq, and_true] at e8; subst e8
  obtain ⟨n12, y12, h12⟩ := Sx.rd_at Tryd.underlying27 h 5 rfl (ty := 4) (off := 9) rfl rfl Tryd.cells4 (ds := [c9]) rfl
  obtain ⟨v9, e9⟩ := Sx.read_bool Tryd.underlying4 h12
  simp only [List.cons.injEq, and_true] at e9; subst e9
  obtain ⟨n13, y13, h13⟩ := Sx.rd_at Tryd.underlying27 h 6 rfl (ty := 3) (off := 10) rfl rfl Tryd.cells3 (ds := [c10]) rfl
  obtain ⟨v10, e10, b10, b10'⟩ := Sx.read_int Tryd.underlying3 h13
  simp only [List.cons.injEq, and_true] at e10; subst e10
  obtain ⟨n14, y14, h14⟩ := Sx.rd_at Tryd.underlying27 h 7 rfl (ty := 9) (off := 11) rfl rfl Tryd.cells9 (ds := [c11]) rfl
  obtain ⟨v11, e11, b11⟩ := Sx.read_str Tryd.underlying9 h14
  simp only [List.cons.injEq, and_true] at e11; subst e11
  exact ⟨v0, v1, v2, v3, v4, v5, v6, v7, v8, v9, v10, v11, rfl, b0, b1, ⟨b2, b2'⟩, ⟨b3, b3'⟩, b4, b5, ⟨b6, b6'⟩, b7, b8, ⟨b10, b10'⟩, b11⟩

theorem arg_pair {H : Type} {enc : TypeId × Value → H} {W : World} {v : Value} (h : Arg enc Tryd.prog W 45 v) : ∃ p : Pair, v = .agg #[.string ⟨p.key.toArray⟩, .int .i64 p.val.kind, .float .f64 p.val.num, .string ⟨p.val.text.toArray⟩] ∧ p.key.length ≤ 9223372036854775807 ∧ p.val.text.length ≤ 9223372036854775807 := by
  obtain ⟨cs, rfl, hc, n, u, hu⟩ := arg_struct Tryd.underlying45 h
  obtain ⟨a, b, c, d, rfl, h1, h2, h3⟩ := read_pair n cs u (by rw [hc]; kernel_rfl) hu
  exact ⟨⟨a, b, c, d⟩, rfl, h1, h3⟩
theorem arg_query {H : Type} {enc : TypeId × Value → H} {W : World} {v : Value} (h : Arg enc Tryd.prog W 27 v) : ∃ q : Query, v = .agg #[.string ⟨q.fr.toArray⟩, .string ⟨q.to.toArray⟩, .int .i64 q.kind, .int .i64 q.lo.kind, .float .f64 q.lo.num, .string ⟨q.lo.text.toArray⟩, .int .i64 q.hi.kind, .float .f64 q.hi.num, .string ⟨q.hi.text.toArray⟩, .bool q.back, .int .i64 q.most, .string ⟨q.after.toArray⟩] := by
  obtain ⟨cs, rfl, hc, n, u, hu⟩ := arg_struct Tryd.underlying27 h
  obtain ⟨a, b, c, d, e, f, g, i, j, k, l, m, rfl, -⟩ := read_query n cs u (by rw [hc]; kernel_rfl) hu
  exact ⟨⟨a, b, c, ⟨d, e, f⟩, ⟨g, i, j⟩, k, l, m⟩, rfl⟩
theorem arg_pairs {H : Type} {enc : TypeId × Value → H} {W : World} {v : Value} (h : Arg enc Tryd.prog W 22 v) : ∃ ad c l, v = .slice ad (List.length l) c ∧ Ss W ad Pair.cells 4 l ∧ l.length ≤ 9223372036854775807 ∧ (ad = none → l.length = 0 ∧ c = 0) := by
  obtain ⟨ad, c, rs, us, rfl, h1, h2, h3, h4, h5⟩ := arg_things (en := Pair.cells) (R := fun o (_ : Unit) => True) Tryd.underlying22 Tryd.cells45 (by decide) Pair.len (fun n cs y hl hy => by
    obtain ⟨a, b, c, d, e, -⟩ := read_pair n cs y hl hy
    exact ⟨_, (), e, trivial⟩) h
  exact ⟨ad, c, rs, rfl, h1, by unfold maxLen at h5; omega, h3⟩

theorem list_1 {α : Type} {ds : List α} {n : Nat} (h : ds.length = n) (hn : n = 1) : ∃ a0, ds = [a0] := by
  subst hn
  match ds, h with
  | [a0], _ => exact ⟨a0, rfl⟩

theorem list_2 {α : Type} {ds : List α} {n : Nat} (h : ds.length = n) (hn : n = 2) : ∃ a0 a1, ds = [a0, a1] := by
  subst hn
  match ds, h with
  | [a0, a1], _ => exact ⟨a0, a1, rfl⟩

theorem list_3 {α : Type} {ds : List α} {n : Nat} (h : ds.length = n) (hn : n = 3) : ∃ a0 a1 a2, ds = [a0, a1, a2] := by
  subst hn
  match ds, h with
  | [a0, a1, a2], _ => exact ⟨a0, a1, a2, rfl⟩

end Go.Proofs.YtainemoobhkeiaaDoor
