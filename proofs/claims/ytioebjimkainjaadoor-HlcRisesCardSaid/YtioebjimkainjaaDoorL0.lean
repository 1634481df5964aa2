/- Reading the arguments. -/
import Derived.Test.YtioebjimkainjaaDoorW4
import Derived.Test.YtioebjimkainjaaDoorSxP
set_option linter.unusedSimpArgs false
set_option linter.unusedVariables false
namespace Go.Proofs.YtioebjimkainjaaDoor
open Sx Go.ChangeShapes Go.WideShapes Go.ChangeAt Go.RowKit

def Stamp.cells (s : Stamp) : List Value := [.int .i64 s.wall, .int .i64 s.logical, .int .i64 s.node]

theorem own : ownKnob Tryd.prog.godebug = none := by kernel_rfl
theorem laidOut : laidOutB Tryd.prog = true := by kernel_rfl

theorem Tryd.cells3 : Tryd.prog.cellsOf 3 = 1 := by kernel_rfl
theorem Tryd.cells23 : Tryd.prog.cellsOf 23 = 3 := by kernel_rfl
theorem Tryd.cells41 : Tryd.prog.cellsOf 41 = 5 := by kernel_rfl

theorem read_stamp {H : Type} {enc : TypeId × Value → H} {w : World} {base : Nat} {spare : Nat → Bool} {held : Bool} (n : Nat) (cs : List Value) (y : DataW H × List MemPlace) (hl : cs.length = 3) (h : DataW.trod enc Tryd.prog w base spare held n 23 cs = some y) :
    ∃ (v0 : Int) (v1 : Int) (v2 : Int), cs = (⟨v0, v1, v2⟩ : Stamp).cells ∧ (-9223372036854775808 ≤ v0 ∧ v0 ≤ 9223372036854775807) ∧ (-9223372036854775808 ≤ v1 ∧ v1 ≤ 9223372036854775807) ∧ (-9223372036854775808 ≤ v2 ∧ v2 ≤ 9223372036854775807) := by
  obtain ⟨c0, c1, c2, rfl⟩ : ∃ c0 c1 c2, cs = [c0, c1, c2] := by
    match cs, hl with
    | [c0, c1, c2], _ => exact ⟨_, _, _, rfl⟩
  obtain ⟨n1, y1, h1⟩ := Sx.rd_at Tryd.underlying23 h 0 rfl (ty := 3) (off := 0) rfl rfl Tryd.cells3 (ds := [c0]) rfl
  obtain ⟨v0, e0, b0, b0'⟩ := Sx.read_int Tryd.underlying3 h1
  simp only [List.cons.injEq, and_true] at e0; subst e0
  obtain ⟨n2, y2, h2⟩ := Sx.rd_at Tryd.underlying23 h 1 rfl (ty := 3) (off := 1) rfl rfl Tryd.cells3 (ds := [c1]) rfl
  obtain ⟨v1, e1, b1, b1'⟩ := Sx.read_int Tryd.underlying3 h2
  simp only [List.cons.injEq, and_true] at e1; subst e1
  obtain ⟨n3, y3, h3⟩ := Sx.rd_at Tryd.underlying23 h 2 rfl (ty := 3) (off := 2) rfl rfl Tryd.cells3 (ds := [c2]) rfl
  obtain ⟨v2, e2, b2, b2'⟩ := Sx.read_int Tryd.underlying3 h3
  simp only [List.cons.injEq, and_true] at e2; subst e2
  exact ⟨v0, v1, v2, rfl, ⟨b0, b0'⟩, ⟨b1, b1'⟩, ⟨b2, b2'⟩⟩

theorem read_op {H : Type} {enc : TypeId × Value → H} {w : World} {base : Nat} {spare : Nat → Bool} {held : Bool} (n : Nat) (cs : List Value) (y : DataW H × List MemPlace) (hl : cs.length = 5) (h : DataW.trod enc Tryd.prog w base spare held n 41 cs = some y) :
    ∃ (v0 : Int) (v1 : Int) (v2 : Int) (v3 : Int) (v4 : Int), cs = (⟨v0, v1, ⟨v2, v3, v4⟩⟩ : OpV).cells ∧ (-9223372036854775808 ≤ v0 ∧ v0 ≤ 9223372036854775807) ∧ (-9223372036854775808 ≤ v1 ∧ v1 ≤ 9223372036854775807) ∧ (-9223372036854775808 ≤ v2 ∧ v2 ≤ 9223372036854775807) ∧ (-9223372036854775808 ≤ v3 ∧ v3 ≤ 9223372036854775807) ∧ (-9223372036854775808 ≤ v4 ∧ v4 ≤ 9223372036854775807) := by
  obtain ⟨c0, c1, c2, c3, c4, rfl⟩ : ∃ c0 c1 c2 c3 c4, cs = [c0, c1, c2, c3, c4] := by
    match cs, hl with
    | [c0, c1, c2, c3, c4], _ => exact ⟨_, _, _, _, _, rfl⟩
  obtain ⟨n1, y1, h1⟩ := Sx.rd_at Tryd.underlying41 h 0 rfl (ty := 3) (off := 0) rfl rfl Tryd.cells3 (ds := [c0]) rfl
  obtain ⟨v0, e0, b0, b0'⟩ := Sx.read_int Tryd.underlying3 h1
  simp only [List.cons.injEq, and_true] at e0; subst e0
  obtain ⟨n2, y2, h2⟩ := Sx.rd_at Tryd.underlying41 h 1 rfl (ty := 3) (off := 1) rfl rfl Tryd.cells3 (ds := [c1]) rfl
  obtain ⟨v1, e1, b1, b1'⟩ := Sx.read_int Tryd.underlying3 h2
  simp only [List.cons.injEq, and_true] at e1; subst e1
  obtain ⟨n3, y3, h3⟩ := Sx.rd_at Tryd.underlying41 h 2 rfl (ty := 23) (off := 2) rfl rfl Tryd.cells23 (ds := [c2, c3, c4]) rfl
  obtain ⟨n4, y4, h4⟩ := Sx.rd_at Tryd.underlying23 h3 0 rfl (ty := 3) (off := 0) rfl rfl Tryd.cells3 (ds := [c2]) rfl
  obtain ⟨v2, e2, b2, b2'⟩ := Sx.read_int Tryd.underlying3 h4
  simp only [List.cons.injEq, and_true] at e2; subst e2
  obtain ⟨n5, y5, h5⟩ := Sx.rd_at Tryd.underlying23 h3 1 rfl (ty := 3) (off := 1) rfl rfl Tryd.cells3 (ds := [c3]) rfl
  obtain ⟨v3, e3, b3, b3'⟩ := Sx.read_int Tryd.underlying3 h5
  simp only [List.cons.injEq, and_true] at e3; subst e3
  obtain ⟨n6, y6, h6⟩ := Sx.rd_at Tryd.underlying23 h3 2 rfl (ty := 3) (off := 2) rfl rfl Tryd.cells3 (ds := [c4]) rfl
  obtain ⟨v4, e4, b4, b4'⟩ := Sx.read_int Tryd.underlying3 h6
  simp only [List.cons.injEq, and_true] at e4; subst e4
  exact ⟨v0, v1, v2, v3, v4, rfl, ⟨b0, b0'⟩, ⟨b1, b1'⟩, ⟨b2, b2'⟩, ⟨b3, b3'⟩, ⟨b4, b4'⟩⟩

theorem list_2 {α : Type} {ds : List α} {n : Nat} (h : ds.length = n) (hn : n = 2) : ∃ a0 a1, ds = [a0, a1] := by
  subst hn
  match ds, h with
  | [a0, a1], _ => exact ⟨a0, a1, rfl⟩

theorem list_3 {α : Type} {ds : List α} {n : Nat} (h : ds.length = n) (hn : n = 3) : ∃ a0 a1 a2, ds = [a0, a1, a2] := by
  subst hn
  match ds, h with
  | [a0, a1, a2], _ => exact ⟨a0, a1, a2, rfl⟩

theorem list_5 {α : Type} {ds : List α} {n : Nat} (h : ds.length = n) (hn : n = 5) : ∃ a0 a1 a2 a3 a4, ds = [a0, a1, a2, a3, a4] := by
  subst hn
  match ds, h with
  | [a0, a1, a2, a3, a4], _ => exact ⟨a0, a1, a2, a3, a4, rfl⟩

theorem list_6 {α : Type} {ds : List α} {n : Nat} (h : ds.length = n) (hn : n = 6) : ∃ a0 a1 a2 a3 a4 a5, ds = [a0, a1, a2, a3, a4, a5] := by
  subst hn
  match ds, h with
  | [a0, a1, a2, a3, a4, a5], _ => exact ⟨a0, a1, a2, a3, a4, a5, rfl⟩

theorem arg_stamp {H : Type} {enc : TypeId × Value → H} {W : World} {v : Value} (h : Arg enc Tryd.prog W 23 v) : ∃ x y z : Int, v = .agg #[.int .i64 x, .int .i64 y, .int .i64 z] ∧ (-9223372036854775808 ≤ x ∧ x ≤ 9223372036854775807) ∧ (-9223372036854775808 ≤ y ∧ y ≤ 9223372036854775807) ∧ (-9223372036854775808 ≤ z ∧ z ≤ 9223372036854775807) := by
  obtain ⟨cs, rfl, hc, n, u, hu⟩ := arg_struct Tryd.underlying23 h
  obtain ⟨x, y, z, rfl, hx, hy, hz⟩ := read_stamp n cs u (by rw [hc]; kernel_rfl) hu
  exact ⟨x, y, z, rfl, hx, hy, hz⟩
theorem arg_ops {H : Type} {enc : TypeId × Value → H} {W : World} {v : Value} (h : Arg enc Tryd.prog W 32 v) : ∃ ad c os, v = .slice ad (List.length os) c ∧ Ss W ad OpV.cells 5 os ∧ os.length ≤ 9223372036854775807 ∧ ∀ o ∈ os, (-9223372036854775808 ≤ o.n ∧ o.n ≤ 9223372036854775807) := by
  obtain ⟨ad, c, rs, us, rfl, h1, h2, -, h4, h5⟩ := arg_things (en := OpV.cells) (R := fun o (_ : Unit) => -9223372036854775808 ≤ o.n ∧ o.n ≤ 9223372036854775807) Tryd.underlying32 Tryd.cells41 (by decide) OpV.len (fun n cs y hl hy => by
    obtain ⟨_, _, _, _, _, e, -, b, -⟩ := read_op n cs y hl hy
    exact ⟨_, (), e, b⟩) h
  refine ⟨ad, c, rs, rfl, h1, ?_, fun o ho => ?_⟩
  · unfold maxLen at h5; omega
  · obtain ⟨i, hi⟩ := List.mem_iff_getElem?.1 ho
    have hl := h2.length
    have hi2 := (List.getElem?_eq_some_iff.1 hi).1
    obtain ⟨a, ha, hr⟩ := h2.get (i := i) (b := ()) (by rw [List.getElem?_eq_getElem (by omega)])
    rw [hi] at ha
    cases ha
    exact hr

end Go.Proofs.YtioebjimkainjaaDoor
