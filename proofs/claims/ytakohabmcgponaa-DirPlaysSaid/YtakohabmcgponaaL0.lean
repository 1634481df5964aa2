/- Reading the arguments. -/
import Derived.Test.YtakohabmcgponaaW9
import Derived.Test.YtakohabmcgponaaSxP
set_option linter.unusedSimpArgs false
set_option linter.unusedVariables false
namespace Go.Proofs.Ytakohabmcgponaa
open Sx Go.ChangeShapes Go.WideShapes Go.ChangeAt Go.RowKit

theorem own : ownKnob Try.prog.godebug = none := by kernel_rfl
theorem laidOut : laidOutB Try.prog = true := by kernel_rfl

theorem Try.cells3 : Try.prog.cellsOf 3 = 1 := by kernel_rfl
theorem Try.cells28 : Try.prog.cellsOf 28 = 1 := by kernel_rfl
theorem Try.cells35 : Try.prog.cellsOf 35 = 1 := by kernel_rfl
theorem Try.cells37 : Try.prog.cellsOf 37 = 4 := by kernel_rfl

theorem read_rg {H : Type} {enc : TypeId × Value → H} {w : World} {base : Nat} {spare : Nat → Bool} {held : Bool} (n : Nat) (cs : List Value) (y : DataW H × List MemPlace) (hl : cs.length = 4) (h : DataW.trod enc Try.prog w base spare held n 37 cs = some y) :
    ∃ (v0 : Int) (v1 : Int) (v2 : Nat) (v3 : Nat), cs = (⟨v0, v1, v2, v3⟩ : Rg).cells ∧ (-9223372036854775808 ≤ v0 ∧ v0 ≤ 9223372036854775807) ∧ (-9223372036854775808 ≤ v1 ∧ v1 ≤ 9223372036854775807) ∧ v2 < 2 ^ 64 ∧ v3 < 2 ^ 64 := by
  obtain ⟨c0, c1, c2, c3, rfl⟩ : ∃ c0 c1 c2 c3, cs = [c0, c1, c2, c3] := by
    match cs, hl with
    | [c0, c1, c2, c3], _ => exact ⟨_, _, _, _, rfl⟩
  obtain ⟨n1, y1, h1⟩ := Sx.rd_at Try.underlying37 h 0 rfl (ty := 3) (off := 0) rfl rfl Try.cells3 (ds := [c0]) rfl
  obtain ⟨v0, e0, b0, b0'⟩ := Sx.read_int Try.underlying3 h1
  simp only [List.cons.injEq, and_true] at e0; subst e0
  obtain ⟨n2, y2, h2⟩ := Sx.rd_at Try.underlying37 h 1 rfl (ty := 3) (off := 1) rfl rfl Try.cells3 (ds := [c1]) rfl
  obtain ⟨v1, e1, b1, b1'⟩ := Sx.read_int Try.underlying3 h2
  simp only [List.cons.injEq, and_true] at e1; subst e1
  obtain ⟨n3, y3, h3⟩ := Sx.rd_at Try.underlying37 h 2 rfl (ty := 35) (off := 2) rfl rfl Try.cells35 (ds := [c2]) rfl
  obtain ⟨v2, e2, b2⟩ := Sx.read_flt Try.underlying35 h3
  simp only [List.cons.injEq, and_true] at e2; subst e2
  obtain ⟨n4, y4, h4⟩ := Sx.rd_at Try.underlying37 h 3 rfl (ty := 35) (off := 3) rfl rfl Try.cells35 (ds := [c3]) rfl
  obtain ⟨v3, e3, b3⟩ := Sx.read_flt Try.underlying35 h4
  simp only [List.cons.injEq, and_true] at e3; subst e3
  exact ⟨v0, v1, v2, v3, rfl, ⟨b0, b0'⟩, ⟨b1, b1'⟩, b2, b3⟩

theorem arg_rgs {H : Type} {enc : TypeId × Value → H} {W : World} {v : Value} (h : Arg enc Try.prog W 28 v) : ∃ ad c l, v = .slice ad (List.length l) c ∧ Ss W ad Rg.cells 4 l ∧ l.length ≤ 9223372036854775807 ∧ ∀ r ∈ l, r.wf := by
  obtain ⟨ad, c, rs, us, rfl, h1, h2, h3, h4, h5⟩ := arg_things (en := Rg.cells) (R := fun r (_ : Unit) => r.wf) Try.underlying28 Try.cells37 (by decide) Rg.len (fun n cs y hl hy => by
    obtain ⟨a, b, c, d, e, h1, h2, h3, h4⟩ := read_rg n cs y hl hy
    exact ⟨⟨a, b, c, d⟩, (), e, h1.1, h1.2, h2.1, h2.2, h3, h4⟩) h
  refine ⟨ad, c, rs, rfl, h1, by unfold maxLen at h5; omega, fun b hb => ?_⟩
  obtain ⟨i, hi⟩ := List.mem_iff_getElem?.1 hb
  have hl := h2.length
  have hi2 := (List.getElem?_eq_some_iff.1 hi).1
  obtain ⟨x, hx, hr⟩ := h2.get (i := i) (b := ()) (by rw [List.getElem?_eq_getElem (by omega)])
  rw [hi] at hx
  cases hx
  exact hr

theorem list_1 {α : Type} {ds : List α} {n : Nat} (h : ds.length = n) (hn : n = 1) : ∃ a0, ds = [a0] := by
  subst hn
  match ds, h with
  | [a0], _ => exact ⟨a0, rfl⟩

theorem list_2 {α : Type} {ds : List α} {n : Nat} (h : ds.length = n) (hn : n = 2) : ∃ a0 a1, ds = [a0, a1] := by
  subst hn
  match ds, h with
  | [a0, a1], _ => exact ⟨a0, a1, rfl⟩

theorem list_3 {α : Type} {ds : List α} {n : Nat} (h : ds.length = n) (hn : n = 3) : ∃ a0 a1 a2, ds = [a0, a1, a2] := by
  subst hn
  match ds, h with
  | [a0, a1, a2], _ => exact ⟨a0, a1, a2, rfl⟩

theorem list_4 {α : Type} {ds : List α} {n : Nat} (h : ds.length = n) (hn : n = 4) : ∃ a0 a1 a2 a3, ds = [a0, a1, a2, a3] := by
  subst hn
  match ds, h with
  | [a0, a1, a2, a3], _ => exact ⟨a0, a1, a2, a3, rfl⟩

end Go.Proofs.Ytakohabmcgponaa
