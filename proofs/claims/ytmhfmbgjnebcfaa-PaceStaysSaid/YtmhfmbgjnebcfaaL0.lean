/- Reading the arguments. -/
import Derived.Test.YtmhfmbgjnebcfaaW2
import Derived.Test.YtmhfmbgjnebcfaaSxP
set_option linter.unusedSimpArgs false
set_option linter.unusedVariables false
namespace Go.Proofs.Ytmhfmbgjnebcfaa
open Sx Go.ChangeShapes Go.WideShapes Go.ChangeAt Go.RowKit

def Stamp.cells (s : Stamp) : List Value := [.int .i64 s.wall, .int .i64 s.logical, .int .i64 s.node]

theorem own : ownKnob Try.prog.godebug = none := by kernel_rfl
theorem laidOut : laidOutB Try.prog = true := by kernel_rfl

theorem Try.cells3 : Try.prog.cellsOf 3 = 1 := by kernel_rfl
theorem Try.cells22 : Try.prog.cellsOf 22 = 1 := by kernel_rfl
theorem Try.cells41 : Try.prog.cellsOf 41 = 3 := by kernel_rfl

theorem read_stamp {H : Type} {enc : TypeId × Value → H} {w : World} {base : Nat} {spare : Nat → Bool} {held : Bool} (n : Nat) (cs : List Value) (y : DataW H × List MemPlace) (hl : cs.length = 3) (h : DataW.trod enc Try.prog w base spare held n 41 cs = some y) :
    ∃ (v0 : Int) (v1 : Int) (v2 : Int), cs = (⟨v0, v1, v2⟩ : Stamp).cells ∧ (-9223372036854775808 ≤ v0 ∧ v0 ≤ 9223372036854775807) ∧ (-9223372036854775808 ≤ v1 ∧ v1 ≤ 9223372036854775807) ∧ (-9223372036854775808 ≤ v2 ∧ v2 ≤ 9223372036854775807) := by
  obtain ⟨c0, c1, c2, rfl⟩ : ∃ c0 c1 c2, cs = [c0, c1, c2] := by
    match cs, hl with
    | [c0, c1, c2], _ => exact ⟨_, _, _, rfl⟩
  obtain ⟨n1, y1, h1⟩ := Sx.rd_at Try.underlying41 h 0 rfl (ty := 3) (off := 0) rfl rfl Try.cells3 (ds := [c0]) rfl
  obtain ⟨v0, e0, b0, b0'⟩ := Sx.read_int Try.underlying3 h1
  simp only [List.cons.injEq, and_true] at e0; subst e0
  obtain ⟨n2, y2, h2⟩ := Sx.rd_at Try.underlying41 h 1 rfl (ty := 3) (off := 1) rfl rfl Try.cells3 (ds := [c1]) rfl
  obtain ⟨v1, e1, b1, b1'⟩ := Sx.read_int Try.underlying3 h2
  simp only [List.cons.injEq, and_true] at e1; subst e1
  obtain ⟨n3, y3, h3⟩ := Sx.rd_at Try.underlying41 h 2 rfl (ty := 3) (off := 2) rfl rfl Try.cells3 (ds := [c2]) rfl
  obtain ⟨v2, e2, b2, b2'⟩ := Sx.read_int Try.underlying3 h3
  simp only [List.cons.injEq, and_true] at e2; subst e2
  exact ⟨v0, v1, v2, rfl, ⟨b0, b0'⟩, ⟨b1, b1'⟩, ⟨b2, b2'⟩⟩

theorem arg_stamp {H : Type} {enc : TypeId × Value → H} {W : World} {v : Value} (h : Arg enc Try.prog W 41 v) : ∃ s : Stamp, v = .agg #[.int .i64 s.wall, .int .i64 s.logical, .int .i64 s.node] := by
  obtain ⟨cs, rfl, hc, n, u, hu⟩ := arg_struct Try.underlying41 h
  obtain ⟨x, y, z, rfl, -⟩ := read_stamp n cs u (by rw [hc]; kernel_rfl) hu
  exact ⟨⟨x, y, z⟩, rfl⟩
theorem arg_flt {H : Type} {enc : TypeId × Value → H} {W : World} {v : Value} (h : Arg enc Try.prog W 22 v) : ∃ b : Nat, v = .float .f64 b ∧ b < 2 ^ 64 := by
  obtain ⟨b, d, p, h1, n, h2⟩ := h
  obtain ⟨m, rfl⟩ := okWide_float Try.underlying22 h1
  obtain ⟨k, e, h3⟩ := read_flt Try.underlying22 h2
  simp [Value.cells] at e
  subst e
  exact ⟨m, rfl, h3⟩
theorem arg_flts {H : Type} {enc : TypeId × Value → H} {W : World} {v : Value} (h : Arg enc Try.prog W 30 v) : ∃ ad c l, v = .slice ad (List.length l) c ∧ Ss W ad fcell 1 l ∧ l.length ≤ 9223372036854775807 ∧ (ad = none → l.length = 0 ∧ c = 0) ∧ ∀ b ∈ l, b < 2 ^ 64 := by
  obtain ⟨ad, c, rs, us, rfl, h1, h2, h3, h4, h5⟩ := arg_things (en := fcell) (R := fun b (_ : Unit) => b < 2 ^ 64) Try.underlying30 Try.cells22 (by decide) fcell_len (fun n cs y hl hy => by
    obtain ⟨k, e, hk⟩ := read_flt Try.underlying22 hy
    exact ⟨k, (), e, hk⟩) h
  refine ⟨ad, c, rs, rfl, h1, by unfold maxLen at h5; omega, h3, fun b hb => ?_⟩
  obtain ⟨i, hi⟩ := List.mem_iff_getElem?.1 hb
  have hl := h2.length
  have hi2 := (List.getElem?_eq_some_iff.1 hi).1
  obtain ⟨x, hx, hr⟩ := h2.get (i := i) (b := ()) (by rw [List.getElem?_eq_getElem (by omega)])
  rw [hi] at hx
  cases hx
  exact hr

theorem list_1 {α : Type} {ds : List α} {n : Nat} (h : ds.length = n) (hn : n = 1) : ∃ a0, ds = [a0] := by
  subst hn
  match ds, h with
  | [a0], _ => exact ⟨a0, rfl⟩

theorem list_2 {α : Type} {ds : List α} {n : Nat} (h : ds.length = n) (hn : n = 2) : ∃ a0 a1, ds = [a0, a1] := by
  subst hn
  match ds, h with
  | [a0, a1], _ => exact ⟨a0, a1, rfl⟩

theorem list_3 {α : Type} {ds : List α} {n : Nat} (h : ds.length = n) (hn : n = 3) : ∃ a0 a1 a2, ds = [a0, a1, a2] := by
  subst hn
  match ds, h with
  | [a0, a1, a2], _ => exact ⟨a0, a1, a2, rfl⟩

theorem list_5 {α : Type} {ds : List α} {n : Nat} (h : ds.length = n) (hn : n = 5) : ∃ a0 a1 a2 a3 a4, ds = [a0, a1, a2, a3, a4] := by
  subst hn
  match ds, h with
  | [a0, a1, a2, a3, a4], _ => exact ⟨a0, a1, a2, a3, a4, rfl⟩

theorem list_6 {α : Type} {ds : List α} {n : Nat} (h : ds.length = n) (hn : n = 6) : ∃ a0 a1 a2 a3 a4 a5, ds = [a0, a1, a2, a3, a4, a5] := by
  subst hn
  match ds, h with
  | [a0, a1, a2, a3, a4, a5], _ => exact ⟨a0, a1, a2, a3, a4, a5, rfl⟩

end Go.Proofs.Ytmhfmbgjnebcfaa
