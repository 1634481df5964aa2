/- Reading plain lists. -/
import Derived.Test.YtakohabmcgponaaL0
import Derived.Test.YtakohabmcgponaaW11
set_option linter.unusedSimpArgs false
set_option linter.unusedVariables false
namespace Go.Proofs.Ytakohabmcgponaa
open Sx Go.ChangeShapes Go.WideShapes Go.ChangeAt Go.RowKit

theorem Try.cells4 : Try.prog.cellsOf 4 = 1 := by kernel_rfl
theorem Try.cells9 : Try.prog.cellsOf 9 = 1 := by kernel_rfl

theorem arg_ints {H : Type} {enc : TypeId × Value → H} {W : World} {v : Value} (h : Arg enc Try.prog W 22 v) : ∃ ad c l, v = .slice ad (List.length l) c ∧ Ss W ad ic 1 l ∧ l.length ≤ 9223372036854775807 ∧ ∀ b ∈ l, True := by
  obtain ⟨ad, c, rs, us, rfl, h1, h2, h3, h4, h5⟩ := arg_things (en := ic) (R := fun b (_ : Unit) => True) Try.underlying22 Try.cells3 (by decide) ic_len (fun n cs y hl hy => by
    obtain ⟨k, e, -⟩ := Sx.read_int Try.underlying3 hy
    exact ⟨k, (), e, trivial⟩) h
  refine ⟨ad, c, rs, rfl, h1, by unfold maxLen at h5; omega, fun b hb => ?_⟩
  obtain ⟨i, hi⟩ := List.mem_iff_getElem?.1 hb
  have hl := h2.length
  have hi2 := (List.getElem?_eq_some_iff.1 hi).1
  obtain ⟨x, hx, hr⟩ := h2.get (i := i) (b := ()) (by rw [List.getElem?_eq_getElem (by omega)])
  rw [hi] at hx
  cases hx
  exact hr

theorem arg_flts {H : Type} {enc : TypeId × Value → H} {W : World} {v : Value} (h : Arg enc Try.prog W 23 v) : ∃ ad c l, v = .slice ad (List.length l) c ∧ Ss W ad fc 1 l ∧ l.length ≤ 9223372036854775807 ∧ ∀ b ∈ l, b < 2 ^ 64 := by
  obtain ⟨ad, c, rs, us, rfl, h1, h2, h3, h4, h5⟩ := arg_things (en := fc) (R := fun b (_ : Unit) => b < 2 ^ 64) Try.underlying23 Try.cells35 (by decide) fc_len (fun n cs y hl hy => by
    obtain ⟨k, e, hk⟩ := read_flt Try.underlying35 hy
    exact ⟨k, (), e, hk⟩) h
  refine ⟨ad, c, rs, rfl, h1, by unfold maxLen at h5; omega, fun b hb => ?_⟩
  obtain ⟨i, hi⟩ := List.mem_iff_getElem?.1 hb
  have hl := h2.length
  have hi2 := (List.getElem?_eq_some_iff.1 hi).1
  obtain ⟨x, hx, hr⟩ := h2.get (i := i) (b := ()) (by rw [List.getElem?_eq_getElem (by omega)])
  rw [hi] at hx
  cases hx
  exact hr

theorem arg_bools {H : Type} {enc : TypeId × Value → H} {W : World} {v : Value} (h : Arg enc Try.prog W 24 v) : ∃ ad c l, v = .slice ad (List.length l) c ∧ Ss W ad bc 1 l ∧ l.length ≤ 9223372036854775807 ∧ ∀ b ∈ l, True := by
  obtain ⟨ad, c, rs, us, rfl, h1, h2, h3, h4, h5⟩ := arg_things (en := bc) (R := fun b (_ : Unit) => True) Try.underlying24 Try.cells4 (by decide) bc_len (fun n cs y hl hy => by
    obtain ⟨k, e⟩ := Sx.read_bool Try.underlying4 hy
    exact ⟨k, (), e, trivial⟩) h
  refine ⟨ad, c, rs, rfl, h1, by unfold maxLen at h5; omega, fun b hb => ?_⟩
  obtain ⟨i, hi⟩ := List.mem_iff_getElem?.1 hb
  have hl := h2.length
  have hi2 := (List.getElem?_eq_some_iff.1 hi).1
  obtain ⟨x, hx, hr⟩ := h2.get (i := i) (b := ()) (by rw [List.getElem?_eq_getElem (by omega)])
  rw [hi] at hx
  cases hx
  exact hr

theorem arg_strs {H : Type} {enc : TypeId × Value → H} {W : World} {v : Value} (h : Arg enc Try.prog W 25 v) : ∃ ad c l, v = .slice ad (List.length l) c ∧ Ss W ad kc 1 l ∧ l.length ≤ 9223372036854775807 ∧ ∀ b ∈ l, b.length ≤ 9223372036854775807 := by
  obtain ⟨ad, c, rs, us, rfl, h1, h2, h3, h4, h5⟩ := arg_things (en := kc) (R := fun b (_ : Unit) => b.length ≤ 9223372036854775807) Try.underlying25 Try.cells9 (by decide) kc_len (fun n cs y hl hy => by
    obtain ⟨k, e, hk⟩ := Sx.read_str Try.underlying9 hy
    exact ⟨k, (), e, hk⟩) h
  refine ⟨ad, c, rs, rfl, h1, by unfold maxLen at h5; omega, fun b hb => ?_⟩
  obtain ⟨i, hi⟩ := List.mem_iff_getElem?.1 hb
  have hl := h2.length
  have hi2 := (List.getElem?_eq_some_iff.1 hi).1
  obtain ⟨x, hx, hr⟩ := h2.get (i := i) (b := ()) (by rw [List.getElem?_eq_getElem (by omega)])
  rw [hi] at hx
  cases hx
  exact hr

theorem list_5 {α : Type} {ds : List α} {n : Nat} (h : ds.length = n) (hn : n = 5) : ∃ a0 a1 a2 a3 a4, ds = [a0, a1, a2, a3, a4] := by
  subst hn
  match ds, h with
  | [a0, a1, a2, a3, a4], _ => exact ⟨a0, a1, a2, a3, a4, rfl⟩

end Go.Proofs.Ytakohabmcgponaa
