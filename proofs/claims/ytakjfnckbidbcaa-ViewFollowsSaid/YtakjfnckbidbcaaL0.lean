/- Reading the arguments. -/
import Derived.Test.YtakjfnckbidbcaaV12
import Derived.Test.YtakjfnckbidbcaaSxY
set_option linter.unusedSimpArgs false
set_option linter.unusedVariables false
namespace Go.Proofs.Ytakjfnckbidbcaa
open Sx Go.ChangeShapes Go.WideShapes Go.ChangeAt Go.RowKit

theorem own : ownKnob Try.prog.godebug = none := by kernel_rfl
theorem laidOut : laidOutB Try.prog = true := by kernel_rfl

theorem Try.cells3 : Try.prog.cellsOf 3 = 1 := by kernel_rfl
theorem Try.cells9 : Try.prog.cellsOf 9 = 1 := by kernel_rfl
theorem Try.cells46 : Try.prog.cellsOf 46 = 1 := by kernel_rfl
theorem Try.cells48 : Try.prog.cellsOf 48 = 3 := by kernel_rfl
theorem Try.cells56 : Try.prog.cellsOf 56 = 6 := by kernel_rfl
theorem Try.cells69 : Try.prog.cellsOf 69 = 4 := by kernel_rfl

theorem rz_wt {H : Type} {enc : TypeId × Value → H} {w : World} {base : Nat} {spare : Nat → Bool} {held : Bool} (cs : List Value) (hl : cs.length = 4) (h : Rz enc Try.prog w base spare held 69 cs) : ∃ r : Wt, cs = r.cells ∧ r.wf := by
  obtain ⟨c0, c1, c2, c3, rfl⟩ : ∃ c0 c1 c2 c3, cs = [c0, c1, c2, c3] := by
    match cs, hl with
    | [c0, c1, c2, c3], _ => exact ⟨_, _, _, _, rfl⟩
  have h1 := rz_at Try.underlying69 h 0 rfl (ty := 9) (off := 0) rfl rfl Try.cells9 (ds := [c0]) rfl
  obtain ⟨v0, e0, b0⟩ := rz_str Try.underlying9 h1
  simp only [List.cons.injEq, and_true] at e0; subst e0
  have h2 := rz_at Try.underlying69 h 1 rfl (ty := 48) (off := 1) rfl rfl Try.cells48 (ds := [c1, c2, c3]) rfl
  have h3 := rz_at Try.underlying48 h2 0 rfl (ty := 3) (off := 0) rfl rfl Try.cells3 (ds := [c1]) rfl
  obtain ⟨v1, e1, b1, b1'⟩ := rz_int Try.underlying3 h3
  simp only [List.cons.injEq, and_true] at e1; subst e1
  have h4 := rz_at Try.underlying48 h2 1 rfl (ty := 46) (off := 1) rfl rfl Try.cells46 (ds := [c2]) rfl
  obtain ⟨v2, e2, b2⟩ := rz_flt Try.underlying46 h4
  simp only [List.cons.injEq, and_true] at e2; subst e2
  have h5 := rz_at Try.underlying48 h2 2 rfl (ty := 9) (off := 2) rfl rfl Try.cells9 (ds := [c3]) rfl
  obtain ⟨v3, e3, b3⟩ := rz_str Try.underlying9 h5
  simp only [List.cons.injEq, and_true] at e3; subst e3
  exact ⟨⟨v0, ⟨v1, v2, v3⟩⟩, rfl, ⟨b0, ⟨b1, b1', b2, b3⟩⟩⟩

theorem rz_g6 {H : Type} {enc : TypeId × Value → H} {w : World} {base : Nat} {spare : Nat → Bool} {held : Bool} (cs : List Value) (hl : cs.length = 6) (h : Rz enc Try.prog w base spare held 56 cs) : ∃ r : G6, cs = r.cells ∧ True := by
  obtain ⟨c0, c1, c2, c3, c4, c5, rfl⟩ : ∃ c0 c1 c2 c3 c4 c5, cs = [c0, c1, c2, c3, c4, c5] := by
    match cs, hl with
    | [c0, c1, c2, c3, c4, c5], _ => exact ⟨_, _, _, _, _, _, rfl⟩
  have h1 := rz_at Try.underlying56 h 0 rfl (ty := 9) (off := 0) rfl rfl Try.cells9 (ds := [c0]) rfl
  obtain ⟨v0, e0, b0⟩ := rz_str Try.underlying9 h1
  simp only [List.cons.injEq, and_true] at e0; subst e0
  have h2 := rz_at Try.underlying56 h 1 rfl (ty := 3) (off := 1) rfl rfl Try.cells3 (ds := [c1]) rfl
  obtain ⟨v1, e1, b1, b1'⟩ := rz_int Try.underlying3 h2
  simp only [List.cons.injEq, and_true] at e1; subst e1
  have h3 := rz_at Try.underlying56 h 2 rfl (ty := 3) (off := 2) rfl rfl Try.cells3 (ds := [c2]) rfl
  obtain ⟨v2, e2, b2, b2'⟩ := rz_int Try.underlying3 h3
  simp only [List.cons.injEq, and_true] at e2; subst e2
  have h4 := rz_at Try.underlying56 h 3 rfl (ty := 46) (off := 3) rfl rfl Try.cells46 (ds := [c3]) rfl
  obtain ⟨v3, e3, b3⟩ := rz_flt Try.underlying46 h4
  simp only [List.cons.injEq, and_true] at e3; subst e3
  have h5 := rz_at Try.underlying56 h 4 rfl (ty := 46) (off := 4) rfl rfl Try.cells46 (ds := [c4]) rfl
  obtain ⟨v4, e4, b4⟩ := rz_flt Try.underlying46 h5
  simp only [List.cons.injEq, and_true] at e4; subst e4
  have h6 := rz_at Try.underlying56 h 5 rfl (ty := 46) (off := 5) rfl rfl Try.cells46 (ds := [c5]) rfl
  obtain ⟨v5, e5, b5⟩ := rz_flt Try.underlying46 h6
  simp only [List.cons.injEq, and_true] at e5; subst e5
  exact ⟨⟨v0, v1, v2, v3, v4, v5⟩, rfl, trivial⟩

theorem argZ_pairs {H : Type} {enc : TypeId × Value → H} {W : World} {v : Value} (h : ArgZ enc Try.prog W 33 v) : ∃ ad c l, v = .slice ad (List.length l) c ∧ Ss W ad Wt.cells 4 l ∧ (∀ r ∈ l, r.wf) ∧ (ad = none → l.length = 0 ∧ c = 0) ∧ l.length ≤ c ∧ l.length * 48 ≤ 140737488351232 := by
  obtain ⟨ad, c, l, rfl, h1, h2, h3, h4, h5, h6⟩ := argZ_things (en := Wt.cells) (R := fun r => r.wf) Try.underlying33 Try.cells69 (by decide) Wt.len (fun cs hl hz => rz_wt cs hl hz) h
  rw [show Try.prog.bytesOf 69 = 48 from by kernel_rfl] at h6
  exact ⟨ad, c, l, rfl, h1, h2, h3, h4, h6⟩

theorem argZ_grps {H : Type} {enc : TypeId × Value → H} {W : World} {v : Value} (h : ArgZ enc Try.prog W 51 v) : ∃ ad c l, v = .slice ad (List.length l) c ∧ Ss W ad G6.cells 6 l ∧ (∀ r ∈ l, True) ∧ (ad = none → l.length = 0 ∧ c = 0) ∧ l.length ≤ c ∧ l.length * 56 ≤ 140737488351232 := by
  obtain ⟨ad, c, l, rfl, h1, h2, h3, h4, h5, h6⟩ := argZ_things (en := G6.cells) (R := fun r => True) Try.underlying51 Try.cells56 (by decide) G6.len (fun cs hl hz => rz_g6 cs hl hz) h
  rw [show Try.prog.bytesOf 56 = 56 from by kernel_rfl] at h6
  exact ⟨ad, c, l, rfl, h1, h2, h3, h4, h6⟩

theorem list_1 {α : Type} {ds : List α} {n : Nat} (h : ds.length = n) (hn : n = 1) : ∃ a0, ds = [a0] := by
  subst hn
  match ds, h with
  | [a0], _ => exact ⟨a0, rfl⟩

theorem list_2 {α : Type} {ds : List α} {n : Nat} (h : ds.length = n) (hn : n = 2) : ∃ a0 a1, ds = [a0, a1] := by
  subst hn
  match ds, h with
  | [a0, a1], _ => exact ⟨a0, a1, rfl⟩

theorem list_3 {α : Type} {ds : List α} {n : Nat} (h : ds.length = n) (hn : n = 3) : ∃ a0 a1 a2, ds = [a0, a1, a2] := by
  subst hn
  match ds, h with
  | [a0, a1, a2], _ => exact ⟨a0, a1, a2, rfl⟩

end Go.Proofs.Ytakjfnckbidbcaa
