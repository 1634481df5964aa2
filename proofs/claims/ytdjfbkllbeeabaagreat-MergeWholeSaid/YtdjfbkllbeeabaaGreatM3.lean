/- Operations, and what the chapter fixes, plainly. -/
import Derived.Test.YtdjfbkllbeeabaaGreatM0
set_option linter.unusedSimpArgs false
set_option linter.unusedVariables false
namespace Go.Proofs.YtdjfbkllbeeabaaGreat
open Sx

/-! operations -/
structure Op where
  kd : Int
  n : Int
  more : Int
  s : Stp
  f : Fr
def Op.cells (x : Op) : List Value := [.int .i64 x.kd, .int .i64 x.n, .int .i64 x.more, .int .i64 x.s.w, .int .i64 x.s.l, .int .i64 x.s.n, .int .i64 x.f.rg, .int .i64 x.f.at_, .int .i64 x.f.t.co, .int .i64 x.f.t.li, .int .i64 x.f.t.sq, .int .i64 x.f.s.w, .int .i64 x.f.s.l, .int .i64 x.f.s.n, .slice x.f.ad x.f.ws.length x.f.c]
theorem Op.len (x : Op) : x.cells.length = 15 := rfl
theorem Op.one (x : Op) : ∀ u ∈ x.cells, u.oneCell' = true := by
  intro u hu
  simp only [Op.cells, List.mem_cons, List.not_mem_nil, or_false] at hu
  rcases hu with rfl | rfl | rfl | rfl | rfl | rfl | rfl | rfl | rfl | rfl | rfl | rfl | rfl | rfl | rfl <;> rfl
structure OpB (x : Op) : Prop where
  n1 : -9223372036854775808 ≤ x.n
  n2 : x.n ≤ 9223372036854775807
  r1 : -9223372036854775808 ≤ x.f.rg
  r2 : x.f.rg ≤ 9223372036854775807
/-! what the chapter fixes -/
def P1 : Fp := ⟨1, 1, ⟨1, 1, 1⟩, ⟨5, 0, 1⟩, [⟨[97], vz⟩]⟩
def Q1 : List Fk := [⟨1, sz0⟩]
def Q2 : List Fk := [⟨1, sz0⟩, ⟨2, sz0⟩]
def Q3 : List Fk := [⟨1, ⟨9, 0, 0⟩⟩, ⟨2, sz0⟩]
def Q4 : List Fk := [⟨1, ⟨9, 0, 0⟩⟩, ⟨2, ⟨5, 0, 1⟩⟩]
theorem g0 : newE 2 sz0 = 0 := by decide +kernel
theorem g1 : joinE [] 1 sz0 = 0 ∧ joinF [] 1 sz0 = Q1 := by decide +kernel
theorem g2 : joinE Q1 2 sz0 = 0 ∧ joinF Q1 2 sz0 = Q2 := by decide +kernel
theorem g3 : addM sz0 Q2 [] P1 = 0 ∧ addMF sz0 Q2 [] P1 = [P1] := by decide +kernel
theorem g4 : advE Q2 1 ⟨9, 0, 0⟩ = 0 ∧ advF Q2 1 ⟨9, 0, 0⟩ = Q3 := by decide +kernel
theorem g5 : takeO Q3 [P1] = [] ∧ takeL Q3 [P1] = [P1] ∧ takeH sz0 Q3 [P1] = sz0 := by decide +kernel
theorem g6 : advE Q3 2 ⟨5, 0, 1⟩ = 0 ∧ advF Q3 2 ⟨5, 0, 1⟩ = Q4 := by decide +kernel
theorem g7 : takeO Q4 [P1] = [⟨⟨1, 1, 1⟩, ⟨5, 0, 1⟩, [⟨[97], vz⟩]⟩] ∧ takeL Q4 [P1] = [] ∧ takeH sz0 Q4 [P1] = ⟨5, 0, 1⟩ := by decide +kernel
theorem g8 : pausedF Q4 2 0 1 2 = true ∧ pausedF Q4 2 0 2 2 = false := by decide +kernel
theorem gq : GoodF Q1 ∧ GoodF Q2 ∧ GoodF Q3 ∧ GoodF Q4 := by
  refine ⟨?_, ?_, ?_, ?_⟩
  · rw [← g1.2]; exact join_good goodF_nil _ _
  · rw [← g2.2]; refine join_good ?_ _ _; rw [← g1.2]; exact join_good goodF_nil _ _
  · rw [← g4.2, ← g2.2]; refine adv_good (join_good ?_ _ _) _ _; rw [← g1.2]; exact join_good goodF_nil _ _
  · rw [← g6.2, ← g4.2, ← g2.2]; refine adv_good (adv_good (join_good ?_ _ _) _ _) _ _; rw [← g1.2]; exact join_good goodF_nil _ _
theorem g9 : Held [P1] := by
  have := addM_held (h := sz0) (F := Q2) held_nil P1
  rwa [g3.2] at this
theorem nil_of {L : List Fr} (h : L.map Fr.p = []) : L = [] := List.map_eq_nil_iff.1 h
theorem nil_of_en {L : List En} (h : L.map En.p = []) : L = [] := List.map_eq_nil_iff.1 h
theorem one_len {L : List En} {e : Ep} (h : L.map En.p = [e]) : L.length = 1 := by have := congrArg List.length h; simpa using this
theorem fr_len {L : List Fr} {M : List Fp} (h : L.map Fr.p = M) : L.length = M.length := by have := congrArg List.length h; simpa using this

end Go.Proofs.YtdjfbkllbeeabaaGreat
