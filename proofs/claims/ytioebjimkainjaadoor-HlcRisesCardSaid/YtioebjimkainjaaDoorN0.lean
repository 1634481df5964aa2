/- Stamps and clocks, plainly. -/
import Derived.Test.YtioebjimkainjaaDoorSxL
set_option linter.unusedSimpArgs false
set_option linter.unusedVariables false
namespace Go.Proofs.YtioebjimkainjaaDoor
open Sx

structure Stamp where
  wall : Int
  logical : Int
  node : Int
  deriving DecidableEq
def may (s : Stamp) : Bool := decide (0 ≤ s.wall ∧ s.wall ≤ 281474976710656 ∧ 0 ≤ s.logical ∧ s.logical ≤ 65535 ∧ 0 ≤ s.node ∧ s.node ≤ 63)
def order (a b : Int) : Int := if a < b then -1 else if b < a then 1 else 0
def cmp (a b : Stamp) : Int := if a.wall = b.wall then (if a.logical = b.logical then order a.node b.node else order a.logical b.logical) else order a.wall b.wall
def later (a b : Stamp) : Stamp := if cmp a b < 0 then b else a
def prior (s : Stamp) : Stamp × Bool :=
  if may s = false ∨ (s.wall = 0 ∧ s.logical = 0 ∧ s.node = 0) then (⟨0, 0, 0⟩, false)
  else if 0 < s.node then (⟨s.wall, s.logical, s.node - 1⟩, true)
  else if 0 < s.logical then (⟨s.wall, s.logical - 1, 63⟩, true)
  else (⟨s.wall - 1, 65535, 63⟩, true)
def peek (s : Stamp) (phys : Int) : Stamp × Int :=
  if 281474976710656 < max phys 0 then (⟨0, 0, 0⟩, 15)
  else if s.wall < max phys 0 then (⟨max phys 0, 0, s.node⟩, 0)
  else if 65535 ≤ s.logical then (⟨0, 0, 0⟩, 16)
  else (⟨s.wall, s.logical + 1, s.node⟩, 0)
/-- a clock behind Now -/
def now (s : Stamp) (phys : Int) : Stamp := if (peek s phys).2 = 0 then (peek s phys).1 else s
/-- a clock behind Observe -/
def obs (s x : Stamp) : Stamp := if may x then later s ⟨x.wall, x.logical, s.node⟩ else s
theorem ret_i {k : IntKind} {a b : Int} (h : a = b) : Ending.returned (.int k a) = .returned (.int k b) := by rw [h]
theorem ret_b {a b : Bool} (h : a = b) : Ending.returned (.bool a) = .returned (.bool b) := by rw [h]
theorem ret_s {x y z : Int} {s : Stamp} (h : (⟨x, y, z⟩ : Stamp) = s) : Ending.returned (.agg #[.int .i64 x, .int .i64 y, .int .i64 z]) = .returned (.agg #[.int .i64 s.wall, .int .i64 s.logical, .int .i64 s.node]) := by subst h; rfl
theorem ret_si {x y z e : Int} {s : Stamp × Int} (h : ((⟨x, y, z⟩, e) : Stamp × Int) = s) : Ending.returned (.tuple #[.agg #[.int .i64 x, .int .i64 y, .int .i64 z], .int .i64 e]) = .returned (.tuple #[.agg #[.int .i64 s.1.wall, .int .i64 s.1.logical, .int .i64 s.1.node], .int .i64 s.2]) := by subst h; rfl
theorem ret_sb {x y z : Int} {b : Bool} {s : Stamp × Bool} (h : ((⟨x, y, z⟩, b) : Stamp × Bool) = s) : Ending.returned (.tuple #[.agg #[.int .i64 x, .int .i64 y, .int .i64 z], .bool b]) = .returned (.tuple #[.agg #[.int .i64 s.1.wall, .int .i64 s.1.logical, .int .i64 s.1.node], .bool s.2]) := by subst h; rfl
theorem peek_node (s : Stamp) (phys : Int) (h : (peek s phys).2 = 0) : (peek s phys).1.node = s.node := by
  unfold peek at *
  (repeat' split) <;> simp_all
theorem order_tri (a b : Int) : (order a b < 0 ↔ a < b) ∧ (order a b = 0 ↔ a = b) ∧ (0 < order a b ↔ b < a) ∧ -1 ≤ order a b ∧ order a b ≤ 1 := by
  unfold order; split <;> (try split) <;> omega

end Go.Proofs.YtioebjimkainjaaDoor
