/- Values, plainly. -/
import Derived.Test.YtainemoobhkeiaaDoorN0
set_option linter.unusedSimpArgs false
set_option linter.unusedVariables false
namespace Go.Proofs.YtainemoobhkeiaaDoor
open Sx

structure Val where
  kind : Int
  num : Nat
  text : List UInt8
  deriving DecidableEq
def mayV (v : Val) : Bool := decide (v.kind = 0 ∧ v.num = 0 ∧ v.text = [] ∨ v.kind = 1 ∧ v.text = [] ∧ bits v.num = v.num ∨ v.kind = 2 ∧ v.num = 0 ∧ v.text.length ≤ 64)
def cmpT (s t : List UInt8) : Int := if Op.bytesLess s t = true then -1 else if Op.bytesLess t s = true then 1 else 0
def cmpV (a b : Val) : Int :=
  if mayV a = true ∧ mayV b = true then
    (if a.kind < b.kind then -1 else if b.kind < a.kind then 1 else if a.kind = 1 then order (rank a.num) (rank b.num) else cmpT a.text b.text)
  else 0
theorem cmpV_zero (a b : Val) (h1 : a.kind = 0) (h2 : b.kind = 0) : cmpV a b = 0 := by
  unfold cmpV mayV cmpT
  simp only [h1, h2]
  split
  · rename_i h
    simp at h
    simp [h, Op.bytesLess]
  · rfl
theorem ret_b {a b : Bool} (h : a = b) : Ending.returned (.bool a) = Ending.returned (.bool b) := by rw [h]
theorem ret_i {a b : Int} (h : a = b) : Ending.returned (.int .i64 a) = Ending.returned (.int .i64 b) := by rw [h]

end Go.Proofs.YtainemoobhkeiaaDoor
