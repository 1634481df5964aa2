/- Floats by their bits, plainly. -/
import Derived.Test.YtmhfmbgjnebcfaaSxS
set_option linter.unusedSimpArgs false
set_option linter.unusedVariables false
namespace Go.Proofs.Ytmhfmbgjnebcfaa
open Sx

def sgn : Int := 9223372036854775808
def rank (b : Nat) : Int := if uand (fcan b) sgn = 0 then uor (fcan b) sgn else uxor 18446744073709551615 (fcan b)
def order (a b : Int) : Int := if a < b then -1 else if b < a then 1 else 0
def fexp (b : Nat) : Nat := b % 18446744073709551616 / 4503599627370496 % 2048
def ffrac (b : Nat) : Nat := b % 4503599627370496
def classF (b : Nat) : Int :=
  if fexp b = 2047 ∧ ffrac b ≠ 0 then 0
  else if uand b sgn = 0 then (if fexp b = 2047 then 8 else if 0 < fexp b then 7 else if 0 < ffrac b then 6 else 5)
  else 9 - (if fexp b = 2047 then 8 else if 0 < fexp b then 7 else if 0 < ffrac b then 6 else 5)
theorem classF_nan (b : Nat) : classF (fcan b) = 0 ↔ fnum b = false := by
  cases h : fnum b with
  | false =>
    rw [fcan_nan h]
    exact ⟨fun _ => rfl, fun _ => by decide +kernel⟩
  | true =>
    rw [fcan_num h]
    refine ⟨fun h1 => ?_, fun h1 => (by cases h1)⟩
    exfalso
    have hr : ¬ Ieee.double.infRung < b % Ieee.double.signWeight := fun h2 => by
      rw [fnum_read, read_nan h2] at h; cases h
    have e1 : Ieee.double.infRung = 9218868437227405312 := by decide
    have e2 : Ieee.double.signWeight = 9223372036854775808 := by decide
    rw [e1, e2] at hr
    have hn : ¬ (fexp b = 2047 ∧ ffrac b ≠ 0) := by
      unfold fexp ffrac
      omega
    unfold classF at h1
    rw [if_neg hn] at h1
    (repeat' split at h1) <;> omega
theorem ret_b {a b : Bool} (h : a = b) : Ending.returned (.bool a) = Ending.returned (.bool b) := by rw [h]
theorem ret_i {k : IntKind} {a b : Int} (h : a = b) : Ending.returned (.int k a) = Ending.returned (.int k b) := by rw [h]
theorem ret_f {a b : Nat} (h : a = b) : Ending.returned (.float .f64 a) = Ending.returned (.float .f64 b) := by rw [h]

end Go.Proofs.Ytmhfmbgjnebcfaa
