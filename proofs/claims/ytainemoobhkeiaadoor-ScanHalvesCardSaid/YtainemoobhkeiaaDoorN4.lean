/- Texts between quotes, plainly. -/
import Derived.Test.YtainemoobhkeiaaDoorN3
set_option linter.unusedSimpArgs false
set_option linter.unusedVariables false
namespace Go.Proofs.YtainemoobhkeiaaDoor
open Sx

def plainB (c : UInt8) : Bool := decide (32 ≤ c.toNat ∧ c.toNat ≤ 126 ∧ c.toNat ≠ 34 ∧ c.toNat ≠ 92)
def hexd : List UInt8 := [48, 49, 50, 51, 52, 53, 54, 55, 56, 57, 97, 98, 99, 100, 101, 102]
def esc (c : UInt8) : List UInt8 := if plainB c = true then [c] else [92, hexd.getD (c.toNat / 16) 0, hexd.getD (c.toNat % 16) 0]
def quote (s : List UInt8) : List UInt8 := 34 :: s.flatMap esc ++ [34]
theorem esc_len (c : UInt8) : (esc c).length ≤ 3 := by unfold esc; split <;> simp
theorem flat_len (s : List UInt8) : (s.flatMap esc).length ≤ 3 * s.length := by
  induction s with
  | nil => simp
  | cons c s ih =>
    have := esc_len c
    rw [List.flatMap_cons, List.length_append, List.length_cons]
    omega
theorem hex_get (k : Nat) (h : k < 16) : hexd[k]? = some (hexd.getD k 0) := by
  rw [List.getD_eq_getElem?_getD]
  cases hh : hexd[k]? with
  | some v => rfl
  | none => rw [List.getElem?_eq_none_iff] at hh; have : hexd.length = 16 := rfl; omega
theorem flat_snoc {s : List UInt8} {k : Nat} {c : UInt8} (h : s[k]? = some c) : (s.take (k + 1)).flatMap esc = (s.take k).flatMap esc ++ esc c := by
  obtain ⟨hk, rfl⟩ := List.getElem?_eq_some_iff.1 h
  rw [List.take_succ_eq_append_getElem hk, List.flatMap_append]
  simp

end Go.Proofs.YtainemoobhkeiaaDoor
