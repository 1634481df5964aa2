/- Rows of bytes; what is sent in order. -/
import Derived.Test.YtgcelppbbjokeaaW4
set_option linter.unusedSimpArgs false
set_option linter.unusedVariables false
namespace Go.Proofs.Ytgcelppbbjokeaa
open Sx
/-- bytes as they lie in a row -/
structure RB where
  ad : Option Addr
  n : Nat
  c : Nat
def RB.cells (r : RB) : List Value := [.slice r.ad r.n r.c]
theorem RB.len (r : RB) : r.cells.length = 1 := rfl
structure RB.is (w : World) (r : RB) (l : List UInt8) : Prop where
  n : r.n = l.length
  bs : Bs w r.ad l
  nil : r.ad = none → r.n = 0 ∧ r.c = 0
  small : r.n ≤ 9223372036854775807
structure Dat (w : World) (ad : Option Addr) (rs : List RB) (ls : List (List UInt8)) : Prop where
  ss : Ss w ad RB.cells 1 rs
  all : All2 (RB.is w) rs ls
  small : rs.length ≤ 9223372036854775807
theorem ss_one {α : Type} {enc : α → List Value} {w : World} {ad : Option Addr} {xs : List α} (he : ∀ x, (enc x).length = 1) (h : Ss w ad enc 1 xs) {i : Nat} {x : α} {v : Value} (hi : xs[i]? = some x) (hj : nth (enc x) 0 = some v) : w.cell? ⟨ab ad, ao ad + i * 1, none⟩ = some v := h.cell he hi hj
def bit (b : Bool) : List Value := [.bool b]
theorem bit_len (b : Bool) : (bit b).length = 1 := rfl
def asOp (l : List UInt8) : OpV := ⟨0, 0, 0, l⟩
def sumD (ls : List (List UInt8)) (k : Nat) : Nat := sumTo (ls.map asOp) k
theorem sumD_succ {ls : List (List UInt8)} {k : Nat} {l : List UInt8} (h : ls[k]? = some l) : sumD ls (k + 1) = sumD ls k + min l.length 20001 := sumTo_succ (o := asOp l) (by simp [h])
theorem sumD_le (ls : List (List UInt8)) (k : Nat) : sumD ls k ≤ k * 20001 := sumTo_le _ _
theorem sumD_mono (ls : List (List UInt8)) {j k : Nat} (h : j ≤ k) : sumD ls j ≤ sumD ls k := sumTo_mono _ h
theorem sumD_all {ls : List (List UInt8)} {k : Nat} (h : ls.length ≤ k) : sumD ls k = sumD ls ls.length := by
  have := sumTo_all (os := ls.map asOp) (k := k) (by simpa using h)
  rw [List.length_map] at this
  exact this
def fewD (ls : List (List UInt8)) : Bool := fewB (ls.map asOp)
theorem fewD_yes {ls : List (List UInt8)} (h : fewD ls = true) : ls.length ≤ 400 ∧ sumD ls 400 ≤ 20000 ∧ ∀ l ∈ ls, l.length ≤ 20000 := by
  have h2 := few_small h
  refine ⟨by simpa using h2.1, ?_, fun l hl => by simpa [asOp] using h2.2 (asOp l) (List.mem_map_of_mem hl)⟩
  simp only [fewD, fewB, Bool.and_eq_true, decide_eq_true_eq] at h
  exact h.2
theorem fewD_no {ls : List (List UInt8)} (h : fewD ls = false) : ¬ (ls.length ≤ 400 ∧ sumD ls 400 ≤ 20000) := by
  intro ⟨h1, h2⟩
  have : fewD ls = true := by
    simp only [fewD, fewB, Bool.and_eq_true, decide_eq_true_eq]
    exact ⟨by simpa using h1, h2⟩
  rw [this] at h
  cases h
theorem Net.fits {w : World} {p : Nat} {room : Int} {ms : List Mail} {F : Nat → Prop} (h : Net w p room ms F) : (ms.length : Int) ≤ room := by
  obtain ⟨ad, c, rs, h⟩ := h
  exact h.fits
/-- the state of the loop over what is sent -/
structure OG where
  i : Nat
  j : Nat
  sr : List RB
  sl : List (List UInt8)
  ms : List Mail
  F : Nat → Prop
  ad : Option Addr
  c : Nat
theorem first_out {m : Mail} {ms : List Mail} {sl : List (List UInt8)} {j : Nat} (h : (m :: ms).map Mail.data = sl.drop j) : sl[j]? = some m.data ∧ ms.map Mail.data = sl.drop (j + 1) := by
  constructor
  · have := congrArg (fun l => l[0]?) h
    simpa using this.symm
  · have := congrArg List.tail h
    simpa using this
theorem drop_len {ms : List Mail} {sl : List (List UInt8)} {j : Nat} (h : ms.map Mail.data = sl.drop j) : ms.length = sl.length - j := by
  have := congrArg List.length h
  simpa using this

end Go.Proofs.Ytgcelppbbjokeaa
