/- Where a key lies, plainly. -/
import Derived.Test.YtakohabmcgponaaN1
set_option linter.unusedSimpArgs false
set_option linter.unusedVariables false
namespace Go.Proofs.Ytakohabmcgponaa
open Sx

def hround (h : Nat) (b : UInt8) : Nat := xr h b.toNat * 1099511628211 % 2 ^ 64
def hmix (h k : Nat) : Nat := xr h (h / 2 ^ 33) * k % 2 ^ 64
def hbase (l : List UInt8) : Nat := l.foldl hround 14695981039346656037
def hmul (j : Nat) : Nat := if j = 0 then 18397679294719823053 else 14181476777654086739
def hstage (l : List UInt8) : Nat → Nat
  | 0 => hbase l
  | j + 1 => hmix (hstage l j) (hmul j)
def hashF (l : List UInt8) : Nat := xr (hstage l 2) (hstage l 2 / 2 ^ 33)
theorem fold_snoc {α β : Type} (f : β → α → β) (c : β) {l : List α} {k : Nat} {b : α} (h : l[k]? = some b) : (l.take (k + 1)).foldl f c = f ((l.take k).foldl f c) b := by
  obtain ⟨hk, rfl⟩ := List.getElem?_eq_some_iff.1 h
  rw [List.take_succ_eq_append_getElem hk, List.foldl_append]
  rfl
theorem hbase_snoc {l : List UInt8} {k : Nat} {b : UInt8} (h : l[k]? = some b) : hbase (l.take (k + 1)) = hround (hbase (l.take k)) b := fold_snoc hround _ h
theorem hround_eq (h : Nat) (b : UInt8) : hround h b = xr h b.toNat * 1099511628211 % 2 ^ 64 := rfl
theorem hmix_eq (h k : Nat) : hmix h k = xr h (h / 2 ^ 33) * k % 2 ^ 64 := rfl
theorem hstage_succ (l : List UInt8) (j : Nat) : hstage l (j + 1) = hmix (hstage l j) (hmul j) := rfl
def ofF (l : List UInt8) : Nat := fop .quo (fofint ((hashF l / 2 ^ 11 : Nat) : Int)) 4845873199050653696
def inF (r : Rg) (x : Nat) : Bool := fge x r.lo && flt x r.hi
def keyF (l : List UInt8) : Bool := decide (1 ≤ l.length) && decide (l.length ≤ 24)
def routeF (L : List Rg) (x : Nat) : Nat → Option Rg
  | 0 => none
  | k + 1 => match gt L ((k + 1 : Nat) : Int) with
    | some r => if inF r x = true then some r else routeF L x k
    | none => routeF L x k

end Go.Proofs.Ytakohabmcgponaa
