/- Floats in their order, plainly. -/
import Derived.Test.YtdjfbkllbeeabaaGreatC0
set_option linter.unusedSimpArgs false
set_option linter.unusedVariables false
namespace Go.Proofs.YtdjfbkllbeeabaaGreat
open Sx

def sgn : Int := 9223372036854775808
def rank (b : Nat) : Int := if uand (fcan b) sgn = 0 then uor (fcan b) sgn else uxor 18446744073709551615 (fcan b)
def cmpF (b c : Nat) : Int := ordI (rank b) (rank c)
def leastF (b c : Nat) : Nat := if 0 < cmpF b c then fcan c else fcan b
def mostF (b c : Nat) : Nat := if cmpF b c < 0 then fcan c else fcan b
def doesF (op : Int) (b c : Nat) : Nat :=
  if op = 0 then fop .add b c else if op = 1 then fop .sub b c else if op = 2 then fop .mul b c else if op = 3 then fop .quo b c
  else if op = 4 then (if cmpF b c ≤ 0 then fcan b else fcan c) else (if 0 ≤ cmpF b c then fcan b else fcan c)
theorem does4 (b c : Nat) : doesF 4 b c = leastF b c := by
  unfold doesF leastF
  rw [if_neg (by decide), if_neg (by decide), if_neg (by decide), if_neg (by decide), if_pos rfl]
  split
  · rw [if_neg (by omega)]
  · rw [if_pos (by omega)]
theorem does5 (b c : Nat) : doesF 5 b c = mostF b c := by
  unfold doesF mostF
  rw [if_neg (by decide), if_neg (by decide), if_neg (by decide), if_neg (by decide), if_neg (by decide)]
  split
  · rw [if_neg (by omega)]
  · rw [if_pos (by omega)]
theorem cmpF_self (b : Nat) : cmpF b b = 0 := (ord_tri _ _).2.1.2 rfl
theorem least_self (b : Nat) : leastF b b = fcan b := by unfold leastF; split <;> rfl
theorem most_self (b : Nat) : mostF b b = fcan b := by unfold mostF; split <;> rfl
def fsum : List Nat → Nat
  | [] => 0
  | x :: l => l.foldl (fun s y => fop .add s y) (fcan x)
theorem fsum_one {l : List Nat} {x : Nat} (h : l[0]? = some x) : fsum (l.take 1) = fcan x := by
  cases l with
  | nil => simp at h
  | cons y l => simp at h; subst h; rfl
theorem fsum_app {l : List Nat} {x : Nat} (hk : l ≠ []) : fsum (l ++ [x]) = fop .add (fsum l) x := by
  cases l with
  | nil => exact absurd rfl hk
  | cons y l => show (l ++ [x]).foldl _ _ = _; rw [List.foldl_append]; rfl
theorem fsum_snoc {l : List Nat} {k : Nat} {x : Nat} (h : l[k]? = some x) (hk : k ≠ 0) : fsum (l.take (k + 1)) = fop .add (fsum (l.take k)) x := by
  rw [take_app h, fsum_app]
  intro h9
  have h1 := (List.getElem?_eq_some_iff.1 h).1
  have := congrArg List.length h9
  rw [List.length_take, Nat.min_eq_left (by omega)] at this
  exact hk this
def fcell (b : Nat) : List Value := [.float .f64 b]
theorem fcell_len (b : Nat) : (fcell b).length = 1 := rfl

end Go.Proofs.YtdjfbkllbeeabaaGreat
