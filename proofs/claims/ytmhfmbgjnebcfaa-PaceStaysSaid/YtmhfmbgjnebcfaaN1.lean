/- Numbers, plainly. -/
import Derived.Test.YtmhfmbgjnebcfaaN0
set_option linter.unusedSimpArgs false
set_option linter.unusedVariables false
namespace Go.Proofs.Ytmhfmbgjnebcfaa
open Sx

def doesF (op : Int) (b c : Nat) : Nat :=
  if op = 0 then fop .add b c else if op = 1 then fop .sub b c else if op = 2 then fop .mul b c else if op = 3 then fop .quo b c
  else if op = 4 then (if order (rank b) (rank c) ≤ 0 then fcan b else fcan c) else (if 0 ≤ order (rank b) (rank c) then fcan b else fcan c)
def fone : Nat := 4607182418800017408
def ftwo : Nat := 4611686018427387904
def fsum : List Nat → Nat
  | [] => 0
  | x :: l => l.foldl (fun s y => fop .add s y) (fcan x)
theorem fsum_one {l : List Nat} {x : Nat} (h : l[0]? = some x) : fsum (l.take 1) = fcan x := by
  cases l with
  | nil => simp at h
  | cons y l => simp at h; subst h; rfl
theorem fsum_snoc {l : List Nat} {k : Nat} {x : Nat} (h : l[k]? = some x) (hk : k ≠ 0) : fsum (l.take (k + 1)) = fop .add (fsum (l.take k)) x := by
  cases l with
  | nil => simp at h
  | cons y l =>
    obtain ⟨j, rfl⟩ : ∃ j, k = j + 1 := ⟨k - 1, by omega⟩
    simp at h
    obtain ⟨hj, rfl⟩ := List.getElem?_eq_some_iff.1 h
    rw [List.take_succ_cons, List.take_succ_cons, List.take_succ_eq_append_getElem hj]
    show List.foldl _ (fcan y) (l.take j ++ [l[j]]) = fop .add (List.foldl _ (fcan y) (l.take j)) l[j]
    rw [List.foldl_append]
    rfl
def fcell (b : Nat) : List Value := [.float .f64 b]
theorem fcell_len (b : Nat) : (fcell b).length = 1 := rfl
theorem fcell_one (b : Nat) : ∀ u ∈ fcell b, u.oneCell' = true := by
  intro u hu
  simp only [fcell, List.mem_cons, List.not_mem_nil, or_false] at hu
  subst hu; rfl
def meanF (l : List Nat) : Nat := if l = [] then 0 else fop .quo (fsum l) (fofint l.length)
def partF (a : Nat) : Bool := fgt a 0 && fle a fone
def smoothF (a was x : Nat) : Nat × Int :=
  if partF a = false then (0, 1) else if fnum was = false then (fcan x, 0) else (fop .add was (fop .mul a (fop .sub x was)), 0)
def wgo (most : Nat) : Nat → Nat → Nat
  | 0, x => x
  | k + 1, x => if flt x most = true then wgo most k (fop .mul ftwo x) else x
def waitF (tries : Int) (first most : Nat) : Nat × Int :=
  if fgt first 0 = true ∧ fge most first = true ∧ 0 ≤ tries then (if flt (wgo most tries.toNat first) most = true then wgo most tries.toNat first else most, 0) else (0, 1)
theorem wgo_stop {most x : Nat} (h : flt x most = false) : ∀ k, wgo most k x = x
  | 0 => rfl
  | k + 1 => by unfold wgo; rw [if_neg (by simp [h])]
theorem wgo_step {most x k : Nat} (h : flt x most = true) : wgo most (k + 1) x = wgo most k (fop .mul ftwo x) := by
  conv => lhs; unfold wgo
  rw [if_pos h]
theorem order_num {d e : Ieee.Datum} {o : Ordering} (h : d.order e = some o) : d.isNaN = false ∧ e.isNaN = false := by
  cases d <;> cases e <;> simp [Ieee.Datum.order, Ieee.Datum.isNaN] at h ⊢
theorem fcmp_num {b c : Nat} {o : Ordering} (h : fcmp b c = some o) : fnum b = true ∧ fnum c = true := by
  obtain ⟨h1, h2⟩ := order_num h
  rw [fnum_read, fnum_read, h1, h2]
  exact ⟨rfl, rfl⟩
theorem fge_num {b c : Nat} (h : fge b c = true) : fnum b = true ∧ fnum c = true := by
  unfold fge at h
  cases hc : fcmp b c with
  | none => rw [hc] at h; cases h
  | some o => exact fcmp_num hc
theorem fgt_num {b c : Nat} (h : fgt b c = true) : fnum b = true ∧ fnum c = true := by
  unfold fgt at h
  cases hc : fcmp b c with
  | none => rw [hc] at h; cases h
  | some o => exact fcmp_num hc
theorem flt_num {b c : Nat} (h : flt b c = true) : fnum b = true ∧ fnum c = true := by
  unfold flt at h
  cases hc : fcmp b c with
  | none => rw [hc] at h; cases h
  | some o => exact fcmp_num hc
theorem order_some {d e : Ieee.Datum} (h : d.isNaN = false) (h1 : e.isNaN = false) : ∃ o, d.order e = some o := by
  cases d <;> cases e <;> simp_all [Ieee.Datum.order, Ieee.Datum.isNaN]
theorem fcmp_some {b c : Nat} (h : fnum b = true) (h1 : fnum c = true) : ∃ o, fcmp b c = some o := by
  rw [fnum_read] at h h1
  exact order_some (by simpa using h) (by simpa using h1)
theorem fge_flt {b c : Nat} (h : fnum b = true) (h1 : fnum c = true) : fge b c = !flt b c := by
  obtain ⟨o, ho⟩ := fcmp_some h h1
  unfold fge flt
  rw [ho]
  cases o <;> rfl
theorem ftwo_read : Ieee.double.read ftwo = .number false 4503599627370496 (-51) := by decide +kernel
theorem two_num {x : Nat} (h : fnum x = true) : fnum (fop .mul ftwo x) = true := by
  rw [fnum_read] at h
  unfold fop
  cases hb : floatBits .mul .f64 ftwo x with
  | some r => exact floatBits_num hb
  | none =>
    exfalso
    have h2 : (Ieee.double.read ftwo).product (Ieee.double.read x) = none := by
      have : ((Ieee.double.read ftwo).product (Ieee.double.read x)).map Ieee.double.write = none := hb
      simpa using this
    rw [ftwo_read] at h2
    cases hx : Ieee.double.read x with
    | nan s t => rw [hx] at h; cases h
    | infinity s => rw [hx] at h2; simp [Ieee.Datum.product] at h2
    | number s m i => rw [hx] at h2; simp [Ieee.Datum.product] at h2
structure Stamp where
  wall : Int
  logical : Int
  node : Int
def may (s : Stamp) : Bool := decide (0 ≤ s.wall ∧ s.wall ≤ 281474976710656 ∧ 0 ≤ s.logical ∧ s.logical ≤ 65535 ∧ 0 ≤ s.node ∧ s.node ≤ 63)
def lagF (a b : Stamp) : Nat := if may a = true ∧ may b = true then fofint (b.wall - a.wall) else fnan
def rateF (n : Int) (a b : Stamp) : Nat := fop .quo (fofint n) (lagF a b)
theorem may_wall {s : Stamp} (h : may s = true) : 0 ≤ s.wall ∧ s.wall ≤ 281474976710656 := by
  unfold may at h
  simp only [decide_eq_true_eq] at h
  omega

end Go.Proofs.Ytmhfmbgjnebcfaa
