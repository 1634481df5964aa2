/- Quantiles, plainly. -/
import Derived.Test.YtmhfmbgjnebcfaaN2
import Derived.Test.YtmhfmbgjnebcfaaSxT
set_option linter.unusedSimpArgs false
set_option linter.unusedVariables false
namespace Go.Proofs.Ytmhfmbgjnebcfaa
open Sx

theorem fone_uval : uval fone = U := by
  obtain ⟨r, hr, h⟩ := uval_int (z := 1) (by decide)
  have e := fofint_rung hr h
  have e2 : fofint ((1 : Nat) : Int) = fone := by decide +kernel
  rw [← e2, e, h, Nat.one_mul]
theorem uval_zero {r : Nat} (h : uval r = 0) : r = 0 := by
  rcases Nat.eq_zero_or_pos r with h1 | h1
  · exact h1
  · have := uval_lt h1
    omega
theorem split_word {b : Nat} (h : b < 2 ^ 64) : ∃ (s : Bool) (r : Nat), b = Ieee.double.word s r ∧ r < Ieee.double.signWeight := by
  have e : Ieee.double.signWeight = 2 ^ 63 := rfl
  rcases Nat.lt_or_ge b (2 ^ 63) with h1 | h1
  · exact ⟨false, b, rfl, by rw [e]; exact h1⟩
  · refine ⟨true, b - 2 ^ 63, ?_, by rw [e]; omega⟩
    show b = Ieee.double.signWeight + (b - 2 ^ 63)
    rw [e]; omega
theorem num_rung {s : Bool} {r : Nat} (hr : r < Ieee.double.signWeight) (h : fnum (Ieee.double.word s r) = true) : r ≤ Ieee.double.infRung := by
  rcases Nat.lt_or_ge Ieee.double.infRung r with h1 | h1
  · rw [fnum_read, read_nan (by rw [word_mod _ _ hr]; exact h1)] at h
    cases h
  · exact h1
theorem read_zero : Ieee.double.read 0 = .number false 0 (-1074) := by decide
theorem nonneg_cases {q : Nat} (hb : q < 2 ^ 64) (h0 : fge q 0 = true) : q ≤ Ieee.double.infRung ∨ q = 2 ^ 63 := by
  obtain ⟨s, r, rfl, hr⟩ := split_word hb
  have hn := num_rung hr (fge_num h0).1
  cases s with
  | false => exact .inl hn
  | true =>
    right
    unfold fge fcmp Ieee.Format.order at h0
    rw [read_zero] at h0
    rcases Nat.lt_or_ge r Ieee.double.infRung with h1 | h1
    · obtain ⟨m, p, e, hp, hm⟩ := read_fin true h1
      rw [e] at h0
      have hm0 : m = 0 := by
        rcases Nat.eq_zero_or_pos m with h2 | h2
        · exact h2
        · exfalso
          simp only [Ieee.Datum.order, Ieee.signed, if_true, Bool.false_eq_true, if_false, Nat.shiftLeft_eq, Nat.zero_mul] at h0
          have h3 : 0 < m * 2 ^ (p - min p (-1074)).toNat := Nat.mul_pos h2 (Nat.two_pow_pos _)
          have h4 : compare (-((m * 2 ^ (p - min p (-1074)).toNat : Nat) : Int)) ((0 : Nat) : Int) = .lt := Int.compare_eq_lt.2 (by omega)
          rw [h4] at h0
          simp at h0
      rw [hm0, Nat.zero_mul] at hm
      rw [uval_zero hm.symm]
      rfl
    · obtain rfl : r = Ieee.double.infRung := by omega
      rw [read_inf] at h0
      simp [Ieee.Datum.order] at h0
theorem fle_le {b c : Nat} (hb : b ≤ Ieee.double.infRung) (hc : c ≤ Ieee.double.infRung) : fle b c = decide (b ≤ c) := by
  unfold fle
  rw [fcmp_pos hb hc]
  rcases Nat.lt_trichotomy b c with h | h | h
  · rw [Nat.compare_eq_lt.2 h, decide_eq_true (by omega)]; rfl
  · subst h; simp
  · rw [Nat.compare_eq_gt.2 h, decide_eq_false (by omega)]; rfl
theorem flt_lt {b c : Nat} (hb : b ≤ Ieee.double.infRung) (hc : c ≤ Ieee.double.infRung) : flt b c = decide (b < c) := by
  unfold flt
  rw [fcmp_pos hb hc]
  rcases Nat.lt_trichotomy b c with h | h | h
  · rw [Nat.compare_eq_lt.2 h, decide_eq_true h]; rfl
  · subst h; simp
  · rw [Nat.compare_eq_gt.2 h, decide_eq_false (by omega)]; rfl
theorem uval_iff {r r' : Nat} : uval r < uval r' ↔ r < r' := ⟨fun h => by
  rcases Nat.lt_or_ge r r' with h1 | h1
  · exact h1
  · have := uval_le h1; omega, uval_lt⟩
theorem fone_le : fone ≤ Ieee.double.infRung := by decide
/-- a part of a whole number, as its rung -/
def prung (r n : Nat) : Nat := rungT (uval r * (n * U)) 1074
theorem prung_mono {r r' n : Nat} (h : r ≤ r') : prung r n ≤ prung r' n := rungT_mono (Nat.mul_le_mul_right _ (uval_le h))
theorem prung_le {r n rn : Nat} (hr : r ≤ fone) (h : uval rn = n * U) : prung r n ≤ rn := by
  have h1 : prung r n ≤ rungT (U * (n * U)) 1074 := rungT_mono (Nat.mul_le_mul_right _ (by rw [← fone_uval]; exact uval_le hr))
  have h2 := rungT_uval rn 1074
  rw [h, U_of rfl, Nat.mul_comm] at h2
  omega
theorem prung_mul {r n : Nat} (hr : r ≤ fone) (hn : n < 2 ^ 53) : fop .mul r (fofint n) = prung r n ∧ prung r n < Ieee.double.infRung := by
  obtain ⟨rn, hrn, hu⟩ := uval_int hn
  have hf := fone_le
  have hlt : fone < Ieee.double.infRung := by decide
  have h1 := mul_fin (r := r) (by omega) hrn hu
  have h2 := prung_le hr hu
  rw [fofint_rung hrn hu]
  unfold fop floatBits
  show (Ieee.double.mul r rn).getD fnan = _ ∧ _
  rw [h1]
  have e : rungT (uval r * (n * U)) 1074 = prung r n := rfl
  rw [e, Nat.min_eq_left (by omega)]
  exact ⟨Option.getD_some, by omega⟩
theorem mul_nzero {n : Nat} (hn : n < 2 ^ 53) : fop .mul (2 ^ 63) (fofint n) = 2 ^ 63 := by
  obtain ⟨rn, hrn, hu⟩ := uval_int hn
  obtain ⟨m, p, e, hp, hm⟩ := read_fin false hrn
  have wr : Ieee.double.word false rn = rn := rfl
  rw [wr] at e
  have e0 : Ieee.double.read (2 ^ 63) = .number true 0 (-1074) := by decide
  rw [fofint_rung hrn hu]
  unfold fop floatBits
  show (Ieee.double.mul (2 ^ 63) rn).getD fnan = _
  unfold Ieee.Format.mul
  rw [e0, e]
  show Ieee.double.nearest true (0 * m) (-1074 + p) = _
  rw [Nat.zero_mul]
  rfl
theorem int_val {z : Nat} (hz : z < 2 ^ 53) : floatToIntVal .f64 (Ieee.double.nearest false z 0) .i64 = some (z : Int) := by
  obtain ⟨rz, hrz, hu⟩ := uval_int hz
  rw [nearest_fin false hrz (by omega) (by rw [hu, U_of (by omega)])]
  have wr : Ieee.double.word false rz = rz := rfl
  unfold floatToIntVal
  show (match (Ieee.double.read (Ieee.double.word false rz)).toInt .zero with
    | some n => if IntKind.i64.min ≤ n ∧ n ≤ IntKind.i64.max then some n else none
    | none => none) = _
  rw [wr, toInt_fin hrz hu]
  dsimp only
  rw [if_pos]
  have e1 : IntKind.i64.min = -9223372036854775808 := rfl
  have e2 : IntKind.i64.max = 9223372036854775807 := rfl
  rw [e1, e2]
  omega
/-- where a quantile stands: the number above a part of n -/
def Above (q n z : Nat) : Prop := z ≤ n ∧ fnum (fop .mul q (fofint n)) = true ∧ floatToIntVal .f64 (fceil (fop .mul q (fofint n))) .i64 = some (z : Int) ∧ ∀ k : Nat, k ≤ 1000001 → flt (fofint k) (fop .mul q (fofint n)) = decide (k < z)
theorem quant {q n : Nat} (hb : q < 2 ^ 64) (h0 : fge q 0 = true) (h1 : fle q fone = true) (hn : n ≤ 1000000) : ∃ z, Above q n z := by
  have hn53 : n < 2 ^ 53 := by omega
  rcases nonneg_cases hb h0 with hq | hq
  · have hle : q ≤ fone := by
      rw [fle_le hq fone_le] at h1
      simpa using h1
    obtain ⟨e, hp⟩ := prung_mul hle hn53
    obtain ⟨rn, hrn, hu⟩ := uval_int hn53
    have hpn := prung_le hle hu
    obtain ⟨z, hz, hk⟩ := ceil_fin hp
    have hzn : z ≤ n := by
      rcases Nat.lt_or_ge n z with h2 | h2
      · have h3 := (hk n).1 h2
        have h4 := uval_le hpn
        omega
      · exact h2
    refine ⟨z, hzn, ?_, ?_, fun k hkb => ?_⟩
    · rw [e]
      have wr : ∀ r, Ieee.double.word false r = r := fun r => rfl
      have hs := Ieee.double.infRung_lt
      rw [fnum_read, read_num (by rw [Nat.mod_eq_of_lt (by omega)]; omega)]
      rfl
    · rw [e, hz]
      exact int_val (by omega)
    · obtain ⟨rk, hrk, huk⟩ := uval_int (z := k) (by omega)
      rw [e, fofint_rung hrk huk, flt_lt (by omega) (by omega)]
      exact decide_eq_decide.2 (by rw [← uval_iff, huk, hk k])
  · subst hq
    have e := mul_nzero hn53
    refine ⟨0, Nat.zero_le _, ?_, ?_, fun k hkb => ?_⟩
    · rw [e]; decide +kernel
    · rw [e]; decide +kernel
    · rw [e]
      obtain ⟨rk, hrk, huk⟩ := uval_int (z := k) (by omega)
      obtain ⟨m, p, e2, hp, hm⟩ := read_fin false hrk
      have wr : Ieee.double.word false rk = rk := rfl
      rw [wr] at e2
      have e0 : Ieee.double.read (2 ^ 63) = .number true 0 (-1074) := by decide
      rw [fofint_rung hrk huk, decide_eq_false (by omega)]
      unfold flt fcmp Ieee.Format.order
      rw [e2, e0]
      simp only [Ieee.Datum.order, Ieee.signed, if_true, Bool.false_eq_true, if_false, Nat.shiftLeft_eq, Nat.zero_mul]
      have h4 : compare ((m * 2 ^ (p - min p (-1074)).toNat : Nat) : Int) (-((0 : Nat) : Int)) ≠ .lt := by
        intro h5
        have := Int.compare_eq_lt.1 h5
        omega
      cases hc : compare ((m * 2 ^ (p - min p (-1074)).toNat : Nat) : Int) (-((0 : Nat) : Int)) with
      | lt => exact absurd hc h4
      | eq => rfl
      | gt => rfl

end Go.Proofs.Ytmhfmbgjnebcfaa
