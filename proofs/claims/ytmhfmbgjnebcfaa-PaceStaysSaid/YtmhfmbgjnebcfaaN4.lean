/- Sorted lists and parts of one, plainly. -/
import Derived.Test.YtmhfmbgjnebcfaaN3
set_option linter.unusedSimpArgs false
set_option linter.unusedVariables false
namespace Go.Proofs.Ytmhfmbgjnebcfaa
open Sx

/-- some of a list's first k -/
def fil (f : Nat → Bool) (L : List Nat) (k : Nat) : List Nat := (L.take k).filter f
theorem fil_yes {f : Nat → Bool} {L : List Nat} {k p : Nat} (h : L[k]? = some p) (hf : f p = true) : (fil f L (k + 1)).length = (fil f L k).length + 1 := by
  obtain ⟨hk, rfl⟩ := List.getElem?_eq_some_iff.1 h
  unfold fil
  rw [List.take_succ_eq_append_getElem hk, List.filter_append]
  simp [hf]
theorem fil_no {f : Nat → Bool} {L : List Nat} {k p : Nat} (h : L[k]? = some p) (hf : f p = false) : (fil f L (k + 1)).length = (fil f L k).length := by
  obtain ⟨hk, rfl⟩ := List.getElem?_eq_some_iff.1 h
  unfold fil
  rw [List.take_succ_eq_append_getElem hk, List.filter_append]
  simp [hf]
theorem fil_len (f : Nat → Bool) (L : List Nat) (k : Nat) : (fil f L k).length ≤ L.length := by
  unfold fil
  have h1 := List.length_filter_le f (L.take k)
  have h2 := List.length_take_le' k L
  omega
theorem fil_all (f : Nat → Bool) (L : List Nat) : fil f L L.length = L.filter f := by unfold fil; rw [List.take_length]
def likeF (b : Nat) : Nat → Bool := fun y => decide (fcan y = b)
theorem sort_count {l s : List Nat} (h : SortOf l s) (b : Nat) : (fil (likeF b) s s.length).length = (fil (likeF b) l l.length).length := by
  rw [fil_all, fil_all, (h.1.filter _).length_eq]
  have : ∀ l : List Nat, ((l.map fcan).filter (likeF b)).length = (l.filter (likeF b)).length := fun l => by
    rw [List.filter_map, List.length_map]
    congr 2
    funext y
    simp [likeF, fcan_fcan]
  exact this l
theorem sort_can {l s : List Nat} {i y : Nat} (h : SortOf l s) (hy : s[i]? = some y) : fcan y = y := by
  have := h.1.mem_iff.1 (List.mem_of_getElem? hy)
  obtain ⟨b, -, rfl⟩ := List.mem_map.1 this
  exact fcan_fcan b
theorem sort_le {l s : List Nat} {i j x y : Nat} (h : SortOf l s) (hx : s[i]? = some x) (hy : s[j]? = some y) (hij : i ≤ j) : rank x ≤ rank y := by
  rcases Nat.lt_or_ge i j with h1 | h1
  · have hp := h.2
    unfold Rising at hp
    rw [List.pairwise_iff_getElem] at hp
    obtain ⟨a1, rfl⟩ := List.getElem?_eq_some_iff.1 hx
    obtain ⟨a2, rfl⟩ := List.getElem?_eq_some_iff.1 hy
    exact hp i j a1 a2 h1
  · obtain rfl : i = j := by omega
    rw [hx] at hy; cases hy; exact Int.le_refl _
theorem sort_mem {l s : List Nat} {i y : Nat} (h : SortOf l s) (hy : l[i]? = some y) : ∃ j : Nat, s[j]? = some (fcan y) :=
  List.mem_iff_getElem?.1 (h.1.mem_iff.2 (List.mem_map.2 ⟨y, List.mem_of_getElem? hy, rfl⟩))
theorem sort_mem' {l s : List Nat} {j x : Nat} (h : SortOf l s) (hx : s[j]? = some x) : ∃ i y : Nat, l[i]? = some y ∧ fcan y = x := by
  obtain ⟨y, hy, e⟩ := List.mem_map.1 (h.1.mem_iff.1 (List.mem_of_getElem? hx))
  obtain ⟨i, hi⟩ := List.mem_iff_getElem?.1 hy
  exact ⟨i, y, hi, e⟩
def leF (b : Nat) : Nat → Bool := fun y => decide (rank y ≤ rank b)
/-- as many as stand up to a place are not above what stands there -/
theorem sort_below {l s : List Nat} {j b : Nat} (h : SortOf l s) (hb : s[j]? = some b) : j + 1 ≤ (fil (leF b) l l.length).length := by
  have hj := (List.getElem?_eq_some_iff.1 hb).1
  have e : (fil (leF b) l l.length).length = (s.filter (leF b)).length := by
    rw [fil_all, (h.1.filter _).length_eq, List.filter_map, List.length_map]
    congr 2
    funext y
    simp [leF, rank_can]
  rw [e]
  conv => rhs; rw [← List.take_append_drop (j + 1) s]
  rw [List.filter_append, List.length_append]
  have h1 : (s.take (j + 1)).filter (leF b) = s.take (j + 1) := by
    rw [List.filter_eq_self]
    intro y hy
    obtain ⟨i, hi⟩ := List.mem_iff_getElem?.1 hy
    rw [List.getElem?_take] at hi
    split at hi
    · unfold leF
      exact decide_eq_true (sort_le h hi hb (by omega))
    · cases hi
  rw [h1, List.length_take]
  omega
/-! parts of one -/
theorem fle_nzero {p : Nat} (hp : p ≤ Ieee.double.infRung) (h : fle p (2 ^ 63) = true) : p = 0 := by
  have e0 : Ieee.double.read (2 ^ 63) = .number true 0 (-1074) := by decide
  unfold fle fcmp Ieee.Format.order at h
  have wr : Ieee.double.word false p = p := rfl
  rw [e0] at h
  rcases Nat.lt_or_ge p Ieee.double.infRung with h1 | h1
  · obtain ⟨m, i, e, hi, hm⟩ := read_fin false h1
    rw [wr] at e
    rw [e] at h
    simp only [Ieee.Datum.order, Ieee.signed, if_true, Bool.false_eq_true, if_false, Nat.shiftLeft_eq, Nat.zero_mul] at h
    rcases Nat.eq_zero_or_pos m with h2 | h2
    · rw [h2, Nat.zero_mul] at hm
      exact uval_zero hm.symm
    · exfalso
      have h3 : 0 < m * 2 ^ (i - min i (-1074)).toNat := Nat.mul_pos h2 (Nat.two_pow_pos _)
      have h4 : compare ((m * 2 ^ (i - min i (-1074)).toNat : Nat) : Int) (-((0 : Nat) : Int)) = .gt := Int.compare_eq_gt.2 (by omega)
      rw [h4] at h
      simp at h
  · obtain rfl : p = Ieee.double.infRung := by omega
    rw [← wr, read_inf] at h
    simp [Ieee.Datum.order] at h
theorem nz_fge : fge (2 ^ 63) 0 = true := by decide +kernel
theorem nz_fle : fle (2 ^ 63) fone = true := by decide +kernel
theorem z_fle : fle 0 fone = true := by decide +kernel
theorem z_fge : fge 0 0 = true := by decide +kernel
theorem one_fge : fge fone 0 = true := by decide +kernel
theorem one_fle : fle fone fone = true := by decide +kernel
theorem pos_fge {q : Nat} (h : q ≤ Ieee.double.infRung) : fge q 0 = true := by
  have hn : fnum q = true := by
    have hs := Ieee.double.infRung_lt
    rw [fnum_read, read_num (by rw [Nat.mod_eq_of_lt (by omega)]; omega)]; rfl
  rw [fge_flt hn (by decide +kernel), flt_lt h (Nat.zero_le _)]
  simp
theorem signed_neg {m k : Nat} (h : 0 < m) : Ieee.signed true m k < 0 := by
  unfold Ieee.signed
  rw [if_pos rfl, Nat.shiftLeft_eq]
  have := Nat.mul_pos h (Nat.two_pow_pos k)
  omega
theorem signed_pos (m k : Nat) : 0 ≤ Ieee.signed false m k := by
  unfold Ieee.signed
  rw [if_neg (by decide)]
  exact Int.natCast_nonneg _
theorem signed_zero (s : Bool) (k : Nat) : Ieee.signed s 0 k = 0 := by
  unfold Ieee.signed
  split <;> simp
theorem cmp_gt {a b : Int} (h : b < a) : compare a b = .gt := Int.compare_eq_gt.2 h
/-- what is not below a number that is not below nought is not below nought -/
theorem fle_nonneg {p q : Nat} (hp : p < 2 ^ 64) (hq : q < 2 ^ 64) (h0 : fge p 0 = true) (h : fle p q = true) : fge q 0 = true := by
  obtain ⟨s, r, rfl, hr⟩ := split_word hq
  have hn : fnum (Ieee.double.word s r) = true := by
    unfold fle at h
    cases hc : fcmp p (Ieee.double.word s r) with
    | none => rw [hc] at h; cases h
    | some o => exact (fcmp_num hc).2
  have hri := num_rung hr hn
  cases s with
  | false => exact pos_fge hri
  | true =>
    rcases Nat.eq_zero_or_pos r with h1 | h1
    · subst h1; exact nz_fge
    · exfalso
      have hneg : ∃ d, Ieee.double.read (Ieee.double.word true r) = d ∧ (d = .infinity true ∨ ∃ m i, d = .number true m i ∧ 0 < m) := by
        rcases Nat.lt_or_ge r Ieee.double.infRung with h2 | h2
        · obtain ⟨m, i, e, hi, hm⟩ := read_fin true h2
          refine ⟨_, e, .inr ⟨m, i, rfl, ?_⟩⟩
          rcases Nat.eq_zero_or_pos m with h3 | h3
          · rw [h3, Nat.zero_mul] at hm
            have := uval_zero hm.symm
            omega
          · exact h3
        · obtain rfl : r = Ieee.double.infRung := by omega
          exact ⟨_, read_inf true, .inl rfl⟩
      have hpos : Ieee.double.read p = .infinity false ∨ (∃ m i, Ieee.double.read p = .number false m i) ∨ ∃ i, Ieee.double.read p = .number true 0 i := by
        rcases nonneg_cases hp h0 with h2 | h2
        · have wr : Ieee.double.word false p = p := rfl
          rcases Nat.lt_or_ge p Ieee.double.infRung with h3 | h3
          · obtain ⟨m, i, e, -⟩ := read_fin false h3
            rw [wr] at e
            exact .inr (.inl ⟨m, i, e⟩)
          · obtain rfl : p = Ieee.double.infRung := by omega
            exact .inl (read_inf false)
        · subst h2
          exact .inr (.inr ⟨(-1074 : Int), by decide⟩)
      obtain ⟨d, e, hd⟩ := hneg
      unfold fle fcmp Ieee.Format.order at h
      rw [e] at h
      rcases hpos with e2 | ⟨m2, i2, e2⟩ | ⟨i2, e2⟩ <;> rw [e2] at h <;> rcases hd with rfl | ⟨m, i, rfl, hm⟩ <;> simp only [Ieee.Datum.order] at h
      · revert h; decide
      · simp at h
      · simp at h
      · rw [cmp_gt (by have := signed_neg (k := (i - min i2 i).toNat) hm; have := signed_pos m2 (i2 - min i2 i).toNat; omega)] at h
        simp at h
      · simp at h
      · rw [cmp_gt (by have := signed_neg (k := (i - min i2 i).toNat) hm; rw [signed_zero]; omega)] at h
        simp at h
theorem fle_part {p q : Nat} (hp : p < 2 ^ 64) (hq : q < 2 ^ 64) (h0 : fge p 0 = true) (h : fle p q = true) (h1 : fle q fone = true) : fle p fone = true := by
  rcases nonneg_cases hp h0 with h2 | h2
  · rcases nonneg_cases hq (fle_nonneg hp hq h0 h) with h3 | h3
    · rw [fle_le h2 h3] at h
      rw [fle_le h3 fone_le] at h1
      rw [fle_le h2 fone_le]
      simp at h h1 ⊢
      omega
    · rw [h3] at h
      rw [fle_nzero h2 h]
      exact z_fle
  · rw [h2]; exact nz_fle
theorem above_mono {p q n zp zq : Nat} (hp : p < 2 ^ 64) (hq : q < 2 ^ 64) (h0 : fge p 0 = true) (h : fle p q = true) (h1 : fle q fone = true) (hn : n ≤ 1000000) (hzp : Above p n zp) (hzq : Above q n zq) : zp ≤ zq := by
  rcases Nat.lt_or_ge zq zp with h9 | h9
  · exfalso
    have hn53 : n < 2 ^ 53 := by omega
    have a1 := hzp.2.2.2 zq (by have := hzq.1; omega)
    have a2 := hzq.2.2.2 zq (by have := hzq.1; omega)
    rw [decide_eq_true h9] at a1
    rw [decide_eq_false (by omega)] at a2
    obtain ⟨rk, hrk, huk⟩ := uval_int (z := zq) (by have := hzq.1; omega)
    rw [fofint_rung hrk huk] at a1 a2
    rcases nonneg_cases hp h0 with h2 | h2
    · rcases nonneg_cases hq (fle_nonneg hp hq h0 h) with h3 | h3
      · rw [fle_le h2 h3] at h
        rw [fle_le h3 fone_le] at h1
        have h : p ≤ q := by simpa using h
        have h1 : q ≤ fone := by simpa using h1
        obtain ⟨e1, b1⟩ := prung_mul (r := p) (n := n) (by omega) hn53
        obtain ⟨e2, b2⟩ := prung_mul (r := q) (n := n) h1 hn53
        have hm := prung_mono (n := n) h
        rw [e1, flt_lt (by omega) (by omega)] at a1
        rw [e2, flt_lt (by omega) (by omega)] at a2
        have a1 : rk < prung p n := by simpa using a1
        have a2 : ¬ rk < prung q n := by simpa using a2
        omega
      · rw [h3] at h
        have hp0 := fle_nzero h2 h
        subst hp0
        obtain ⟨e1, b1⟩ := prung_mul (r := 0) (n := n) (by decide) hn53
        have e3 : prung 0 n = 0 := by
          unfold prung
          have : uval 0 = 0 := rfl
          rw [this, Nat.zero_mul]; rfl
        rw [e1, e3, flt_lt (by omega) (Nat.zero_le _)] at a1
        simp at a1
    · subst h2
      obtain ⟨z, hz⟩ := quant hp h0 nz_fle hn
      rw [mul_nzero hn53] at a1
      have hc : fcmp rk (2 ^ 63) ≠ some .lt := by
        obtain ⟨m, i, e2, -⟩ := read_fin false hrk
        have wr : Ieee.double.word false rk = rk := rfl
        rw [wr] at e2
        have e0 : Ieee.double.read (2 ^ 63) = .number true 0 (-1074) := by decide
        unfold fcmp Ieee.Format.order
        rw [e2, e0]
        simp only [Ieee.Datum.order]
        intro h5
        have h6 := Int.compare_eq_lt.1 (Option.some.inj h5)
        rw [signed_zero] at h6
        have := signed_pos m (i - min i (-1074)).toNat
        omega
      unfold flt at a1
      have a1 : fcmp rk (2 ^ 63) = some .lt := by simpa using a1
      exact hc a1
  · exact h9
theorem above_zero {n z : Nat} (hn : n ≤ 1000000) (h : Above 0 n z) : z = 0 := by
  have hn53 : n < 2 ^ 53 := by omega
  have a1 := h.2.2.2 0 (by omega)
  obtain ⟨e1, b1⟩ := prung_mul (r := 0) (n := n) (by decide) hn53
  have e3 : prung 0 n = 0 := by
    unfold prung
    have : uval 0 = 0 := rfl
    rw [this, Nat.zero_mul]; rfl
  have e4 : fofint ((0 : Nat) : Int) = 0 := by decide +kernel
  rw [e1, e3, e4, flt_lt (Nat.zero_le _) (Nat.zero_le _)] at a1
  have a1 : decide (0 < z) = false := by rw [← a1]; rfl
  simpa using a1
theorem above_one {n z : Nat} (hn : n ≤ 1000000) (h : Above fone n z) : z = n := by
  have hn53 : n < 2 ^ 53 := by omega
  have hz := h.1
  rcases Nat.lt_or_ge z n with h9 | h9
  · exfalso
    have a1 := h.2.2.2 z (by omega)
    rw [decide_eq_false (by omega)] at a1
    obtain ⟨e1, b1⟩ := prung_mul (r := fone) (n := n) (Nat.le_refl _) hn53
    obtain ⟨rn, hrn, hun⟩ := uval_int hn53
    obtain ⟨rz, hrz, huz⟩ := uval_int (z := z) (by omega)
    have e3 : prung fone n = rn := by
      unfold prung
      rw [fone_uval]
      have h2 := rungT_uval rn 1074
      rw [hun, U_of rfl, Nat.mul_comm] at h2
      exact h2
    rw [e1, e3, fofint_rung hrz huz, flt_lt (by omega) (by omega)] at a1
    have a1 : ¬ rz < rn := by simpa using a1
    rw [← uval_iff, huz, hun] at a1
    exact a1 (Nat.mul_lt_mul_of_pos_right h9 U_pos)
  · omega

end Go.Proofs.Ytmhfmbgjnebcfaa
