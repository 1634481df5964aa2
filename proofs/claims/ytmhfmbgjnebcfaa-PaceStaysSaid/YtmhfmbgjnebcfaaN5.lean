/- Quantiles and what stays, plainly. -/
import Derived.Test.YtmhfmbgjnebcfaaW4
import Derived.Test.YtmhfmbgjnebcfaaN4
set_option linter.unusedSimpArgs false
set_option linter.unusedVariables false
namespace Go.Proofs.Ytmhfmbgjnebcfaa
open Sx

theorem QuantS.ok {l : List Nat} {q x : Nat} {r : Int} (h : QuantS l q x r) (hne : l ≠ []) (h0 : fge q 0 = true) (h1 : fle q fone = true) : r = 0 ∧ ∃ s z, SortOf l s ∧ Above q l.length z ∧ s[max z 1 - 1]? = some x := by
  rcases h with ⟨k1, -⟩ | ⟨-, k2, -⟩ | ⟨-, -, k3, k4⟩
  · exact absurd k1 hne
  · exact absurd ⟨h0, h1⟩ k2
  · exact ⟨k3, k4⟩
theorem lo_hi {l s : List Nat} {k o c d : Nat} (h : SortOf l s) (ho : l[k]? = some o) (hc : s[0]? = some c) (hd : s[l.length - 1]? = some d) : rank c ≤ rank o ∧ rank o ≤ rank d := by
  obtain ⟨j, hj⟩ := sort_mem h ho
  have hjl := (List.getElem?_eq_some_iff.1 hj).1
  have hl := sort_len h
  have h1 := sort_le h hc hj (Nat.zero_le _)
  have h2 := sort_le h hj hd (by omega)
  rw [rank_can] at h1 h2
  exact ⟨h1, h2⟩
def metF (b : Nat) (l : List Nat) (k : Nat) : Bool := (l.take k).any fun y => decide (rank y = rank b)
theorem met_snoc {b k o : Nat} {l : List Nat} (ho : l[k]? = some o) : metF b l (k + 1) = (metF b l k || decide (rank o = rank b)) := by
  obtain ⟨hk, rfl⟩ := List.getElem?_eq_some_iff.1 ho
  unfold metF
  rw [List.take_succ_eq_append_getElem hk, List.any_append]
  simp
theorem met_all {l s : List Nat} {j b : Nat} (h : SortOf l s) (hb : s[j]? = some b) : metF b l l.length = true := by
  obtain ⟨i, y, hy, e⟩ := sort_mem' h hb
  unfold metF
  rw [List.take_length, List.any_eq_true]
  exact ⟨y, List.mem_of_getElem? hy, by rw [← e, rank_can]; simp⟩
theorem order_zero (a b : Int) : order a b = 0 ↔ a = b := by unfold order; split <;> (try split) <;> omega
theorem order_le (a b : Int) : order a b ≤ 0 ↔ a ≤ b := by unfold order; split <;> (try split) <;> omega
theorem can_num {v r : Nat} (h : fcan v = r) (hr : fnum r = true) : v = r := by
  cases hv : fnum v with
  | true => rw [fcan_num hv] at h; exact h
  | false =>
    rw [fcan_nan hv] at h
    rw [← h, fnan_not] at hr
    cases hr
theorem fofint_num (n : Int) : fnum (fofint n) = true := nearest_num _ _ _
theorem quant_end {q n z k v : Nat} (h : Above q n z) (hv : fcan v = fop .mul q (fofint n)) (hk : z ≤ k) (hk2 : k ≤ 1000001) : fge (fofint k) v = true := by
  have e := can_num hv h.2.1
  rw [e, fge_flt (fofint_num _) h.2.1, h.2.2.2 k hk2, decide_eq_false (by omega)]
  rfl
/-! a number that stays -/
theorem nan_eq {v c : Nat} (h : fnum v = false) : Op.floatEq .f64 v c = false := by
  cases he : Op.floatEq .f64 v c with
  | false => rfl
  | true =>
    have he : (fcmp v c == some .eq) = true := he
    have he : fcmp v c = some .eq := eq_of_beq he
    rw [(fcmp_num he).1] at h
    cases h
theorem fin_of {x v : Nat} (hx : x < 2 ^ 64) (hv : fcan v = fop .sub x x) (he : Op.floatEq .f64 v 0 = true) : ∃ (s : Bool) (r : Nat), x = Ieee.double.word s r ∧ r < Ieee.double.infRung := by
  obtain ⟨s, r, rfl, hr⟩ := split_word hx
  refine ⟨s, r, rfl, ?_⟩
  rcases Nat.lt_or_ge r Ieee.double.infRung with h1 | h1
  · exact h1
  · exfalso
    have hnone : floatBits .sub .f64 (Ieee.double.word s r) (Ieee.double.word s r) = none := by
      show Ieee.double.sub _ _ = none
      unfold Ieee.Format.sub
      rcases Nat.lt_or_ge Ieee.double.infRung r with h2 | h2
      · have h3 := read_nan (b := Ieee.double.word s r) (by rw [word_mod _ _ hr]; exact h2)
        cases hd : Ieee.double.read (Ieee.double.word s r) with
        | nan a b => rfl
        | infinity a => rw [hd] at h3; cases h3
        | number a b c => rw [hd] at h3; cases h3
      · obtain rfl : r = Ieee.double.infRung := by omega
        rw [read_inf]
        cases s <;> rfl
    unfold fop at hv
    rw [hnone] at hv
    have hn : fnum v = false := by
      cases hv2 : fnum v with
      | false => rfl
      | true =>
        rw [fcan_num hv2] at hv
        rw [hv] at hv2
        exact absurd hv2 (by show ¬ fnum fnan = true; rw [fnan_not]; decide)
    rw [nan_eq hn] at he
    cases he
theorem signed_opp (s : Bool) (m k : Nat) : Ieee.signed s m k + Ieee.signed (!s) m k = 0 := by
  unfold Ieee.signed
  cases s <;> simp <;> omega
theorem sub_self (s : Bool) {r : Nat} (hr : r < Ieee.double.infRung) : fop .sub (Ieee.double.word s r) (Ieee.double.word s r) = 0 := by
  obtain ⟨m, p, e, hp, hm⟩ := read_fin s hr
  unfold fop floatBits
  show (Ieee.double.sub _ _).getD fnan = 0
  unfold Ieee.Format.sub
  rw [e]
  show Ieee.double.write (.number (if _ = 0 then _ else _) _ _) = 0
  rw [signed_opp, if_pos rfl]
  cases s <;> rfl
theorem mul_zero {c : Nat} (h0 : 0 < c) (h1 : c ≤ fone) : fop .mul c 0 = 0 := by
  have hf : fone < Ieee.double.infRung := by decide
  obtain ⟨m, p, e, hp, hm⟩ := read_fin false (r := c) (by omega)
  have wr : Ieee.double.word false c = c := rfl
  rw [wr] at e
  unfold fop floatBits
  show (Ieee.double.mul c 0).getD fnan = 0
  unfold Ieee.Format.mul
  rw [e, read_zero]
  show Ieee.double.nearest (false ^^ false) (m * 0) (p + -1074) = 0
  rw [Nat.mul_zero]
  rfl
/-- a finite number and nought -/
def stay (s : Bool) (r : Nat) : Nat := if r = 0 then 0 else Ieee.double.word s r
theorem sum_one (s t : Bool) {m r : Nat} {p : Int} (hr : r < Ieee.double.infRung) (hp : -1074 ≤ p) (hm : m * 2 ^ (p + 1074).toNat = uval r) (tot : Int) (ht : tot = Ieee.signed s m (p + 1074).toNat) (h0 : (s && t) = false ∨ r ≠ 0) :
    Ieee.double.write (.number (if tot = 0 then s && t else decide (tot < 0)) tot.natAbs (-1074)) = stay s r := by
  have hs : tot = if s = true then -((uval r : Nat) : Int) else ((uval r : Nat) : Int) := by
    rw [ht]
    unfold Ieee.signed
    rw [Nat.shiftLeft_eq, hm]
  unfold stay
  by_cases hz : r = 0
  · subst hz
    have hu : uval 0 = 0 := rfl
    have ht0 : tot = 0 := by rw [hs, hu]; split <;> rfl
    rw [ht0, if_pos rfl, if_pos rfl]
    rcases h0 with h0 | h0
    · rw [h0]; rfl
    · exact absurd rfl h0
  · have hu : 0 < uval r := uval_lt (r := 0) (by omega)
    have hne : tot ≠ 0 := by rw [hs]; split <;> omega
    have hneg : decide (tot < 0) = s := by
      rw [hs]
      cases s
      · simp
      · simp; omega
    have habs : tot.natAbs = uval r := by rw [hs]; split <;> omega
    rw [if_neg hne, if_neg hz, hneg, habs]
    show Ieee.double.nearest s (uval r) (-1074) = _
    exact nearest_fin s hr (by omega) (by rw [show ((-1074 : Int) + 1074).toNat = 0 from rfl, Nat.pow_zero, Nat.mul_one])
theorem add_zero {s : Bool} {r : Nat} (hr : r < Ieee.double.infRung) : fop .add (Ieee.double.word s r) 0 = stay s r := by
  obtain ⟨m, p, e, hp, hm⟩ := read_fin s hr
  unfold fop floatBits
  show (Ieee.double.add _ _).getD fnan = _
  unfold Ieee.Format.add
  rw [e, read_zero]
  show Ieee.double.write (.number (if Ieee.signed s m (p - min p (-1074)).toNat + Ieee.signed false 0 (-1074 - min p (-1074)).toNat = 0 then s && false else decide (Ieee.signed s m (p - min p (-1074)).toNat + Ieee.signed false 0 (-1074 - min p (-1074)).toNat < 0)) (Ieee.signed s m (p - min p (-1074)).toNat + Ieee.signed false 0 (-1074 - min p (-1074)).toNat).natAbs (min p (-1074))) = _
  have hmin : min p (-1074) = -1074 := by omega
  rw [hmin]
  exact sum_one s false hr hp hm _ (by rw [signed_zero, Int.add_zero, show p - -1074 = p + 1074 from by omega]) (.inl (Bool.and_false _))
theorem zero_add {s : Bool} {r : Nat} (hr : r < Ieee.double.infRung) : fop .add 0 (Ieee.double.word s r) = stay s r := by
  obtain ⟨m, p, e, hp, hm⟩ := read_fin s hr
  unfold fop floatBits
  show (Ieee.double.add _ _).getD fnan = _
  unfold Ieee.Format.add
  rw [e, read_zero]
  show Ieee.double.write (.number (if Ieee.signed false 0 (-1074 - min (-1074) p).toNat + Ieee.signed s m (p - min (-1074) p).toNat = 0 then false && s else decide (Ieee.signed false 0 (-1074 - min (-1074) p).toNat + Ieee.signed s m (p - min (-1074) p).toNat < 0)) (Ieee.signed false 0 (-1074 - min (-1074) p).toNat + Ieee.signed s m (p - min (-1074) p).toNat).natAbs (min (-1074) p)) = _
  have hmin : min (-1074) p = -1074 := by omega
  rw [hmin, show (false && s) = (s && false) from by cases s <;> rfl]
  exact sum_one s false hr hp hm _ (by rw [signed_zero, Int.zero_add, show p - -1074 = p + 1074 from by omega]) (.inl (Bool.and_false _))
theorem sub_zero {s : Bool} {r : Nat} (hr : r < Ieee.double.infRung) : fop .sub (Ieee.double.word s r) 0 = Ieee.double.word s r := by
  obtain ⟨m, p, e, hp, hm⟩ := read_fin s hr
  unfold fop floatBits
  show (Ieee.double.sub _ _).getD fnan = _
  unfold Ieee.Format.sub
  rw [e, read_zero]
  show Ieee.double.write (.number (if Ieee.signed s m (p - min p (-1074)).toNat + Ieee.signed true 0 (-1074 - min p (-1074)).toNat = 0 then s && true else decide (Ieee.signed s m (p - min p (-1074)).toNat + Ieee.signed true 0 (-1074 - min p (-1074)).toNat < 0)) (Ieee.signed s m (p - min p (-1074)).toNat + Ieee.signed true 0 (-1074 - min p (-1074)).toNat).natAbs (min p (-1074))) = _
  have hmin : min p (-1074) = -1074 := by omega
  rw [hmin]
  by_cases hz : r = 0
  · subst hz
    have hu : uval 0 = 0 := rfl
    rw [hu] at hm
    have hm0 : m = 0 := by
      rcases Nat.mul_eq_zero.1 hm with h | h
      · exact h
      · have := Nat.two_pow_pos (p + 1074).toNat; omega
    subst hm0
    rw [signed_zero, signed_zero]
    show Ieee.double.nearest (s && true) 0 (-1074) = _
    rw [Bool.and_true]
    rfl
  · have := sum_one s true hr hp hm (Ieee.signed s m (p - -1074).toNat + Ieee.signed true 0 (-1074 - -1074).toNat) (by rw [signed_zero, Int.add_zero, show p - -1074 = p + 1074 from by omega]) (.inr hz)
    rw [this]
    unfold stay
    rw [if_neg hz]
theorem fone_read : Ieee.double.read fone = .number false 4503599627370496 (-52) := by decide +kernel
theorem one_mul {s : Bool} {r : Nat} (hr : r < Ieee.double.infRung) : fop .mul fone (Ieee.double.word s r) = Ieee.double.word s r := by
  obtain ⟨m, p, e, hp, hm⟩ := read_fin s hr
  unfold fop floatBits
  show (Ieee.double.mul _ _).getD fnan = _
  unfold Ieee.Format.mul
  rw [e, fone_read]
  show Ieee.double.nearest (false ^^ s) (4503599627370496 * m) (-52 + p) = _
  rw [nearest_rung _ _ _ (-1126) (by omega) (by omega), show (-52 + p - -1126).toNat = (p + 1074).toNat from by omega, show (-1074 - (-1126 : Int)).toNat = 52 from rfl, Nat.mul_assoc, hm, Nat.mul_comm, show (4503599627370496 : Nat) = 2 ^ 52 from rfl, rungT_uval, Nat.min_eq_left (by omega)]
  cases s <;> rfl
theorem stay_eq {s : Bool} {r : Nat} (hr : r < Ieee.double.infRung) : Op.floatEq .f64 (stay s r) (Ieee.double.word s r) = true := by
  unfold stay
  by_cases hz : r = 0
  · subst hz
    cases s <;> decide +kernel
  · rw [if_neg hz]
    show fnum (Ieee.double.word s r) = true
    have hi := Ieee.double.infRung_lt
    rw [fnum_read, read_num (by rw [word_mod _ _ (by omega)]; omega)]
    rfl
theorem eq_zero {s : Bool} {r : Nat} (hr : r < Ieee.double.infRung) (h : Op.floatEq .f64 (Ieee.double.word s r) 0 = true) : r = 0 := by
  obtain ⟨m, p, e, hp, hm⟩ := read_fin s hr
  have h : (fcmp (Ieee.double.word s r) 0 == some .eq) = true := h
  have h : fcmp (Ieee.double.word s r) 0 = some .eq := eq_of_beq h
  unfold fcmp Ieee.Format.order at h
  rw [e, read_zero] at h
  simp only [Ieee.Datum.order] at h
  have h6 := Int.compare_eq_eq.1 (Option.some.inj h)
  rw [signed_zero] at h6
  unfold Ieee.signed at h6
  rw [Nat.shiftLeft_eq] at h6
  have hm0 : m * 2 ^ (p - min p (-1074)).toNat = 0 := by split at h6 <;> omega
  rcases Nat.mul_eq_zero.1 hm0 with h7 | h7
  · rw [h7, Nat.zero_mul] at hm
    exact uval_zero hm.symm
  · have := Nat.two_pow_pos (p - min p (-1074)).toNat; omega
theorem part_pos {c : Nat} (hc : c < 2 ^ 64) (h0 : fgt c 0 = true) (h1 : fle c fone = true) : 0 < c ∧ c ≤ fone := by
  have h2 : fge c 0 = true := by unfold fgt at h0; unfold fge; rw [h0]; rfl
  rcases nonneg_cases hc h2 with h3 | h3
  · rw [fle_le h3 fone_le] at h1
    unfold fgt at h0
    rw [fcmp_pos h3 (Nat.zero_le _)] at h0
    have h0 : compare c 0 = .gt := by simpa using h0
    have := Nat.compare_eq_gt.1 h0
    have h1 : c ≤ fone := by simpa using h1
    exact ⟨this, h1⟩
  · subst h3
    exact absurd h0 (by decide +kernel)
theorem smooth_self {c r : Nat} {t : Bool} (hc : c < 2 ^ 64) (h0 : fgt c 0 = true) (h1 : fle c fone = true) (hr : r < Ieee.double.infRung) : smoothF c (Ieee.double.word t r) (Ieee.double.word t r) = (stay t r, 0) := by
  have hp := part_pos hc h0 h1
  have hn : fnum (Ieee.double.word t r) = true := by
    have hi := Ieee.double.infRung_lt
    rw [fnum_read, read_num (by rw [word_mod _ _ (by omega)]; omega)]; rfl
  unfold smoothF partF
  rw [h0, h1, if_neg (by decide), if_neg (by rw [hn]; decide), sub_self t hr, mul_zero hp.1 hp.2, add_zero hr]
theorem smooth_one {r : Nat} {t : Bool} (hr : r < Ieee.double.infRung) : smoothF fone 0 (Ieee.double.word t r) = (stay t r, 0) := by
  unfold smoothF
  rw [show partF fone = true from by decide +kernel, if_neg (by decide), show fnum 0 = true from by decide +kernel, if_neg (by decide), sub_zero hr, one_mul hr, zero_add hr]
/-! waits -/
theorem dbl_fin {x : Nat} (hx : x < Ieee.double.infRung) : fop .mul ftwo x = min (rungT (uval x * 2 * 2 ^ 51) 51) Ieee.double.infRung := by
  obtain ⟨m, p, e, hp, hm⟩ := read_fin false hx
  have wr : ∀ x, Ieee.double.word false x = x := fun x => rfl
  rw [wr] at e
  unfold fop floatBits
  show (Ieee.double.mul _ _).getD fnan = _
  unfold Ieee.Format.mul
  rw [e, ftwo_read]
  have h9 : 4503599627370496 * m * 2 ^ (p + 1074).toNat = uval x * 2 * 2 ^ 51 := by rw [Nat.mul_assoc, hm]; omega
  show Ieee.double.nearest (false ^^ false) (4503599627370496 * m) (-51 + p) = _
  rw [nearest_rung _ _ _ (-1125) (by omega) (by omega), show (-51 + p - -1125).toNat = (p + 1074).toNat from by omega, show (-1074 - (-1125 : Int)).toNat = 51 from rfl, h9]
  exact wr _
theorem dbl_ge {x : Nat} (hx : x ≤ Ieee.double.infRung) : x ≤ fop .mul ftwo x ∧ fop .mul ftwo x ≤ Ieee.double.infRung := by
  rcases Nat.lt_or_ge x Ieee.double.infRung with h | h
  · rw [dbl_fin h]
    have h1 : rungT (uval x * 2 ^ 51) 51 ≤ rungT (uval x * 2 * 2 ^ 51) 51 := rungT_mono (Nat.mul_le_mul_right _ (by omega))
    rw [rungT_uval] at h1
    omega
  · obtain rfl : x = Ieee.double.infRung := by omega
    have : fop .mul ftwo Ieee.double.infRung = Ieee.double.infRung := by decide +kernel
    rw [this]
    omega
theorem wgo_succ (most : Nat) : ∀ (n x : Nat), wgo most (n + 1) x = if flt (wgo most n x) most = true then fop .mul ftwo (wgo most n x) else wgo most n x
  | 0, x => by
    conv => lhs; unfold wgo
    rfl
  | n + 1, x => by
    by_cases h : flt x most = true
    · rw [wgo_step h, wgo_step h, wgo_succ most n]
    · have h : flt x most = false := by simpa using h
      rw [wgo_stop h, wgo_stop h, if_neg (by simp [h])]
theorem wgo_ge {most x : Nat} (hx : x ≤ Ieee.double.infRung) : ∀ n, x ≤ wgo most n x ∧ wgo most n x ≤ Ieee.double.infRung
  | 0 => ⟨Nat.le_refl _, hx⟩
  | n + 1 => by
    obtain ⟨h1, h2⟩ := wgo_ge (most := most) hx n
    rw [wgo_succ]
    split
    · have := dbl_ge h2
      omega
    · exact ⟨h1, h2⟩
theorem pos_gt {c : Nat} (hc : c < 2 ^ 64) (h0 : fgt c 0 = true) : c ≤ Ieee.double.infRung := by
  have h2 : fge c 0 = true := by unfold fgt at h0; unfold fge; rw [h0]; rfl
  rcases nonneg_cases hc h2 with h3 | h3
  · exact h3
  · subst h3
    exact absurd h0 (by decide +kernel)
theorem fge_fle {b c : Nat} (h : fge b c = true) : fle c b = true := by
  unfold fge at h
  unfold fle
  have key : ∀ d e : Ieee.Datum, (d.order e == some .gt || d.order e == some .eq) = true → (e.order d == some .lt || e.order d == some .eq) = true := by
    intro d e
    cases d with
    | nan s t => intro h; cases e <;> simp [Ieee.Datum.order] at h
    | infinity s =>
      cases e with
      | nan s t => intro h; simp [Ieee.Datum.order] at h
      | infinity t => cases s <;> cases t <;> decide
      | number t m i => cases s <;> simp [Ieee.Datum.order]
    | number s m i =>
      cases e with
      | nan s t => intro h; simp [Ieee.Datum.order] at h
      | infinity t => cases t <;> simp [Ieee.Datum.order]
      | number t n j =>
        simp only [Ieee.Datum.order]
        rw [Int.min_comm j i]
        generalize Ieee.signed s m (i - min i j).toNat = a
        generalize Ieee.signed t n (j - min i j).toNat = b
        intro h
        rcases Int.lt_trichotomy a b with h1 | h1 | h1
        · rw [Int.compare_eq_lt.2 h1] at h; simp at h
        · subst h1; simp
        · rw [Int.compare_eq_lt.2 h1]; rfl
  exact key _ _ h
theorem wait_stays {tries : Int} {low most : Nat} (hl : low < 2 ^ 64) (hm : most < 2 ^ 64) (h : (waitF tries low most).2 = 0) :
    ∃ W V, (waitF tries low most).1 = W ∧ waitF (tries + 1) low most = (V, 0) ∧ low ≤ Ieee.double.infRung ∧ most ≤ Ieee.double.infRung ∧ low ≤ W ∧ W ≤ most ∧ W ≤ V ∧ V ≤ most ∧ (V = most ∨ V = fop .mul ftwo W) := by
  by_cases hc : fgt low 0 = true ∧ fge most low = true ∧ 0 ≤ tries
  · have hli := pos_gt hl hc.1
    have h2 : fge low 0 = true := by have := hc.1; unfold fgt at this; unfold fge; rw [this]; rfl
    have hm0 : fge most 0 = true := fle_nonneg hl hm h2 (fge_fle hc.2.1)
    have hlm := fge_fle hc.2.1
    have hmi : most ≤ Ieee.double.infRung := by
      rcases nonneg_cases hm hm0 with h3 | h3
      · exact h3
      · rw [h3] at hlm
        have := fle_nzero hli hlm
        subst this
        exact absurd hc.1 (by decide +kernel)
    rw [fle_le hli hmi] at hlm
    have hlm : low ≤ most := by simpa using hlm
    obtain ⟨hz1, hz2⟩ := wgo_ge (most := most) hli tries.toNat
    have hs := wgo_succ most tries.toNat low
    have et : (tries + 1).toNat = tries.toNat + 1 := by omega
    have e1 : waitF tries low most = (if flt (wgo most tries.toNat low) most = true then wgo most tries.toNat low else most, 0) := by unfold waitF; rw [if_pos hc]
    have e2 : waitF (tries + 1) low most = (if flt (wgo most (tries.toNat + 1) low) most = true then wgo most (tries.toNat + 1) low else most, 0) := by unfold waitF; rw [if_pos ⟨hc.1, hc.2.1, by omega⟩, et]
    rw [e1, e2, hs]
    generalize wgo most tries.toNat low = Z at *
    rw [flt_lt hz2 hmi]
    by_cases hZ : Z < most
    · obtain ⟨hd1, hd2⟩ := dbl_ge hz2
      rw [decide_eq_true hZ, if_pos rfl, if_pos rfl, flt_lt hd2 hmi]
      by_cases hD : fop .mul ftwo Z < most
      · rw [decide_eq_true hD, if_pos rfl]
        exact ⟨Z, _, rfl, rfl, hli, hmi, hz1, by omega, hd1, by omega, .inr rfl⟩
      · rw [decide_eq_false hD, if_neg (by decide)]
        exact ⟨Z, most, rfl, rfl, hli, hmi, hz1, by omega, by omega, Nat.le_refl _, .inl rfl⟩
    · rw [decide_eq_false hZ]
      simp only [Bool.false_eq_true, if_false]
      rw [flt_lt hz2 hmi, decide_eq_false hZ]
      simp only [Bool.false_eq_true, if_false]
      exact ⟨most, most, rfl, rfl, hli, hmi, hlm, Nat.le_refl _, Nat.le_refl _, Nat.le_refl _, .inl rfl⟩
  · unfold waitF at h
    rw [if_neg hc] at h
    cases h
theorem wait_bad {tries : Int} {low most : Nat} (h : ¬ (waitF tries low most).2 = 0) : (waitF tries low most).1 = 0 := by
  unfold waitF at h ⊢
  split at h
  · exact absurd rfl h
  · rename_i h1; rw [if_neg h1]
theorem le_num {r : Nat} (h : r ≤ Ieee.double.infRung) : fnum r = true := by
  have hs := Ieee.double.infRung_lt
  rw [fnum_read, read_num (by rw [Nat.mod_eq_of_lt (by omega)]; omega)]
  rfl
theorem feq_self {v : Nat} (h : fnum v = true) : Op.floatEq .f64 v v = true := h
theorem fgt_lt {b c : Nat} (hb : b ≤ Ieee.double.infRung) (hc : c ≤ Ieee.double.infRung) : fgt b c = decide (c < b) := by
  unfold fgt
  rw [fcmp_pos hb hc]
  rcases Nat.lt_trichotomy b c with h | h | h
  · rw [Nat.compare_eq_lt.2 h, decide_eq_false (by omega)]; rfl
  · subst h; simp
  · rw [Nat.compare_eq_gt.2 h, decide_eq_true h]; rfl

end Go.Proofs.Ytmhfmbgjnebcfaa
