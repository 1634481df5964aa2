/- Covers, splits of ranges, plainly. -/
import Derived.Test.YtakohabmcgponaaN4
import Derived.Test.YtakohabmcgponaaW9
set_option linter.unusedSimpArgs false
set_option linter.unusedVariables false
namespace Go.Proofs.Ytakohabmcgponaa
open Sx

theorem point_of {x : Nat} (h : x ≤ fone) : pointF x = true := by
  have hf := fone_le
  unfold pointF
  rw [fle_le (by omega) hf, decide_eq_true h, Bool.and_true, decide_eq_true_eq]
  have e2 : Ieee.double.signWeight = 2 ^ 63 := rfl
  have e3 : Ieee.double.infRung = 9218868437227405312 := rfl
  have hn : fnum x = true := by
    rw [fnum_read, read_num (by rw [e2]; omega)]
    rfl
  rw [fcan_num hn]
  have e4 : fone = 4607182418800017408 := rfl
  have hne : ¬ fexp x = 2047 := by
    unfold fexp
    omega
  unfold classF
  rw [uand_top (by omega), if_pos (show x < 2 ^ 63 by omega), if_neg (fun h9 => hne h9.1), if_pos rfl, if_neg hne]
  split
  · decide
  · split <;> decide
theorem gt_id {L : List Rg} {i : Int} {q : Rg} (h : gt L i = some q) : q.id = i := by
  have := List.find?_some h
  simpa [Rg.key, Lit.sameKey] using this
theorem fge_ge {b c : Nat} (hb : b ≤ Ieee.double.infRung) (hc : c ≤ Ieee.double.infRung) : fge b c = decide (c ≤ b) := by
  unfold fge
  rw [fcmp_pos hb hc]
  rcases Nat.lt_trichotomy b c with h | h | h
  · rw [Nat.compare_eq_lt.2 h, decide_eq_false (by omega)]; rfl
  · subst h; simp
  · rw [Nat.compare_eq_gt.2 h, decide_eq_true (by omega)]; rfl
theorem fgt_gt {b c : Nat} (hb : b ≤ Ieee.double.infRung) (hc : c ≤ Ieee.double.infRung) : fgt b c = decide (c < b) := by
  unfold fgt
  rw [fcmp_pos hb hc]
  rcases Nat.lt_trichotomy b c with h | h | h
  · rw [Nat.compare_eq_lt.2 h, decide_eq_false (by omega)]; rfl
  · subst h; simp
  · rw [Nat.compare_eq_gt.2 h, decide_eq_true (by omega)]; rfl
theorem nearest_le (m : Nat) (p : Int) : Ieee.double.nearest false m p ≤ Ieee.double.infRung := by
  unfold Ieee.Format.nearest Ieee.Format.word
  dsimp only
  split
  · simp
  · simp only [Bool.false_eq_true, if_false]
    exact Nat.min_le_right _ _
theorem read_pos {b : Nat} (h : b ≤ Ieee.double.infRung) : (∃ m p, Ieee.double.read b = .number false m p) ∨ Ieee.double.read b = .infinity false := by
  rcases Nat.lt_or_ge b Ieee.double.infRung with h1 | h1
  · obtain ⟨m, p, e, -⟩ := read_fin false h1
    exact .inl ⟨m, p, e⟩
  · have : b = Ieee.double.infRung := by omega
    subst this
    exact .inr (read_inf false)
theorem ofF_le (l : List UInt8) : ofF l ≤ Ieee.double.infRung := by
  unfold ofF
  generalize hashF l / 2 ^ 11 = z
  have hr : fofint (z : Int) ≤ Ieee.double.infRung := by
    show Ieee.double.nearest (decide ((z : Int) < 0)) (z : Int).natAbs 0 ≤ _
    rw [decide_eq_false (by omega)]
    exact nearest_le _ _
  generalize fofint (z : Int) = r at hr
  have e0 : Ieee.double.read 4845873199050653696 = .number false 4503599627370496 1 := by decide +kernel
  unfold fop
  show ((((Ieee.double.read r).quotient (Ieee.double.fractionBits + 2) (Ieee.double.read 4845873199050653696)).map Ieee.double.write)).getD fnan ≤ _
  rw [e0]
  rcases read_pos hr with ⟨m, p, e⟩ | e
  · rw [e]
    simp only [Ieee.Datum.quotient, Bool.xor_self]
    rw [if_neg (by decide)]
    exact nearest_le _ _
  · rw [e]
    simp only [Ieee.Datum.quotient, Bool.xor_self]
    exact Nat.le_refl _
def isF (b : Nat) : Bool := decide (b = 0) || (fgt b 0 && fle b fone)
theorem neg_zero {r : Nat} (hr : r < Ieee.double.signWeight) : fgt (Ieee.double.word true r) 0 = false := by
  have e0 : Ieee.double.read 0 = .number false 0 (-1074) := by decide +kernel
  have hz : ∀ m k : Nat, Ieee.signed true m k ≤ 0 := fun m k => by unfold Ieee.signed; rw [if_pos rfl]; have : (0 : Int) ≤ ((m <<< k : Nat) : Int) := Int.natCast_nonneg _; omega
  have hy : ∀ k : Nat, Ieee.signed false 0 k = 0 := fun k => by unfold Ieee.signed; simp
  unfold fgt fcmp Ieee.Format.order
  rw [e0]
  rcases Nat.lt_trichotomy r Ieee.double.infRung with h | h | h
  · obtain ⟨m, p, e, -⟩ := read_fin true h
    rw [e]
    simp only [Ieee.Datum.order]
    rw [hy]
    have hc : ∀ z : Int, z ≤ 0 → (some (compare z 0) == some Ordering.gt) = false := fun z hz => by
      rcases Int.lt_or_eq_of_le hz with h9 | h9
      · rw [show compare z 0 = .lt from Int.compare_eq_lt.2 h9]; rfl
      · subst h9; rfl
    exact hc _ (hz _ _)
  · subst h
    rw [read_inf]
    rfl
  · have hn : (Ieee.double.read (Ieee.double.word true r)).isNaN = true := read_nan (by rw [word_mod _ _ hr]; exact h)
    cases hd : Ieee.double.read (Ieee.double.word true r) with
    | nan s t => rfl
    | infinity s => rw [hd] at hn; cases hn
    | number s m i => rw [hd] at hn; cases hn
theorem pointF_le {b : Nat} (hb : b < 2 ^ 64) : pointF b = decide (b ≤ fone) := by
  by_cases h : b ≤ fone
  · rw [decide_eq_true h, point_of h]
  · rw [decide_eq_false h]
    cases hp : pointF b with
    | false => rfl
    | true => exact absurd (point_le hb hp) h
theorem isF_le {b : Nat} (hb : b < 2 ^ 64) : isF b = decide (b ≤ fone) := by
  have hf := fone_le
  have e1 : fone = 4607182418800017408 := rfl
  have e2 : Ieee.double.signWeight = 2 ^ 63 := rfl
  have e3 : Ieee.double.infRung = 9218868437227405312 := rfl
  unfold isF
  obtain ⟨s, r, rfl, hr⟩ := split_word hb
  cases s with
  | true =>
    rw [neg_zero hr, Bool.false_and, Bool.or_false]
    have : Ieee.double.word true r = Ieee.double.signWeight + r := rfl
    rw [this, decide_eq_false (by omega), decide_eq_false (by omega)]
  | false =>
    have : Ieee.double.word false r = r := rfl
    rw [this] at hb ⊢
    rcases Nat.lt_or_ge Ieee.double.infRung r with h | h
    · have hn : fnum r = false := by
        rw [fnum_read, read_nan (by rw [Nat.mod_eq_of_lt hr]; exact h)]; rfl
      have hl : fle r fone = false := by
        unfold fle
        cases hc : fcmp r fone with
        | none => rfl
        | some o => have := (fcmp_num hc).1; rw [hn] at this; cases this
      rw [hl, Bool.and_false, Bool.or_false, decide_eq_false (by omega), decide_eq_false (by omega)]
    · rw [fgt_gt h (Nat.zero_le _), fle_le h hf]
      rw [Bool.eq_iff_iff]
      simp only [Bool.or_eq_true, Bool.and_eq_true, decide_eq_true_eq]
      omega
theorem isF_point {b : Nat} (hb : b < 2 ^ 64) : isF b = pointF b := by rw [isF_le hb, pointF_le hb]
theorem tmod_small (z : Int) {n : Nat} (h : 0 < n) : -(n : Int) < z.tmod n ∧ z.tmod n < n := by
  refine ⟨?_, Int.tmod_lt_of_pos z (by omega)⟩
  have := Int.tmod_lt_of_pos (-z) (b := (n : Int)) (by omega)
  rw [Int.neg_tmod] at this
  omega
/-! covers, as chains -/
def chn : Nat → List Rg → Bool
  | a, [] => decide (a = fone)
  | a, r :: t => decide (r.lo = a) && chn r.hi t
structure Fine (L : List Rg) : Prop where
  may : ∀ r ∈ L, mayR r = true
  wf : ∀ r ∈ L, r.wf
theorem Fine.nat {L : List Rg} (h : Fine L) {r : Rg} (hr : r ∈ L) : r.lo ≤ fone ∧ r.hi ≤ fone ∧ r.lo < r.hi := may_nat (h.wf r hr) (h.may r hr)
theorem chn_ge : ∀ {c : List Rg} {a : Nat}, Fine c → chn a c = true → ∀ r ∈ c, a ≤ r.lo
  | [], _, _, _, r, hr => by simp at hr
  | x :: t, a, hf, h, r, hr => by
    unfold chn at h
    simp only [Bool.and_eq_true, decide_eq_true_eq] at h
    obtain ⟨h1, h2⟩ := h
    have hx := hf.nat (List.mem_cons_self (a := x) (l := t))
    rcases List.mem_cons.1 hr with rfl | hr
    · omega
    · have := chn_ge ⟨fun r hr => hf.may r (List.mem_cons_of_mem _ hr), fun r hr => hf.wf r (List.mem_cons_of_mem _ hr)⟩ h2 r hr
      omega
theorem scan_two (a : Nat) : ∀ (L : List Rg) (s : Nat × Nat), (L.foldl (nxtF a) s).2 = s.2 + (L.filter fun r => Op.floatEq .f64 r.lo a).length
  | [], s => rfl
  | r :: L, s => by
    rw [List.foldl_cons, scan_two a L]
    unfold nxtF
    cases he : Op.floatEq .f64 r.lo a
    · rw [if_neg (by decide), List.filter_cons_of_neg (by rw [he]; decide)]
    · rw [if_pos rfl, List.filter_cons_of_pos (by exact he), List.length_cons]
      dsimp only
      omega
theorem filter_nil_of {α : Type} {p : α → Bool} {l : List α} (h : ∀ x ∈ l, p x = false) : l.filter p = [] := by
  rw [List.filter_eq_nil_iff]
  intro x hx
  rw [h x hx]
  decide
theorem run_chn {L : List Rg} (hf : Fine L) : ∀ (c pre : List Rg) (a f : Nat), (pre ++ c).Perm L → (∀ r ∈ pre, r.hi ≤ a) → chn a c = true → a ≤ fone → c.length < f → runF L f a pre.length = 0
  | [], pre, a, f, hp, _, hc, _, hl => by
    have ha : a = fone := by simpa [chn] using hc
    have hlen := hp.length_eq
    rw [List.append_nil] at hlen
    subst ha
    rw [run_end (by decide) (by omega), if_pos hlen]
  | r :: t, pre, a, f, hp, hpre, hc, ha, hl => by
    have fc : ∀ x ∈ pre ++ r :: t, x ∈ L := fun x hx => hp.mem_iff.1 hx
    have hr := hf.nat (fc r (List.mem_append_right _ List.mem_cons_self))
    unfold chn at hc
    simp only [Bool.and_eq_true, decide_eq_true_eq] at hc
    obtain ⟨h1, h2⟩ := hc
    have hone := fone_le
    have ht := chn_ge ⟨fun x hx => hf.may x (fc x (List.mem_append_right _ (List.mem_cons_of_mem _ hx))), fun x hx => hf.wf x (fc x (List.mem_append_right _ (List.mem_cons_of_mem _ hx)))⟩ h2
    have hlt : flt a fone = true := by rw [flt_lt (by omega) (by omega)]; exact decide_eq_true (by omega)
    have heq : ∀ x ∈ L, Op.floatEq .f64 x.lo a = decide (x.lo = a) := fun x hx => feq_nat (hf.nat hx).1 ha
    have hone1 : ∀ x ∈ L, x.lo = a → x = r := fun x hx hxa => by
      have hx2 := hp.mem_iff.2 hx
      rcases List.mem_append.1 hx2 with h3 | h3
      · have := hpre x h3; have := hf.nat hx; omega
      · rcases List.mem_cons.1 h3 with h3 | h3
        · exact h3
        · have := ht x h3; omega
    have hcount : (scanF a L).2 = 1 := by
      unfold scanF
      rw [scan_two, ← (hp.filter _).length_eq, List.filter_append, filter_nil_of (l := pre), List.filter_cons_of_pos, filter_nil_of (l := t)]
      · rfl
      · intro x hx
        rw [heq x (fc x (List.mem_append_right _ (List.mem_cons_of_mem _ hx)))]
        have := ht x hx
        exact decide_eq_false (by omega)
      · rw [heq r (fc r (List.mem_append_right _ List.mem_cons_self))]
        exact decide_eq_true h1
      · intro x hx
        rw [heq x (fc x (List.mem_append_left _ hx))]
        have := hpre x hx
        have := hf.nat (fc x (List.mem_append_left _ hx))
        exact decide_eq_false (by omega)
    have hnext : (scanF a L).1 = r.hi := by
      rcases (scan_fold a L (0, 0)).2 with h | ⟨q, hq, he, hh⟩
      · unfold scanF at hcount; rw [h] at hcount; simp at hcount
      · rw [heq q hq] at he
        have := hone1 q hq (by simpa using he)
        subst this
        exact hh
    rw [run_eq hlt hcount (by omega), hnext]
    have e : (pre ++ [r]).length = pre.length + 1 := by simp
    rw [← e]
    refine run_chn hf t (pre ++ [r]) r.hi (f - 1) (by simpa using hp) (fun x hx => ?_) h2 hr.2.1 (by simp only [List.length_cons] at hl; omega)
    rcases List.mem_append.1 hx with hx | hx
    · have := hpre x hx; omega
    · simp at hx; subst hx; exact Nat.le_refl _
/-- a cover -/
structure Cov (L : List Rg) : Prop where
  fine : Fine L
  id : ∀ (i : Nat) (r : Rg), L[i]? = some r → r.id = ((i + 1 : Nat) : Int)
  one : 1 ≤ L.length
  few : L.length ≤ 12
  chain : ∃ c : List Rg, c.Perm L ∧ chn 0 c = true
theorem bad_none {L : List Rg} (hm : ∀ r ∈ L, mayR r = true) (hi : ∀ (i : Nat) (r : Rg), L[i]? = some r → r.id = ((i + 1 : Nat) : Int)) : ∀ n, n ≤ L.length → badA L n = 0
  | 0, _ => rfl
  | n + 1, h => by
    refine badA_ok (bad_none hm hi n (by omega)) (badR_ok (r := L[n]) (List.getElem?_eq_getElem (by omega)) (hm _ (List.getElem_mem _)) fun t o ht ho => ?_)
    have h1 := hi t o ho
    have h2 := hi n _ (List.getElem?_eq_getElem (show n < L.length by omega))
    omega
theorem Cov.check {L : List Rg} (h : Cov L) : checkF L = 0 := by
  obtain ⟨c, hp, hc⟩ := h.chain
  have h1 := h.one
  have h2 := h.few
  have hb := bad_none h.fine.may h.id L.length (Nat.le_refl _)
  unfold checkF
  rw [if_neg (by omega), if_neg (by omega), if_neg (by rw [hb]; decide)]
  exact run_chn h.fine c [] 0 _ hp (by simp) hc (Nat.zero_le _) (by have := hp.length_eq; omega)
theorem cov_even {m : Nat} (h1 : 1 ≤ m) (h2 : m ≤ 12) : Cov (evenF m m) := by
  have hc : ∀ m : Fin 13, 1 ≤ m.val → chn 0 (evenF m.val m.val) = true := by decide +kernel
  have hm : ∀ m : Fin 13, 1 ≤ m.val → ((evenF m.val m.val).all mayR) = true := by decide +kernel
  refine ⟨⟨fun r hr => List.all_eq_true.1 (hm ⟨m, by omega⟩ h1) r hr, even_wf h1 h2⟩, fun i r hi => ?_, by rw [even_len]; exact h1, by rw [even_len]; exact h2, _, List.Perm.refl _, hc ⟨m, by omega⟩ h1⟩
  unfold evenF at hi
  rw [List.getElem?_map] at hi
  have hlt : i < m := by
    rcases Nat.lt_or_ge i m with h | h
    · exact h
    · rw [List.getElem?_eq_none (by simpa using h)] at hi; cases hi
  rw [List.getElem?_range hlt] at hi
  cases hi
  rfl
/-- one place lies in one range -/
theorem chn_one {x : Nat} : ∀ {c : List Rg} {a : Nat}, Fine c → chn a c = true → ∀ r ∈ c, ∀ q ∈ c, r.lo ≤ x → x < r.hi → q.lo ≤ x → x < q.hi → r = q
  | [], _, _, _, r, hr, _, _, _, _, _, _ => by simp at hr
  | y :: t, a, hf, h, r, hr, q, hq, h1, h2, h3, h4 => by
    unfold chn at h
    simp only [Bool.and_eq_true, decide_eq_true_eq] at h
    have ft : Fine t := ⟨fun r hr => hf.may r (List.mem_cons_of_mem _ hr), fun r hr => hf.wf r (List.mem_cons_of_mem _ hr)⟩
    have hge := chn_ge ft h.2
    rcases List.mem_cons.1 hr with e1 | hr
    · rcases List.mem_cons.1 hq with e2 | hq
      · rw [e1, e2]
      · have := hge q hq; rw [e1] at h2; omega
    · rcases List.mem_cons.1 hq with e2 | hq
      · have := hge r hr; rw [e2] at h4; omega
      · exact chn_one ft h.2 r hr q hq h1 h2 h3 h4
theorem Cov.uniq {L : List Rg} (h : Cov L) {x : Nat} {r q : Rg} (hr : r ∈ L) (hq : q ∈ L) (h1 : r.lo ≤ x) (h2 : x < r.hi) (h3 : q.lo ≤ x) (h4 : x < q.hi) : r = q := by
  obtain ⟨c, hp, hc⟩ := h.chain
  exact chn_one ⟨fun r hr => h.fine.may r (hp.mem_iff.1 hr), fun r hr => h.fine.wf r (hp.mem_iff.1 hr)⟩ hc r (hp.mem_iff.2 hr) q (hp.mem_iff.2 hq) h1 h2 h3 h4
/-! a split -/
def halfA (r : Rg) (x : Nat) : Rg := ⟨r.id, r.epoch + 1, r.lo, x⟩
def halfB (r : Rg) (x : Nat) (i : Int) : Rg := ⟨i, 0, x, r.hi⟩
theorem chn_split {x : Nat} {i : Int} {r : Rg} : ∀ {p q : List Rg} {a : Nat}, chn a (p ++ r :: q) = true → chn a (p ++ halfA r x :: halfB r x i :: q) = true
  | [], q, a, h => by
    rw [List.nil_append] at h ⊢
    unfold chn at h
    simp only [Bool.and_eq_true, decide_eq_true_eq] at h
    show (decide (r.lo = a) && (decide (x = x) && chn r.hi q)) = true
    rw [decide_eq_true h.1, decide_eq_true (rfl : x = x), h.2]
    rfl
  | y :: p, q, a, h => by
    rw [List.cons_append] at h ⊢
    unfold chn at h ⊢
    simp only [Bool.and_eq_true, decide_eq_true_eq] at h ⊢
    exact ⟨h.1, chn_split h.2⟩
theorem set_perm {α : Type} {L c1 c2 : List α} {k : Nat} {r a b : α} (hk : L[k]? = some r) (hp : (c1 ++ r :: c2).Perm L) : (c1 ++ a :: b :: c2).Perm (L.set k a ++ [b]) := by
  obtain ⟨hlt, rfl⟩ := List.getElem?_eq_some_iff.1 hk
  have e1 : L = L.take k ++ L[k] :: L.drop (k + 1) := by rw [List.getElem_cons_drop, List.take_append_drop]
  have e2 : L.set k a = L.take k ++ a :: L.drop (k + 1) := List.set_eq_take_append_cons_drop.trans (by rw [if_pos hlt])
  have h1 : (c1 ++ c2).Perm (L.take k ++ L.drop (k + 1)) := by
    have h2 : (L[k] :: (c1 ++ c2)).Perm (L[k] :: (L.take k ++ L.drop (k + 1))) := by
      refine (List.perm_middle.symm.trans hp).trans ?_
      conv => lhs; rw [e1]
      exact List.perm_middle
    exact h2.cons_inv
  rw [e2]
  have h3 : (c1 ++ a :: b :: c2).Perm (a :: b :: (c1 ++ c2)) := by
    refine List.perm_middle.trans (List.Perm.cons a ?_)
    exact List.perm_middle
  refine h3.trans ?_
  have h4 : (L.take k ++ a :: L.drop (k + 1) ++ [b]).Perm (a :: b :: (L.take k ++ L.drop (k + 1))) := by
    refine (List.perm_append_singleton b _).trans ?_
    refine (List.Perm.cons b List.perm_middle).trans ?_
    exact List.Perm.swap _ _ _
  exact ((h1.cons b).cons a).trans h4.symm
theorem halves_fine {r : Rg} {x : Nat} {i : Int} (hw : r.wf) (hm : mayR r = true) (he : r.epoch ≠ 9223372036854775807) (h1 : r.lo < x) (h2 : x < r.hi) (hi : 1 ≤ i) (hi2 : i ≤ 12) :
    (mayR (halfA r x) = true ∧ (halfA r x).wf) ∧ (mayR (halfB r x i) = true ∧ (halfB r x i).wf) := by
  obtain ⟨n1, n2, n3⟩ := may_nat hw hm
  obtain ⟨p1, p2, p3, p4, p5, p6⟩ := may_parts hm
  obtain ⟨w1, w2, w3, w4, w5, w6⟩ := hw
  have hf := fone_le
  have e3 : fone = 4607182418800017408 := rfl
  have hx := point_of (show x ≤ fone by omega)
  have hh := point_of n2
  refine ⟨⟨?_, ?_⟩, ?_, ?_⟩
  · unfold mayR halfA
    dsimp only
    rw [p4, hx, flt_lt (by omega) (by omega)]
    simp only [Bool.and_true, Bool.and_eq_true, decide_eq_true_eq]
    exact ⟨⟨⟨p1, p2⟩, by omega⟩, h1⟩
  · unfold Rg.wf halfA; dsimp only; refine ⟨w1, w2, by omega, by omega, w5, by omega⟩
  · unfold mayR halfB
    dsimp only
    rw [p5, hx, flt_lt (by omega) (by omega)]
    simp only [Bool.and_true, Bool.and_eq_true, decide_eq_true_eq]
    exact ⟨⟨⟨hi, hi2⟩, by omega⟩, h2⟩
  · unfold Rg.wf halfB; dsimp only; refine ⟨by omega, by omega, by omega, by omega, by omega, w6⟩
theorem mem_set {α : Type} {L : List α} {k : Nat} {a x : α} (h : x ∈ L.set k a) : x ∈ L ∨ x = a := List.mem_or_eq_of_mem_set h
theorem Cov.split {L : List Rg} (h : Cov L) {k : Nat} {r : Rg} (hk : L[k]? = some r) {x : Nat} (he : r.epoch ≠ 9223372036854775807) (h1 : r.lo < x) (h2 : x < r.hi) (hl : L.length < 12) : Cov (L.set k (halfA r x) ++ [halfB r x ((L.length + 1 : Nat) : Int)]) := by
  have hr := List.mem_of_getElem? hk
  have hkl := (List.getElem?_eq_some_iff.1 hk).1
  obtain ⟨⟨ma, wa⟩, mb, wb⟩ := halves_fine (i := ((L.length + 1 : Nat) : Int)) (h.fine.wf r hr) (h.fine.may r hr) he h1 h2 (by omega) (by omega)
  refine ⟨⟨fun q hq => ?_, fun q hq => ?_⟩, fun i q hi => ?_, by simp, by simp; omega, ?_⟩
  · rcases List.mem_append.1 hq with hq | hq
    · rcases mem_set hq with hq | rfl
      · exact h.fine.may q hq
      · exact ma
    · simp at hq; subst hq; exact mb
  · rcases List.mem_append.1 hq with hq | hq
    · rcases mem_set hq with hq | rfl
      · exact h.fine.wf q hq
      · exact wa
    · simp at hq; subst hq; exact wb
  · rcases Nat.lt_or_ge i L.length with hi1 | hi1
    · rw [List.getElem?_append_left (by simpa using hi1), List.getElem?_set] at hi
      split at hi
      · rename_i e
        subst e
        first
        | (rw [if_pos hkl] at hi; cases hi; exact h.id k r hk)
        | (cases hi; exact h.id k r hk)
      · exact h.id i q hi
    · rw [List.getElem?_append_right (by simpa using hi1), List.length_set] at hi
      have e0 : i - L.length = 0 := by
        rcases Nat.eq_zero_or_pos (i - L.length) with h9 | h9
        · exact h9
        · rw [List.getElem?_eq_none (by simp; omega)] at hi; cases hi
      rw [e0] at hi
      cases hi
      show ((L.length + 1 : Nat) : Int) = _
      omega
  · obtain ⟨c, hp, hc⟩ := h.chain
    obtain ⟨p, q, rfl⟩ := List.append_of_mem (hp.mem_iff.2 hr)
    exact ⟨_, set_perm hk hp, chn_split hc⟩
/-! what is held by id -/
def IdL (L : List Rg) : Prop := ∀ (i : Nat) (r : Rg), L[i]? = some r → r.id = ((i + 1 : Nat) : Int)
theorem IdL.srt {L : List Rg} (h : IdL L) : Srt L := by
  refine List.pairwise_iff_getElem.2 fun i j hi hj hij => ?_
  have h1 := h i _ (List.getElem?_eq_getElem hi)
  have h2 := h j _ (List.getElem?_eq_getElem hj)
  omega
theorem IdL.look {L : List Rg} (h : IdL L) (i : Nat) : gt L ((i + 1 : Nat) : Int) = L[i]? := by
  cases hi : L[i]? with
  | some r =>
    have := gt_srt h.srt hi
    rw [h i r hi] at this
    exact this
  | none =>
    cases hg : gt L ((i + 1 : Nat) : Int) with
    | none => rfl
    | some r =>
      exfalso
      have hm := List.mem_of_find?_eq_some hg
      obtain ⟨k, hk⟩ := List.mem_iff_getElem?.1 hm
      have h1 := gt_id hg
      have h2 := h k r hk
      have : k = i := by omega
      rw [this, hi] at hk
      cases hk
theorem IdL.gt_no {L : List Rg} (h : IdL L) {i : Int} (hi : i < 1 ∨ (L.length : Int) < i) : gt L i = none := by
  cases hg : gt L i with
  | none => rfl
  | some r =>
    exfalso
    obtain ⟨k, hk⟩ := List.mem_iff_getElem?.1 (List.mem_of_find?_eq_some hg)
    have h1 := gt_id hg
    have h2 := h k r hk
    have := (List.getElem?_eq_some_iff.1 hk).1
    omega
theorem IdL.set {L : List Rg} (h : IdL L) {k : Nat} {a : Rg} (ha : a.id = ((k + 1 : Nat) : Int)) : IdL (L.set k a) := fun i q hi => by
  rw [List.getElem?_set] at hi
  split at hi
  · split at hi
    · cases hi; rename_i e _; rw [ha, e]
    · cases hi
  · exact h i q hi
theorem IdL.snoc {L : List Rg} (h : IdL L) {b : Rg} (hb : b.id = ((L.length + 1 : Nat) : Int)) : IdL (L ++ [b]) := fun i q hi => by
  rcases Nat.lt_or_ge i L.length with hi1 | hi1
  · rw [List.getElem?_append_left hi1] at hi
    exact h i q hi
  · rw [List.getElem?_append_right hi1] at hi
    have e0 : i - L.length = 0 := by
      rcases Nat.eq_zero_or_pos (i - L.length) with h9 | h9
      · exact h9
      · rw [List.getElem?_eq_none (by simp; omega)] at hi; cases hi
    rw [e0] at hi
    cases hi
    rw [hb]
    omega
theorem pt_set {L : List Rg} (h : IdL L) {k : Nat} {a : Rg} (hk : k < L.length) (ha : a.id = ((k + 1 : Nat) : Int)) : pt a L = L.set k a := by
  refine srt_ext (pt_srt a h.srt) (h.set ha).srt fun i => ?_
  rw [gt_pt]
  by_cases hi : 1 ≤ i
  · obtain ⟨n, rfl⟩ : ∃ n : Nat, i = ((n + 1 : Nat) : Int) := ⟨(i - 1).toNat, by omega⟩
    rw [(h.set ha).look, h.look, List.getElem?_set]
    by_cases hn : k = n
    · subst hn
      rw [if_pos ha, if_pos rfl, if_pos hk]
    · rw [if_neg (by omega), if_neg hn]
  · rw [(h.set ha).gt_no (.inl (by omega)), h.gt_no (.inl (by omega)), if_neg (by omega)]
theorem pt_snoc {L : List Rg} (h : IdL L) {b : Rg} (hb : b.id = ((L.length + 1 : Nat) : Int)) : pt b L = L ++ [b] := by
  refine srt_ext (pt_srt b h.srt) (h.snoc hb).srt fun i => ?_
  rw [gt_pt]
  by_cases hi : 1 ≤ i
  · obtain ⟨n, rfl⟩ : ∃ n : Nat, i = ((n + 1 : Nat) : Int) := ⟨(i - 1).toNat, by omega⟩
    rw [(h.snoc hb).look, h.look]
    rcases Nat.lt_trichotomy n L.length with hn | hn | hn
    · rw [if_neg (by omega), List.getElem?_append_left hn]
    · subst hn
      rw [if_pos hb, List.getElem?_append_right (Nat.le_refl _), Nat.sub_self]
      rfl
    · rw [if_neg (by omega), List.getElem?_eq_none (by omega), List.getElem?_eq_none (by simp; omega)]
  · rw [(h.snoc hb).gt_no (.inl (by omega)), h.gt_no (.inl (by omega)), if_neg (by omega)]
theorem learn_new {L : List Rg} {c : Nat} {r : Rg} (hm : mayR r = true) (hg : gt L r.id = none) : learn1 (L, c) r = (pt r L, c + 1) := by
  unfold learn1; rw [if_pos hm]; dsimp only; rw [hg]
theorem learn_up {L : List Rg} {c : Nat} {r o : Rg} (hm : mayR r = true) (hg : gt L r.id = some o) (he : o.epoch < r.epoch) : learn1 (L, c) r = (pt r L, c + 1) := by
  unfold learn1; rw [if_pos hm]; dsimp only; rw [hg]; dsimp only; rw [if_neg (by omega)]
theorem learn_old {L : List Rg} {c : Nat} {r o : Rg} (hm : mayR r = true) (hg : gt L r.id = some o) (he : r.epoch ≤ o.epoch) : learn1 (L, c) r = (L, c) := by
  unfold learn1; rw [if_pos hm]; dsimp only; rw [hg]; dsimp only; rw [if_pos he]
section
variable {L : List Rg} {k : Nat} {r a b : Rg}
/-- the parent's half alone, then both, then both again -/
theorem learn_ab (h : IdL L) (hk : L[k]? = some r) (ha : a.id = r.id) (hb : b.id = ((L.length + 1 : Nat) : Int)) (ma : mayR a = true) (mb : mayR b = true) (he : r.epoch < a.epoch) :
    learnR L [a] = (L.set k a, 1) ∧ learnR (L.set k a) [a, b] = (L.set k a ++ [b], 1) ∧ learnR (L.set k a ++ [b]) [a, b] = (L.set k a ++ [b], 0) := by
  have hkl := (List.getElem?_eq_some_iff.1 hk).1
  have hid := h k r hk
  have hS := h.set (a := a) (k := k) (ha.trans hid)
  have hbS : b.id = (((L.set k a).length + 1 : Nat) : Int) := by rw [List.length_set]; exact hb
  have hSS := hS.snoc hbS
  have g1 : gt L a.id = some r := by rw [ha, hid, h.look]; exact hk
  have g2 : gt (L.set k a) a.id = some a := by rw [ha, hid, hS.look, List.getElem?_set, if_pos rfl, if_pos hkl]
  have g3 : gt (L.set k a) b.id = none := hS.gt_no (.inr (by rw [List.length_set]; omega))
  have g4 : gt (L.set k a ++ [b]) a.id = some a := by rw [ha, hid, hSS.look, List.getElem?_append_left (by simpa using hkl), List.getElem?_set, if_pos rfl, if_pos hkl]
  have g5 : gt (L.set k a ++ [b]) b.id = some b := by rw [hbS, hSS.look, List.getElem?_append_right (Nat.le_refl _), Nat.sub_self]; rfl
  refine ⟨?_, ?_, ?_⟩
  · show learn1 (L, 0) a = _
    rw [learn_up ma g1 he, pt_set h hkl (ha.trans hid)]
  · show learn1 (learn1 (_, 0) a) b = _
    rw [learn_old ma g2 (Int.le_refl _), learn_new mb g3, pt_snoc hS hbS]
  · show learn1 (learn1 (_, 0) a) b = _
    rw [learn_old ma g4 (Int.le_refl _), learn_old mb g5 (Int.le_refl _)]
theorem learn_ba (h : IdL L) (hk : L[k]? = some r) (ha : a.id = r.id) (hb : b.id = ((L.length + 1 : Nat) : Int)) (ma : mayR a = true) (mb : mayR b = true) (he : r.epoch < a.epoch) :
    learnR L [b] = (L ++ [b], 1) ∧ learnR (L ++ [b]) [b, a] = (L.set k a ++ [b], 1) ∧ learnR (L.set k a ++ [b]) [b, a] = (L.set k a ++ [b], 0) := by
  have hkl := (List.getElem?_eq_some_iff.1 hk).1
  have hid := h k r hk
  have hS := h.snoc hb
  have hT := h.set (a := a) (k := k) (ha.trans hid)
  have hbT : b.id = (((L.set k a).length + 1 : Nat) : Int) := by rw [List.length_set]; exact hb
  have hTT := hT.snoc hbT
  have g1 : gt L b.id = none := h.gt_no (.inr (by omega))
  have g2 : gt (L ++ [b]) b.id = some b := by rw [hb, hS.look, List.getElem?_append_right (Nat.le_refl _), Nat.sub_self]; rfl
  have g3 : gt (L ++ [b]) a.id = some r := by rw [ha, hid, hS.look, List.getElem?_append_left hkl]; exact hk
  have g4 : gt (L.set k a ++ [b]) a.id = some a := by rw [ha, hid, hTT.look, List.getElem?_append_left (by simpa using hkl), List.getElem?_set, if_pos rfl, if_pos hkl]
  have g5 : gt (L.set k a ++ [b]) b.id = some b := by rw [hbT, hTT.look, List.getElem?_append_right (Nat.le_refl _), Nat.sub_self]; rfl
  have e : (L ++ [b]).set k a = L.set k a ++ [b] := List.set_append_left k a hkl
  refine ⟨?_, ?_, ?_⟩
  · show learn1 (L, 0) b = _
    rw [learn_new mb g1, pt_snoc h hb]
  · show learn1 (learn1 (_, 0) b) a = _
    rw [learn_old mb g2 (Int.le_refl _), learn_up ma g3 he, pt_set hS (by simp; omega) (ha.trans hid), e]
  · show learn1 (learn1 (_, 0) b) a = _
    rw [learn_old mb g5 (Int.le_refl _), learn_old ma g4 (Int.le_refl _)]
end
/-! where keys are routed -/
theorem route_spec {D : List Rg} {x : Nat} {r : Rg} (hg : gt D r.id = some r) (hi : inF r x = true) (h1 : 1 ≤ r.id) : ∀ k : Nat, r.id ≤ (k : Int) → (∀ (i : Int) (q : Rg), r.id < i → i ≤ (k : Int) → gt D i = some q → inF q x = false) → routeF D x k = some r
  | 0, h, _ => by omega
  | k + 1, h, hn => by
    by_cases he : r.id = ((k + 1 : Nat) : Int)
    · rw [he] at hg
      exact route_yes hg hi
    · have ih := route_spec hg hi h1 k (by omega) fun i q h2 h3 h4 => hn i q h2 (by omega) h4
      cases hq : gt D ((k + 1 : Nat) : Int) with
      | none => rw [route_none hq, ih]
      | some q => rw [route_out hq (hn _ q (by omega) (Int.le_refl _) hq), ih]
theorem route_no {D : List Rg} {x : Nat} : ∀ k : Nat, (∀ (i : Int) (q : Rg), gt D i = some q → inF q x = false) → routeF D x k = none
  | 0, _ => rfl
  | k + 1, h => by
    cases hq : gt D ((k + 1 : Nat) : Int) with
    | none => rw [route_none hq, route_no k h]
    | some q => rw [route_out hq (h _ q hq), route_no k h]
theorem gt_mem {D : List Rg} {i : Int} {q : Rg} (h : gt D i = some q) : q ∈ D := List.mem_of_find?_eq_some h
/-- a place below 2^63 among points -/
theorem in_nat {r : Rg} {x : Nat} (hx : x ≤ Ieee.double.infRung) (h1 : r.lo ≤ fone) (h2 : r.hi ≤ fone) : inF r x = decide (r.lo ≤ x ∧ x < r.hi) := by
  have hf := fone_le
  unfold inF
  rw [fge_ge hx (by omega), flt_lt hx (by omega), Bool.decide_and]
theorem route_cov {L : List Rg} (h : Cov L) {x : Nat} (hx : x ≤ Ieee.double.infRung) : routeF L x 12 = L.find? fun r => inF r x := by
  cases hf : L.find? fun r => inF r x with
  | none =>
    refine route_no 12 fun i q hq => ?_
    have := List.find?_eq_none.1 hf q (gt_mem hq)
    simpa using this
  | some r =>
    have hr := List.mem_of_find?_eq_some hf
    have hi : inF r x = true := by simpa using List.find?_some hf
    obtain ⟨k, hk⟩ := List.mem_iff_getElem?.1 hr
    have hid := h.id k r hk
    have hkl := (List.getElem?_eq_some_iff.1 hk).1
    have hfew := h.few
    have n1 := h.fine.nat hr
    rw [in_nat hx n1.1 n1.2.1] at hi
    have hi : r.lo ≤ x ∧ x < r.hi := by simpa using hi
    refine route_spec (by rw [hid, IdL.look h.id]; exact hk) (by rw [in_nat hx n1.1 n1.2.1]; simpa using hi) (by omega) 12 (by omega) fun i q h1 h2 hq => ?_
    have hm := gt_mem hq
    have n2 := h.fine.nat hm
    rw [in_nat hx n2.1 n2.2.1]
    refine decide_eq_false fun h3 => ?_
    have := h.uniq hr hm hi.1 hi.2 h3.1 h3.2
    subst this
    have := gt_id hq
    omega
/-- the parent's half alone was told: a moved place is routed nowhere -/
theorem route_parent {L : List Rg} (h : Cov L) {k x p : Nat} {r : Rg} {i : Int} (hk : L[k]? = some r) (hp : r.lo < p ∧ p < r.hi) (hx : x ≤ Ieee.double.infRung) (hb : inF (halfB r p i) x = true) : routeF (L.set k (halfA r p)) x 12 = none := by
  have hr := List.mem_of_getElem? hk
  have n1 := h.fine.nat hr
  rw [in_nat (r := halfB r p i) hx (by show p ≤ _; omega) n1.2.1] at hb
  have hb : p ≤ x ∧ x < r.hi := of_decide_eq_true hb
  refine route_no 12 fun j q hq => ?_
  obtain ⟨n, hn⟩ := List.mem_iff_getElem?.1 (gt_mem hq)
  rw [List.getElem?_set] at hn
  split at hn
  · split at hn
    · cases hn
      rw [in_nat (r := halfA r p) hx n1.1 (by show p ≤ _; omega)]
      exact decide_eq_false fun h3 => by have : x < p := h3.2; omega
    · cases hn
  · rename_i hne
    have hm := List.mem_of_getElem? hn
    have n2 := h.fine.nat hm
    rw [in_nat hx n2.1 n2.2.1]
    refine decide_eq_false fun h3 => hne ?_
    have := h.uniq hr hm (by omega) hb.2 h3.1 h3.2
    subst this
    have h1 := h.id k r hk
    have h2 := h.id n r hn
    omega
/-- the child alone was told -/
theorem route_child {L : List Rg} (h : Cov L) {x : Nat} {b : Rg} (hid : b.id = ((L.length + 1 : Nat) : Int)) (hl : L.length < 12) (hb : inF b x = true) : routeF (L ++ [b]) x 12 = some b := by
  have hS := IdL.snoc h.id hid
  refine route_spec (by rw [hid, hS.look, List.getElem?_append_right (Nat.le_refl _), Nat.sub_self]; rfl) hb (by omega) 12 (by omega) fun i q h1 h2 hq => ?_
  rw [hS.gt_no (.inr (by simp; omega))] at hq
  cases hq

end Go.Proofs.Ytakohabmcgponaa
