/- What a split of all places is, plainly. -/
import Derived.Test.YtakohabmcgponaaN1
set_option linter.unusedSimpArgs false
set_option linter.unusedVariables false
namespace Go.Proofs.Ytakohabmcgponaa
open Sx

theorem and_top {n : Nat} (h : n < 2 ^ 64) : n &&& 2 ^ 63 = if n < 2 ^ 63 then 0 else 2 ^ 63 := by
  apply Nat.eq_of_testBit_eq
  intro i
  rw [Nat.testBit_and, Nat.testBit_two_pow]
  by_cases hi : 63 = i
  · subst hi
    by_cases h1 : n < 2 ^ 63
    · rw [if_pos h1, Nat.testBit_lt_two_pow h1]; simp
    · have e : n / 2 ^ 63 = 1 := by omega
      rw [if_neg h1, Nat.testBit_eq_decide_div_mod_eq, e, Nat.testBit_two_pow]; simp
  · rw [decide_eq_false hi, Bool.and_false]
    split
    · simp
    · rw [Nat.testBit_two_pow, decide_eq_false hi]
theorem uand_top {n : Nat} (h : n < 2 ^ 64) : uand (n : Int) sgn = if n < 2 ^ 63 then 0 else sgn := by
  unfold uand sgn
  rw [show (9223372036854775808 : Int) = ((2 ^ 63 : Nat) : Int) from rfl, BitVec.ofInt_natCast, BitVec.ofInt_natCast, BitVec.toNat_and, BitVec.toNat_ofNat, BitVec.toNat_ofNat, Nat.mod_eq_of_lt h, Nat.mod_eq_of_lt (by omega : 2 ^ 63 < 2 ^ 64), and_top h]
  split
  · rfl
  · rfl
theorem split_word {b : Nat} (h : b < 2 ^ 64) : ∃ (s : Bool) (r : Nat), b = Ieee.double.word s r ∧ r < Ieee.double.signWeight := by
  have e : Ieee.double.signWeight = 2 ^ 63 := rfl
  rcases Nat.lt_or_ge b (2 ^ 63) with h1 | h1
  · exact ⟨false, b, rfl, by rw [e]; exact h1⟩
  · refine ⟨true, b - 2 ^ 63, ?_, by rw [e]; omega⟩
    show b = Ieee.double.signWeight + (b - 2 ^ 63)
    rw [e]; omega
theorem num_rung {s : Bool} {r : Nat} (hr : r < Ieee.double.signWeight) (h : fnum (Ieee.double.word s r) = true) : r ≤ Ieee.double.infRung := by
  rcases Nat.lt_or_ge Ieee.double.infRung r with h1 | h1
  · rw [fnum_read, read_nan (by rw [word_mod _ _ hr]; exact h1)] at h
    cases h
  · exact h1
theorem order_num {d e : Ieee.Datum} {o : Ordering} (h : d.order e = some o) : d.isNaN = false ∧ e.isNaN = false := by
  cases d <;> cases e <;> simp [Ieee.Datum.order, Ieee.Datum.isNaN] at h ⊢
theorem fcmp_num {b c : Nat} {o : Ordering} (h : fcmp b c = some o) : fnum b = true ∧ fnum c = true := by
  obtain ⟨h1, h2⟩ := order_num h
  rw [fnum_read, fnum_read, h1, h2]
  exact ⟨rfl, rfl⟩
theorem fle_le {b c : Nat} (hb : b ≤ Ieee.double.infRung) (hc : c ≤ Ieee.double.infRung) : fle b c = decide (b ≤ c) := by
  unfold fle
  rw [fcmp_pos hb hc]
  rcases Nat.lt_trichotomy b c with h | h | h
  · rw [Nat.compare_eq_lt.2 h, decide_eq_true (by omega)]; rfl
  · subst h; simp
  · rw [Nat.compare_eq_gt.2 h, decide_eq_false (by omega)]; rfl
theorem flt_lt {b c : Nat} (hb : b ≤ Ieee.double.infRung) (hc : c ≤ Ieee.double.infRung) : flt b c = decide (b < c) := by
  unfold flt
  rw [fcmp_pos hb hc]
  rcases Nat.lt_trichotomy b c with h | h | h
  · rw [Nat.compare_eq_lt.2 h, decide_eq_true h]; rfl
  · subst h; simp
  · rw [Nat.compare_eq_gt.2 h, decide_eq_false (by omega)]; rfl
theorem fone_le : fone ≤ Ieee.double.infRung := by decide
theorem point_le {b : Nat} (hb : b < 2 ^ 64) (h : pointF b = true) : b ≤ fone := by
  unfold pointF at h
  simp only [Bool.and_eq_true, decide_eq_true_eq] at h
  obtain ⟨h1, h2⟩ := h
  have hn : fnum b = true := by
    unfold fle at h2
    cases hc : fcmp b fone with
    | none => rw [hc] at h2; cases h2
    | some o => exact (fcmp_num hc).1
  rw [fcan_num hn] at h1
  have hs : b < 2 ^ 63 := by
    rcases Nat.lt_or_ge b (2 ^ 63) with h3 | h3
    · exact h3
    · exfalso
      unfold classF at h1
      rw [uand_top hb, if_neg (show ¬ b < 2 ^ 63 by omega), if_neg (show ¬ sgn = 0 by decide)] at h1
      (repeat' split at h1) <;> omega
  have hr : b ≤ Ieee.double.infRung := by
    have e2 : Ieee.double.signWeight = 2 ^ 63 := rfl
    exact num_rung (s := false) (by rw [e2]; exact hs) hn
  rw [fle_le hr fone_le] at h2
  simpa using h2
theorem may_parts {r : Rg} (h : mayR r = true) : 1 ≤ r.id ∧ r.id ≤ 12 ∧ 0 ≤ r.epoch ∧ pointF r.lo = true ∧ pointF r.hi = true ∧ flt r.lo r.hi = true := by
  unfold mayR at h
  simp only [Bool.and_eq_true, decide_eq_true_eq] at h
  obtain ⟨⟨⟨⟨⟨h1, h2⟩, h3⟩, h4⟩, h5⟩, h6⟩ := h
  exact ⟨h1, h2, h3, h4, h5, h6⟩
theorem may_nat {r : Rg} (hw : r.wf) (h : mayR r = true) : r.lo ≤ fone ∧ r.hi ≤ fone ∧ r.lo < r.hi := by
  obtain ⟨-, -, -, h4, h5, h6⟩ := may_parts h
  obtain ⟨-, -, -, -, w5, w6⟩ := hw
  have a := point_le w5 h4
  have b := point_le w6 h5
  have hf := fone_le
  rw [flt_lt (by omega) (by omega)] at h6
  exact ⟨a, b, by simpa using h6⟩
theorem feq_nat {b c : Nat} (hb : b ≤ fone) (hc : c ≤ fone) : Op.floatEq .f64 b c = decide (b = c) := by
  have hf := fone_le
  show (fcmp b c == some .eq) = _
  rw [fcmp_pos (by omega) (by omega)]
  rcases Nat.lt_trichotomy b c with h | h | h
  · rw [Nat.compare_eq_lt.2 h, decide_eq_false (by omega)]; rfl
  · subst h; simp
  · rw [Nat.compare_eq_gt.2 h, decide_eq_false (by omega)]; rfl
/-! the first that may not be, or is there twice -/
def badR (L : List Rg) (i : Nat) : Int := match L[i]? with
  | none => 0
  | some r => if mayR r = true then (if (L.take i).any (fun o => decide (o.id = r.id)) = true then 9 else 0) else 1
def badA (L : List Rg) : Nat → Int
  | 0 => 0
  | k + 1 => if badA L k = 0 then badR L k else badA L k
theorem badA_at {L : List Rg} {k : Nat} {c : Int} (h0 : badA L k = 0) (h : badR L k = c) (hc : c ≠ 0) : ∀ {n : Nat}, k < n → badA L n = c
  | 0, hn => by omega
  | n + 1, hn => by
    unfold badA
    rcases Nat.lt_or_ge k n with h1 | h1
    · rw [badA_at h0 h hc h1, if_neg hc]
    · obtain rfl : k = n := by omega
      rw [h0, if_pos rfl, h]
theorem badR_may {L : List Rg} {i : Nat} {r : Rg} (h : L[i]? = some r) (hm : mayR r = false) : badR L i = 1 := by
  unfold badR; rw [h]; dsimp only; rw [hm]; rfl
theorem badR_dup {L : List Rg} {i j : Nat} {r o : Rg} (h : L[i]? = some r) (hm : mayR r = true) (ho : L[j]? = some o) (hj : j < i) (e : o.id = r.id) : badR L i = 9 := by
  unfold badR; rw [h]; dsimp only
  rw [if_pos hm, if_pos]
  rw [List.any_eq_true]
  exact ⟨o, List.mem_of_getElem? (i := j) (by rw [List.getElem?_take, if_pos hj, ho]), by simpa using e⟩
theorem badR_ok {L : List Rg} {i : Nat} {r : Rg} (h : L[i]? = some r) (hm : mayR r = true) (hn : ∀ (t : Nat) (o : Rg), t < i → L[t]? = some o → o.id ≠ r.id) : badR L i = 0 := by
  unfold badR; rw [h]; dsimp only
  rw [if_pos hm, if_neg]
  intro h9
  obtain ⟨o, ho, e⟩ := List.any_eq_true.1 h9
  obtain ⟨t, ht⟩ := List.mem_iff_getElem?.1 ho
  rw [List.getElem?_take] at ht
  split at ht
  · exact hn t o (by assumption) ht (by simpa using e)
  · cases ht
theorem badA_ok {L : List Rg} {k : Nat} (h : badA L k = 0) (h1 : badR L k = 0) : badA L (k + 1) = 0 := by
  unfold badA; rw [h, if_pos rfl, h1]
theorem badA_may {L : List Rg} : ∀ {n : Nat}, badA L n = 0 → ∀ (i : Nat) (r : Rg), i < n → L[i]? = some r → mayR r = true
  | 0, _, i, r, hi, _ => by omega
  | n + 1, h, i, r, hi, hr => by
    unfold badA at h
    split at h
    · rename_i h0
      rcases Nat.lt_or_ge i n with h1 | h1
      · exact badA_may h0 i r h1 hr
      · obtain rfl : i = n := by omega
        unfold badR at h
        rw [hr] at h
        dsimp only at h
        cases hm : mayR r with
        | true => rfl
        | false => rw [hm] at h; cases h
    · rename_i h0; exact absurd h h0
/-! from end to end -/
def nxtF (a : Nat) (s : Nat × Nat) (r : Rg) : Nat × Nat := if Op.floatEq .f64 r.lo a = true then (r.hi, s.2 + 1) else s
def scanF (a : Nat) (L : List Rg) : Nat × Nat := L.foldl (nxtF a) (0, 0)
theorem scan_snoc {a k : Nat} {L : List Rg} {o : Rg} (h : L[k]? = some o) : scanF a (L.take (k + 1)) = nxtF a (scanF a (L.take k)) o := by
  obtain ⟨hk, rfl⟩ := List.getElem?_eq_some_iff.1 h
  unfold scanF
  rw [List.take_succ_eq_append_getElem hk, List.foldl_append]
  rfl
theorem scan_yes {a k : Nat} {L : List Rg} {o : Rg} (h : L[k]? = some o) (he : Op.floatEq .f64 o.lo a = true) : scanF a (L.take (k + 1)) = (o.hi, (scanF a (L.take k)).2 + 1) := by
  rw [scan_snoc h]; unfold nxtF; rw [if_pos he]
theorem scan_no {a k : Nat} {L : List Rg} {o : Rg} (h : L[k]? = some o) (he : Op.floatEq .f64 o.lo a = false) : scanF a (L.take (k + 1)) = scanF a (L.take k) := by
  rw [scan_snoc h]; unfold nxtF; rw [if_neg (by rw [he]; decide)]
theorem scan_fold (a : Nat) : ∀ (L : List Rg) (s : Nat × Nat), (L.foldl (nxtF a) s).2 ≤ s.2 + L.length ∧ ((L.foldl (nxtF a) s) = s ∨ ∃ r ∈ L, Op.floatEq .f64 r.lo a = true ∧ (L.foldl (nxtF a) s).1 = r.hi)
  | [], s => ⟨Nat.le_refl _, .inl rfl⟩
  | r :: L, s => by
    obtain ⟨h1, h2⟩ := scan_fold a L (nxtF a s r)
    have h3 : (nxtF a s r).2 ≤ s.2 + 1 := by unfold nxtF; split <;> simp
    refine ⟨by rw [List.foldl_cons, List.length_cons]; omega, ?_⟩
    rw [List.foldl_cons]
    rcases h2 with h2 | ⟨q, hq, h4, h5⟩
    · rw [h2]
      unfold nxtF
      split
      · exact .inr ⟨r, List.mem_cons_self, by assumption, rfl⟩
      · exact .inl rfl
    · exact .inr ⟨q, List.mem_cons_of_mem _ hq, h4, h5⟩
theorem scan_le (a : Nat) (L : List Rg) : (scanF a L).2 ≤ L.length := by have := (scan_fold a L (0, 0)).1; unfold scanF; simpa using this
def cntF (L : List Rg) (a : Nat) : Nat := (L.filter fun r => decide (a ≤ r.lo)).length
theorem filter_lt {α : Type} {p q : α → Bool} : ∀ {L : List α}, (∀ x ∈ L, p x = true → q x = true) → (∃ x ∈ L, q x = true ∧ p x = false) → (L.filter p).length < (L.filter q).length
  | [], _, h => by obtain ⟨x, hx, -⟩ := h; simp at hx
  | y :: t, hpq, h => by
    have hle : ∀ {L : List α}, (∀ x ∈ L, p x = true → q x = true) → (L.filter p).length ≤ (L.filter q).length := fun {L} => by
      induction L with
      | nil => intro _; simp
      | cons z u ih =>
        intro hz
        have h1 := ih fun x hx => hz x (List.mem_cons_of_mem _ hx)
        have h2 := hz z List.mem_cons_self
        rw [List.filter_cons, List.filter_cons]
        cases hp : p z
        · cases q z <;> simp <;> omega
        · rw [h2 hp]; simp; omega
    have h1 := hpq y List.mem_cons_self
    have ht := fun x hx => hpq x (List.mem_cons_of_mem y hx)
    obtain ⟨x, hx, hq, hp⟩ := h
    rw [List.filter_cons, List.filter_cons]
    rcases List.mem_cons.1 hx with rfl | hx
    · have := hle ht
      rw [hq, hp]; simp; omega
    · have := filter_lt ht ⟨x, hx, hq, hp⟩
      cases hy : p y
      · cases q y <;> simp <;> omega
      · rw [h1 hy]; simp; omega
def runF (L : List Rg) : Nat → Nat → Nat → Int
  | 0, _, _ => 14
  | f + 1, a, u => if flt a fone = true then (if (scanF a L).2 = 1 then runF L f (scanF a L).1 (u + 1) else 14) else if u = L.length then 0 else 14
theorem run_step {L : List Rg} {a : Nat} (ha : a ≤ fone) (hm : ∀ r ∈ L, mayR r = true) (hw : ∀ r ∈ L, r.wf) (h1 : (scanF a L).2 = 1) : (scanF a L).1 ≤ fone ∧ cntF L (scanF a L).1 < cntF L a := by
  rcases (scan_fold a L (0, 0)).2 with h | ⟨r, hr, he, hh⟩
  · unfold scanF at h1; rw [h] at h1; simp at h1
  · have e : (scanF a L).1 = r.hi := hh
    obtain ⟨n1, n2, n3⟩ := may_nat (hw r hr) (hm r hr)
    rw [feq_nat n1 ha] at he
    have he : r.lo = a := by simpa using he
    rw [e]
    refine ⟨n2, filter_lt (fun x hx h => ?_) ⟨r, hr, ?_, ?_⟩⟩
    · simp only [decide_eq_true_eq] at h ⊢; omega
    · simp only [decide_eq_true_eq]; omega
    · simp only [decide_eq_false_iff_not]; omega
def checkF (L : List Rg) : Int := if L.length = 0 then 8 else if 12 < L.length then 3 else if badA L L.length ≠ 0 then badA L L.length else runF L (L.length + 1) 0 0
theorem cnt_le (L : List Rg) (a : Nat) : cntF L a ≤ L.length := List.length_filter_le _ _
theorem nd_snoc {L : List Rg} {j : Nat} {i : Int} {o : Rg} (h : ∀ (t : Nat) (q : Rg), t < j → L[t]? = some q → q.id ≠ i) (ho : L[j]? = some o) (hn : o.id ≠ i) : ∀ (t : Nat) (q : Rg), t < j + 1 → L[t]? = some q → q.id ≠ i := fun t q h1 h2 => by
  rcases Nat.lt_or_ge t j with h3 | h3
  · exact h t q h3 h2
  · obtain rfl : t = j := by omega
    rw [ho] at h2; cases h2; exact hn
theorem run_eq {L : List Rg} {f a u : Nat} (h : flt a fone = true) (h1 : (scanF a L).2 = 1) (hf : 0 < f) : runF L f a u = runF L (f - 1) (scanF a L).1 (u + 1) := by
  obtain ⟨g, rfl⟩ : ∃ g, f = g + 1 := ⟨f - 1, by omega⟩
  conv => lhs; unfold runF
  rw [if_pos h, if_pos h1]
  rfl
theorem run_bad {L : List Rg} {f a u : Nat} (h : flt a fone = true) (h1 : (scanF a L).2 ≠ 1) (hf : 0 < f) : runF L f a u = 14 := by
  obtain ⟨g, rfl⟩ : ∃ g, f = g + 1 := ⟨f - 1, by omega⟩
  unfold runF
  rw [if_pos h, if_neg h1]
theorem run_end {L : List Rg} {f a u : Nat} (h : flt a fone = false) (hf : 0 < f) : runF L f a u = if u = L.length then 0 else 14 := by
  obtain ⟨g, rfl⟩ : ∃ g, f = g + 1 := ⟨f - 1, by omega⟩
  unfold runF
  rw [if_neg (by rw [h]; decide)]
theorem bad_all {L : List Rg} (h : badA L L.length = 0) : ∀ r ∈ L, mayR r = true := fun r hr => by
  obtain ⟨i, hi⟩ := List.mem_iff_getElem?.1 hr
  exact badA_may h i r (List.getElem?_eq_some_iff.1 hi).1 hi
theorem ss_to {w : World} {ad : Option Addr} {l : List Rg} (h : Ss w ad Rg.cells 4 l) {k : Nat} (hk : k ≤ l.length) : Sv w ad k 4 ((l.take k).flatMap Rg.cells) := by
  refine ⟨by rw [flat_len Rg.len, List.length_take, Nat.min_eq_left hk], fun h0 => h.sv.pos (by omega), fun j v hj => h.sv.cs j v ?_⟩
  have e : l.flatMap Rg.cells = (l.take k).flatMap Rg.cells ++ (l.drop k).flatMap Rg.cells := by rw [← List.flatMap_append, List.take_append_drop]
  rw [e, List.getElem?_append_left (List.getElem?_eq_some_iff.1 hj).1]
  exact hj

end Go.Proofs.Ytakohabmcgponaa
