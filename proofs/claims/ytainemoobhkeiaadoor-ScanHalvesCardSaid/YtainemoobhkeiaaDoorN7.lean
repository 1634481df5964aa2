/- Halves, plainly. -/
import Derived.Test.YtainemoobhkeiaaDoorN6
set_option linter.unusedSimpArgs false
set_option linter.unusedVariables false
namespace Go.Proofs.YtainemoobhkeiaaDoor
open Sx

def sameV (a b : Val) : Bool := mayV a && mayV b && decide (cmpV a b = 0)
def qfw (q : Query) : Query := ⟨q.fr, q.to, q.kind, q.lo, q.hi, false, q.most, q.after⟩
def qto (q : Query) (cut : List UInt8) : Query := ⟨q.fr, cut, q.kind, q.lo, q.hi, q.back, q.most, q.after⟩
def qfr (q : Query) (cut : List UInt8) : Query := ⟨cut, q.to, q.kind, q.lo, q.hi, q.back, q.most, q.after⟩
def qlc (q : Query) : Query := ⟨q.fr, q.to, q.kind, ⟨0, 0, []⟩, q.lo, q.back, q.most, q.after⟩
def qld (q : Query) : Query := ⟨q.fr, q.to, q.kind, ⟨0, 0, []⟩, q.hi, q.back, q.most, q.after⟩
theorem dir_fwd {q : Query} (h : q.back = false) (l : List Pair) : dirQ q l = l := by unfold dirQ; rw [if_neg (by simp [h])]
theorem check_ok {q : Query} (h : checkQ q = 0) : q.fr.length ≤ 24 ∧ q.to.length ≤ 24 ∧ q.after.length ≤ 24 ∧ 0 ≤ q.kind ∧ q.kind ≤ 2 ∧ mayV q.lo = true ∧ mayV q.hi = true ∧ 1 ≤ q.most ∧ q.most ≤ 1000 := by
  unfold checkQ at h
  split at h
  · cases h
  · split at h
    · cases h
    · split at h
      · cases h
      · split at h
        · cases h
        · rename_i h1 h2 h3 h4
          have h5 : mayV q.lo = true ∧ mayV q.hi = true := by
            cases ha : mayV q.lo <;> cases hb : mayV q.hi <;> simp_all
          exact ⟨by omega, by omega, by omega, by omega, by omega, h5.1, h5.2, by omega, by omega⟩
theorem check_of {q : Query} (h : q.fr.length ≤ 24 ∧ q.to.length ≤ 24 ∧ q.after.length ≤ 24 ∧ 0 ≤ q.kind ∧ q.kind ≤ 2 ∧ mayV q.lo = true ∧ mayV q.hi = true ∧ 1 ≤ q.most ∧ q.most ≤ 1000) : checkQ q = 0 := by
  obtain ⟨h1, h2, h3, h4, h5, h6, h7, h8, h9⟩ := h
  unfold checkQ
  rw [if_neg (by omega), if_neg (by omega), if_neg (by simp [h6, h7]), if_neg (by omega)]
theorem filter_cut {f : Pair → Bool} {cut : List UInt8} : ∀ {l : List Pair}, (l.Pairwise fun a b => Op.bytesLess a.key b.key = true) →
    l.filter (fun p => f p && Op.bytesLess p.key cut) ++ l.filter (fun p => f p && !Op.bytesLess p.key cut) = l.filter f
  | [], _ => rfl
  | p :: l, h => by
    rw [List.pairwise_cons] at h
    have ih := filter_cut (f := f) (cut := cut) h.2
    cases hp : Op.bytesLess p.key cut with
    | true =>
      simp only [List.filter_cons, hp, Bool.and_true, Bool.not_true, Bool.and_false, Bool.false_eq_true, if_false]
      split
      · rw [List.cons_append, ih]
      · exact ih
    | false =>
      have h0 : l.filter (fun p => f p && Op.bytesLess p.key cut) = [] := by
        rw [List.filter_eq_nil_iff]
        intro x hx
        have h1 := h.1 x hx
        have h2 : Op.bytesLess x.key cut = false := by
          cases h3 : Op.bytesLess x.key cut with
          | false => rfl
          | true => have := blt_trans h1 h3; rw [hp] at this; cases this
        simp [h2]
      rw [h0, List.nil_append] at ih
      simp only [List.filter_cons, hp, Bool.and_false, Bool.not_false, Bool.and_true, Bool.false_eq_true, if_false, h0, List.nil_append, ih]
theorem match_to {q : Query} {cut : List UInt8} (hn : cut ≠ []) (ht : q.to = [] ∨ Op.bytesLess cut q.to = true) (p : Pair) : matchQ (qto q cut) p = (matchQ q p && Op.bytesLess p.key cut) := by
  cases hp : Op.bytesLess p.key cut with
  | false => unfold matchQ qto; simp [hp, hn]
  | true =>
    have h2 : (decide (q.to = []) || Op.bytesLess p.key q.to) = true := by
      rcases ht with ht | ht
      · simp [ht]
      · simp [blt_trans hp ht]
    unfold matchQ qto
    simp only [hp, h2, Bool.or_true, Bool.and_true]
theorem match_fr {q : Query} {cut : List UInt8} (hf : Op.bytesLess cut q.fr = false) (p : Pair) : matchQ (qfr q cut) p = (matchQ q p && !Op.bytesLess p.key cut) := by
  cases hp : Op.bytesLess p.key cut with
  | true => unfold matchQ qfr; simp [hp]
  | false =>
    have h2 : Op.bytesLess p.key q.fr = false := by
      cases h3 : Op.bytesLess p.key q.fr with
      | false => rfl
      | true =>
        rcases hc : Op.bytesLess cut p.key with _ | _
        · have := blt_tri _ _ hp hc
          rw [this, hf] at h3
          cases h3
        · have := blt_trans hc h3
          rw [hf] at this; cases this
    unfold matchQ qfr
    simp only [hp, h2, Bool.not_false, Bool.true_and, Bool.and_true]
theorem halves {q : Query} {l : List Pair} {cut : List UInt8} (hb : q.back = false) (h : (allQ q [] l).2 = 0) (hn : cut ≠ []) (hl : cut.length ≤ 24) (hf : Op.bytesLess cut q.fr = false) (ht : q.to = [] ∨ Op.bytesLess cut q.to = true) :
    (allQ (qto q cut) [] l).2 = 0 ∧ (allQ (qfr q cut) [] l).2 = 0 ∧ (allQ (qto q cut) [] l).1 ++ (allQ (qfr q cut) [] l).1 = (allQ q [] l).1 := by
  obtain ⟨hc, hr⟩ := all_zero h
  have h1 := check_ok hc
  have hc1 : checkQ (qto q cut) = 0 := check_of ⟨h1.1, hl, h1.2.2⟩
  have hc2 : checkQ (qfr q cut) = 0 := check_of ⟨hl, h1.2⟩
  rw [all_nil hc1 hr, all_nil hc2 hr, all_nil hc hr, dir_fwd (q := qto q cut) hb, dir_fwd (q := qfr q cut) hb, dir_fwd hb]
  refine ⟨rfl, rfl, ?_⟩
  have e1 : matchQ (qto q cut) = fun p => matchQ q p && Op.bytesLess p.key cut := by funext p; exact match_to hn ht p
  have e2 : matchQ (qfr q cut) = fun p => matchQ q p && !Op.bytesLess p.key cut := by funext p; exact match_fr hf p
  rw [e1, e2]
  exact filter_cut (rises_pair hr)
theorem order_neg (a b : Int) : order a b = -order b a := by unfold order; split <;> (try split) <;> omega
theorem cmp_num {a b : Val} (ha : mayV a = true) (hb : mayV b = true) (h1 : a.kind = 1) (h2 : b.kind = 1) : cmpV a b = order (rank a.num) (rank b.num) := by
  unfold cmpV
  rw [if_pos ⟨ha, hb⟩, h1, h2, if_neg (by omega), if_neg (by omega), if_pos rfl]
theorem may_zero : mayV ⟨0, 0, []⟩ = true := by decide
theorem match_d {q : Query} (hk : q.kind = 1) (hh : q.hi.kind = 0) (hm : mayV q.hi = true) (p : Pair) : matchQ (qld q) p = (!Op.bytesLess p.key q.fr && (decide (q.to = []) || Op.bytesLess p.key q.to) && mayV p.val && decide (p.val.kind = 1)) := by
  unfold matchQ qld
  simp [hk, hh, hm, may_zero]
theorem match_c {q : Query} (hk : q.kind = 1) (hlo : q.lo.kind = 1) (hh : q.hi.kind = 0) (hm : mayV q.lo = true) (hm2 : mayV q.hi = true) (p : Pair) : matchQ (qlc q) p = (matchQ (qld q) p && decide (cmpV p.val q.lo ≤ 0)) := by
  rw [match_d hk hh hm2]
  unfold matchQ qlc
  simp [hk, hlo, hm, may_zero]
theorem match_q {q : Query} (hk : q.kind = 1) (hlo : q.lo.kind = 1) (hh : q.hi.kind = 0) (hm : mayV q.lo = true) (hm2 : mayV q.hi = true) (p : Pair) : matchQ q p = (matchQ (qld q) p && decide (cmpV q.lo p.val ≤ 0)) := by
  rw [match_d hk hh hm2]
  unfold matchQ
  simp [hk, hlo, hh, hm, hm2]
theorem match_s {q : Query} (hk : q.kind = 1) (hlo : q.lo.kind = 1) (hh : q.hi.kind = 0) (hm : mayV q.lo = true) (hm2 : mayV q.hi = true) (p : Pair) :
    (matchQ (qlc q) p).toNat + (matchQ q p).toNat = (matchQ (qld q) p).toNat + (matchQ q p && sameV p.val q.lo).toNat := by
  rw [match_c hk hlo hh hm hm2, match_q hk hlo hh hm hm2]
  cases hd : matchQ (qld q) p with
  | false => rfl
  | true =>
    rw [match_d hk hh hm2] at hd
    simp only [Bool.and_eq_true, decide_eq_true_eq] at hd
    have hv := hd.1.2
    have hk1 := hd.2
    unfold sameV
    rw [cmp_num hv hm hk1 hlo, cmp_num hm hv hlo hk1, hv, hm, order_neg (rank q.lo.num) (rank p.val.num)]
    simp only [Bool.true_and]
    generalize order (rank p.val.num) (rank q.lo.num) = x
    by_cases h1 : x < 0
    · rw [decide_eq_true (by omega : x ≤ 0), decide_eq_false (by omega : ¬ -x ≤ 0)]; rfl
    · by_cases h2 : x = 0
      · rw [decide_eq_true (by omega : x ≤ 0), decide_eq_true (by omega : -x ≤ 0), decide_eq_true h2]; rfl
      · rw [decide_eq_false (by omega : ¬ x ≤ 0), decide_eq_true (by omega : -x ≤ 0), decide_eq_false h2]; rfl
theorem fl_cons (f : Pair → Bool) (p : Pair) (l : List Pair) : ((p :: l).filter f).length = (f p).toNat + (l.filter f).length := by
  rw [List.filter_cons]
  cases f p
  · simp
  · simp; omega
theorem count_four {c q d s : Pair → Bool} (h : ∀ p, (c p).toNat + (q p).toNat = (d p).toNat + (q p && s p).toNat) (l : List Pair) : (l.filter c).length + (l.filter q).length = (l.filter d).length + ((l.filter q).filter s).length := by
  have e : (l.filter q).filter s = l.filter fun p => q p && s p := by
    rw [List.filter_filter]
    congr 1
    funext p
    exact Bool.and_comm _ _
  rw [e]
  induction l with
  | nil => rfl
  | cons p l ih =>
    have hp := h p
    simp only [fl_cons] at *
    have ih := ih (by
      rw [List.filter_filter]
      congr 1
      funext p
      exact Bool.and_comm _ _)
    omega
theorem counts {q : Query} {l : List Pair} (hb : q.back = false) (h : (allQ q [] l).2 = 0) (hk : q.kind = 1) (hlo : q.lo.kind = 1) (hh : q.hi.kind = 0) :
    (allQ (qlc q) [] l).2 = 0 ∧ (allQ (qld q) [] l).2 = 0 ∧ (allQ (qlc q) [] l).1.length + (allQ q [] l).1.length = (allQ (qld q) [] l).1.length + (fil (fun p => sameV p.val q.lo) (allQ q [] l).1 (allQ q [] l).1.length).length := by
  obtain ⟨hc, hr⟩ := all_zero h
  obtain ⟨h1, h2, h3, h4, h5, h6, h7, h8, h9⟩ := check_ok hc
  have hc1 : checkQ (qlc q) = 0 := check_of ⟨h1, h2, h3, h4, h5, may_zero, h6, h8, h9⟩
  have hc2 : checkQ (qld q) = 0 := check_of ⟨h1, h2, h3, h4, h5, may_zero, h7, h8, h9⟩
  rw [all_nil hc1 hr, all_nil hc2 hr, all_nil hc hr, dir_fwd (q := qlc q) hb, dir_fwd (q := qld q) hb, dir_fwd hb, fil_all]
  exact ⟨rfl, rfl, count_four (match_s hk hlo hh h6 h7) l⟩

end Go.Proofs.YtainemoobhkeiaaDoor
