/- Pages, plainly. -/
import Derived.Test.YtainemoobhkeiaaDoorN5
set_option linter.unusedSimpArgs false
set_option linter.unusedVariables false
namespace Go.Proofs.YtainemoobhkeiaaDoor
open Sx

/-- which of two stands ahead -/
def ord (q : Query) (a b : Pair) : Bool := if q.back = true then Op.bytesLess b.key a.key else Op.bytesLess a.key b.key
theorem ord_irrefl (q : Query) (a : Pair) : ord q a a = false := by unfold ord; split <;> exact blt_irrefl _
theorem ord_asymm {q : Query} {a b : Pair} (h : ord q a b = true) : ord q b a = false := by
  unfold ord at h ⊢
  split at h <;> rename_i hb
  · rw [if_pos hb]; exact blt_asymm h
  · rw [if_neg hb]; exact blt_asymm h
theorem step_of {l : List Pair} (h : risesP l = true) {j : Nat} {a b : Pair} (h1 : l[j]? = some a) (h2 : l[j + 1]? = some b) : Op.bytesLess a.key b.key = true := by
  have hj := (List.getElem?_eq_some_iff.1 h2).1
  have := upTo_mono (j := j + 1) (by omega) h
  simp only [upTo, stepOk, h1, h2, Bool.and_eq_true] at this
  exact this.2
theorem rises_lt {l : List Pair} (h : risesP l = true) {i : Nat} {a : Pair} (h1 : l[i]? = some a) : ∀ (d : Nat) {b : Pair}, l[i + d + 1]? = some b → Op.bytesLess a.key b.key = true
  | 0, b, h2 => step_of h h1 h2
  | d + 1, b, h2 => by
    have hj := (List.getElem?_eq_some_iff.1 h2).1
    obtain ⟨x, hx⟩ : ∃ x, l[i + d + 1]? = some x := ⟨_, List.getElem?_eq_getElem (by omega)⟩
    exact blt_trans (rises_lt h h1 d hx) (step_of h hx h2)
theorem rises_pair {l : List Pair} (h : risesP l = true) : l.Pairwise fun a b => Op.bytesLess a.key b.key = true := by
  rw [List.pairwise_iff_getElem]
  intro i j hi hj hij
  refine rises_lt h (List.getElem?_eq_getElem hi) (j - i - 1) ?_
  rw [show i + (j - i - 1) + 1 = j from by omega]
  exact List.getElem?_eq_getElem hj
theorem all_zero {q : Query} {after : List UInt8} {l : List Pair} (h : (allQ q after l).2 = 0) : checkQ q = 0 ∧ risesP l = true := by
  by_cases hc : checkQ q = 0
  · refine ⟨hc, ?_⟩
    cases hr : risesP l with
    | true => rfl
    | false => rw [all_unr hc hr] at h; cases h
  · rw [all_bad hc] at h; exact absurd h hc
theorem all_is {q : Query} {after : List UInt8} {l : List Pair} (hc : checkQ q = 0) (hr : risesP l = true) : allQ q after l = ((dirQ q l).filter fun p => behindQ q after p && matchQ q p, 0) := by
  unfold allQ pickQ dirQ
  rw [if_pos hc, if_pos hr]
  split <;> simp
theorem all_sorted {q : Query} {l : List Pair} (hr : risesP l = true) : (dirQ q l).Pairwise fun a b => ord q a b = true := by
  have h := rises_pair hr
  unfold dirQ
  by_cases hb : q.back = true
  · rw [if_pos hb, List.pairwise_reverse]
    refine h.imp fun hab => ?_
    unfold ord
    rw [if_pos hb]; exact hab
  · rw [if_neg hb]
    refine h.imp fun hab => ?_
    unfold ord
    rw [if_neg hb]; exact hab
theorem filter_drop {q : Query} {A : List Pair} (hs : A.Pairwise fun a b => ord q a b = true) {j : Nat} {x : Pair} (hx : A[j]? = some x) : A.filter (fun p => ord q x p) = A.drop (j + 1) := by
  have hj := (List.getElem?_eq_some_iff.1 hx).1
  have hxe := (List.getElem?_eq_some_iff.1 hx).2
  rw [List.pairwise_iff_getElem] at hs
  conv => lhs; rw [← List.take_append_drop (j + 1) A]
  rw [List.filter_append]
  have h1 : (A.take (j + 1)).filter (fun p => ord q x p) = [] := by
    rw [List.filter_eq_nil_iff]
    intro y hy
    obtain ⟨i, hi, rfl⟩ := List.mem_iff_getElem.1 hy
    have hi2 : i < j + 1 := by rw [List.length_take] at hi; omega
    rw [List.getElem_take]
    rcases Nat.lt_or_ge i j with h | h
    · have := ord_asymm (hs i j (by omega) hj h)
      rw [hxe] at this
      simp [this]
    · have e : i = j := by omega
      subst e
      rw [hxe]
      simp [ord_irrefl]
  have h2 : (A.drop (j + 1)).filter (fun p => ord q x p) = A.drop (j + 1) := by
    rw [List.filter_eq_self]
    intro y hy
    obtain ⟨i, hi, rfl⟩ := List.mem_iff_getElem.1 hy
    rw [List.getElem_drop]
    have hi2 : j + 1 + i < A.length := by rw [List.length_drop] at hi; omega
    have := hs j (j + 1 + i) hj hi2 (by omega)
    rw [hxe] at this
    exact this
  rw [h1, h2, List.nil_append]
/-- a query from a key on -/
def qaf (q : Query) (k : List UInt8) : Query := ⟨q.fr, q.to, q.kind, q.lo, q.hi, q.back, q.most, k⟩
theorem behind_ord {q : Query} {x p : Pair} (hx : x.key ≠ []) : behindQ (qaf q x.key) x.key p = ord q x p := by
  unfold behindQ ord qaf
  cases hb : q.back <;> simp [hx]
theorem check_af {q : Query} {k : List UInt8} (h : checkQ q = 0) (hk : k.length ≤ 24) : checkQ (qaf q k) = 0 := by
  unfold checkQ at h ⊢
  simp only [qaf] at h ⊢
  (repeat' split at h) <;> simp_all <;> omega
theorem dir_af (q : Query) (k : List UInt8) (l : List Pair) : dirQ (qaf q k) l = dirQ q l := rfl
theorem match_af (q : Query) (k : List UInt8) (p : Pair) : matchQ (qaf q k) p = matchQ q p := rfl
theorem all_nil {q : Query} {l : List Pair} (hc : checkQ q = 0) (hr : risesP l = true) : allQ q [] l = ((dirQ q l).filter (matchQ q), 0) := by
  have e : (fun p => behindQ q [] p && matchQ q p) = matchQ q := by funext p; simp [behindQ]
  rw [all_is hc hr, e]
theorem all_af {q : Query} {l : List Pair} {j : Nat} {x : Pair} (h : (allQ q [] l).2 = 0) (hx : (allQ q [] l).1[j]? = some x) (h1 : x.key ≠ []) (h2 : x.key.length ≤ 24) :
    allQ (qaf q x.key) x.key l = ((allQ q [] l).1.drop (j + 1), 0) := by
  obtain ⟨hc, hr⟩ := all_zero h
  rw [all_is (check_af hc h2) hr, dir_af]
  rw [all_nil hc hr] at hx ⊢
  have hs := (all_sorted (q := q) hr).filter (matchQ q)
  dsimp only at hx ⊢
  have e : (fun p => behindQ (qaf q x.key) x.key p && matchQ (qaf q x.key) p) = fun p => ord q x p && matchQ q p := by funext p; rw [behind_ord h1, match_af]
  rw [← filter_drop hs hx, List.filter_filter, e]
/-- the query of a page -/
def qpg (q : Query) (A : List Pair) (j : Nat) : Query := qaf q (if j = 0 then [] else ((A[j - 1]?).map (·.key)).getD [])
theorem all_pg {q : Query} {l : List Pair} {j : Nat} (h0 : q.after = []) (h : (allQ q [] l).2 = 0) (hk : ∀ p ∈ l, p.key ≠ [] ∧ p.key.length ≤ 24) (hj : j ≤ (allQ q [] l).1.length) :
    allQ (qpg q (allQ q [] l).1 j) (qpg q (allQ q [] l).1 j).after l = ((allQ q [] l).1.drop j, 0) := by
  unfold qpg
  by_cases hz : j = 0
  · subst hz
    rw [if_pos rfl, List.drop_zero]
    have : qaf q [] = q := by unfold qaf; cases q; simp_all
    rw [this, h0, ← h]
  · rw [if_neg hz]
    obtain ⟨x, hx⟩ : ∃ x, (allQ q [] l).1[j - 1]? = some x := ⟨_, List.getElem?_eq_getElem (by omega)⟩
    have hm : x ∈ l := by
      obtain ⟨hc, hr⟩ := all_zero h
      have := List.mem_of_getElem? hx
      rw [all_nil hc hr] at this
      have := (List.mem_filter.1 this).1
      unfold dirQ at this
      split at this
      · simpa using this
      · exact this
    rw [hx]
    have := all_af h hx (hk x hm).1 (hk x hm).2
    rw [show j - 1 + 1 = j from by omega] at this
    exact this
theorem run_last {q : Query} {l : List Pair} {j : Nat} (h0 : q.after = []) (h : (allQ q [] l).2 = 0) (hk : ∀ p ∈ l, p.key ≠ [] ∧ p.key.length ≤ 24) (hj : j ≤ (allQ q [] l).1.length) (hm : (((allQ q [] l).1.length : Int) - j) ≤ q.most) :
    runQ (qpg q (allQ q [] l).1 j) l = ((allQ q [] l).1.drop j, [], 0) := by
  have e := all_pg h0 h hk hj
  rw [run_stop (by rw [e]; right; dsimp only; rw [List.length_drop]; show ((_ : Nat) : Int) ≤ q.most; omega), e]
theorem run_page {q : Query} {l : List Pair} {j : Nat} {x : Pair} (h0 : q.after = []) (h : (allQ q [] l).2 = 0) (hk : ∀ p ∈ l, p.key ≠ [] ∧ p.key.length ≤ 24) (hj : j ≤ (allQ q [] l).1.length) (hm : ¬ (((allQ q [] l).1.length : Int) - j) ≤ q.most)
    (hx : (allQ q [] l).1[j + q.most.toNat - 1]? = some x) (h1 : 1 ≤ q.most) : runQ (qpg q (allQ q [] l).1 j) l = (((allQ q [] l).1.drop j).take q.most.toNat, x.key, 0) := by
  have e := all_pg h0 h hk hj
  have hx2 : ((allQ q [] l).1.drop j)[q.most.toNat - 1]? = some x := by
    rw [List.getElem?_drop, show j + (q.most.toNat - 1) = j + q.most.toNat - 1 from by omega]
    exact hx
  have := run_more (q := qpg q (allQ q [] l).1 j) (l := l) (x := x) (by rw [e]) (by rw [e]; dsimp only; rw [List.length_drop]; show ¬ ((_ : Nat) : Int) ≤ q.most; omega) (by rw [e]; exact hx2)
  rw [this, e]
  rfl
theorem pg_next {q : Query} {A : List Pair} {j : Nat} {x : Pair} (hx : A[j - 1]? = some x) (hj : 0 < j) : qpg q A j = qaf q x.key := by
  unfold qpg
  rw [if_neg (by omega), hx]
  rfl
theorem pg_zero {q : Query} (A : List Pair) (h : q.after = []) : qpg q A 0 = q := by
  unfold qpg qaf
  rw [if_pos rfl]
  cases q; simp_all
/-- turned round -/
def qtn (q : Query) : Query := ⟨q.fr, q.to, q.kind, q.lo, q.hi, !q.back, q.most, q.after⟩
theorem all_tn {q : Query} {l : List Pair} (h : (allQ q [] l).2 = 0) : allQ (qtn q) [] l = ((allQ q [] l).1.reverse, 0) := by
  obtain ⟨hc, hr⟩ := all_zero h
  have hc2 : checkQ (qtn q) = 0 := hc
  rw [all_nil hc2 hr, all_nil hc hr]
  have : dirQ (qtn q) l = (dirQ q l).reverse := by
    unfold dirQ qtn
    cases q.back <;> simp
  rw [this, List.filter_reverse]
  rfl
theorem fil_count {q : Query} {l : List Pair} (h : (allQ q [] l).2 = 0) : (fil (matchQ q) l l.length).length = (allQ q [] l).1.length := by
  obtain ⟨hc, hr⟩ := all_zero h
  rw [fil_all, all_nil hc hr]
  unfold dirQ
  dsimp only
  split
  · rw [List.filter_reverse, List.length_reverse]
  · rfl
theorem all_match {q : Query} {l : List Pair} {i : Nat} {p : Pair} (h : (allQ q [] l).2 = 0) (hi : (allQ q [] l).1[i]? = some p) : matchQ q p = true := by
  obtain ⟨hc, hr⟩ := all_zero h
  rw [all_nil hc hr] at hi
  exact (List.mem_filter.1 (List.mem_of_getElem? hi)).2
theorem all_next {q : Query} {l : List Pair} {i : Nat} {a b : Pair} (h : (allQ q [] l).2 = 0) (ha : (allQ q [] l).1[i]? = some a) (hb : (allQ q [] l).1[i + 1]? = some b) : Op.bytesLess a.key b.key = !q.back := by
  obtain ⟨hc, hr⟩ := all_zero h
  rw [all_nil hc hr] at ha hb
  have hs := (all_sorted (q := q) hr).filter (matchQ q)
  rw [List.pairwise_iff_getElem] at hs
  obtain ⟨h1, e1⟩ := List.getElem?_eq_some_iff.1 ha
  obtain ⟨h2, e2⟩ := List.getElem?_eq_some_iff.1 hb
  have := hs i (i + 1) h1 h2 (by omega)
  dsimp only at e1 e2
  rw [e1, e2] at this
  unfold ord at this
  cases hq : q.back with
  | false => rw [hq] at this; simpa using this
  | true => rw [hq] at this; simp at this; rw [blt_asymm this]; rfl

end Go.Proofs.YtainemoobhkeiaaDoor
