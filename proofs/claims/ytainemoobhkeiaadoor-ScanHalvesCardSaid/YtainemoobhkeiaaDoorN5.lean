/- Pairs that match, plainly. -/
import Derived.Test.YtainemoobhkeiaaDoorN3
set_option linter.unusedSimpArgs false
set_option linter.unusedVariables false
namespace Go.Proofs.YtainemoobhkeiaaDoor
open Sx

theorem blt_irrefl : ∀ x : List UInt8, Op.bytesLess x x = false
  | [] => rfl
  | a :: x => by simp [Op.bytesLess, blt_irrefl x]
theorem blt_trans : ∀ {x y z : List UInt8}, Op.bytesLess x y = true → Op.bytesLess y z = true → Op.bytesLess x z = true
  | [], [], _, h, _ => by simp [Op.bytesLess] at h
  | [], _ :: _, [], _, h => by simp [Op.bytesLess] at h
  | [], _ :: _, _ :: _, _, _ => by simp [Op.bytesLess]
  | _ :: _, [], _, h, _ => by simp [Op.bytesLess] at h
  | _ :: _, _ :: _, [], _, h => by simp [Op.bytesLess] at h
  | a :: x, b :: y, c :: z, h, k => by
    simp only [Op.bytesLess, Bool.or_eq_true, Bool.and_eq_true, decide_eq_true_eq, beq_iff_eq] at h k ⊢
    rcases h with h | ⟨rfl, h⟩
    · rcases k with k | ⟨rfl, k⟩
      · exact .inl (UInt8.lt_trans h k)
      · exact .inl h
    · rcases k with k | ⟨rfl, k⟩
      · exact .inl k
      · exact .inr ⟨rfl, blt_trans h k⟩
theorem blt_tri : ∀ (x y : List UInt8), Op.bytesLess x y = false → Op.bytesLess y x = false → x = y
  | [], [], _, _ => rfl
  | [], _ :: _, h, _ => by simp [Op.bytesLess] at h
  | _ :: _, [], _, h => by simp [Op.bytesLess] at h
  | a :: x, b :: y, h, k => by
    simp only [Op.bytesLess, Bool.or_eq_false_iff, Bool.and_eq_false_iff, decide_eq_false_iff_not, beq_eq_false_iff_ne] at h k
    have e : a = b := UInt8.le_antisymm (UInt8.not_lt.1 k.1) (UInt8.not_lt.1 h.1)
    subst e
    rw [blt_tri x y (by simpa using h.2) (by simpa using k.2)]
theorem blt_asymm {x y : List UInt8} (h : Op.bytesLess x y = true) : Op.bytesLess y x = false := by
  cases k : Op.bytesLess y x with
  | false => rfl
  | true => have := blt_trans h k; rw [blt_irrefl] at this; cases this
/-- keys rise from place i to the next one -/
def stepOk (l : List Pair) (i : Nat) : Bool := match l[i]?, l[i + 1]? with
  | some a, some b => Op.bytesLess a.key b.key
  | _, _ => true
def upTo (l : List Pair) : Nat → Bool
  | 0 => true
  | k + 1 => upTo l k && stepOk l k
def risesP (l : List Pair) : Bool := upTo l l.length
theorem upTo_mono {l : List Pair} {j : Nat} : ∀ {k : Nat}, j ≤ k → upTo l k = true → upTo l j = true
  | 0, h, hk => by have : j = 0 := by omega
                   subst this; rfl
  | k + 1, h, hk => by
    rcases Nat.lt_or_ge j (k + 1) with h1 | h1
    · simp only [upTo, Bool.and_eq_true] at hk
      exact upTo_mono (by omega) hk.1
    · have : j = k + 1 := by omega
      subst this; exact hk
theorem rises_false {l : List Pair} {j : Nat} {a b : Pair} (h1 : l[j]? = some a) (h2 : l[j + 1]? = some b) (h : Op.bytesLess a.key b.key = false) : risesP l = false := by
  cases hr : risesP l with
  | false => rfl
  | true =>
    have hj := (List.getElem?_eq_some_iff.1 h2).1
    have := upTo_mono (j := j + 1) (by omega) hr
    simp only [upTo, stepOk, h1, h2, h, Bool.and_false] at this
    cases this
theorem upTo_step {l : List Pair} {j : Nat} {a b : Pair} (h : upTo l j = true) (h1 : l[j]? = some a) (h2 : l[j + 1]? = some b) (h3 : Op.bytesLess a.key b.key = true) : upTo l (j + 1) = true := by
  simp only [upTo, stepOk, h1, h2, h, h3, Bool.and_true]
theorem rises_true {l : List Pair} (h : upTo l (l.length - 1) = true) : risesP l = true := by
  unfold risesP
  cases hl : l.length with
  | zero => rfl
  | succ n =>
    rw [hl] at h
    simp only [upTo]
    rw [show upTo l n = true from h]
    unfold stepOk
    rw [List.getElem?_eq_none (i := n + 1) (by omega)]
    cases l[n]? <;> rfl
def behindQ (q : Query) (after : List UInt8) (p : Pair) : Bool := decide (after = []) || (!q.back && Op.bytesLess after p.key) || (q.back && Op.bytesLess p.key after)
def pickQ (q : Query) (after : List UInt8) (l : List Pair) : List Pair := l.filter fun p => behindQ q after p && matchQ q p
def allQ (q : Query) (after : List UInt8) (l : List Pair) : List Pair × Int :=
  if checkQ q = 0 then (if risesP l = true then (if q.back = true then (pickQ q after l).reverse else pickQ q after l, 0) else ([], 4)) else ([], checkQ q)
theorem pick_snoc {q : Query} {after : List UInt8} {l : List Pair} {k : Nat} {p : Pair} (h : l[k]? = some p) : pickQ q after (l.take (k + 1)) = pickQ q after (l.take k) ++ (if (behindQ q after p && matchQ q p) = true then [p] else []) := by
  obtain ⟨hk, rfl⟩ := List.getElem?_eq_some_iff.1 h
  unfold pickQ
  rw [List.take_succ_eq_append_getElem hk, List.filter_append]
  congr 1
  simp only [List.filter_cons, List.filter_nil]
theorem pick_len (q : Query) (after : List UInt8) (l : List Pair) (k : Nat) : (pickQ q after (l.take k)).length ≤ l.length := by
  unfold pickQ
  have h1 := List.length_filter_le (fun p => behindQ q after p && matchQ q p) (l.take k)
  have h2 := List.length_take_le' k l
  omega
theorem allQ_len (q : Query) (after : List UInt8) (l : List Pair) : (allQ q after l).1.length ≤ l.length := by
  have h := pick_len q after l l.length
  rw [List.take_length] at h
  unfold allQ
  (repeat' split) <;> simp <;> omega
theorem all_bad {q : Query} {after : List UInt8} {l : List Pair} (h : ¬ checkQ q = 0) : allQ q after l = ([], checkQ q) := by unfold allQ; rw [if_neg h]
theorem all_unr {q : Query} {after : List UInt8} {l : List Pair} (h : checkQ q = 0) (h1 : risesP l = false) : allQ q after l = ([], 4) := by unfold allQ; rw [if_pos h, if_neg (by simp [h1])]
theorem all_fwd {q : Query} {after : List UInt8} {l : List Pair} (h : checkQ q = 0) (h1 : risesP l = true) (h2 : q.back = false) : allQ q after l = (pickQ q after l, 0) := by unfold allQ; rw [if_pos h, if_pos h1, if_neg (by simp [h2])]
theorem all_bwd {q : Query} {after : List UInt8} {l : List Pair} (h : checkQ q = 0) (h1 : risesP l = true) (h2 : q.back = true) : allQ q after l = ((pickQ q after l).reverse, 0) := by unfold allQ; rw [if_pos h, if_pos h1, if_pos h2]
def runQ (q : Query) (l : List Pair) : List Pair × List UInt8 × Int :=
  if (allQ q q.after l).2 ≠ 0 ∨ ((allQ q q.after l).1.length : Int) ≤ q.most then ((allQ q q.after l).1, [], (allQ q q.after l).2)
  else ((allQ q q.after l).1.take q.most.toNat, (((allQ q q.after l).1[q.most.toNat - 1]?).map (·.key)).getD [], 0)
/-- the document's -/
def oneQ (q : Query) (p : Pair) : Bool := !(!decide (q.after = []) && (decide (p.key = q.after) || (Op.bytesLess p.key q.after != q.back)))
def xallQ (q : Query) (l : List Pair) : List Pair × Int :=
  if checkQ q = 0 then (if risesP l = true then ((if q.back = true then l.reverse else l).filter (matchQ q), 0) else ([], 4)) else ([], checkQ q)
theorem xallQ_eq (q : Query) (l : List Pair) : xallQ q l = allQ q [] l := by
  unfold xallQ allQ pickQ behindQ
  simp only [decide_true, Bool.true_or, Bool.true_and]
  (repeat' split) <;> simp_all
theorem one_behind (q : Query) (p : Pair) : oneQ q p = behindQ q q.after p := by
  unfold oneQ behindQ
  by_cases h : q.after = []
  · simp [h]
  · by_cases h1 : p.key = q.after
    · simp [h, h1, blt_irrefl]
    · have h2 : Op.bytesLess p.key q.after = !Op.bytesLess q.after p.key := by
        cases ha : Op.bytesLess p.key q.after with
        | true => rw [blt_asymm ha]; rfl
        | false =>
          cases hb : Op.bytesLess q.after p.key with
          | true => rfl
          | false => exact absurd (blt_tri _ _ ha hb) h1
      simp only [h, h1, h2, decide_false, Bool.not_false, Bool.true_and, Bool.false_or]
      cases q.back <;> cases Op.bytesLess q.after p.key <;> rfl
def xrunQ (q : Query) (l : List Pair) : List Pair × List UInt8 × Int :=
  if (xallQ q l).2 ≠ 0 then ([], [], (xallQ q l).2)
  else if (((xallQ q l).1.filter (oneQ q)).length : Int) ≤ q.most then ((xallQ q l).1.filter (oneQ q), [], 0)
  else (((xallQ q l).1.filter (oneQ q)).take q.most.toNat, ((((xallQ q l).1.filter (oneQ q))[q.most.toNat - 1]?).map (·.key)).getD [], 0)
theorem filter_all (q : Query) (l : List Pair) : (xallQ q l).1.filter (oneQ q) = (allQ q q.after l).1 ∧ (xallQ q l).2 = (allQ q q.after l).2 := by
  unfold xallQ allQ pickQ
  have e : oneQ q = behindQ q q.after := by funext p; exact one_behind q p
  rw [e]
  (repeat' split) <;> simp_all [List.filter_filter]
theorem xrunQ_eq (q : Query) (l : List Pair) : xrunQ q l = runQ q l := by
  obtain ⟨h1, h2⟩ := filter_all q l
  unfold xrunQ runQ
  rw [h1, h2]
  by_cases h : (allQ q q.after l).2 = 0
  · simp only [h, ne_eq, not_true_eq_false, if_false, false_or]
  · simp only [ne_eq, h, not_false_eq_true, if_true, true_or]
    have : (allQ q q.after l).1 = [] := by
      unfold allQ at h ⊢
      (repeat' split) <;> simp_all
    rw [this]
theorem pick_yes {q : Query} {after : List UInt8} {l : List Pair} {k : Nat} {p : Pair} (h : l[k]? = some p) (h1 : behindQ q after p = true) (h2 : matchQ q p = true) : pickQ q after (l.take (k + 1)) = pickQ q after (l.take k) ++ [p] := by
  rw [pick_snoc h, h1, h2]; rfl
theorem pick_no {q : Query} {after : List UInt8} {l : List Pair} {k : Nat} {p : Pair} (h : l[k]? = some p) (h1 : (behindQ q after p && matchQ q p) = false) : pickQ q after (l.take (k + 1)) = pickQ q after (l.take k) := by
  rw [pick_snoc h, h1]; simp
theorem pairs_len (l : List Pair) (p : Pair) : (l ++ [p]).length = l.length + 1 := by simp
theorem pairs_flat (l : List Pair) (p : Pair) : (l ++ [p]).flatMap Pair.cells = l.flatMap Pair.cells ++ p.cells := by simp
def dirQ (q : Query) (l : List Pair) : List Pair := if q.back = true then l.reverse else l
theorem dirQ_len (q : Query) (l : List Pair) : (dirQ q l).length = l.length := by unfold dirQ; split <;> simp
theorem dirQ_back {q : Query} {l : List Pair} {k : Nat} {o : Pair} (hb : q.back = true) (h : (dirQ q l)[k]? = some o) : l[l.length - 1 - k]? = some o := by
  have hk := (List.getElem?_eq_some_iff.1 h).1
  unfold dirQ at h hk
  rw [if_pos hb] at h hk
  rw [List.length_reverse] at hk
  rw [List.getElem?_reverse hk] at h
  exact h
theorem dirQ_fwd {q : Query} {l : List Pair} {k : Nat} {o : Pair} (hb : q.back = false) (h : (dirQ q l)[k]? = some o) : l[k]? = some o := by
  unfold dirQ at h
  rwa [if_neg (by simp [hb])] at h
def fil (f : Pair → Bool) (L : List Pair) (k : Nat) : List Pair := (L.take k).filter f
theorem fil_yes {f : Pair → Bool} {L : List Pair} {k : Nat} {p : Pair} (h : L[k]? = some p) (hf : f p = true) : fil f L (k + 1) = fil f L k ++ [p] := by
  obtain ⟨hk, rfl⟩ := List.getElem?_eq_some_iff.1 h
  unfold fil
  rw [List.take_succ_eq_append_getElem hk, List.filter_append]
  simp [hf]
theorem fil_no {f : Pair → Bool} {L : List Pair} {k : Nat} {p : Pair} (h : L[k]? = some p) (hf : f p = false) : fil f L (k + 1) = fil f L k := by
  obtain ⟨hk, rfl⟩ := List.getElem?_eq_some_iff.1 h
  unfold fil
  rw [List.take_succ_eq_append_getElem hk, List.filter_append]
  simp [hf]
theorem fil_len (f : Pair → Bool) (L : List Pair) (k : Nat) : (fil f L k).length ≤ L.length := by
  unfold fil
  have h1 := List.length_filter_le f (L.take k)
  have h2 := List.length_take_le' k L
  omega
theorem fil_all (f : Pair → Bool) (L : List Pair) : fil f L L.length = L.filter f := by unfold fil; rw [List.take_length]
theorem fil_more {f : Pair → Bool} {L : List Pair} {k : Nat} {p : Pair} (h : L[k]? = some p) (hf : f p = true) : (fil f L k).length < (L.filter f).length ∧ (L.filter f).take (fil f L k).length = fil f L k := by
  have e : L.filter f = fil f L k ++ (L.drop k).filter f := by
    unfold fil
    rw [← List.filter_append, List.take_append_drop]
  obtain ⟨hk, rfl⟩ := List.getElem?_eq_some_iff.1 h
  have e2 : (L.drop k).filter f = L[k] :: (L.drop (k + 1)).filter f := by rw [List.drop_eq_getElem_cons hk, List.filter_cons, if_pos hf]
  refine ⟨?_, by rw [e, List.take_left]⟩
  rw [e, List.length_append, e2, List.length_cons]
  omega
theorem xall_bad {q : Query} {l : List Pair} (h : ¬ checkQ q = 0) : xallQ q l = ([], checkQ q) := by unfold xallQ; rw [if_neg h]
theorem xall_unr {q : Query} {l : List Pair} (h : checkQ q = 0) (h1 : risesP l = false) : xallQ q l = ([], 4) := by unfold xallQ; rw [if_pos h, if_neg (by simp [h1])]
theorem xall_ok {q : Query} {l : List Pair} (h : checkQ q = 0) (h1 : risesP l = true) : xallQ q l = (fil (matchQ q) (dirQ q l) l.length, 0) := by
  unfold xallQ
  rw [if_pos h, if_pos h1]
  have := fil_all (matchQ q) (dirQ q l)
  rw [dirQ_len] at this
  rw [this]
  rfl
theorem check_most {q : Query} (h : checkQ q = 0) : 1 ≤ q.most ∧ q.most ≤ 1000 := by
  unfold checkQ at h
  (repeat' split at h) <;> first | omega | cases h
theorem xall_most {q : Query} {l : List Pair} (h : (xallQ q l).2 = 0) : 1 ≤ q.most ∧ q.most ≤ 1000 := by
  by_cases hc : checkQ q = 0
  · exact check_most hc
  · rw [xall_bad hc] at h; exact absurd h hc
theorem all_most {q : Query} {after : List UInt8} {l : List Pair} (h : (allQ q after l).2 = 0) : 1 ≤ q.most ∧ q.most ≤ 1000 := by
  by_cases hc : checkQ q = 0
  · exact check_most hc
  · rw [all_bad hc] at h; exact absurd h hc
theorem xall_len (q : Query) (l : List Pair) : (xallQ q l).1.length ≤ l.length := by rw [xallQ_eq]; exact allQ_len q [] l
theorem xrun_bad {q : Query} {l : List Pair} (h : ¬ (xallQ q l).2 = 0) : xrunQ q l = ([], [], (xallQ q l).2) := by unfold xrunQ; rw [if_pos h]
theorem xrun_end {q : Query} {l : List Pair} (h : (xallQ q l).2 = 0) (h1 : ((fil (oneQ q) (xallQ q l).1 (xallQ q l).1.length).length : Int) ≤ q.most) : xrunQ q l = (fil (oneQ q) (xallQ q l).1 (xallQ q l).1.length, [], 0) := by
  rw [fil_all] at h1 ⊢
  unfold xrunQ
  rw [if_neg (by omega), if_pos h1]
theorem xrun_more {q : Query} {l : List Pair} {k : Nat} {o x : Pair} (h : (xallQ q l).2 = 0) (ho : (xallQ q l).1[k]? = some o) (h1 : oneQ q o = true) (h2 : ((fil (oneQ q) (xallQ q l).1 k).length : Int) = q.most) (hx : (fil (oneQ q) (xallQ q l).1 k)[(fil (oneQ q) (xallQ q l).1 k).length - 1]? = some x) :
    xrunQ q l = (fil (oneQ q) (xallQ q l).1 k, x.key, 0) := by
  obtain ⟨h3, h4⟩ := fil_more ho h1
  have hm := xall_most h
  have e : q.most.toNat = (fil (oneQ q) (xallQ q l).1 k).length := by omega
  unfold xrunQ
  rw [if_neg (by omega), if_neg (by omega), e, h4]
  have h5 : (List.filter (oneQ q) (xallQ q l).1)[(fil (oneQ q) (xallQ q l).1 k).length - 1]? = some x := by
    rw [← hx, ← h4, List.length_take, Nat.min_eq_left (by omega), List.getElem?_take, if_pos (by omega)]
  rw [h5]
  rfl
theorem run_stop {q : Query} {l : List Pair} (h : (allQ q q.after l).2 ≠ 0 ∨ ((allQ q q.after l).1.length : Int) ≤ q.most) : runQ q l = ((allQ q q.after l).1, [], (allQ q q.after l).2) := by unfold runQ; rw [if_pos h]
theorem run_more {q : Query} {l : List Pair} {x : Pair} (h : (allQ q q.after l).2 = 0) (h1 : ¬ ((allQ q q.after l).1.length : Int) ≤ q.most) (hx : (allQ q q.after l).1[q.most.toNat - 1]? = some x) : runQ q l = ((allQ q q.after l).1.take q.most.toNat, x.key, 0) := by
  unfold runQ
  rw [if_neg (by omega), hx]
  rfl
/-- turned round up to k -/
def half (xs ys : List Pair) (k : Nat) : Prop := ys.length = xs.length ∧ ∀ j, j < xs.length → ys[j]? = if j < k ∨ xs.length - k ≤ j then xs[xs.length - 1 - j]? else xs[j]?
theorem half_start (xs : List Pair) : half xs xs 0 := ⟨rfl, fun j hj => by rw [if_neg (by omega)]⟩
theorem half_end {xs ys : List Pair} {k : Nat} (h : half xs ys k) (hk : xs.length ≤ 2 * k + 1) : ys = xs.reverse := by
  apply List.ext_getElem?
  intro j
  by_cases hj : j < xs.length
  · rw [h.2 j hj, List.getElem?_reverse hj]
    split
    · rfl
    · rw [show xs.length - 1 - j = j from by omega]
  · rw [List.getElem?_eq_none (by rw [h.1]; omega), List.getElem?_eq_none (by rw [List.length_reverse]; omega)]
theorem half_step {xs ys : List Pair} {k : Nat} {a b : Pair} (h : half xs ys k) (hk : 2 * k + 1 < xs.length) (ha : ys[k]? = some a) (hb : ys[xs.length - 1 - k]? = some b) : half xs ((ys.set k b).set (xs.length - 1 - k) a) (k + 1) := by
  refine ⟨by rw [List.length_set, List.length_set, h.1], fun j hj => ?_⟩
  have hl := h.1
  rw [List.getElem?_set, List.length_set, List.getElem?_set]
  rw [h.2 k (by omega), if_neg (by omega)] at ha
  rw [h.2 _ (by omega), if_neg (by omega)] at hb
  by_cases h1 : xs.length - 1 - k = j
  · rw [if_pos h1, if_pos (by omega), if_pos (by omega), ← ha]
    congr 1; omega
  · rw [if_neg h1]
    by_cases h2 : k = j
    · rw [if_pos h2, if_pos (by omega), if_pos (by omega), ← hb, h2]
    · rw [if_neg h2, h.2 j hj]
      by_cases h3 : j < k ∨ xs.length - k ≤ j
      · rw [if_pos h3, if_pos (by omega)]
      · rw [if_neg h3, if_neg (by omega)]
theorem no_m {q : Query} {after : List UInt8} {o : Pair} (h : matchQ q o = false) : (behindQ q after o && matchQ q o) = false := by rw [h, Bool.and_false]
theorem no_f {q : Query} {after : List UInt8} {o : Pair} (h : ¬ after = []) (h1 : q.back = false) (h2 : Op.bytesLess after o.key = false) : (behindQ q after o && matchQ q o) = false := by unfold behindQ; simp [h, h1, h2]
theorem no_b {q : Query} {after : List UInt8} {o : Pair} (h : ¬ after = []) (h1 : q.back = true) (h2 : Op.bytesLess o.key after = false) : (behindQ q after o && matchQ q o) = false := by unfold behindQ; simp [h, h1, h2]
theorem be_e {q : Query} {after : List UInt8} {o : Pair} (h : after = []) : behindQ q after o = true := by unfold behindQ; simp [h]
theorem be_f {q : Query} {after : List UInt8} {o : Pair} (h1 : q.back = false) (h2 : Op.bytesLess after o.key = true) : behindQ q after o = true := by unfold behindQ; simp [h1, h2]
theorem be_b {q : Query} {after : List UInt8} {o : Pair} (h1 : q.back = true) (h2 : Op.bytesLess o.key after = true) : behindQ q after o = true := by unfold behindQ; simp [h1, h2]
theorem one_y {q : Query} {o : Pair} (h : q.after = []) : oneQ q o = true := by unfold oneQ; simp [h]
theorem one_z {q : Query} {o : Pair} (h : ¬ o.key = q.after) (h1 : Op.bytesLess o.key q.after = q.back) : oneQ q o = true := by unfold oneQ; simp [h, h1]
theorem one_e {q : Query} {o : Pair} (h : ¬ q.after = []) (h1 : o.key = q.after) : oneQ q o = false := by unfold oneQ; simp [h, h1]
theorem one_n {q : Query} {o : Pair} (h : ¬ q.after = []) (h0 : ¬ o.key = q.after) (h1 : (Op.bytesLess o.key q.after == q.back) = false) : oneQ q o = false := by
  have h2 : ¬ Op.bytesLess o.key q.after = q.back := by simpa using h1
  unfold oneQ; simp [h, h0, h2]

end Go.Proofs.YtainemoobhkeiaaDoor
