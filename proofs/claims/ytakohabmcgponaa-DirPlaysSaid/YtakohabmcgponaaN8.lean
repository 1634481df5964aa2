/- The document's directory, plainly. -/
import Derived.Test.YtakohabmcgponaaN7
set_option linter.unusedSimpArgs false
set_option linter.unusedVariables false
namespace Go.Proofs.Ytakohabmcgponaa
open Sx

theorem put_split {r : Rg} : ∀ {L : List Rg} {i : Nat}, (∀ y ∈ L, y.id ≠ r.id) → (∀ (t : Nat) q, t < i → L[t]? = some q → q.id < r.id) → (∀ q, L[i]? = some q → ¬ q.id < r.id) → i ≤ L.length → insT Rg.key r L = L.take i ++ r :: L.drop i
  | [], i, _, _, _, hi => by
    have : i = 0 := by simpa using hi
    subst this
    rfl
  | y :: t, 0, hn, _, h2, _ => by
    have h3 := h2 y rfl
    have h4 := hn y List.mem_cons_self
    unfold insT
    rw [if_pos (by simp [Rg.key, Lit.before]; omega)]
    rfl
  | y :: t, i + 1, hn, h1, h2, hi => by
    have h3 := h1 0 y (by omega) rfl
    unfold insT
    rw [if_neg (by simp [Rg.key, Lit.before]; omega), put_split (L := t) (i := i) (fun z hz => hn z (List.mem_cons_of_mem _ hz)) (fun k q hk hq => h1 (k + 1) q (by omega) hq) (fun q hq => h2 q hq) (by simpa using hi)]
    rfl
theorem pt_ins {r : Rg} {L : List Rg} (hn : ∀ y ∈ L, y.id ≠ r.id) : pt r L = insT Rg.key r L := by
  unfold pt putT
  congr 1
  rw [List.filter_eq_self]
  intro y hy
  rw [same_iff]
  simp [hn y hy]
theorem srt_map {L : List Rg} : Srt L ↔ (L.map Rg.id).Pairwise (· < ·) := List.pairwise_map.symm
theorem set_ids {D : List Rg} {k : Nat} {o r : Rg} (hk : D[k]? = some o) (hid : o.id = r.id) : (D.set k r).map Rg.id = D.map Rg.id := by
  rw [List.map_set]
  apply List.ext_getElem?
  intro i
  rw [List.getElem?_set]
  split
  · rename_i h
    subst h
    have h1 := (List.getElem?_eq_some_iff.1 hk).1
    rw [if_pos (by simpa using h1), List.getElem?_map, hk, ← hid]
    rfl
  · rfl
theorem set_srt {D : List Rg} {k : Nat} {o r : Rg} (hs : Srt D) (hk : D[k]? = some o) (hid : o.id = r.id) : Srt (D.set k r) := by
  rw [srt_map, set_ids hk hid, ← srt_map]
  exact hs
theorem pt_setS {D : List Rg} {k : Nat} {o r : Rg} (hs : Srt D) (hk : D[k]? = some o) (hid : o.id = r.id) : pt r D = D.set k r := by
  have hS := set_srt hs hk hid
  have hlt := (List.getElem?_eq_some_iff.1 hk).1
  refine srt_ext (pt_srt r hs) hS fun i => ?_
  rw [gt_pt]
  by_cases hi : r.id = i
  · rw [if_pos hi, ← hi]
    exact (gt_srt hS (k := k) (by rw [List.getElem?_set, if_pos rfl, if_pos hlt])).symm
  · rw [if_neg hi]
    cases hg : gt D i with
    | some q =>
      obtain ⟨n, hn⟩ := List.mem_iff_getElem?.1 (gt_mem hg)
      have hq := gt_id hg
      have hne : k ≠ n := fun e => by subst e; rw [hk] at hn; cases hn; omega
      have := gt_srt hS (k := n) (o := q) (by rw [List.getElem?_set, if_neg hne]; exact hn)
      rw [hq] at this
      exact this.symm
    | none =>
      cases hg2 : gt (D.set k r) i with
      | none => rfl
      | some q =>
        exfalso
        have hq := gt_id hg2
        rcases mem_set (gt_mem hg2) with h | h
        · obtain ⟨n, hn⟩ := List.mem_iff_getElem?.1 h
          have := gt_srt hs hn
          rw [hq, hg] at this
          cases this
        · subst h; exact hi hq
theorem gt_no_of {D : List Rg} {i : Int} (h : ∀ (t : Nat) q, t < D.length → D[t]? = some q → q.id ≠ i) : gt D i = none := by
  cases hg : gt D i with
  | none => rfl
  | some q =>
    exfalso
    obtain ⟨n, hn⟩ := List.mem_iff_getElem?.1 (gt_mem hg)
    exact h n q (List.getElem?_eq_some_iff.1 hn).1 hn (gt_id hg)
theorem gt_no_mem {D : List Rg} {i : Int} (hs : Srt D) (h : gt D i = none) : ∀ y ∈ D, y.id ≠ i := fun y hy e => by
  obtain ⟨n, hn⟩ := List.mem_iff_getElem?.1 hy
  have := gt_srt hs hn
  rw [e, h] at this
  cases this
/-! the last one in which a place lies -/
def lastF (D : List Rg) (x : Nat) : Option Rg := (D.filter fun r => inF r x).getLast?
theorem last_snoc {D : List Rg} {k x : Nat} {o : Rg} (h : D[k]? = some o) : lastF (D.take (k + 1)) x = if inF o x = true then some o else lastF (D.take k) x := by
  obtain ⟨hk, rfl⟩ := List.getElem?_eq_some_iff.1 h
  unfold lastF
  rw [List.take_succ_eq_append_getElem hk, List.filter_append]
  by_cases hi : inF D[k] x = true
  · rw [if_pos hi, List.filter_cons_of_pos (by exact hi)]
    simp
  · rw [if_neg hi, List.filter_cons_of_neg (by exact hi)]
    simp
def BD (D : List Rg) : Prop := ∀ r ∈ D, 1 ≤ r.id ∧ r.id ≤ 12
theorem route_last {D : List Rg} (hs : Srt D) (hb : BD D) (x : Nat) : routeF D x 12 = lastF D x := by
  unfold lastF
  cases hl : (D.filter fun r => inF r x).getLast? with
  | none =>
    have he := List.getLast?_eq_none_iff.1 hl
    refine route_no 12 fun i q hq => ?_
    have := List.filter_eq_nil_iff.1 he q (gt_mem hq)
    simpa using this
  | some r =>
    obtain ⟨init, he⟩ := List.getLast?_eq_some_iff.1 hl
    have hrm : r ∈ D.filter fun r => inF r x := by rw [he]; simp
    obtain ⟨hrD, hri⟩ := List.mem_filter.1 hrm
    obtain ⟨n, hn⟩ := List.mem_iff_getElem?.1 hrD
    obtain ⟨b1, b2⟩ := hb r hrD
    refine route_spec (gt_srt hs hn) hri b1 12 b2 fun i q h1 h2 hq => ?_
    cases hqi : inF q x with
    | false => rfl
    | true =>
      exfalso
      have hqm : q ∈ D.filter fun r => inF r x := List.mem_filter.2 ⟨gt_mem hq, hqi⟩
      have hsf : Srt (D.filter fun r => inF r x) := List.Pairwise.filter _ hs
      rw [he] at hqm hsf
      have hid := gt_id hq
      rcases List.mem_append.1 hqm with h | h
      · have := (List.pairwise_append.1 hsf).2.2 q h r (by simp)
        omega
      · simp at h; subst h; omega
theorem routeL_last {D : List Rg} (hs : Srt D) (hb : BD D) {k : List UInt8} (hk : keyF k = true) : routeL D k = lastF D (ofF k) := by
  unfold routeL; rw [if_pos hk, route_last hs hb]
theorem learn_all {Q : Rg → Prop} (hQ : ∀ r, mayR r = true → Q r) : ∀ {l : List Rg} {s : List Rg × Nat}, (∀ r ∈ s.1, Q r) → ∀ r ∈ (l.foldl learn1 s).1, Q r
  | [], s, h => h
  | x :: l, s, h => by
    refine learn_all hQ (l := l) ?_
    unfold learn1
    split
    · rename_i hm
      have hp : ∀ r ∈ pt x s.1, Q r := fun r hr => by
        rcases ins_mem hr with rfl | hr
        · exact hQ _ hm
        · exact h r (List.mem_filter.1 hr).1
      split
      · split
        · exact h
        · exact hp
      · exact hp
    · exact h
theorem learn_bd {D : List Rg} (l : List Rg) (h : BD D) : BD (learnR D l).1 := learn_all (fun r hr => by obtain ⟨a, b, -⟩ := may_parts hr; exact ⟨a, b⟩) h
theorem few12 {D : List Rg} (hs : Srt D) (hb : BD D) : D.length ≤ 12 := by
  have h1 : (D.map Rg.id).Nodup := (srt_map.1 hs).imp fun {a b} h => by omega
  have h2 : ∀ i ∈ D.map Rg.id, i ∈ ([1, 2, 3, 4, 5, 6, 7, 8, 9, 10, 11, 12] : List Int) := fun i hi => by
    obtain ⟨r, hr, rfl⟩ := List.mem_map.1 hi
    have := hb r hr
    simp only [List.mem_cons, List.not_mem_nil, or_false]
    omega
  have := List.Nodup.length_le_of_subset h1 h2
  simpa using this
theorem learn_sub : ∀ {l : List Rg} {s : List Rg × Nat} {r : Rg}, r ∈ (l.foldl learn1 s).1 → r ∈ s.1 ∨ r ∈ l
  | [], s, r, h => .inl h
  | x :: l, s, r, h => by
    rcases learn_sub (l := l) h with h | h
    · unfold learn1 at h
      have hp : r ∈ pt x s.1 → r ∈ s.1 ∨ r ∈ x :: l := fun h => by
        rcases ins_mem h with rfl | h
        · exact .inr List.mem_cons_self
        · exact .inl (List.mem_filter.1 h).1
      split at h
      · split at h
        · split at h
          · exact .inl h
          · exact hp h
        · exact hp h
      · exact .inl h
    · exact .inr (List.mem_cons_of_mem _ h)
theorem badA_zero {L : List Rg} : ∀ {n k : Nat}, badA L n = 0 → k < n → badR L k = 0
  | 0, k, _, h => by omega
  | n + 1, k, h, hk => by
    unfold badA at h
    split at h
    · rename_i h0
      rcases Nat.lt_or_ge k n with h1 | h1
      · exact badA_zero h0 h1
      · obtain rfl : k = n := by omega
        exact h
    · rename_i h0; exact absurd h h0
theorem badA_nodup {L : List Rg} {n t : Nat} {r q : Rg} (hb : badA L L.length = 0) (htn : t < n) (hr : L[n]? = some r) (hq : L[t]? = some q) : q.id ≠ r.id := fun e => by
  have h1 := badA_zero hb (List.getElem?_eq_some_iff.1 hr).1
  have hm := badA_may hb n r (List.getElem?_eq_some_iff.1 hr).1 hr
  rw [badR_dup hr hm hq htn e] at h1
  cases h1
/-- a cover, learnt piece by piece -/
theorem learn_piece {l : List Rg} {i : Nat} {r : Rg} (hb : badA l l.length = 0) (hi : l[i]? = some r) : (learnR [] (l.take (i + 1))).1 = pt r (learnR [] (l.take i)).1 ∧ gt (learnR [] (l.take i)).1 r.id = none := by
  have hm := badA_may hb i r (List.getElem?_eq_some_iff.1 hi).1 hi
  have hn : gt (learnR [] (l.take i)).1 r.id = none := by
    cases hg : gt (learnR [] (l.take i)).1 r.id with
    | none => rfl
    | some q =>
      exfalso
      rcases learn_sub (gt_mem hg) with h | h
      · simp at h
      · obtain ⟨t, ht⟩ := List.mem_iff_getElem?.1 h
        rw [List.getElem?_take] at ht
        split at ht
        · rename_i hti
          have := badA_nodup hb hti hi ht
          exact this (gt_id hg)
        · cases ht
  refine ⟨?_, hn⟩
  unfold learnR
  rw [learn_snoc hi]
  unfold learnR at hn
  generalize (l.take i).foldl learn1 ([], 0) = s at hn ⊢
  obtain ⟨A, n⟩ := s
  exact congrArg (fun p => p.1) (learn_new (c := n) hm hn)
/-- the search for a range's id -/
def atS (D : List Rg) (i : Int) (k : Nat) (z : Int) : Prop := (z = -1 ∧ ∀ (t : Nat) q, t < k → D[t]? = some q → q.id ≠ i) ∨ ∃ (j : Nat) (q : Rg), z = (j : Int) ∧ D[j]? = some q ∧ q.id = i
theorem atS_no {D : List Rg} {i : Int} {k : Nat} {z : Int} {o : Rg} (h : atS D i k z) (ho : D[k]? = some o) (hn : o.id ≠ i) : atS D i (k + 1) z := by
  rcases h with ⟨h1, h2⟩ | h
  · exact .inl ⟨h1, nd_snoc h2 ho hn⟩
  · exact .inr h
structure Ml where
  ad : Option Addr
  c : Nat
  l : List Rg
def Ml.cells (x : Ml) : List Value := [.slice x.ad x.l.length x.c]
theorem Ml.len (x : Ml) : x.cells.length = 1 := rfl
def spoilt : List UInt8 := [115, 112, 111, 105, 108, 116]
theorem set_kc {ks : List (List UInt8)} {j : Nat} (hj : j < ks.length) : (ks.flatMap kc).set j (.string ⟨spoilt.toArray⟩) = (ks.set j spoilt).flatMap kc := by
  rw [flat_set kc_len spoilt hj, List.set_eq_take_append_cons_drop, if_pos (by rw [flat_len kc_len]; omega), Nat.mul_one, List.append_assoc]
  rfl
def spoilG (g : Gr) (j : Nat) : Gr := ⟨g.rg, g.ad, g.c, g.ks.set j spoilt⟩
theorem spoil_cells {L : List Gr} {q j : Nat} {g : Gr} (hg : L[q]? = some g) : (L.set q (spoilG g j)).flatMap Gr.cells = L.flatMap Gr.cells := by
  have h : (L.set q (spoilG g j)).map Gr.cells = L.map Gr.cells := by
    rw [List.map_set]
    apply List.ext_getElem?
    intro i
    rw [List.getElem?_set]
    split
    · rename_i h
      subst h
      have h1 := (List.getElem?_eq_some_iff.1 hg).1
      rw [if_pos (by simpa using h1), List.getElem?_map, hg]
      show some (spoilG g j).cells = some g.cells
      unfold spoilG Gr.cells
      rw [List.length_set]
    · rfl
  rw [List.flatMap_def, List.flatMap_def, h]
def FS (w : World) (L : List Gr) : Prop := ∀ g ∈ L, Ss w g.ad kc 1 g.ks
theorem FS.ext_no {w w' : World} {L : List Gr} (h : FS w L) (x : Ext No w w') : FS w' L := fun g hg => (h g hg).ext_no x
theorem FS.of {w : World} {L : List Gr} (h : Fam 9 1 Gr.rw w L) : FS w L := fun g hg => Row.ssn (xs := g.ks) (enc := kc) (h.row g hg) rfl
theorem pure_eq (a b : Gr) : decide (a.pure = b.pure) = (decide (a.rg = b.rg) && decide (a.ks = b.ks)) := by
  unfold Gr.pure
  rw [Bool.eq_iff_iff]
  simp
theorem check_bad {l : List Rg} (h : checkF l = 0) : badA l l.length = 0 ∧ l.length ≤ 12 := by
  unfold checkF at h
  split at h
  · omega
  · split at h
    · omega
    · split at h
      · rename_i h1 h2 h3; exact absurd h h3
      · rename_i h1 h2 h3
        exact ⟨Classical.byContradiction h3, by omega⟩
def specE (D E : List Rg) (l : List (List UInt8)) : List (Rg × List (List UInt8)) := E.filterMap fun r => if fil D r.id l = [] then none else some (r, fil D r.id l)
theorem specE_no {D E : List Rg} {l : List (List UInt8)} {q : Nat} {r : Rg} (h : E[q]? = some r) (hf : fil D r.id l = []) : specE D (E.take (q + 1)) l = specE D (E.take q) l := by
  obtain ⟨hk, rfl⟩ := List.getElem?_eq_some_iff.1 h
  unfold specE
  rw [List.take_succ_eq_append_getElem hk, List.filterMap_append, List.filterMap_cons, if_pos hf]
  simp
theorem specE_yes {D E : List Rg} {l : List (List UInt8)} {q : Nat} {r : Rg} (h : E[q]? = some r) (hf : fil D r.id l ≠ []) : specE D (E.take (q + 1)) l = specE D (E.take q) l ++ [(r, fil D r.id l)] := by
  obtain ⟨hk, rfl⟩ := List.getElem?_eq_some_iff.1 h
  unfold specE
  rw [List.take_succ_eq_append_getElem hk, List.filterMap_append, List.filterMap_cons, if_neg hf]
  simp
theorem grp_bounds {D : List Rg} {l : List (List UInt8)} {L : List Gr} (h : L.map Gr.pure = (if errG D l = 0 then specG D l else [])) : L.length ≤ D.length ∧ ∀ g ∈ L, g.ks.length ≤ l.length := by
  by_cases he : errG D l = 0
  · rw [if_pos he] at h
    refine ⟨?_, fun g hg => ?_⟩
    · have h8 := congrArg List.length h
      rw [List.length_map] at h8
      have h5 : (specG D l).length ≤ D.length := List.length_filterMap_le _ _
      omega
    · obtain ⟨n, hn⟩ := List.mem_iff_getElem?.1 hg
      rw [(spec_at h hn).2.1]
      exact fil_len _ _ _
  · rw [if_neg he] at h
    have := List.map_eq_nil_iff.1 h
    subst this
    simp
theorem spoil_bound {L : List Gr} {q j n : Nat} {g : Gr} (h : ∀ g ∈ L, g.ks.length ≤ n) (hg : L[q]? = some g) : ∀ x ∈ L.set q (spoilG g j), x.ks.length ≤ n := fun x hx => by
  rcases List.mem_or_eq_of_mem_set hx with hx | rfl
  · exact h x hx
  · show (g.ks.set j spoilt).length ≤ n
    rw [List.length_set]
    exact h g (List.mem_of_getElem? hg)
theorem spoil_row {w : World} {g : Gr} {j : Nat} (hj : j < g.ks.length) (hr : Row w 9 1 (Gr.rw g).ad (Gr.rw g).n (Gr.rw g).c ((Gr.rw g).xs.set j (.string ⟨spoilt.toArray⟩))) : Row w 9 1 (Gr.rw (spoilG g j)).ad (Gr.rw (spoilG g j)).n (Gr.rw (spoilG g j)).c (Gr.rw (spoilG g j)).xs := by
  have e1 : (Gr.rw (spoilG g j)).n = (Gr.rw g).n := List.length_set
  have e2 : (Gr.rw (spoilG g j)).xs = (Gr.rw g).xs.set j (.string ⟨spoilt.toArray⟩) := (set_kc hj).symm
  rw [e1, e2]
  exact hr

end Go.Proofs.Ytakohabmcgponaa
