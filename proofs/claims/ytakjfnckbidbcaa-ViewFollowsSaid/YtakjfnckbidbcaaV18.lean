/- Entries of rising stamps, plainly. -/
import Derived.Test.YtakjfnckbidbcaaC7
import Derived.Test.YtakjfnckbidbcaaV16
set_option linter.unusedSimpArgs false
set_option linter.unusedVariables false
namespace Go.Proofs.Ytakjfnckbidbcaa
open Sx

/-! entries of rising stamps -/
def SrtE (L : List Ep) : Prop := L.Pairwise fun a b => ltS a.s b.s
theorem place_cons {α : Type} {κ : α → Stp} {x y : α} {r : List α} : placeG κ x (y :: r) = if ltS (κ x) (κ y) then x :: y :: r else y :: placeG κ x r := by
  have e : leadS κ (κ x) (y :: r) = if ltS (κ x) (κ y) then 0 else leadS κ (κ x) r + 1 := rfl
  unfold placeG
  rw [e]
  split <;> rfl
theorem place_srt {x : Ep} : ∀ {L : List Ep}, SrtE L → (∀ y ∈ L, y.s ≠ x.s) → SrtE (placeG Ep.s x L)
  | [], _, _ => List.pairwise_singleton _ _
  | y :: r, h, hn => by
    have hc := List.pairwise_cons.1 h
    rw [place_cons]
    split
    · rename_i hlt
      refine List.pairwise_cons.2 ⟨fun z hz => ?_, h⟩
      rcases List.mem_cons.1 hz with rfl | hz
      · exact hlt
      · exact ltS_tr hlt (hc.1 z hz)
    · rename_i hlt
      have hyx : ltS y.s x.s := by
        rcases ltS_tot y.s x.s with h1 | h1 | h1
        · exact h1
        · exact absurd h1 (hn y List.mem_cons_self)
        · exact absurd h1 hlt
      refine List.pairwise_cons.2 ⟨fun z hz => ?_, place_srt hc.2 fun z hz => hn z (List.mem_cons_of_mem _ hz)⟩
      rcases List.mem_cons.1 ((place_perm Ep.s x r).mem_iff.1 hz) with rfl | hz
      · exact hyx
      · exact hc.1 z hz
theorem flt_zero {l : List Ep} {i : Nat} {x : Ep} (hx : l[i]? = some x) (h : fltE l i = 0) : emay x.t x.s x.ws = true ∧ (∀ y ∈ l.take i, y.t ≠ x.t) ∧ (∀ y ∈ l.take i, y.s ≠ x.s) := by
  unfold fltE at h
  rw [hx] at h
  dsimp only at h
  split at h
  · cases h
  rename_i h1
  split at h
  · cases h
  rename_i h2
  split at h
  · cases h
  rename_i h3
  exact ⟨by simpa using h1, fun y hy h9 => h2 ⟨y, hy, h9⟩, fun y hy h9 => h3 ⟨y, hy, h9⟩⟩
theorem ord_srt {l : List Ep} (h : ∀ i, i < l.length → fltE l i = 0) : SrtE (ordL Ep.s l) := by
  have key : ∀ i, i ≤ l.length → SrtE (ordL Ep.s (l.take i)) := by
    intro i
    induction i with
    | zero => intro _; rw [List.take_zero]; exact List.Pairwise.nil
    | succ i ih =>
      intro hi
      obtain ⟨x, hx⟩ : ∃ x, l[i]? = some x := ⟨_, List.getElem?_eq_getElem hi⟩
      rw [take_app hx, ord_snoc]
      exact place_srt (ih (by omega)) fun y hy => (flt_zero hx (h i hi)).2.2 y ((ord_perm Ep.s _).mem_iff.1 hy)
  have := key l.length (Nat.le_refl _)
  rwa [List.take_length] at this
theorem place_end {α : Type} {κ : α → Stp} {x : α} : ∀ {L : List α}, (∀ y ∈ L, ltS (κ y) (κ x)) → placeG κ x L = L ++ [x]
  | [], _ => rfl
  | y :: r, h => by
    rw [place_cons, if_neg (ltS_as (h y List.mem_cons_self)), place_end fun z hz => h z (List.mem_cons_of_mem _ hz)]
    rfl
theorem ord_self {l : List Ep} (h : SrtE l) : ordL Ep.s l = l := by
  have key : ∀ i, i ≤ l.length → ordL Ep.s (l.take i) = l.take i := by
    intro i
    induction i with
    | zero => intro _; rw [List.take_zero]; rfl
    | succ i ih =>
      intro hi
      obtain ⟨x, hx⟩ : ∃ x, l[i]? = some x := ⟨_, List.getElem?_eq_getElem hi⟩
      rw [take_app hx, ord_snoc, ih (by omega)]
      refine place_end fun y hy => ?_
      obtain ⟨t, ht⟩ := List.mem_iff_getElem?.1 hy
      rw [List.getElem?_take] at ht
      split at ht
      · rename_i h1
        obtain ⟨g1, rfl⟩ := List.getElem?_eq_some_iff.1 ht
        obtain ⟨g2, rfl⟩ := List.getElem?_eq_some_iff.1 hx
        exact List.pairwise_iff_getElem.1 h t i g1 g2 h1
      · cases ht
  have := key l.length (Nat.le_refl _)
  rwa [List.take_length] at this
theorem upto_take {l : List Ep} (h : SrtE l) {i : Nat} {o : Ep} (ho : l[i]? = some o) : l.filter (fun x => upto o.s false x.s) = l.take (i + 1) := by
  obtain ⟨g2, rfl⟩ := List.getElem?_eq_some_iff.1 ho
  have e : l.filter (fun x => upto l[i].s false x.s) = ((l.take (i + 1)) ++ l.drop (i + 1)).filter (fun x => upto l[i].s false x.s) := by rw [List.take_append_drop]
  rw [e, List.filter_append, List.filter_eq_self.2, List.filter_eq_nil_iff.2, List.append_nil]
  · intro x hx
    obtain ⟨t, ht⟩ := List.mem_iff_getElem?.1 hx
    rw [List.getElem?_drop] at ht
    obtain ⟨g1, rfl⟩ := List.getElem?_eq_some_iff.1 ht
    have h1 := List.pairwise_iff_getElem.1 h i (i + 1 + t) g2 g1 (by omega)
    have h2 := (cmp_gt l[i + 1 + t].s l[i].s).2 h1
    unfold upto
    simp
    omega
  · intro x hx
    obtain ⟨t, ht⟩ := List.mem_iff_getElem?.1 hx
    rw [List.getElem?_take] at ht
    split at ht
    · rename_i h1
      obtain ⟨g1, rfl⟩ := List.getElem?_eq_some_iff.1 ht
      unfold upto
      rcases Nat.lt_or_ge t i with h3 | h3
      · have h4 := List.pairwise_iff_getElem.1 h t i g1 g2 h3
        have h5 := (cmp_lt l[t].s l[i].s).2 h4
        simp [h5]
      · obtain rfl : t = i := by omega
        have h5 := (cmp_eq l[t].s l[t].s).2 rfl
        simp [h5]
    · cases ht
structure FolE (L : List En) : Prop where
  srt : L.Pairwise fun a b => ltS a.s b.s
  may : ∀ x ∈ L, emay x.t x.s x.ws = true
theorem fol_of {l L : List En} (h : (ordE (l.map En.p)).2 = 0) (hL : L.map En.p = ordL Ep.s (l.map En.p)) : FolE L ∧ L.length = l.length ∧ sumN wl L ≤ 16 * l.length := by
  have hz := ordE_zero h
  have hs := ord_srt hz
  rw [← hL] at hs
  have hp : (L.map En.p).Perm (l.map En.p) := by rw [hL]; exact ord_perm _ _
  have hlen : L.length = l.length := by have := hp.length_eq; simpa using this
  have hmay : ∀ x ∈ L, emay x.t x.s x.ws = true := fun x hx => by
    have h1 : x.p ∈ l.map En.p := hp.mem_iff.1 (List.mem_map_of_mem hx)
    obtain ⟨i, hi⟩ := List.mem_iff_getElem?.1 h1
    exact (flt_zero hi (hz i (List.getElem?_eq_some_iff.1 hi).1)).1
  refine ⟨⟨?_, hmay⟩, hlen, ?_⟩
  · have := List.pairwise_map.1 (show (L.map En.p).Pairwise fun a b => ltS a.s b.s from hs)
    exact this
  · have h1 : sumN wl L ≤ sumN (fun _ => 16) L := sumN_le fun x hx => by
      have h2 := hmay x hx
      unfold emay at h2
      simp only [Bool.and_eq_true] at h2
      exact (okW_el h2.2).1
    have h3 : ∀ M : List En, sumN (fun _ => 16) M = 16 * M.length := by
      intro M
      induction M with
      | nil => rfl
      | cons x M ih => simp only [sumN, ih, List.length_cons]; omega
    rw [h3, hlen] at h1
    exact h1
theorem fol_makes {L : List En} (h : FolE L) {i : Nat} {o : En} (ho : L[i]? = some o) : makesF (L.map En.p) o.s false = (L.take (i + 1)).foldl mkE [] := by
  have hs : SrtE (L.map En.p) := List.pairwise_map.2 h.srt
  have hop : (L.map En.p)[i]? = some o.p := by rw [List.getElem?_map, ho]; rfl
  unfold makesF
  rw [show o.s = o.p.s from rfl, upto_take hs hop, ord_self (hs.sublist (List.take_sublist _ _)), ← List.map_take, List.foldl_map]
  rfl
theorem putW_fold {l : List Wt} (h : ∀ x ∈ l, 1 ≤ x.key.length ∧ x.key.length ≤ 24 ∧ mayV x.v = true) (V : List Wt) : l.foldl putW V = l.foldl putV V := by
  induction l generalizing V with
  | nil => rfl
  | cons x l ih =>
    have hx := h x List.mem_cons_self
    rw [List.foldl_cons, List.foldl_cons, ih fun y hy => h y (List.mem_cons_of_mem _ hy)]
    congr 1
    unfold putW
    rw [if_pos ⟨by unfold keyB; simp [hx.1, hx.2.1], hx.2.2⟩]
theorem emay_ok {t : Tn} {s : Stp} {l : List Wt} (h : emay t s l = true) : okW l 16 = true ∧ mayS s = true ∧ s ≠ sz0 := by
  unfold emay at h
  simp only [Bool.and_eq_true, Bool.not_eq_true', decide_eq_false_iff_not] at h
  exact ⟨h.2, h.1.1.2, h.1.2⟩
theorem lt_zero {s : Stp} (h : mayS s = true) (hz : s ≠ sz0) : ltS sz0 s := by
  obtain ⟨a, b, c⟩ := s
  unfold mayS at h
  have h := of_decide_eq_true h
  unfold ltS sz0
  simp only [sz0, ne_eq, Stp.mk.injEq] at hz h ⊢
  omega
theorem fol_step {L : List En} (h : FolE L) {i : Nat} {o : En} (ho : L[i]? = some o) {V : List Wt} {hi : Stp} (hV : V = (L.take i).foldl mkE []) (hlt : ltS hi o.s) :
    appE hi o.t o.s o.ws = 0 ∧ o.ws.foldl putV V = (L.take (i + 1)).foldl mkE [] := by
  have hm := h.may o (List.mem_of_getElem? ho)
  refine ⟨by rw [appE_form, if_neg (by rw [hm]; decide), if_pos hlt], ?_⟩
  rw [take_app ho, List.foldl_append, ← hV]
  exact (putW_fold (okW_el (emay_ok hm).1).2 V).symm
theorem fol_next {L : List En} (h : FolE L) {i : Nat} {o : En} (ho : L[i]? = some o) : ∀ x, L[i + 1]? = some x → ltS o.s x.s := fun x hx => by
  obtain ⟨g1, rfl⟩ := List.getElem?_eq_some_iff.1 ho
  obtain ⟨g2, rfl⟩ := List.getElem?_eq_some_iff.1 hx
  exact List.pairwise_iff_getElem.1 h.srt i (i + 1) g1 g2 (by omega)
theorem fol_first {L : List En} (h : FolE L) : ∀ x, L[0]? = some x → ltS sz0 x.s := fun x hx => by
  have hm := emay_ok (h.may x (List.mem_of_getElem? hx))
  exact lt_zero hm.2.1 hm.2.2

end Go.Proofs.Ytakjfnckbidbcaa
