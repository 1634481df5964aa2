/- Entries of rising stamps, whatever order they came in, plainly. -/
import Derived.Test.YtpggijfpkgglmaaA7
set_option linter.unusedSimpArgs false
set_option linter.unusedVariables false
namespace Go.Proofs.Ytpggijfpkgglmaa
open Sx

/-! entries of rising stamps -/
theorem okW_el {l : List Wt} {m : Nat} (h : okW l m = true) : l.length ≤ m ∧ ∀ x ∈ l, 1 ≤ x.key.length ∧ x.key.length ≤ 24 ∧ mayV x.v = true := by
  unfold okW at h
  simp only [Bool.and_eq_true, decide_eq_true_eq] at h
  refine ⟨h.1, fun x hx => ?_⟩
  obtain ⟨i, hi⟩ := List.mem_iff_getElem?.1 hx
  have h1 := allOk_iff.1 h.2 i (List.getElem?_eq_some_iff.1 hi).1
  unfold wbad at h1
  rw [hi] at h1
  simp only [Bool.or_eq_false_iff, Bool.not_eq_false'] at h1
  have h2 := h1.1
  unfold kbad at h2
  rw [List.getElem?_map, hi] at h2
  simp only [Option.map_some, Bool.or_eq_false_iff, Bool.not_eq_false'] at h2
  have h3 := h2.1
  unfold keyB at h3
  simp only [Bool.and_eq_true, decide_eq_true_eq] at h3
  exact ⟨h3.1, h3.2, h1.2⟩
def SrtE (L : List Ep) : Prop := L.Pairwise fun a b => ltS a.s b.s
theorem place_cons {α : Type} {κ : α → Stp} {x y : α} {r : List α} : placeG κ x (y :: r) = if ltS (κ x) (κ y) then x :: y :: r else y :: placeG κ x r := by
  have e : leadS κ (κ x) (y :: r) = if ltS (κ x) (κ y) then 0 else leadS κ (κ x) r + 1 := rfl
  unfold placeG
  rw [e]
  split <;> rfl
theorem place_srt {x : Ep} : ∀ {L : List Ep}, SrtE L → (∀ y ∈ L, y.s ≠ x.s) → SrtE (placeG Ep.s x L)
  | [], _, _ => List.pairwise_singleton _ _
  | y :: r, h, hn => by
    have hc := List.pairwise_cons.1 h
    rw [place_cons]
    split
    · rename_i hlt
      refine List.pairwise_cons.2 ⟨fun z hz => ?_, h⟩
      rcases List.mem_cons.1 hz with rfl | hz
      · exact hlt
      · exact ltS_tr hlt (hc.1 z hz)
    · rename_i hlt
      have hyx : ltS y.s x.s := by
        rcases ltS_tot y.s x.s with h1 | h1 | h1
        · exact h1
        · exact absurd h1 (hn y List.mem_cons_self)
        · exact absurd h1 hlt
      refine List.pairwise_cons.2 ⟨fun z hz => ?_, place_srt hc.2 fun z hz => hn z (List.mem_cons_of_mem _ hz)⟩
      rcases List.mem_cons.1 ((place_perm Ep.s x r).mem_iff.1 hz) with rfl | hz
      · exact hyx
      · exact hc.1 z hz
theorem flt_zero {l : List Ep} {i : Nat} {x : Ep} (hx : l[i]? = some x) (h : fltE l i = 0) : emay x.t x.s x.ws = true ∧ (∀ y ∈ l.take i, y.t ≠ x.t) ∧ (∀ y ∈ l.take i, y.s ≠ x.s) := by
  unfold fltE at h
  rw [hx] at h
  dsimp only at h
  split at h
  · cases h
  rename_i h1
  split at h
  · cases h
  rename_i h2
  split at h
  · cases h
  rename_i h3
  exact ⟨by simpa using h1, fun y hy h9 => h2 ⟨y, hy, h9⟩, fun y hy h9 => h3 ⟨y, hy, h9⟩⟩
theorem ord_srt {l : List Ep} (h : ∀ i, i < l.length → fltE l i = 0) : SrtE (ordL Ep.s l) := by
  have key : ∀ i, i ≤ l.length → SrtE (ordL Ep.s (l.take i)) := by
    intro i
    induction i with
    | zero => intro _; rw [List.take_zero]; exact List.Pairwise.nil
    | succ i ih =>
      intro hi
      obtain ⟨x, hx⟩ : ∃ x, l[i]? = some x := ⟨_, List.getElem?_eq_getElem hi⟩
      rw [take_app hx, ord_snoc]
      exact place_srt (ih (by omega)) fun y hy => (flt_zero hx (h i hi)).2.2 y ((ord_perm Ep.s _).mem_iff.1 hy)
  have := key l.length (Nat.le_refl _)
  rwa [List.take_length] at this
theorem place_end {α : Type} {κ : α → Stp} {x : α} : ∀ {L : List α}, (∀ y ∈ L, ltS (κ y) (κ x)) → placeG κ x L = L ++ [x]
  | [], _ => rfl
  | y :: r, h => by
    rw [place_cons, if_neg (ltS_as (h y List.mem_cons_self)), place_end fun z hz => h z (List.mem_cons_of_mem _ hz)]
    rfl
theorem ord_self {l : List Ep} (h : SrtE l) : ordL Ep.s l = l := by
  have key : ∀ i, i ≤ l.length → ordL Ep.s (l.take i) = l.take i := by
    intro i
    induction i with
    | zero => intro _; rw [List.take_zero]; rfl
    | succ i ih =>
      intro hi
      obtain ⟨x, hx⟩ : ∃ x, l[i]? = some x := ⟨_, List.getElem?_eq_getElem hi⟩
      rw [take_app hx, ord_snoc, ih (by omega)]
      refine place_end fun y hy => ?_
      obtain ⟨t, ht⟩ := List.mem_iff_getElem?.1 hy
      rw [List.getElem?_take] at ht
      split at ht
      · rename_i h1
        obtain ⟨g1, rfl⟩ := List.getElem?_eq_some_iff.1 ht
        obtain ⟨g2, rfl⟩ := List.getElem?_eq_some_iff.1 hx
        exact List.pairwise_iff_getElem.1 h t i g1 g2 h1
      · cases ht
  have := key l.length (Nat.le_refl _)
  rwa [List.take_length] at this
theorem upto_take {l : List Ep} (h : SrtE l) {i : Nat} {o : Ep} (ho : l[i]? = some o) : l.filter (fun x => upto o.s false x.s) = l.take (i + 1) := by
  obtain ⟨g2, rfl⟩ := List.getElem?_eq_some_iff.1 ho
  have e : l.filter (fun x => upto l[i].s false x.s) = ((l.take (i + 1)) ++ l.drop (i + 1)).filter (fun x => upto l[i].s false x.s) := by rw [List.take_append_drop]
  rw [e, List.filter_append, List.filter_eq_self.2, List.filter_eq_nil_iff.2, List.append_nil]
  · intro x hx
    obtain ⟨t, ht⟩ := List.mem_iff_getElem?.1 hx
    rw [List.getElem?_drop] at ht
    obtain ⟨g1, rfl⟩ := List.getElem?_eq_some_iff.1 ht
    have h1 := List.pairwise_iff_getElem.1 h i (i + 1 + t) g2 g1 (by omega)
    have h2 := (cmp_gt l[i + 1 + t].s l[i].s).2 h1
    unfold upto
    simp
    omega
  · intro x hx
    obtain ⟨t, ht⟩ := List.mem_iff_getElem?.1 hx
    rw [List.getElem?_take] at ht
    split at ht
    · rename_i h1
      obtain ⟨g1, rfl⟩ := List.getElem?_eq_some_iff.1 ht
      unfold upto
      rcases Nat.lt_or_ge t i with h3 | h3
      · have h4 := List.pairwise_iff_getElem.1 h t i g1 g2 h3
        have h5 := (cmp_lt l[t].s l[i].s).2 h4
        simp [h5]
      · obtain rfl : t = i := by omega
        have h5 := (cmp_eq l[t].s l[t].s).2 rfl
        simp [h5]
    · cases ht
theorem putW_fold {l : List Wt} (h : ∀ x ∈ l, 1 ≤ x.key.length ∧ x.key.length ≤ 24 ∧ mayV x.v = true) (V : List Wt) : l.foldl putW V = l.foldl putV V := by
  induction l generalizing V with
  | nil => rfl
  | cons x l ih =>
    have hx := h x List.mem_cons_self
    rw [List.foldl_cons, List.foldl_cons, ih fun y hy => h y (List.mem_cons_of_mem _ hy)]
    congr 1
    unfold putW
    rw [if_pos ⟨by unfold keyB; simp [hx.1, hx.2.1], hx.2.2⟩]
theorem emay_ok {t : Tn} {s : Stp} {l : List Wt} (h : emay t s l = true) : okW l 16 = true ∧ mayS s = true ∧ s ≠ sz0 := by
  unfold emay at h
  simp only [Bool.and_eq_true, Bool.not_eq_true', decide_eq_false_iff_not] at h
  exact ⟨h.2, h.1.1.2, h.1.2⟩
theorem srt_perm {R : Ep → Ep → Prop} (has : ∀ a b, R a b → ¬ R b a) : ∀ {L M : List Ep}, L.Pairwise R → M.Pairwise R → L.Perm M → L = M
  | [], M, _, _, p => (List.nil_perm.1 p).symm
  | x :: L, [], _, _, p => absurd (List.perm_nil.1 p) (by simp)
  | x :: L, y :: M, hL, hM, p => by
    have cL := List.pairwise_cons.1 hL
    have cM := List.pairwise_cons.1 hM
    have hxy : x = y := by
      have h1 : x ∈ y :: M := p.mem_iff.1 List.mem_cons_self
      have h2 : y ∈ x :: L := p.mem_iff.2 List.mem_cons_self
      rcases List.mem_cons.1 h1 with h1 | h1
      · exact h1
      · rcases List.mem_cons.1 h2 with h2 | h2
        · exact h2.symm
        · exact absurd (cL.1 y h2) (has _ _ (cM.1 x h1))
    subst hxy
    rw [srt_perm has cL.2 cM.2 (List.Perm.cons_inv p)]
/-- what an order's entries are: each may be, no transaction and no stamp twice -/
structure Fine (es : List Ep) : Prop where
  may : ∀ x ∈ es, emay x.t x.s x.ws = true
  txn : es.Pairwise fun a b => a.t ≠ b.t
  stp : es.Pairwise fun a b => a.s ≠ b.s
theorem pair_take {es : List Ep} {P : Ep → Ep → Prop} (h : ∀ (i : Nat) x, es[i]? = some x → ∀ y ∈ es.take i, P y x) : es.Pairwise P := by
  rw [List.pairwise_iff_getElem]
  intro i j hi hj hij
  refine h j _ (List.getElem?_eq_getElem hj) _ (List.mem_iff_getElem?.2 ⟨i, ?_⟩)
  rw [List.getElem?_take_of_lt hij, List.getElem?_eq_getElem hi]
theorem fine_of {es : List Ep} (h : (ordE es).2 = 0) : Fine es := by
  have hz := ordE_zero h
  have key : ∀ (i : Nat) x, es[i]? = some x → emay x.t x.s x.ws = true ∧ (∀ y ∈ es.take i, y.t ≠ x.t) ∧ (∀ y ∈ es.take i, y.s ≠ x.s) := fun i x hx => flt_zero hx (hz i (List.getElem?_eq_some_iff.1 hx).1)
  refine ⟨fun x hx => ?_, pair_take fun i x hx => (key i x hx).2.1, pair_take fun i x hx => (key i x hx).2.2⟩
  obtain ⟨i, hi⟩ := List.mem_iff_getElem?.1 hx
  exact (key i x hi).1
theorem fine_ord {es : List Ep} (h : Fine es) : (ordE es).2 = 0 := by
  rw [ordE_no fun i hi => ?_]
  obtain ⟨x, hx⟩ : ∃ x, es[i]? = some x := ⟨_, List.getElem?_eq_getElem hi⟩
  have pr : ∀ {P : Ep → Ep → Prop}, es.Pairwise P → ∀ y ∈ es.take i, P y x := fun {P} hp y hy => by
    obtain ⟨t, ht⟩ := List.mem_iff_getElem?.1 hy
    rw [List.getElem?_take] at ht
    split at ht
    · rename_i h1
      obtain ⟨g1, rfl⟩ := List.getElem?_eq_some_iff.1 ht
      obtain ⟨g2, rfl⟩ := List.getElem?_eq_some_iff.1 hx
      exact List.pairwise_iff_getElem.1 hp t i g1 g2 h1
    · cases ht
  unfold fltE
  rw [hx]
  dsimp only
  rw [if_neg (by rw [h.may x (List.mem_of_getElem? hx)]; decide), if_neg, if_neg]
  · rintro ⟨y, hy, he⟩
    exact pr h.stp y hy he
  · rintro ⟨y, hy, he⟩
    exact pr h.txn y hy he
theorem fine_perm {es fs : List Ep} (p : es.Perm fs) (h : Fine es) : Fine fs :=
  ⟨fun x hx => h.may x (p.mem_iff.2 hx), p.pairwise h.txn (fun h => h.symm), p.pairwise h.stp (fun h => h.symm)⟩
theorem fine_srt {es : List Ep} (h : Fine es) : SrtE (ordL Ep.s es) := ord_srt (ordE_zero (fine_ord h))
theorem fine_eq {es fs : List Ep} (p : es.Perm fs) (h : Fine es) : ordL Ep.s fs = ordL Ep.s es :=
  srt_perm (fun a b h => ltS_as h) (fine_srt (fine_perm p h)) (fine_srt h) ((ord_perm Ep.s fs).trans (p.symm.trans (ord_perm Ep.s es).symm))
theorem makes_ord {es fs : List Ep} (h : ordL Ep.s es = ordL Ep.s fs) (at_ : Stp) (b : Bool) : makesF es at_ b = makesF fs at_ b := by
  unfold makesF
  rw [ordL_filter, ordL_filter, h]
theorem below_take {l : List Ep} (h : SrtE l) {i : Nat} {o : Ep} (ho : l[i]? = some o) : l.filter (fun x => upto o.s true x.s) = l.take i := by
  obtain ⟨g2, rfl⟩ := List.getElem?_eq_some_iff.1 ho
  have e : l.filter (fun x => upto l[i].s true x.s) = ((l.take i) ++ l.drop i).filter (fun x => upto l[i].s true x.s) := by rw [List.take_append_drop]
  rw [e, List.filter_append, List.filter_eq_self.2, List.filter_eq_nil_iff.2, List.append_nil]
  · intro x hx
    obtain ⟨t, ht⟩ := List.mem_iff_getElem?.1 hx
    rw [List.getElem?_drop] at ht
    obtain ⟨g1, rfl⟩ := List.getElem?_eq_some_iff.1 ht
    have h2 : ¬ cmpS l[i + t].s l[i].s < 0 := by
      rcases Nat.eq_zero_or_pos t with h3 | h3
      · subst h3
        have h5 := (cmp_eq l[i].s l[i].s).2 rfl
        simp only [Nat.add_zero]
        omega
      · have h1 := List.pairwise_iff_getElem.1 h i (i + t) g2 g1 (by omega)
        have h4 := (cmp_gt l[i + t].s l[i].s).2 h1
        omega
    unfold upto
    simp
    omega
  · intro x hx
    obtain ⟨t, ht⟩ := List.mem_iff_getElem?.1 hx
    rw [List.getElem?_take] at ht
    split at ht
    · rename_i h1
      obtain ⟨g1, rfl⟩ := List.getElem?_eq_some_iff.1 ht
      have h4 := List.pairwise_iff_getElem.1 h t i g1 g2 h1
      have h5 := (cmp_lt l[t].s l[i].s).2 h4
      unfold upto
      simp [h5]
    · cases ht
theorem makes_upto {L : List En} (hs : SrtE (L.map En.p)) {i : Nat} {o : En} (ho : L[i]? = some o) : makesF (L.map En.p) o.s false = (L.take (i + 1)).foldl mkE [] := by
  have hop : (L.map En.p)[i]? = some o.p := by rw [List.getElem?_map, ho]; rfl
  unfold makesF
  rw [show o.s = o.p.s from rfl, upto_take hs hop, ord_self (hs.sublist (List.take_sublist _ _)), ← List.map_take, List.foldl_map]
  rfl
theorem makes_below {L : List En} (hs : SrtE (L.map En.p)) {i : Nat} {o : En} (ho : L[i]? = some o) : makesF (L.map En.p) o.s true = (L.take i).foldl mkE [] := by
  have hop : (L.map En.p)[i]? = some o.p := by rw [List.getElem?_map, ho]; rfl
  unfold makesF
  rw [show o.s = o.p.s from rfl, below_take hs hop, ord_self (hs.sublist (List.take_sublist _ _)), ← List.map_take, List.foldl_map]
  rfl
theorem makes_part {L : List En} (hs : SrtE (L.map En.p)) {i : Nat} {o : En} (ho : L[i]? = some o) : makesF ((L.take (i + 1)).map En.p) o.s false = (L.take (i + 1)).foldl mkE [] := by
  have h1 : SrtE ((L.take (i + 1)).map En.p) := by rw [List.map_take]; exact hs.sublist (List.take_sublist _ _)
  have h2 : (L.take (i + 1))[i]? = some o := by rw [List.getElem?_take_of_lt (Nat.lt_succ_self i)]; exact ho
  rw [makes_upto h1 h2, List.take_take, Nat.min_self]
theorem fine_mem {L : List En} {es : List Ep} (h : Fine es) (hL : L.map En.p = ordL Ep.s es) : ∀ x ∈ L, emay x.t x.s x.ws = true := fun x hx =>
  h.may x.p ((ord_perm Ep.s es).mem_iff.1 (by rw [← hL]; exact List.mem_map_of_mem hx))
theorem step_fold {L : List En} (hm : ∀ x ∈ L, emay x.t x.s x.ws = true) {i : Nat} {o : En} (ho : L[i]? = some o) : o.ws.foldl putV ((L.take i).foldl mkE []) = (L.take (i + 1)).foldl mkE [] := by
  rw [take_app ho, List.foldl_append]
  exact (putW_fold (okW_el (emay_ok (hm o (List.mem_of_getElem? ho))).1).2 _).symm
theorem mk_srt : ∀ {L : List En} {V : List Wt}, SrtK slt Wt.key V → SrtK slt Wt.key (L.foldl mkE V)
  | [], _, h => h
  | x :: L, V, h => by
    refine mk_srt (L := L) ?_
    show SrtK slt Wt.key (x.ws.foldl putW V)
    have key : ∀ (l V : List Wt), SrtK slt Wt.key V → SrtK slt Wt.key (l.foldl putW V) := by
      intro l
      induction l with
      | nil => intro V h; exact h
      | cons y l ih => intro V h; exact ih _ (putW_srt y h)
    exact key _ _ h
theorem mk_may : ∀ {L : List En} {V : List Wt}, (∀ x ∈ V, mayV x.v = true) → ∀ x ∈ L.foldl mkE V, mayV x.v = true
  | [], _, h => h
  | x :: L, V, h => by
    refine mk_may (L := L) ?_
    show ∀ y ∈ x.ws.foldl putW V, _
    have key : ∀ (l V : List Wt), (∀ y ∈ V, mayV y.v = true) → ∀ y ∈ l.foldl putW V, mayV y.v = true := by
      intro l
      induction l with
      | nil => intro V h; exact h
      | cons y l ih =>
        intro V h
        refine ih _ fun z hz => ?_
        unfold putW at hz
        split at hz
        · rename_i hy
          rcases putV_mem hz with hz | ⟨rfl, -⟩
          · exact h z hz
          · exact hy.2
        · exact h z hz
    exact key _ _ h
theorem mk_len : ∀ (L : List En) (V : List Wt), (L.foldl mkE V).length ≤ V.length + sumN wl L
  | [], V => Nat.le_refl _
  | x :: L, V => by
    have h1 := mk_len L (mkE V x)
    have key : ∀ (l V : List Wt), (l.foldl putW V).length ≤ V.length + l.length := by
      intro l
      induction l with
      | nil => intro V; exact Nat.le_refl _
      | cons y l ih =>
        intro V
        have h1 := ih (putW V y)
        have h2 := putW_len V y
        rw [List.foldl_cons, List.length_cons]
        omega
    have h2 : (mkE V x).length ≤ V.length + x.ws.length := key _ _
    have h3 : wl x = x.ws.length := rfl
    simp only [List.foldl_cons, sumN]
    omega
def sameW (x y : Wt) : Bool := decide (x.key = y.key) && sameV x.v y.v
def allSame (l m : List Wt) : Bool := decide (l.length = m.length) && (List.range l.length).all fun i => match l[i]?, m[i]? with | some x, some y => sameW x y | _, _ => false
theorem allSame_self {l : List Wt} (h : ∀ x ∈ l, mayV x.v = true) : allSame l l = true := by
  unfold allSame
  rw [decide_eq_true rfl, Bool.true_and, List.all_eq_true]
  intro i hi
  rw [List.getElem?_eq_getElem (List.mem_range.1 hi)]
  dsimp only
  unfold sameW
  rw [decide_eq_true rfl, sameV_self (h _ (List.getElem_mem _))]
  rfl
theorem allSame_no {l m : List Wt} {k : Nat} {x y : Wt} (hx : l[k]? = some x) (hy : m[k]? = some y) (h : sameW x y = false) : allSame l m = false := by
  unfold allSame
  rw [Bool.and_eq_false_iff]
  right
  rw [List.all_eq_false]
  exact ⟨k, List.mem_range.2 (List.getElem?_eq_some_iff.1 hx).1, by rw [hx, hy]; dsimp only; rw [h]; decide⟩
theorem allSame_yes {l m : List Wt} (hl : l.length = m.length) (h : ∀ (t : Nat) x y, l[t]? = some x → m[t]? = some y → sameW x y = true) : allSame l m = true := by
  unfold allSame
  rw [decide_eq_true hl, Bool.true_and, List.all_eq_true]
  intro i hi
  have hi := List.mem_range.1 hi
  rw [List.getElem?_eq_getElem hi, List.getElem?_eq_getElem (by omega)]
  exact h i _ _ (List.getElem?_eq_getElem hi) (List.getElem?_eq_getElem (by omega))
def sameE (x y : Ep) : Bool := decide (x.t = y.t) && decide (x.s = y.s) && allSame x.ws y.ws
theorem sameE_self {x : Ep} (h : emay x.t x.s x.ws = true) : sameE x x = true := by
  unfold sameE
  rw [decide_eq_true rfl, decide_eq_true rfl, allSame_self fun y hy => ((okW_el (emay_ok h).1).2 y hy).2.2]
  rfl
theorem swap_perm {α : Type} {L : List α} {k : Nat} {x y : α} (hx : L[0]? = some x) (hy : L[k]? = some y) : ((L.set 0 y).set k x).Perm L := by
  obtain ⟨g1, rfl⟩ := List.getElem?_eq_some_iff.1 hx
  obtain ⟨g2, rfl⟩ := List.getElem?_eq_some_iff.1 hy
  exact List.set_set_perm g1 g2

end Go.Proofs.Ytpggijfpkgglmaa
