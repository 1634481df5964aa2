/- Entries in their order, and what they make, plainly. -/
import Derived.Test.YtpggijfpkgglmaaC5
set_option linter.unusedSimpArgs false
set_option linter.unusedVariables false
namespace Go.Proofs.Ytpggijfpkgglmaa
open Sx

/-! entries in their order, and what they make -/
def leadS {α : Type} (κ : α → Stp) (s : Stp) : List α → Nat
  | [] => 0
  | y :: r => if ltS s (κ y) then 0 else leadS κ s r + 1
/-- behind those whose stamp is not above its own -/
def placeG {α : Type} (κ : α → Stp) (x : α) (L : List α) : List α := L.take (leadS κ (κ x) L) ++ x :: L.drop (leadS κ (κ x) L)
theorem leadS_eq {α : Type} {κ : α → Stp} {s : Stp} : ∀ {l : List α} {i : Nat}, (∀ (t : Nat) q, t < i → l[t]? = some q → ¬ ltS s (κ q)) → (∀ q, l[i]? = some q → ltS s (κ q)) → i ≤ l.length → leadS κ s l = i
  | [], i, _, _, h => by simp at h; subst h; rfl
  | y :: r, 0, _, h, _ => by unfold leadS; rw [if_pos (h y rfl)]
  | y :: r, i + 1, h1, h2, h3 => by
    unfold leadS
    rw [if_neg (h1 0 y (Nat.succ_pos _) rfl), leadS_eq (i := i) (fun t q ht hq => h1 (t + 1) q (by omega) (by simpa using hq)) (fun q hq => h2 q (by simpa using hq)) (by simpa using h3)]
theorem leadS_le {α : Type} (κ : α → Stp) (s : Stp) : ∀ l : List α, leadS κ s l ≤ l.length
  | [] => Nat.le_refl _
  | y :: r => by unfold leadS; split; exact Nat.zero_le _; exact Nat.succ_le_succ (leadS_le κ s r)
theorem leadS_map {α β : Type} {κ : α → Stp} {κ' : β → Stp} {f : α → β} (h : ∀ x, κ' (f x) = κ x) (s : Stp) : ∀ l : List α, leadS κ' s (l.map f) = leadS κ s l
  | [] => rfl
  | y :: r => by
    simp only [List.map_cons, leadS, h, leadS_map h s r]
theorem place_map {α β : Type} {κ : α → Stp} {κ' : β → Stp} {f : α → β} (h : ∀ x, κ' (f x) = κ x) (x : α) (L : List α) : (placeG κ x L).map f = placeG κ' (f x) (L.map f) := by
  unfold placeG
  rw [List.map_append, List.map_cons, List.map_take, List.map_drop, h, leadS_map h]
theorem place_perm {α : Type} (κ : α → Stp) (x : α) (L : List α) : (placeG κ x L).Perm (x :: L) := by
  unfold placeG
  refine List.perm_middle.trans ?_
  rw [List.take_append_drop]
theorem place_len {α : Type} (κ : α → Stp) (x : α) (L : List α) : (placeG κ x L).length = L.length + 1 := by
  rw [(place_perm κ x L).length_eq, List.length_cons]
def ordL {α : Type} (κ : α → Stp) (l : List α) : List α := l.foldl (fun L x => placeG κ x L) []
theorem ord_snoc {α : Type} (κ : α → Stp) (l : List α) (x : α) : ordL κ (l ++ [x]) = placeG κ x (ordL κ l) := by unfold ordL; rw [List.foldl_append]; rfl
theorem ord_map {α β : Type} {κ : α → Stp} {κ' : β → Stp} {f : α → β} (h : ∀ x, κ' (f x) = κ x) (l : List α) : (ordL κ l).map f = ordL κ' (l.map f) := by
  have key : ∀ (l : List α) (A : List α), (l.foldl (fun L x => placeG κ x L) A).map f = (l.map f).foldl (fun L x => placeG κ' x L) (A.map f) := by
    intro l
    induction l with
    | nil => intro A; rfl
    | cons x l ih => intro A; rw [List.foldl_cons, ih, place_map h]; rfl
  exact key l []
theorem ord_perm {α : Type} (κ : α → Stp) (l : List α) : (ordL κ l).Perm l := by
  have key : ∀ (l A : List α), (l.foldl (fun L x => placeG κ x L) A).Perm (A ++ l) := by
    intro l
    induction l with
    | nil => intro A; simp
    | cons x l ih =>
      intro A
      rw [List.foldl_cons]
      refine (ih _).trans (((place_perm κ x A).append_right l).trans ?_)
      rw [List.cons_append]
      exact List.perm_middle.symm
  exact key l []
theorem snoc_e {L : List En} {x : En} : L.flatMap En.cells ++ [.int .i64 x.t.co, .int .i64 x.t.li, .int .i64 x.t.sq, .int .i64 x.s.w, .int .i64 x.s.l, .int .i64 x.s.n, .slice x.ad x.ws.length x.c] = (L ++ [x]).flatMap En.cells := by
  rw [List.flatMap_append]; simp [En.cells]
theorem cut_e {l : List En} {p : Nat} (hp : p ≤ l.length) : ((l.flatMap En.cells).drop (p * 7)).take ((l.length - p) * 7) = (l.drop p).flatMap En.cells := by
  rw [flat_drop En.len, List.take_of_length_le (by rw [flat_len En.len, List.length_drop]; omega)]
theorem tk_e {l : List En} {k : Nat} {o : En} (h : l[k]? = some o) : (l.take k).flatMap En.cells ++ o.cells = (l.take (k + 1)).flatMap En.cells := by
  rw [take_app h, List.flatMap_append]; simp
/-- what is wrong with the entry at a place -/
def fltE (l : List Ep) (i : Nat) : Int := match l[i]? with
  | none => 0
  | some x => if emay x.t x.s x.ws = false then 4 else if ∃ y ∈ l.take i, y.t = x.t then 9 else if ∃ y ∈ l.take i, y.s = x.s then 17 else 0
def ordE (l : List Ep) : Int × Int := match (List.range l.length).find? (fun i => decide (fltE l i ≠ 0)) with
  | none => (0, 0)
  | some i => ((i : Int), fltE l i)
theorem find_first {f : Nat → Int} : ∀ {n k : Nat}, (∀ i, i < k → f i = 0) → f k ≠ 0 → k < n → (List.range n).find? (fun i => decide (f i ≠ 0)) = some k
  | n, k, h1, h2, h3 => by
    rw [List.find?_range_eq_some]
    exact ⟨by simp [h2], List.mem_range.2 h3, fun j hj => by simp [h1 j hj]⟩
theorem ordE_at {l : List Ep} {k : Nat} {e : Int} (h1 : ∀ i, i < k → fltE l i = 0) (hk : k < l.length) (h2 : fltE l k = e) (h3 : e ≠ 0) : ordE l = ((k : Int), e) := by
  subst h2
  unfold ordE
  rw [find_first h1 h3 hk]
theorem ordE_no {l : List Ep} (h : ∀ i, i < l.length → fltE l i = 0) : ordE l = (0, 0) := by
  unfold ordE
  rw [List.find?_eq_none.2 fun i hi => by simp [h i (List.mem_range.1 hi)]]
theorem ordE_zero {l : List Ep} (h : (ordE l).2 = 0) : ∀ i, i < l.length → fltE l i = 0 := by
  intro i hi
  unfold ordE at h
  split at h
  · rename_i h1
    have := List.find?_eq_none.1 h1 i (List.mem_range.2 hi)
    simpa using this
  · rename_i k h1
    have := List.find?_some h1
    simp at this
    exact absurd h this
theorem flt_may {l : List En} {i : Nat} {o : En} (ho : l[i]? = some o) (h : emay o.t o.s o.ws = false) : fltE (l.map En.p) i = 4 := by
  unfold fltE
  rw [List.getElem?_map, ho]
  exact if_pos h
theorem flt_txn {l : List En} {i : Nat} {o q : En} {t : Nat} (ho : l[i]? = some o) (h : emay o.t o.s o.ws = true) (ht : t < i) (hq : l[t]? = some q) (he : q.t = o.t) : fltE (l.map En.p) i = 9 := by
  unfold fltE
  rw [List.getElem?_map, ho]
  show (if emay o.t o.s o.ws = false then _ else _) = _
  rw [if_neg (by rw [h]; decide), if_pos]
  exact ⟨q.p, List.mem_iff_getElem?.2 ⟨t, by rw [List.getElem?_take_of_lt ht, List.getElem?_map, hq]; rfl⟩, he⟩
theorem no_txn {l : List En} {i : Nat} {P : Ep → Prop} (h : ∀ (t : Nat) q, t < i → l[t]? = some q → ¬ P q.p) : ¬ ∃ y ∈ (l.map En.p).take i, P y := by
  rintro ⟨y, hy, hp⟩
  obtain ⟨t, ht⟩ := List.mem_iff_getElem?.1 hy
  rw [List.getElem?_take] at ht
  split at ht
  · rename_i h1
    rw [List.getElem?_map] at ht
    cases hq : l[t]? with
    | none => rw [hq] at ht; cases ht
    | some q => rw [hq] at ht; cases ht; exact h t q h1 hq hp
  · cases ht
theorem flt_stamp {l : List En} {i : Nat} {o q : En} {t : Nat} (ho : l[i]? = some o) (h : emay o.t o.s o.ws = true) (hn : ∀ (t : Nat) q, t < i → l[t]? = some q → q.t ≠ o.t) (ht : t < i) (hq : l[t]? = some q) (he : q.s = o.s) : fltE (l.map En.p) i = 17 := by
  unfold fltE
  rw [List.getElem?_map, ho]
  show (if emay o.t o.s o.ws = false then _ else _) = _
  rw [if_neg (by rw [h]; decide), if_neg (no_txn (P := fun y => y.t = o.p.t) hn), if_pos]
  exact ⟨q.p, List.mem_iff_getElem?.2 ⟨t, by rw [List.getElem?_take_of_lt ht, List.getElem?_map, hq]; rfl⟩, he⟩
theorem flt_no {l : List En} {i : Nat} {o : En} (ho : l[i]? = some o) (h : emay o.t o.s o.ws = true) (hn : ∀ (t : Nat) q, t < i → l[t]? = some q → q.t ≠ o.t) (hm : ∀ (t : Nat) q, t < i → l[t]? = some q → q.s ≠ o.s) : fltE (l.map En.p) i = 0 := by
  unfold fltE
  rw [List.getElem?_map, ho]
  show (if emay o.t o.s o.ws = false then _ else _) = _
  rw [if_neg (by rw [h]; decide), if_neg (no_txn (P := fun y => y.t = o.p.t) hn), if_neg (no_txn (P := fun y => y.s = o.p.s) hm)]
/-! what they make -/
def upto (at_ : Stp) (below : Bool) (s : Stp) : Bool := decide (cmpS s at_ < 0) || (decide (cmpS s at_ = 0) && !below)
def putW (out : List Wt) (w : Wt) : List Wt := if keyB w.key = true ∧ mayV w.v = true then putV out w else out
def mkW (out : List Wt) (x : Ep) : List Wt := x.ws.foldl putW out
def mkE (out : List Wt) (x : En) : List Wt := x.ws.foldl putW out
def makesF (h : List Ep) (at_ : Stp) (below : Bool) : List Wt := (ordL Ep.s (h.filter fun x => upto at_ below x.s)).foldl mkW []
theorem makes_en (h : List En) (at_ : Stp) (below : Bool) : makesF (h.map En.p) at_ below = (ordL En.s (h.filter fun x => upto at_ below x.s)).foldl mkE [] := by
  unfold makesF
  rw [List.filter_map]
  rw [← ord_map (κ := En.s) (f := En.p) (fun _ => rfl), List.foldl_map]
  rfl
theorem ord_filter {h : List En} {q : En → Bool} {i : Nat} {o : En} (ho : h[i]? = some o) : ordL En.s ((h.take (i + 1)).filter q) = if q o = true then placeG En.s o (ordL En.s ((h.take i).filter q)) else ordL En.s ((h.take i).filter q) := by
  rw [take_app ho, List.filter_append]
  by_cases hq : q o = true
  · rw [if_pos hq, List.filter_cons_of_pos hq, List.filter_nil, ord_snoc]
  · rw [if_neg hq, List.filter_cons_of_neg hq, List.filter_nil, List.append_nil]
theorem putW_srt {L : List Wt} (x : Wt) (h : SrtK slt Wt.key L) : SrtK slt Wt.key (putW L x) := by
  unfold putW; split; exact putV_srt x h; exact h
theorem putW_len (L : List Wt) (x : Wt) : (putW L x).length ≤ L.length + 1 := by
  unfold putW; split; exact putV_len L x; omega
theorem sumN_perm {α : Type} {f : α → Nat} {l m : List α} (p : l.Perm m) : sumN f l = sumN f m := by
  induction p with
  | nil => rfl
  | cons x _ ih => simp only [sumN, ih]
  | swap x y l => simp only [sumN]; omega
  | trans _ _ h1 h2 => rw [h1, h2]
theorem sumN_filter {α : Type} {f : α → Nat} (q : α → Bool) : ∀ l : List α, sumN f (l.filter q) ≤ sumN f l
  | [] => Nat.le_refl _
  | x :: l => by
    have := sumN_filter (f := f) q l
    by_cases hq : q x = true
    · rw [List.filter_cons_of_pos hq]; simp only [sumN]; omega
    · rw [List.filter_cons_of_neg hq]; simp only [sumN]; omega
theorem sumN_le {α : Type} {f g : α → Nat} : ∀ {l : List α}, (∀ x ∈ l, f x ≤ g x) → sumN f l ≤ sumN g l
  | [], _ => Nat.le_refl _
  | x :: l, h => by
    have h1 := h x List.mem_cons_self
    have h2 := sumN_le (l := l) fun y hy => h y (List.mem_cons_of_mem _ hy)
    simp only [sumN]; omega
def wl (x : En) : Nat := x.ws.length

end Go.Proofs.Ytpggijfpkgglmaa
