/- A view in its order, plainly. -/
import Derived.Test.YtakjfnckbidbcaaV13
set_option linter.unusedSimpArgs false
set_option linter.unusedVariables false
namespace Go.Proofs.Ytakjfnckbidbcaa
open Sx

/-! a view's pairs stay in their order -/
structure GoodV (L : List Wt) : Prop where
  srt : SrtK slt Wt.key L
  el : ∀ x ∈ L, 1 ≤ x.key.length ∧ x.key.length ≤ 24 ∧ mayV x.v = true ∧ x.v.k ≠ 0
theorem goodV_nil : GoodV [] := ⟨List.Pairwise.nil, by simp⟩
theorem okW_el {l : List Wt} {m : Nat} (h : okW l m = true) : l.length ≤ m ∧ ∀ x ∈ l, 1 ≤ x.key.length ∧ x.key.length ≤ 24 ∧ mayV x.v = true := by
  unfold okW at h
  simp only [Bool.and_eq_true, decide_eq_true_eq] at h
  refine ⟨h.1, fun x hx => ?_⟩
  obtain ⟨i, hi⟩ := List.mem_iff_getElem?.1 hx
  have h1 := allOk_iff.1 h.2 i (List.getElem?_eq_some_iff.1 hi).1
  unfold wbad at h1
  rw [hi] at h1
  simp only [Bool.or_eq_false_iff, Bool.not_eq_false'] at h1
  have h2 := h1.1
  unfold kbad at h2
  rw [List.getElem?_map, hi] at h2
  simp only [Option.map_some, Bool.or_eq_false_iff, Bool.not_eq_false'] at h2
  have h3 := h2.1
  unfold keyB at h3
  simp only [Bool.and_eq_true, decide_eq_true_eq] at h3
  exact ⟨h3.1, h3.2, h1.2⟩
theorem put_good {L : List Wt} {x : Wt} (h : GoodV L) (hx : 1 ≤ x.key.length ∧ x.key.length ≤ 24 ∧ mayV x.v = true) : GoodV (putV L x) :=
  ⟨putV_srt x h.srt, fun y hy => by
    rcases putV_mem hy with hy | ⟨rfl, hk⟩
    · exact h.el y hy
    · exact ⟨hx.1, hx.2.1, hx.2.2, hk⟩⟩
theorem fold_good : ∀ {l : List Wt} {L : List Wt}, GoodV L → (∀ x ∈ l, 1 ≤ x.key.length ∧ x.key.length ≤ 24 ∧ mayV x.v = true) → GoodV (l.foldl putV L)
  | [], L, h, _ => h
  | x :: l, L, h, hx => fold_good (l := l) (put_good h (hx x List.mem_cons_self)) fun y hy => hx y (List.mem_cons_of_mem _ hy)
theorem fold_len : ∀ {l : List Wt} {L : List Wt}, (l.foldl putV L).length ≤ L.length + l.length
  | [], L => Nat.le_refl _
  | x :: l, L => by
    have h1 := fold_len (l := l) (L := putV L x)
    have h2 := putV_len L x
    rw [List.foldl_cons, List.length_cons]
    omega
theorem appE_form (h : Stp) (t : Tn) (s : Stp) (l : List Wt) : appE h t s l = if emay t s l = false then 4 else if ltS h s then 0 else 20 := by
  unfold appE
  rw [← pmay_emay]
  by_cases h1 : pmay t s [] l = 0
  · have h0 : ¬ pmay t s [] l ≠ 0 := fun h9 => h9 h1
    by_cases h2 : ltS h s
    · have h3 : ¬ cmpS s h ≤ 0 := by have := (cmp_gt s h).2 h2; omega
      rw [if_neg h0, if_neg h3, if_neg (by simp [h1]), if_pos h2]
    · have h3 : cmpS s h ≤ 0 := Int.not_lt.1 fun h9 => h2 ((cmp_gt s h).1 h9)
      rw [if_neg h0, if_pos h3, if_neg (by simp [h1]), if_neg h2]
  · rw [if_pos h1, if_pos (by simp [h1])]
theorem appE_zero {h : Stp} {t : Tn} {s : Stp} {l : List Wt} (e : appE h t s l = 0) : emay t s l = true ∧ ltS h s ∧ okW l 16 = true := by
  rw [appE_form] at e
  split at e
  · cases e
  split at e
  · rename_i h1 h2
    have h3 : emay t s l = true := by simpa using h1
    refine ⟨h3, h2, ?_⟩
    unfold emay at h3
    simp only [Bool.and_eq_true] at h3
    exact h3.2
  · cases e
theorem app_good {h : Stp} {t : Tn} {s : Stp} {L l : List Wt} (hL : GoodV L) : GoodV (appL h t s L l) ∧ (appL h t s L l).length ≤ L.length + 16 := by
  by_cases he : appE h t s l = 0
  · obtain ⟨-, -, h3⟩ := appE_zero he
    obtain ⟨h4, h5⟩ := okW_el h3
    rw [(app_yes L he).1]
    have := fold_len (l := l) (L := L)
    exact ⟨fold_good hL h5, by omega⟩
  · rw [(app_no L rfl he).1]
    exact ⟨hL, by omega⟩
theorem good_ofE {L : List Wt} (h : GoodV L) {m : Nat} (h1 : 1 ≤ m) (h2 : m ≤ 24) : ofE (m : Int) L = 0 ∧ ofG (m : Int) L = groupsF m L := by
  refine ofE0 (by omega) fun i hi => ?_
  obtain ⟨x, hx⟩ : ∃ x, L[i]? = some x := ⟨_, List.getElem?_eq_getElem hi⟩
  obtain ⟨e1, e2, e3, e4⟩ := h.el x (List.mem_of_getElem? hx)
  have hk : keyB x.key = true := by unfold keyB; simp [e1, e2]
  have hxm : (L.map Wt.key)[i]? = some x.key := by rw [List.getElem?_map, hx]; rfl
  have hkb : kbad (L.map Wt.key) i = false := by
    cases i with
    | zero => exact kbad_zero hxm hk rfl
    | succ j =>
      obtain ⟨y, hy⟩ : ∃ y, L[j]? = some y := ⟨_, List.getElem?_eq_getElem (by omega)⟩
      rw [kbad_pos hxm hk (Nat.succ_pos j) (y := y.key) (by rw [Nat.add_sub_cancel, List.getElem?_map, hy]; rfl)]
      obtain ⟨g1, g2⟩ := List.getElem?_eq_some_iff.1 hx
      obtain ⟨g3, g4⟩ := List.getElem?_eq_some_iff.1 hy
      have hs : SrtK slt Wt.key L := h.srt
      have := List.pairwise_iff_getElem.1 hs j (j + 1) g3 g1 (by omega)
      rw [g2, g4] at this
      have h9 : Op.bytesLess y.key x.key = true := this
      rw [h9]; rfl
  unfold pbad wbad
  rw [hkb, hx]
  simp [e3, e4]
def gfind (G : List G6) (nm : Key) : Option G6 := G.find? fun g => decide (g.name = nm)
theorem gfind_no {G : List G6} {nm : Key} (h : ∀ (t : Nat) g, t < G.length → G[t]? = some g → g.name ≠ nm) : gfind G nm = none := by
  unfold gfind
  rw [List.find?_eq_none]
  intro x hx
  obtain ⟨t, ht⟩ := List.mem_iff_getElem?.1 hx
  simp [h t x (List.getElem?_eq_some_iff.1 ht).1 ht]
theorem gfind_yes {nm : Key} {o : G6} : ∀ {G : List G6} {k : Nat}, (∀ (t : Nat) g, t < k → G[t]? = some g → g.name ≠ nm) → G[k]? = some o → o.name = nm → gfind G nm = some o
  | [], k, _, ho, _ => by simp at ho
  | g :: G, 0, _, ho, hn => by
    simp at ho
    subst ho
    unfold gfind
    rw [List.find?_cons_of_pos (by simp [hn])]
  | g :: G, k + 1, h, ho, hn => by
    have h0 := h 0 g (Nat.succ_pos _) rfl
    have ih := gfind_yes (G := G) (k := k) (fun t x ht hx => h (t + 1) x (by omega) (by simpa using hx)) (by simpa using ho) hn
    unfold gfind at ih ⊢
    rw [List.find?_cons_of_neg (by simp [h0])]
    exact ih
theorem groups_srt {m : Nat} {L : List Wt} (h : GoodV L) (h1 : 1 ≤ m) (h2 : m ≤ 24) : (groupsF m L).Pairwise fun a b => slt a.name b.name := by
  have hI := gi_all (cut := m) (of_good (good_ofE h h1 h2).1).2 L.length (Nat.le_refl _)
  rw [List.take_length] at hI
  exact hI.srt
theorem gfind_at {G : List G6} (h : G.Pairwise fun a b => slt a.name b.name) {k : Nat} {o : G6} (ho : G[k]? = some o) : gfind G o.name = some o := by
  refine gfind_yes (fun t g ht hg => ?_) ho rfl
  obtain ⟨h1, rfl⟩ := List.getElem?_eq_some_iff.1 ho
  obtain ⟨h2, rfl⟩ := List.getElem?_eq_some_iff.1 hg
  exact sO.ne (List.pairwise_iff_getElem.1 h t k h2 h1 ht)
def metG (G : List G6) (nm : Key) : Bool := G.any fun g => decide (g.name = nm)
theorem met_snoc {G : List G6} {nm : Key} {k : Nat} {o : G6} (ho : G[k]? = some o) : metG (G.take (k + 1)) nm = (metG (G.take k) nm || decide (o.name = nm)) := by
  unfold metG; rw [take_app ho, List.any_append]; simp
theorem find_met (G : List G6) (nm : Key) : (gfind G nm).isSome = metG G nm := by
  unfold gfind metG
  rw [Bool.eq_iff_iff, List.find?_isSome, List.any_eq_true]
theorem ofE_nil (cut : Int) : ofE cut [] = (if cut < 1 ∨ 24 < cut then 1 else 0) := by
  unfold ofE
  split
  · rfl
  · exact if_pos (by rfl)

end Go.Proofs.Ytakjfnckbidbcaa
