/- Added in whatever order, plainly. -/
import Derived.Test.YthhdoeflafakaaaS7
set_option linter.unusedSimpArgs false
set_option linter.unusedVariables false
namespace Go.Proofs.Ythhdoeflafakaaa
open Sx

/-! added in whatever order -/
def comp (x f : Fp) : Prop := ¬ (x.rg = f.rg ∧ x.t = f.t) ∧ (x.t = f.t ↔ x.s = f.s) ∧ (x.t = f.t → ∀ u ∈ x.ws, ∀ v ∈ f.ws, u.key ≠ v.key)
theorem comp_symm {x f : Fp} (h : comp x f) : comp f x :=
  ⟨fun ⟨a, b⟩ => h.1 ⟨a.symm, b.symm⟩, ⟨fun a => (h.2.1.1 a.symm).symm, fun a => (h.2.1.2 a.symm).symm⟩, fun a u hu v hv e => h.2.2 a.symm v hv u hu e.symm⟩
theorem add_iff {L : List Fp} {f : Fp} : addE L f = 0 ↔ mayF f = true ∧ ∀ x ∈ L, comp x f := by
  constructor
  · intro h
    obtain ⟨h1, h2, h3, h4⟩ := add_zero h
    exact ⟨h1, fun x hx => ⟨h2 x hx, h3 x hx, h4 x hx⟩⟩
  · rintro ⟨h1, h2⟩
    have e1 : hasF L f.rg f.t = false := by
      cases h : hasF L f.rg f.t
      · rfl
      · obtain ⟨x, hx, he⟩ := hasF_iff.1 h
        exact absurd he (h2 x hx).1
    have e2 : (L.any fun h => unlike h f) = false := by
      rw [List.any_eq_false]
      intro x hx
      have := (h2 x hx).2.1
      unfold unlike
      by_cases h : x.t = f.t
      · simp [h, this.1 h]
      · have h8 : ¬ x.s = f.s := fun h9 => h (this.2 h9)
        simp [h, h8]
    have e3 : (L.any fun h => decide (h.t = f.t) && meetF h.ws f.ws) = false := by
      rw [List.any_eq_false]
      intro x hx
      have h3 := (h2 x hx).2.2
      by_cases h : x.t = f.t
      · have h4 : meetF x.ws f.ws = false := by
          unfold meetF
          rw [List.any_eq_false]
          intro u hu h5
          obtain ⟨v, hv, h6⟩ := List.any_eq_true.1 h5
          exact h3 h u hu v hv (of_decide_eq_true h6)
        simp [h4]
      · simp [h]
    unfold addE
    rw [if_neg (by rw [h1]; decide), if_neg (by rw [e1]; decide), if_neg (by rw [e2]; decide), if_neg (by rw [e3]; decide)]
def foldA (L : List Fp) (l : List Fp) : List Fp := l.foldl addL L
/-- they are all taken -/
def okA (l : List Fp) : Prop := (∀ f ∈ l, mayF f = true) ∧ l.Pairwise comp
theorem addL_ins {L : List Fp} {f : Fp} (h : addE L f = 0) : addL L f = insF L f := by unfold addL; rw [if_pos h]
theorem foldA_perm : ∀ {l L : List Fp}, (∀ f ∈ l, mayF f = true) → (∀ x ∈ L, ∀ f ∈ l, comp x f) → l.Pairwise comp → (foldA L l).Perm (l ++ L)
  | [], L, _, _, _ => List.Perm.refl _
  | f :: l, L, h1, h2, h3 => by
    have hc := List.pairwise_cons.1 h3
    have he : addE L f = 0 := add_iff.2 ⟨h1 f List.mem_cons_self, fun x hx => h2 x hx f List.mem_cons_self⟩
    have hm : ∀ x, x ∈ addL L f ↔ x = f ∨ x ∈ L := fun x => by rw [addL_ins he, (ins_perm L f).mem_iff, List.mem_cons]
    have ih := foldA_perm (l := l) (L := addL L f) (fun g hg => h1 g (List.mem_cons_of_mem _ hg)) (fun x hx g hg => by
      rcases (hm x).1 hx with rfl | hx
      · exact hc.1 g hg
      · exact h2 x hx g (List.mem_cons_of_mem _ hg)) hc.2
    show (foldA (addL L f) l).Perm _
    refine ih.trans ?_
    rw [addL_ins he]
    refine ((ins_perm L f).append_left l).trans ?_
    exact List.perm_middle
theorem okA_add {l : List Fp} {f : Fp} (h : okA l) : addE (foldA [] l) f = 0 ↔ okA (l ++ [f]) := by
  have hp := foldA_perm (L := []) h.1 (by simp) h.2
  rw [List.append_nil] at hp
  rw [add_iff]
  unfold okA
  constructor
  · rintro ⟨h1, h2⟩
    refine ⟨fun g hg => ?_, List.pairwise_append.2 ⟨h.2, List.pairwise_singleton _ _, fun a ha b hb => ?_⟩⟩
    · rcases List.mem_append.1 hg with hg | hg
      · exact h.1 g hg
      · rw [List.mem_singleton] at hg; rw [hg]; exact h1
    · rw [List.mem_singleton] at hb
      rw [hb]
      exact h2 a (hp.mem_iff.2 ha)
  · rintro ⟨h1, h2⟩
    exact ⟨h1 f (by simp), fun x hx => (List.pairwise_append.1 h2).2.2 x (hp.mem_iff.1 hx) f (by simp)⟩
theorem okA_rev {l : List Fp} (h : okA l) : okA l.reverse :=
  ⟨fun f hf => h.1 f (List.mem_reverse.1 hf), by
    rw [List.pairwise_reverse]
    exact h.2.imp fun {a b} h9 => comp_symm h9⟩
theorem okA_pre {l m : List Fp} (h : okA (l ++ m)) : okA l := ⟨fun f hf => h.1 f (List.mem_append_left _ hf), (List.pairwise_append.1 h.2).1⟩
theorem held_fold : ∀ {l L : List Fp}, Held L → Held (foldA L l)
  | [], L, h => h
  | f :: l, L, h => held_fold (l := l) (held_add h f)
theorem fold_rev {l : List Fp} (h : okA l) : foldA [] l.reverse = foldA [] l := by
  have hp := foldA_perm (L := []) h.1 (by simp) h.2
  have hq := foldA_perm (L := []) (okA_rev h).1 (by simp) (okA_rev h).2
  rw [List.append_nil] at hp hq
  have hpq : (foldA [] l.reverse).Perm (foldA [] l) := hq.trans ((List.reverse_perm l).trans hp.symm)
  exact hpq.eq_of_pairwise (fun a b _ _ h1 h2 => absurd h2 (ltF_as h1)) (held_fold held_nil).srt (held_fold held_nil).srt
theorem foldA_snoc (l : List Fp) (f : Fp) (L : List Fp) : foldA L (l ++ [f]) = addL (foldA L l) f := by unfold foldA; rw [List.foldl_append]; rfl
/-- the fragments that operations add -/
def addsO (l : List Op) : List Fp := (l.filter fun o => decide (o.k = 1)).map fun o => o.f.p
theorem adds_snoc {l : List Op} {k : Nat} {o : Op} (h : l[k]? = some o) : addsO (l.take (k + 1)) = if o.k = 1 then addsO (l.take k) ++ [o.f.p] else addsO (l.take k) := by
  unfold addsO
  rw [take_app h, List.filter_append, List.map_append]
  by_cases hk : o.k = 1
  · rw [if_pos hk, List.filter_cons_of_pos (by simp [hk])]; rfl
  · rw [if_neg hk, List.filter_cons_of_neg (by simp [hk])]; simp
theorem adds_drop {l : List Op} {k : Nat} {o : Op} (h : l[k]? = some o) : addsO (l.drop k) = if o.k = 1 then o.f.p :: addsO (l.drop (k + 1)) else addsO (l.drop (k + 1)) := by
  obtain ⟨hk, rfl⟩ := List.getElem?_eq_some_iff.1 h
  unfold addsO
  rw [List.drop_eq_getElem_cons hk]
  by_cases h1 : l[k].k = 1
  · rw [if_pos h1, List.filter_cons_of_pos (by simp [h1])]; rfl
  · rw [if_neg h1, List.filter_cons_of_neg (by simp [h1])]
theorem adds_split (l : List Op) (k : Nat) : addsO l = addsO (l.take k) ++ addsO (l.drop k) := by
  unfold addsO
  rw [← List.map_append, ← List.filter_append, List.take_append_drop]
theorem adds_len (l : List Op) : (addsO l).length ≤ l.length := by
  unfold addsO
  rw [List.length_map]
  exact List.length_filter_le _ _
theorem foldA_len {l : List Fp} (h : okA l) : (foldA [] l).length = l.length := by
  have hp := foldA_perm (L := []) h.1 (by simp) h.2
  rw [hp.length_eq]
  simp
theorem ss_take {α : Type} {w : World} {ad : Option Addr} {enc : α → List Value} {sz : Nat} {xs : List α} (he : ∀ x, (enc x).length = sz) (h : Ss w ad enc sz xs) {n : Nat} (hn : n ≤ xs.length) : Ss w ad enc sz (xs.take n) := by
  have h1 := Sv.cut (lo := 0) (hi := n) (c := xs.length) h (Nat.zero_le _) hn (Nat.le_refl _)
  rw [cutAt_zero, Nat.zero_mul, List.drop_zero, Nat.sub_zero] at h1
  have h2 : (xs.flatMap enc).take (n * sz) = (xs.take n).flatMap enc := by
    have h3 : xs.flatMap enc = (xs.take n).flatMap enc ++ (xs.drop n).flatMap enc := by rw [← List.flatMap_append, List.take_append_drop]
    have h4 : ((xs.take n).flatMap enc).length = n * sz := by rw [flat_len he, List.length_take, Nat.min_eq_left hn]
    rw [h3, List.take_append_of_le_length (by omega), List.take_of_length_le (by omega)]
  rw [h2] at h1
  have h5 : (xs.take n).length = n := by rw [List.length_take, Nat.min_eq_left hn]
  unfold Ss
  rw [h5]
  exact h1
theorem fwd {l : List Op} (h : okA (addsO l)) {i : Nat} {o : Op} (ho : l[i]? = some o) (hk : o.k = 1) :
    addE (foldA [] (addsO (l.take i))) o.f.p = 0 ∧ addL (foldA [] (addsO (l.take i))) o.f.p = foldA [] (addsO (l.take (i + 1))) := by
  have h1 := adds_snoc ho
  rw [if_pos hk] at h1
  have h2 : okA (addsO (l.take i) ++ [o.f.p]) := by
    rw [← h1]
    have h3 := adds_split l (i + 1)
    rw [h3] at h
    exact okA_pre h
  exact ⟨(okA_add (okA_pre h2)).2 h2, by rw [h1, foldA_snoc]⟩
theorem okA_suf {l m : List Fp} (h : okA (l ++ m)) : okA m := ⟨fun f hf => h.1 f (List.mem_append_right _ hf), (List.pairwise_append.1 h.2).2.1⟩
theorem bwd {l : List Op} (h : okA (addsO l)) {k : Nat} {o : Op} (ho : l[k]? = some o) (hk : o.k = 1) :
    addE (foldA [] (addsO (l.drop (k + 1))).reverse) o.f.p = 0 ∧ addL (foldA [] (addsO (l.drop (k + 1))).reverse) o.f.p = foldA [] (addsO (l.drop k)).reverse := by
  have h1 := adds_drop ho
  rw [if_pos hk] at h1
  have h2 : okA ((addsO (l.drop (k + 1))).reverse ++ [o.f.p]) := by
    have h3 : okA (addsO (l.drop k)) := by rw [adds_split l k] at h; exact okA_suf h
    have h4 := okA_rev h3
    rw [h1, List.reverse_cons] at h4
    exact h4
  exact ⟨(okA_add (okA_pre h2)).2 h2, by rw [h1, List.reverse_cons, foldA_snoc]⟩
theorem okA_nil : okA [] := ⟨by simp, List.Pairwise.nil⟩

end Go.Proofs.Ythhdoeflafakaaa
