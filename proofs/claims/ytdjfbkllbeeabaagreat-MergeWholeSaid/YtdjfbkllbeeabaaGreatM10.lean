/- Whole transactions, merged, plainly. -/
import Derived.Test.YtdjfbkllbeeabaaGreatM6
set_option linter.unusedSimpArgs false
set_option linter.unusedVariables false
namespace Go.Proofs.YtdjfbkllbeeabaaGreat
open Sx

/-! whole transactions, merged -/
theorem like_of {o x : Fp} (h : unlike o x = false) : o.t = x.t ↔ o.s = x.s := by
  unfold unlike at h
  by_cases h1 : o.t = x.t
  · by_cases h2 : o.s = x.s
    · exact ⟨fun _ => h2, fun _ => h1⟩
    · simp [h1, h2] at h
  · by_cases h2 : o.s = x.s
    · simp [h1, h2] at h
    · exact ⟨fun h9 => absurd h9 h1, fun h9 => absurd h9 h2⟩
theorem upto_src {L : List Fp} (hL : Held L) {at_ : Stp} {e : Ep} (he : e ∈ uptoE L at_) : ∃ x ∈ L, x.t = e.t ∧ x.s = e.s := by
  unfold uptoE at he
  obtain ⟨g, hg, rfl⟩ := List.mem_map.1 he
  obtain ⟨x, hx, h1, h2⟩ := (grpx_all hL _ (cntS_le at_ L)).fr g hg
  exact ⟨x, List.mem_of_mem_take hx, h1, h2⟩
theorem lastE_top : ∀ (E : List Ep) {z : Stp}, (∀ e ∈ E, ltS z e.s) → (E.Pairwise fun a b => ltS a.s b.s) → ¬ ltS (lastE z E) z ∧ ∀ e ∈ E, ¬ ltS (lastE z E) e.s
  | [], z, _, _ => ⟨ltS_irr z, by simp⟩
  | x :: E, z, h1, h2 => by
    have hc := List.pairwise_cons.1 h2
    obtain ⟨h3, h4⟩ := lastE_top E (z := x.s) hc.1 hc.2
    have e1 : lastE z (x :: E) = lastE x.s E := rfl
    rw [e1]
    refine ⟨nlt3 (ltS_as (h1 x List.mem_cons_self)) h3, fun e he => ?_⟩
    rcases List.mem_cons.1 he with rfl | he
    · exact h3
    · exact h4 e he
structure WM (I : List Fp) (O : List Ep) (L : List Fp) (low last : Stp) : Prop where
  wi : WI I O L low last
  up : O.Pairwise fun a b => ltS a.s b.s
  top : ∀ e ∈ O, ¬ ltS last e.s
  src : ∀ e ∈ O, ∃ x ∈ I, x.t = e.t ∧ x.s = e.s
  like : ∀ x ∈ I, ∀ y ∈ I, x.t = y.t ↔ x.s = y.s
theorem WM.nil : WM [] [] [] sz0 sz0 := ⟨WI.nil, List.Pairwise.nil, by simp, by simp, by simp⟩
theorem WM.held {I O L low last} (h : WM I O L low last) : Held L := h.wi.held
theorem WM.add {I O L low last} (h : WM I O L low last) {f : Fp} (hf : ltS low f.s) (ha : addE L f = 0) (hl : ∀ x ∈ I, x.t = f.t ↔ x.s = f.s) : WM (I ++ [f]) O (addL L f) low last := by
  refine ⟨h.wi.add hf ha, h.up, h.top, fun e he => ?_, fun x hx y hy => ?_⟩
  · obtain ⟨x, hx, h1⟩ := h.src e he
    exact ⟨x, List.mem_append_left _ hx, h1⟩
  · rcases List.mem_append.1 hx with hx | hx
    · rcases List.mem_append.1 hy with hy | hy
      · exact h.like x hx y hy
      · rw [List.mem_singleton] at hy; rw [hy]; exact hl x hx
    · rw [List.mem_singleton] at hx
      rw [hx]
      rcases List.mem_append.1 hy with hy | hy
      · exact ⟨fun h9 => ((hl y hy).1 h9.symm).symm, fun h9 => ((hl y hy).2 h9.symm).symm⟩
      · rw [List.mem_singleton] at hy; rw [hy]; exact ⟨fun _ => rfl, fun _ => rfl⟩
theorem WM.upto {I O L low last at_} (h : WM I O L low last) (ha : ¬ ltS at_ low) : WM I (O ++ uptoE L at_) (uptoL L at_) at_ (lastE last (uptoE L at_)) := by
  obtain ⟨r1, r2, -⟩ := h.wi.rise ha
  obtain ⟨t1, t2⟩ := lastE_top _ r1 r2
  refine ⟨h.wi.upto ha, List.pairwise_append.2 ⟨h.up, r2, fun x hx y hy => nlt_lt (h.top x hx) (r1 y hy)⟩, fun e he => ?_, fun e he => ?_, h.like⟩
  · rcases List.mem_append.1 he with he | he
    · exact nlt3 (h.top e he) t1
    · exact t2 e he
  · rcases List.mem_append.1 he with he | he
    · exact h.src e he
    · obtain ⟨x, hx, h1⟩ := upto_src h.held he
      have h2 : x ∈ I := (List.mem_filter.1 (h.wi.perm.mem_iff.2 hx)).1
      exact ⟨x, h2, h1⟩
/-- frontiers at or above what went out -/
structure FI (F : List Fk) (low : Stp) : Prop where
  ge : ∀ x ∈ F, ¬ ltS x.s low
  nil : F = [] → low = sz0
theorem FI.none : FI [] sz0 := ⟨by simp, fun _ => rfl⟩
theorem may_sz {s : Stp} (h : mayS s = true) : ¬ ltS s sz0 := by
  have h1 := of_decide_eq_true h
  intro h2
  simp only [ltS, sz0] at h2
  omega
theorem FI.put {F : List Fk} {low : Stp} (h : FI F low) {id : Int} {s : Stp} (hs : ¬ ltS s low) : FI (putF F id s) low := by
  have hm : (⟨id, s⟩ : Fk) ∈ putF F id s := intKO.put_mem.2 (.inl rfl)
  refine ⟨fun x hx => ?_, fun h9 => by rw [h9] at hm; cases hm⟩
  rcases intKO.put_mem.1 hx with rfl | hx
  · exact hs
  · exact h.ge x hx.1
theorem FI.join {F : List Fk} {low : Stp} (h : FI F low) {id : Int} {s : Stp} (hs : F = [] ∨ ¬ ltS s (lsF F)) : FI (joinF F id s) low := by
  unfold joinF
  split
  · rename_i h1
    refine h.put ?_
    unfold joinE at h1
    split at h1
    · cases h1
    split at h1
    · cases h1
    rename_i h3
    have h4 : mayS s = true := by simpa using h3
    rcases hs with hs | hs
    · rw [h.nil hs]; exact may_sz h4
    · by_cases hF : F = []
      · rw [h.nil hF]; exact may_sz h4
      · obtain ⟨x, hx, hxs⟩ := lsF_mem hF
        have h5 := h.ge x hx
        rw [hxs] at h5
        exact nlt3 h5 hs
  · exact h
theorem later_ge (s t : Stp) : ¬ ltS (laterS s t) s := by
  unfold laterS
  split
  · rename_i h; exact ltS_as h
  · exact ltS_irr s
theorem stp_ge {F : List Fk} {low : Stp} (h : FI F low) {id : Int} (hh : hasK F id = true) : ¬ ltS (stpF F id) low := by
  unfold hasK at hh
  obtain ⟨s, hs⟩ := Option.isSome_iff_exists.1 hh
  unfold stpF
  rw [hs]
  exact h.ge _ (getF_mem hs)
theorem FI.adv {F : List Fk} {low : Stp} (h : FI F low) {id : Int} {s : Stp} : FI (advF F id s) low := by
  unfold advF
  split
  · rename_i h1
    unfold advE at h1
    split at h1
    · cases h1
    rename_i h2
    have h3 : hasK F id = true := by simpa using h2
    exact h.put (nlt3 (stp_ge h h3) (later_ge _ _))
  · exact h
theorem WM.take {I O L low last} (h : WM I O L low last) {F : List Fk} (hF : FI F low) : ∃ low', WM I (O ++ takeO F L) (takeL F L) low' (takeH last F L) ∧ FI F low' ∧ (∀ e ∈ takeO F L, ltS last e.s) ∧ ((takeO F L).Pairwise fun a b => ltS a.s b.s) := by
  unfold takeH
  rw [lastOr_eq]
  by_cases hn : F = []
  · refine ⟨low, ?_⟩
    have h1 : takeO F L = [] := by unfold takeO; rw [if_pos hn]
    have h2 : takeL F L = L := by unfold takeL; rw [if_pos hn]
    rw [h1, h2, List.append_nil]
    exact ⟨h, hF, by simp, List.Pairwise.nil⟩
  · have h1 : takeO F L = uptoE L (lsF F) := by unfold takeO; rw [if_neg hn]
    have h2 : takeL F L = uptoL L (lsF F) := by unfold takeL; rw [if_neg hn]
    have ha : ¬ ltS (lsF F) low := by obtain ⟨x, hx, hxs⟩ := lsF_mem hn; rw [← hxs]; exact hF.ge x hx
    obtain ⟨r1, r2, -⟩ := h.wi.rise ha
    rw [h1, h2]
    exact ⟨lsF F, h.upto ha, ⟨lsF_le, fun h9 => absurd h9 hn⟩, r1, r2⟩
theorem addE_20 (L : List Fp) (f : Fp) : addE L f ≠ 20 := by
  unfold addE
  split
  · decide
  split
  · decide
  split
  · decide
  split <;> decide
theorem addM_old {h : Stp} {F : List Fk} {L : List Fp} {f : Fp} (hf : ltS h f.s) : addM h F L f ≠ 20 := by
  have h1 : ¬ cmpS f.s h ≤ 0 := by rw [cmp_le]; exact fun h9 => h9 hf
  have h2 : addB h F f ≠ 20 := by
    unfold addB
    rw [if_neg h1]
    split
    · decide
    split <;> decide
  unfold addM
  split
  · exact addE_20 L f
  · exact h2
theorem WM.above {I O L low last} (h : WM I O L low last) {F : List Fk} (hF : FI F low) {id : Int} (hh : hasK F id = true) {s : Stp} (hs : ltS (stpF F id) s) : ltS low s ∧ ltS last s := by
  have h1 : ltS low s := nlt_lt (stp_ge hF hh) hs
  exact ⟨h1, nlt_lt h.wi.last h1⟩
/-- told apart by transactions alone -/
theorem WM.tells {I O L low last} (h : WM I O L low last) {e : Ep} (he : e ∈ O) {x : Fp} (hx : x ∈ I) : mt e x = decide (x.t = e.t) := by
  unfold mt
  refine decide_eq_decide.2 ⟨fun h9 => h9.1, fun h9 => ⟨h9, ?_⟩⟩
  obtain ⟨y, hy, h1, h2⟩ := h.src e he
  rw [← h2]
  exact (h.like x hx y hy).1 (h9.trans h1.symm)
theorem WM.once {I O L low last} (h : WM I O L low last) {i j : Nat} {a b : Ep} (hi : O[i]? = some a) (hj : O[j]? = some b) (hij : i < j) : a.t ≠ b.t := fun h9 => by
  obtain ⟨x, hx, h1, h2⟩ := h.src a (List.mem_of_getElem? hi)
  obtain ⟨y, hy, h3, h4⟩ := h.src b (List.mem_of_getElem? hj)
  have h5 := (h.like x hx y hy).1 (by rw [h1, h3, h9])
  obtain ⟨g1, rfl⟩ := List.getElem?_eq_some_iff.1 hi
  obtain ⟨g2, rfl⟩ := List.getElem?_eq_some_iff.1 hj
  have h6 := List.pairwise_iff_getElem.1 h.up i j g1 g2 hij
  rw [← h2, ← h4, h5] at h6
  exact ltS_irr _ h6

end Go.Proofs.YtdjfbkllbeeabaaGreat
