/- Whole transactions, each once, plainly. -/
import Derived.Test.YthhdoeflafakaaaS10
set_option linter.unusedSimpArgs false
set_option linter.unusedVariables false
namespace Go.Proofs.Ythhdoeflafakaaa
open Sx

/-! whole transactions, each once -/
def mt (e : Ep) (x : Fp) : Bool := decide (x.t = e.t ∧ x.s = e.s)
def wlF (x : Fp) : Nat := x.ws.length
def wlE (e : Ep) : Nat := e.ws.length
theorem sumN_flat {α β : Type} (f : α → List β) : ∀ l : List α, sumN (fun x => (f x).length) l = (l.flatMap f).length
  | [] => rfl
  | x :: l => by simp only [sumN, sumN_flat f l, List.flatMap_cons, List.length_append]
theorem sumN_perm {α : Type} {f : α → Nat} {l m : List α} (h : l.Perm m) : sumN f l = sumN f m := by
  induction h with
  | nil => rfl
  | cons x _ ih => simp only [sumN, ih]
  | swap x y l => simp only [sumN]; omega
  | trans _ _ h1 h2 => exact h1.trans h2
theorem nlt_tr {a b c : Stp} (h1 : ¬ ltS b a) (h2 : ¬ ltS c b) : ¬ ltS c a := fun h => by
  rcases ltS_tot a b with h3 | h3 | h3
  · exact h2 (ltS_tr h h3)
  · rw [h3] at h; exact h2 h
  · exact h1 h3
theorem lt_nlt {a b c : Stp} (h1 : ltS a b) (h2 : ¬ ltS c b) : ltS a c := by
  rcases ltS_tot b c with h3 | h3 | h3
  · exact ltS_tr h1 h3
  · rw [← h3]; exact h1
  · exact absurd h3 h2
theorem nlt_lt {a b c : Stp} (h1 : ¬ ltS b a) (h2 : ltS b c) : ltS a c := by
  rcases ltS_tot a b with h3 | h3 | h3
  · exact ltS_tr h3 h2
  · rw [h3]; exact h2
  · exact absurd h3 h1
structure GrpX (P : List Fp) (k : Nat) (E : List Ep) : Prop where
  up : E.Pairwise fun a b => ltS a.s b.s
  ws : ∀ e ∈ E, e.ws = ((P.take k).filter (mt e)).flatMap Fp.ws
  fr : ∀ e ∈ E, ∃ x ∈ P.take k, x.t = e.t ∧ x.s = e.s
  all : ∀ x ∈ P.take k, ∃ e ∈ E, x.t = e.t ∧ x.s = e.s
  sum : sumN wlE E = sumN wlF (P.take k)
theorem grpx_step {P : List Fp} (hP : Held P) {k : Nat} {f : Fp} (hf : P[k]? = some f) {E : List Ep} (h : GrpX P k E) : GrpX P (k + 1) (grpE E f) := by
  have hfm := List.mem_of_getElem? hf
  have hin : ∀ x ∈ P.take k, x ∈ P := fun x hx => List.mem_of_mem_take hx
  have hle : ∀ x ∈ P.take k, ¬ ltS f.s x.s := fun x hx => by
    obtain ⟨i, hi⟩ := List.mem_iff_getElem?.1 hx
    rw [List.getElem?_take] at hi
    split at hi
    · rename_i hik
      obtain ⟨g1, rfl⟩ := List.getElem?_eq_some_iff.1 hi
      obtain ⟨g2, rfl⟩ := List.getElem?_eq_some_iff.1 hf
      rcases List.pairwise_iff_getElem.1 hP.srt i k g1 g2 hik with h1 | ⟨h1, -⟩
      · exact ltS_as h1
      · rw [h1]; exact ltS_irr _
    · cases hi
  have hmem : ∀ x, x ∈ P.take (k + 1) ↔ x ∈ P.take k ∨ x = f := fun x => by rw [take_app hf, List.mem_append, List.mem_singleton]
  have hfil : ∀ e : Ep, ((P.take (k + 1)).filter (mt e)).flatMap Fp.ws = ((P.take k).filter (mt e)).flatMap Fp.ws ++ if mt e f then f.ws else [] := fun e => by
    rw [take_app hf, List.filter_append, List.flatMap_append]
    congr 1
    cases h9 : mt e f
    · rw [List.filter_cons_of_neg (by simp [h9])]; simp
    · rw [List.filter_cons_of_pos h9]; simp
  by_cases hs : E ≠ [] ∧ (E.getLastD ez).t = f.t
  · obtain ⟨A, g, rfl⟩ : ∃ A g, E = A ++ [g] := ⟨E.dropLast, E.getLast hs.1, (List.dropLast_concat_getLast hs.1).symm⟩
    have ht : g.t = f.t := by have := hs.2; rwa [List.getLastD_concat] at this
    rw [grp_same ht]
    obtain ⟨hA, -, hAg⟩ := List.pairwise_append.1 h.up
    obtain ⟨x, hx, hxt, hxs⟩ := h.fr g (by simp)
    have hgs : f.s = g.s := by rw [← hxs]; exact ((hP.like x (hin x hx) f hfm).1 (hxt.trans ht)).symm
    refine ⟨List.pairwise_append.2 ⟨hA, List.pairwise_singleton _ _, fun a ha b hb => ?_⟩, fun e he => ?_, fun e he => ?_, fun y hy => ?_, ?_⟩
    · rw [List.mem_singleton] at hb; rw [hb]; exact hAg a ha g (by simp)
    · rcases List.mem_append.1 he with he | he
      · rw [hfil e, if_neg, List.append_nil]
        · exact h.ws e (List.mem_append_left _ he)
        · intro h9
          have h8 : f.t = e.t ∧ f.s = e.s := of_decide_eq_true h9
          have h7 := hAg e he g (by simp)
          rw [← h8.2, hgs] at h7
          exact ltS_irr _ h7
      · rw [List.mem_singleton] at he
        subst he
        rw [hfil]
        have h8 : mt { g with ws := g.ws ++ f.ws } f = true := decide_eq_true ⟨ht.symm, hgs⟩
        rw [if_pos h8]
        show g.ws ++ f.ws = _
        rw [h.ws g (by simp)]
        rfl
    · rcases List.mem_append.1 he with he | he
      · obtain ⟨y, hy, h9⟩ := h.fr e (List.mem_append_left _ he)
        exact ⟨y, (hmem y).2 (.inl hy), h9⟩
      · rw [List.mem_singleton] at he
        subst he
        exact ⟨x, (hmem x).2 (.inl hx), hxt, hxs⟩
    · rcases (hmem y).1 hy with hy | rfl
      · obtain ⟨e, he, h9⟩ := h.all y hy
        rcases List.mem_append.1 he with he | he
        · exact ⟨e, List.mem_append_left _ he, h9⟩
        · rw [List.mem_singleton] at he
          subst he
          exact ⟨_, List.mem_append_right _ (List.mem_singleton.2 rfl), h9⟩
      · exact ⟨_, List.mem_append_right _ (List.mem_singleton.2 rfl), ht.symm, hgs⟩
    · have h9 := h.sum
      rw [take_app hf, sumN_app, sumN_app, ← h9, sumN_app]
      simp only [sumN, wlE, wlF, List.length_append]
      omega
  · have e1 : grpE E f = E ++ [⟨f.t, f.s, f.ws⟩] := by unfold grpE; exact if_neg hs
    rw [e1]
    have hlt : ∀ e ∈ E, ltS e.s f.s := fun e he => by
      obtain ⟨x, hx, hxt, hxs⟩ := h.fr e he
      rcases ltS_tot e.s f.s with h9 | h9 | h9
      · exact h9
      · have hne : E ≠ [] := fun h8 => by rw [h8] at he; simp at he
        obtain ⟨A, g, rfl⟩ : ∃ A g, E = A ++ [g] := ⟨E.dropLast, E.getLast hne, (List.dropLast_concat_getLast hne).symm⟩
        have hft : e.t = f.t := by rw [← hxt]; exact (hP.like x (hin x hx) f hfm).2 (hxs.trans h9)
        rcases List.mem_append.1 he with he | he
        · have h7 := (List.pairwise_append.1 h.up).2.2 e he g (by simp)
          obtain ⟨y, hy, -, hys⟩ := h.fr g (by simp)
          rw [h9, ← hys] at h7
          exact absurd h7 (hle y hy)
        · rw [List.mem_singleton] at he
          subst he
          exact absurd ⟨hne, by rw [List.getLastD_concat]; exact hft⟩ hs
      · rw [← hxs] at h9; exact absurd h9 (hle x hx)
    have hnf : ∀ x ∈ P.take k, x.s ≠ f.s := fun x hx h9 => by
      obtain ⟨e, he, -, hes⟩ := h.all x hx
      have h7 := hlt e he
      rw [← hes, h9] at h7
      exact ltS_irr _ h7
    refine ⟨List.pairwise_append.2 ⟨h.up, List.pairwise_singleton _ _, fun a ha b hb => ?_⟩, fun e he => ?_, fun e he => ?_, fun y hy => ?_, ?_⟩
    · rw [List.mem_singleton] at hb; rw [hb]; exact hlt a ha
    · rcases List.mem_append.1 he with he | he
      · rw [hfil e, if_neg, List.append_nil]
        · exact h.ws e he
        · intro h9
          have h8 : f.t = e.t ∧ f.s = e.s := of_decide_eq_true h9
          have h7 := hlt e he
          rw [h8.2] at h7
          exact ltS_irr _ h7
      · rw [List.mem_singleton] at he
        subst he
        rw [hfil, if_pos (show mt ⟨f.t, f.s, f.ws⟩ f = true from decide_eq_true ⟨rfl, rfl⟩), List.filter_eq_nil_iff.2 fun x hx h9 => hnf x hx (of_decide_eq_true h9).2]
        rfl
    · rcases List.mem_append.1 he with he | he
      · obtain ⟨y, hy, h9⟩ := h.fr e he
        exact ⟨y, (hmem y).2 (.inl hy), h9⟩
      · rw [List.mem_singleton] at he
        subst he
        exact ⟨f, (hmem f).2 (.inr rfl), rfl, rfl⟩
    · rcases (hmem y).1 hy with hy | rfl
      · obtain ⟨e, he, h9⟩ := h.all y hy
        exact ⟨e, List.mem_append_left _ he, h9⟩
      · exact ⟨_, List.mem_append_right _ (List.mem_singleton.2 rfl), rfl, rfl⟩
    · rw [take_app hf, sumN_app, sumN_app, h.sum]
      rfl
theorem grpx_all {P : List Fp} (hP : Held P) : ∀ k, k ≤ P.length → GrpX P k (uptoG (P.take k))
  | 0, _ => ⟨by simp [uptoG], by simp [uptoG], by simp [uptoG], by simp, by simp [uptoG, sumN]⟩
  | k + 1, h => by
    obtain ⟨f, hf⟩ : ∃ f, P[k]? = some f := ⟨_, List.getElem?_eq_getElem h⟩
    rw [upto_snoc hf]
    exact grpx_step hP hf (grpx_all hP k (by omega))
theorem rise_of {l : List Wt} (h1 : SrtW l) (h2 : DisW l) : l.Pairwise fun a b => slt a.key b.key :=
  (h1.and h2).imp fun {a b} h => by
    rcases slt_tot a.key b.key with h3 | h3 | h3
    · exact h3
    · exact absurd h3 h.2
    · exact absurd h3 h.1
/-- what comes out, told -/
structure UpX (L : List Fp) (at_ : Stp) (E : List Ep) : Prop where
  up : E.Pairwise fun a b => ltS a.s b.s
  ws : ∀ e ∈ E, e.ws.Perm (((L.take (cntS at_ L)).filter (mt e)).flatMap Fp.ws) ∧ (e.ws.Pairwise fun a b => slt a.key b.key) ∧ 1 ≤ e.ws.length
  fr : ∀ e ∈ E, ∃ x ∈ L.take (cntS at_ L), x.s = e.s
  sum : sumN wlE E = sumN wlF (L.take (cntS at_ L))
  len : E.length ≤ cntS at_ L
theorem upx {L : List Fp} (hL : Held L) (at_ : Stp) : UpX L at_ (uptoE L at_) := by
  have hc := cntS_le at_ L
  have h := grpx_all hL _ hc
  have h2 := grp_all hL _ hc
  unfold uptoE
  refine ⟨List.pairwise_map.2 h.up, fun e he => ?_, fun e he => ?_, ?_, by rw [List.length_map]; exact h2.len⟩
  · obtain ⟨g, hg, rfl⟩ := List.mem_map.1 he
    have hp := sortW_perm g.ws
    have hd := (h2.dis g hg).1
    refine ⟨?_, rise_of (sortW_srt _) (hp.symm.pairwise hd fun h => h.symm), by show 1 ≤ (sortW g.ws).length; rw [hp.length_eq]; exact (h2.dis g hg).2.2.1⟩
    show (sortW g.ws).Perm _
    refine hp.trans ?_
    rw [h.ws g hg]
    exact List.Perm.refl _
  · obtain ⟨g, hg, rfl⟩ := List.mem_map.1 he
    obtain ⟨x, hx, -, h9⟩ := h.fr g hg
    exact ⟨x, hx, h9⟩
  · rw [← h.sum]
    generalize uptoG (L.take (cntS at_ L)) = G
    induction G with
    | nil => rfl
    | cons g r ih =>
      show (sortW g.ws).length + sumN wlE (r.map srtE) = g.ws.length + sumN wlE r
      rw [ih, (sortW_perm g.ws).length_eq]
/-- how it stands -/
structure WI (I : List Fp) (O : List Ep) (L : List Fp) (low last : Stp) : Prop where
  held : Held L
  perm : (I.filter fun x => decide (ltS low x.s)).Perm L
  out : ∀ e ∈ O, e.ws.Perm ((I.filter (mt e)).flatMap Fp.ws) ∧ (e.ws.Pairwise fun a b => slt a.key b.key) ∧ 1 ≤ e.ws.length ∧ ¬ ltS low e.s
  last : ¬ ltS low last
  sum : sumN wlF I = sumN wlE O + sumN wlF L
  len : O.length + L.length ≤ I.length
  small : ∀ x ∈ I, x.ws.length ≤ 16
theorem WI.nil : WI [] [] [] sz0 sz0 := ⟨held_nil, List.Perm.refl _, by simp, ltS_irr _, rfl, Nat.le_refl _, by simp⟩
theorem WI.above {I O L low last} (h : WI I O L low last) : ∀ x ∈ L, ltS low x.s := fun x hx => by
  have := h.perm.mem_iff.2 hx
  rw [List.mem_filter] at this
  exact of_decide_eq_true this.2
theorem WI.add {I O L low last} (h : WI I O L low last) {f : Fp} (hf : ltS low f.s) (ha : addE L f = 0) : WI (I ++ [f]) O (addL L f) low last := by
  have h1 := addL_ins ha
  have hp := ins_perm L f
  refine ⟨held_add h.held f, ?_, fun e he => ?_, h.last, ?_, ?_, fun x hx => ?_⟩
  · rw [List.filter_append, List.filter_cons_of_pos (by simpa using hf), h1]
    refine List.Perm.trans ?_ hp.symm
    refine (h.perm.append_right _).trans ?_
    exact List.perm_append_comm
  · obtain ⟨a, b, c, d⟩ := h.out e he
    refine ⟨?_, b, c, d⟩
    rw [List.filter_append, List.filter_cons_of_neg, List.filter_nil, List.append_nil]
    · exact a
    · intro h9
      rw [(of_decide_eq_true h9 : f.t = e.t ∧ f.s = e.s).2] at hf
      exact d hf
  · rw [h1, sumN_perm hp, sumN_app, h.sum]
    simp only [sumN]
    omega
  · have h2 := h.len
    rw [h1, hp.length_eq, List.length_append, List.length_cons, List.length_singleton]
    omega
  · rcases List.mem_append.1 hx with hx | hx
    · exact h.small x hx
    · rw [List.mem_singleton] at hx; rw [hx]; exact (mayF_ok (add_zero ha).1).2.2.2.1
def lastE (z : Stp) (E : List Ep) : Stp := E.foldl (fun _ e => e.s) z
theorem lastE_snoc {z : Stp} {E : List Ep} {k : Nat} {e : Ep} (h : E[k]? = some e) : lastE z (E.take (k + 1)) = e.s := by
  unfold lastE; rw [take_app h, List.foldl_append]; rfl
theorem lastE_lt {z : Stp} {E : List Ep} (h1 : ∀ e ∈ E, ltS z e.s) (h2 : E.Pairwise fun a b => ltS a.s b.s) {k : Nat} {e : Ep} (he : E[k]? = some e) : ltS (lastE z (E.take k)) e.s := by
  cases k with
  | zero => exact h1 e (List.mem_of_getElem? he)
  | succ j =>
    obtain ⟨g1, rfl⟩ := List.getElem?_eq_some_iff.1 he
    have h3 : E[j]? = some E[j] := List.getElem?_eq_getElem _
    rw [lastE_snoc h3]
    exact List.pairwise_iff_getElem.1 h2 j (j + 1) _ g1 (Nat.lt_succ_self _)
theorem WI.rise {I O L low last at_} (h : WI I O L low last) (_ha : ¬ ltS at_ low) : (∀ e ∈ uptoE L at_, ltS last e.s) ∧ ((uptoE L at_).Pairwise fun a b => ltS a.s b.s) ∧ ∀ e ∈ uptoE L at_, ¬ ltS at_ e.s := by
  have u := upx h.held at_
  refine ⟨fun e he => ?_, u.up, fun e he => ?_⟩
  · obtain ⟨x, hx, hxs⟩ := u.fr e he
    rw [← hxs]
    exact nlt_lt h.last (h.above x (List.mem_of_mem_take hx))
  · obtain ⟨x, hx, hxs⟩ := u.fr e he
    rw [← hxs]
    exact (cmp_le _ _).1 (cntS_all hx)
theorem WI.upto {I O L low last at_} (h : WI I O L low last) (ha : ¬ ltS at_ low) : WI I (O ++ uptoE L at_) (uptoL L at_) at_ (lastE last (uptoE L at_)) := by
  have u := upx h.held at_
  obtain ⟨r1, r2, r3⟩ := h.rise ha
  have hd := cntS_drop (at_ := at_) h.held.srt
  have hle := cntS_le at_ L
  have hsp : L = L.take (cntS at_ L) ++ L.drop (cntS at_ L) := (List.take_append_drop _ _).symm
  refine ⟨held_upto h.held _, ?_, fun e he => ?_, ?_, ?_, ?_, h.small⟩
  · have h1 := h.perm.filter fun x => decide (ltS at_ x.s)
    rw [List.filter_filter] at h1
    have h2 : (fun x : Fp => decide (ltS at_ x.s) && decide (ltS low x.s)) = fun x => decide (ltS at_ x.s) := by
      funext x
      by_cases h9 : ltS at_ x.s
      · simp [h9, nlt_lt ha h9]
      · simp [h9]
    rw [h2] at h1
    refine h1.trans ?_
    unfold uptoL
    conv => lhs; rw [hsp]
    rw [List.filter_append, List.filter_eq_nil_iff.2 fun x hx => by
      have := (cmp_le _ _).1 (cntS_all hx)
      simpa using this, List.nil_append, List.filter_eq_self.2 fun x hx => by
      have := hd x hx
      rw [cmp_le] at this
      simpa using this]
  · rcases List.mem_append.1 he with he | he
    · obtain ⟨a, b, c, d⟩ := h.out e he
      exact ⟨a, b, c, nlt_tr (Classical.not_not.1 fun h9 => h9 d) ha⟩
    · obtain ⟨a, b, c⟩ := u.ws e he
      refine ⟨a.trans ?_, b, c, r3 e he⟩
      obtain ⟨x9, hx9, hxs9⟩ := u.fr e he
      have hlo : ltS low e.s := by rw [← hxs9]; exact h.above x9 (List.mem_of_mem_take hx9)
      refine List.Perm.flatMap_right _ ?_
      have h1 := h.perm.filter (mt e)
      rw [List.filter_filter] at h1
      have h2 : (fun x : Fp => mt e x && decide (ltS low x.s)) = mt e := by
        funext x
        cases h9 : mt e x
        · rfl
        · have h8 : x.t = e.t ∧ x.s = e.s := of_decide_eq_true h9
          rw [h8.2]
          simp [hlo]
      rw [h2] at h1
      refine List.Perm.trans ?_ h1.symm
      conv => rhs; rw [hsp]
      rw [List.filter_append, (List.filter_eq_nil_iff (p := mt e) (l := L.drop (cntS at_ L))).2 fun x hx h9 => by
        have h8 : x.t = e.t ∧ x.s = e.s := of_decide_eq_true h9
        have h7 := hd x hx
        rw [cmp_le, h8.2] at h7
        exact h7 (r3 e he), List.append_nil]
  · rcases List.eq_nil_or_concat (uptoE L at_) with h9 | ⟨A, g, h9⟩
    · rw [h9]
      exact nlt_tr h.last ha
    · rw [h9]
      have h8 : lastE last (A ++ [g]) = g.s := by unfold lastE; rw [List.foldl_append]; rfl
      rw [List.concat_eq_append, h8]
      exact r3 g (by rw [h9]; simp)
  · have h1 := h.sum
    rw [sumN_app, u.sum, h1]
    conv => lhs; rw [hsp]
    rw [sumN_app]
    unfold uptoL
    omega
  · have h1 := h.len
    have h2 := u.len
    unfold uptoL
    rw [List.length_append, List.length_drop]
    omega
theorem sum_bd : ∀ {I : List Fp}, (∀ x ∈ I, x.ws.length ≤ 16) → sumN wlF I ≤ 16 * I.length
  | [], _ => Nat.zero_le _
  | x :: r, h => by
    have h1 := sum_bd (I := r) fun y hy => h y (List.mem_cons_of_mem _ hy)
    have h2 := h x List.mem_cons_self
    simp only [sumN, List.length_cons]
    unfold wlF at *
    omega
def smax : Stp := ⟨281474976710656, 65535, 63⟩
theorem upto_max {L : List Fp} (h : Held L) : uptoL L smax = [] := by
  rcases List.eq_nil_or_concat (uptoL L smax) with h9 | ⟨A, g, h9⟩
  · exact h9
  · have hg : g ∈ L.drop (cntS smax L) := by show g ∈ uptoL L smax; rw [h9]; simp
    have h1 := cntS_drop h.srt g hg
    rw [cmp_le] at h1
    have h2 := (mayF_ok (h.may g (List.mem_of_mem_drop hg))).2.2.2.2
    unfold emay at h2
    simp only [Bool.and_eq_true] at h2
    have h3 : mayS g.s = true := by simp_all
    have h4 := of_decide_eq_true h3
    refine absurd (fun h5 => ?_) h1
    simp only [ltS, smax] at h5
    omega
/-- a write is there -/
theorem find_rise {l : List Wt} (h : l.Pairwise fun a b => slt a.key b.key) {w : Wt} (hw : w ∈ l) {i : Nat} {x : Wt} (hx : l[i]? = some x) (hk : x.key = w.key) : x = w := by
  obtain ⟨j, hj⟩ := List.mem_iff_getElem?.1 hw
  obtain ⟨g1, rfl⟩ := List.getElem?_eq_some_iff.1 hx
  obtain ⟨g2, rfl⟩ := List.getElem?_eq_some_iff.1 hj
  rcases Nat.lt_trichotomy i j with h1 | h1 | h1
  · have := List.pairwise_iff_getElem.1 h i j g1 g2 h1; rw [hk] at this; exact absurd this (slt_irr _)
  · subst h1; rfl
  · have := List.pairwise_iff_getElem.1 h j i g2 g1 h1; rw [hk] at this; exact absurd this (slt_irr _)

end Go.Proofs.Ythhdoeflafakaaa
