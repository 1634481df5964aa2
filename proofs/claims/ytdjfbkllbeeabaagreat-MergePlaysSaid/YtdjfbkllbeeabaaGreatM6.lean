/- What is held and what is told, plainly. -/
import Derived.Test.YtdjfbkllbeeabaaGreatM0
set_option linter.unusedSimpArgs false
set_option linter.unusedVariables false
namespace Go.Proofs.YtdjfbkllbeeabaaGreat
open Sx

theorem hasF_iff {L : List Fp} {rg : Int} {t : Tn} : hasF L rg t = true ↔ ∃ x ∈ L, x.rg = rg ∧ x.t = t := by
  unfold hasF
  rw [List.any_eq_true]
  simp
theorem has_add {L : List Fp} {f : Fp} (h : addE L f = 0) : hasF L f.rg f.t = false ∧ hasF (addL L f) f.rg f.t = true ∧ (addL L f).length = L.length + 1 := by
  obtain ⟨-, h2, -, -⟩ := add_zero h
  unfold addL
  rw [if_pos h]
  refine ⟨?_, hasF_iff.2 ⟨f, (ins_perm L f).mem_iff.2 (by simp), rfl, rfl⟩, by rw [(ins_perm L f).length_eq, List.length_cons]⟩
  cases h3 : hasF L f.rg f.t
  · rfl
  · obtain ⟨x, hx, hxe⟩ := hasF_iff.1 h3
    exact absurd hxe (h2 x hx)
theorem cntS_all {at_ : Stp} : ∀ {L : List Fp} {x : Fp}, x ∈ L.take (cntS at_ L) → cmpS x.s at_ ≤ 0
  | [], x, h => by simp at h
  | y :: r, x, h => by
    unfold cntS at h
    split at h
    · rename_i hy
      rw [List.take_succ_cons] at h
      rcases List.mem_cons.1 h with rfl | h
      · exact hy
      · exact cntS_all h
    · simp at h
theorem cmp_up {a b c : Stp} (h : ¬ ltS b a) (hc : ¬ cmpS a c ≤ 0) : ¬ cmpS b c ≤ 0 := by
  rw [cmp_le] at hc ⊢
  have hc2 : ltS c a := by
    rcases ltS_tot c a with h1 | h1 | h1
    · exact h1
    · exact absurd (by rw [h1]; exact ltS_irr _ : ¬ ltS c a) hc
    · exact absurd (fun h9 => ltS_as h1 h9) hc
  refine fun h9 => h9 ?_
  rcases ltS_tot a b with h1 | h1 | h1
  · exact ltS_tr hc2 h1
  · rw [← h1]; exact hc2
  · exact absurd h1 h
theorem cntS_drop {at_ : Stp} : ∀ {L : List Fp}, L.Pairwise ltF → ∀ x ∈ L.drop (cntS at_ L), ¬ cmpS x.s at_ ≤ 0
  | [], _, x, h => by simp at h
  | y :: r, hp, x, h => by
    have hc := List.pairwise_cons.1 hp
    unfold cntS at h
    split at h
    · exact cntS_drop hc.2 x (by simpa using h)
    · rename_i hy
      rw [List.drop_zero] at h
      rcases List.mem_cons.1 h with rfl | h
      · exact hy
      · refine cmp_up (a := y.s) ?_ hy
        rcases hc.1 x h with h1 | ⟨h1, -⟩
        · exact ltS_as h1
        · rw [h1]; exact ltS_irr _
theorem upto_from {L : List Fp} (hL : Held L) {at_ : Stp} {e : Ep} (he : e ∈ uptoE L at_) : ∃ x ∈ L.take (cntS at_ L), x.t = e.t := by
  unfold uptoE at he
  obtain ⟨g, hg, rfl⟩ := List.mem_map.1 he
  have h1 := (grp_all hL (cntS at_ L) (cntS_le at_ L)).dis g hg
  obtain ⟨w, hw⟩ := List.exists_mem_of_length_pos (l := g.ws) h1.2.2.1
  obtain ⟨x, hx, hxt, -⟩ := h1.2.1 w hw
  exact ⟨x, hx, hxt⟩
theorem upto_has {L : List Fp} (hL : Held L) {at_ : Stp} {e : Ep} (he : e ∈ uptoE L at_) (id : Int) : hasF (uptoL L at_) id e.t = false := by
  cases h : hasF (uptoL L at_) id e.t
  · rfl
  · obtain ⟨y, hy, -, hyt⟩ := hasF_iff.1 h
    obtain ⟨x, hx, hxt⟩ := upto_from hL he
    have h1 := cntS_drop hL.srt y hy
    have h2 := cntS_all hx
    have h3 := (hL.like x (List.mem_of_mem_take hx) y (List.mem_of_mem_drop hy)).1 (hxt.trans hyt.symm)
    rw [h3] at h2
    exact absurd h2 h1
theorem grpE_ne (E : List Ep) (f : Fp) : grpE E f ≠ [] := by unfold grpE; split <;> simp
theorem uptoG_ne {P : List Fp} (h : P ≠ []) : uptoG P ≠ [] := by
  obtain ⟨A, g, rfl⟩ : ∃ A g, P = A ++ [g] := ⟨P.dropLast, P.getLast h, (List.dropLast_concat_getLast h).symm⟩
  unfold uptoG
  rw [List.foldl_append]
  exact grpE_ne _ _
theorem upto_len (L : List Fp) (at_ : Stp) : (uptoE L at_ = [] ↔ (uptoL L at_).length = L.length) ∧ (uptoL L at_).length ≤ L.length := by
  have hc := cntS_le at_ L
  unfold uptoE uptoL
  rw [List.length_drop]
  refine ⟨⟨fun h => ?_, fun h => ?_⟩, by omega⟩
  · have h1 := List.map_eq_nil_iff.1 h
    rcases Nat.eq_zero_or_pos (cntS at_ L) with h2 | h2
    · omega
    · exact absurd h1 (uptoG_ne fun h9 => by have := congrArg List.length h9; rw [List.length_take, List.length_nil] at this; omega)
  · have h2 : cntS at_ L = 0 := by omega
    rw [h2, List.take_zero]
    rfl
theorem held_upto {L : List Fp} (h : Held L) (at_ : Stp) : Held (uptoL L at_) := held_drop h _
theorem add_no {L : List Fp} {f : Fp} {z : Int} (h : addE L f = z) (hz : z ≠ 0) : addL L f = L := by
  unfold addL; exact if_neg (by rw [h]; exact hz)

/-! added in whatever order -/
def comp (x f : Fp) : Prop := ¬ (x.rg = f.rg ∧ x.t = f.t) ∧ (x.t = f.t ↔ x.s = f.s) ∧ (x.t = f.t → ∀ u ∈ x.ws, ∀ v ∈ f.ws, u.key ≠ v.key)
theorem comp_symm {x f : Fp} (h : comp x f) : comp f x :=
  ⟨fun ⟨a, b⟩ => h.1 ⟨a.symm, b.symm⟩, ⟨fun a => (h.2.1.1 a.symm).symm, fun a => (h.2.1.2 a.symm).symm⟩, fun a u hu v hv e => h.2.2 a.symm v hv u hu e.symm⟩
theorem add_iff {L : List Fp} {f : Fp} : addE L f = 0 ↔ mayF f = true ∧ ∀ x ∈ L, comp x f := by
  constructor
  · intro h
    obtain ⟨h1, h2, h3, h4⟩ := add_zero h
    exact ⟨h1, fun x hx => ⟨h2 x hx, h3 x hx, h4 x hx⟩⟩
  · rintro ⟨h1, h2⟩
    have e1 : hasF L f.rg f.t = false := by
      cases h : hasF L f.rg f.t
      · rfl
      · obtain ⟨x, hx, he⟩ := hasF_iff.1 h
        exact absurd he (h2 x hx).1
    have e2 : (L.any fun h => unlike h f) = false := by
      rw [List.any_eq_false]
      intro x hx
      have := (h2 x hx).2.1
      unfold unlike
      by_cases h : x.t = f.t
      · simp [h, this.1 h]
      · have h8 : ¬ x.s = f.s := fun h9 => h (this.2 h9)
        simp [h, h8]
    have e3 : (L.any fun h => decide (h.t = f.t) && meetF h.ws f.ws) = false := by
      rw [List.any_eq_false]
      intro x hx
      have h3 := (h2 x hx).2.2
      by_cases h : x.t = f.t
      · have h4 : meetF x.ws f.ws = false := by
          unfold meetF
          rw [List.any_eq_false]
          intro u hu h5
          obtain ⟨v, hv, h6⟩ := List.any_eq_true.1 h5
          exact h3 h u hu v hv (of_decide_eq_true h6)
        simp [h4]
      · simp [h]
    unfold addE
    rw [if_neg (by rw [h1]; decide), if_neg (by rw [e1]; decide), if_neg (by rw [e2]; decide), if_neg (by rw [e3]; decide)]
def foldA (L : List Fp) (l : List Fp) : List Fp := l.foldl addL L
/-- they are all taken -/
def okA (l : List Fp) : Prop := (∀ f ∈ l, mayF f = true) ∧ l.Pairwise comp
theorem addL_ins {L : List Fp} {f : Fp} (h : addE L f = 0) : addL L f = insF L f := by unfold addL; rw [if_pos h]
theorem foldA_perm : ∀ {l L : List Fp}, (∀ f ∈ l, mayF f = true) → (∀ x ∈ L, ∀ f ∈ l, comp x f) → l.Pairwise comp → (foldA L l).Perm (l ++ L)
  | [], L, _, _, _ => List.Perm.refl _
  | f :: l, L, h1, h2, h3 => by
    have hc := List.pairwise_cons.1 h3
    have he : addE L f = 0 := add_iff.2 ⟨h1 f List.mem_cons_self, fun x hx => h2 x hx f List.mem_cons_self⟩
    have hm : ∀ x, x ∈ addL L f ↔ x = f ∨ x ∈ L := fun x => by rw [addL_ins he, (ins_perm L f).mem_iff, List.mem_cons]
    have ih := foldA_perm (l := l) (L := addL L f) (fun g hg => h1 g (List.mem_cons_of_mem _ hg)) (fun x hx g hg => by
      rcases (hm x).1 hx with rfl | hx
      · exact hc.1 g hg
      · exact h2 x hx g (List.mem_cons_of_mem _ hg)) hc.2
    show (foldA (addL L f) l).Perm _
    refine ih.trans ?_
    rw [addL_ins he]
    refine ((ins_perm L f).append_left l).trans ?_
    exact List.perm_middle
theorem okA_add {l : List Fp} {f : Fp} (h : okA l) : addE (foldA [] l) f = 0 ↔ okA (l ++ [f]) := by
  have hp := foldA_perm (L := []) h.1 (by simp) h.2
  rw [List.append_nil] at hp
  rw [add_iff]
  unfold okA
  constructor
  · rintro ⟨h1, h2⟩
    refine ⟨fun g hg => ?_, List.pairwise_append.2 ⟨h.2, List.pairwise_singleton _ _, fun a ha b hb => ?_⟩⟩
    · rcases List.mem_append.1 hg with hg | hg
      · exact h.1 g hg
      · rw [List.mem_singleton] at hg; rw [hg]; exact h1
    · rw [List.mem_singleton] at hb
      rw [hb]
      exact h2 a (hp.mem_iff.2 ha)
  · rintro ⟨h1, h2⟩
    exact ⟨h1 f (by simp), fun x hx => (List.pairwise_append.1 h2).2.2 x (hp.mem_iff.1 hx) f (by simp)⟩
theorem okA_rev {l : List Fp} (h : okA l) : okA l.reverse :=
  ⟨fun f hf => h.1 f (List.mem_reverse.1 hf), by
    rw [List.pairwise_reverse]
    exact h.2.imp fun {a b} h9 => comp_symm h9⟩
theorem okA_pre {l m : List Fp} (h : okA (l ++ m)) : okA l := ⟨fun f hf => h.1 f (List.mem_append_left _ hf), (List.pairwise_append.1 h.2).1⟩
theorem held_fold : ∀ {l L : List Fp}, Held L → Held (foldA L l)
  | [], L, h => h
  | f :: l, L, h => held_fold (l := l) (held_add h f)
theorem fold_rev {l : List Fp} (h : okA l) : foldA [] l.reverse = foldA [] l := by
  have hp := foldA_perm (L := []) h.1 (by simp) h.2
  have hq := foldA_perm (L := []) (okA_rev h).1 (by simp) (okA_rev h).2
  rw [List.append_nil] at hp hq
  have hpq : (foldA [] l.reverse).Perm (foldA [] l) := hq.trans ((List.reverse_perm l).trans hp.symm)
  exact hpq.eq_of_pairwise (fun a b _ _ h1 h2 => absurd h2 (ltF_as h1)) (held_fold held_nil).srt (held_fold held_nil).srt
theorem foldA_snoc (l : List Fp) (f : Fp) (L : List Fp) : foldA L (l ++ [f]) = addL (foldA L l) f := by unfold foldA; rw [List.foldl_append]; rfl

/-! whole transactions, each once -/
def mt (e : Ep) (x : Fp) : Bool := decide (x.t = e.t ∧ x.s = e.s)
def wlF (x : Fp) : Nat := x.ws.length
def wlE (e : Ep) : Nat := e.ws.length
theorem sumN_flat {α β : Type} (f : α → List β) : ∀ l : List α, sumN (fun x => (f x).length) l = (l.flatMap f).length
  | [] => rfl
  | x :: l => by simp only [sumN, sumN_flat f l, List.flatMap_cons, List.length_append]
theorem sumN_perm {α : Type} {f : α → Nat} {l m : List α} (h : l.Perm m) : sumN f l = sumN f m := by
  induction h with
  | nil => rfl
  | cons x _ ih => simp only [sumN, ih]
  | swap x y l => simp only [sumN]; omega
  | trans _ _ h1 h2 => exact h1.trans h2
theorem nlt_tr {a b c : Stp} (h1 : ¬ ltS b a) (h2 : ¬ ltS c b) : ¬ ltS c a := fun h => by
  rcases ltS_tot a b with h3 | h3 | h3
  · exact h2 (ltS_tr h h3)
  · rw [h3] at h; exact h2 h
  · exact h1 h3
theorem lt_nlt {a b c : Stp} (h1 : ltS a b) (h2 : ¬ ltS c b) : ltS a c := by
  rcases ltS_tot b c with h3 | h3 | h3
  · exact ltS_tr h1 h3
  · rw [← h3]; exact h1
  · exact absurd h3 h2
theorem nlt_lt {a b c : Stp} (h1 : ¬ ltS b a) (h2 : ltS b c) : ltS a c := by
  rcases ltS_tot a b with h3 | h3 | h3
  · exact ltS_tr h3 h2
  · rw [h3]; exact h2
  · exact absurd h3 h1
structure GrpX (P : List Fp) (k : Nat) (E : List Ep) : Prop where
  up : E.Pairwise fun a b => ltS a.s b.s
  ws : ∀ e ∈ E, e.ws = ((P.take k).filter (mt e)).flatMap Fp.ws
  fr : ∀ e ∈ E, ∃ x ∈ P.take k, x.t = e.t ∧ x.s = e.s
  all : ∀ x ∈ P.take k, ∃ e ∈ E, x.t = e.t ∧ x.s = e.s
  sum : sumN wlE E = sumN wlF (P.take k)
theorem grpx_step {P : List Fp} (hP : Held P) {k : Nat} {f : Fp} (hf : P[k]? = some f) {E : List Ep} (h : GrpX P k E) : GrpX P (k + 1) (grpE E f) := by
  have hfm := List.mem_of_getElem? hf
  have hin : ∀ x ∈ P.take k, x ∈ P := fun x hx => List.mem_of_mem_take hx
  have hle : ∀ x ∈ P.take k, ¬ ltS f.s x.s := fun x hx => by
    obtain ⟨i, hi⟩ := List.mem_iff_getElem?.1 hx
    rw [List.getElem?_take] at hi
    split at hi
    · rename_i hik
      obtain ⟨g1, rfl⟩ := List.getElem?_eq_some_iff.1 hi
      obtain ⟨g2, rfl⟩ := List.getElem?_eq_some_iff.1 hf
      rcases List.pairwise_iff_getElem.1 hP.srt i k g1 g2 hik with h1 | ⟨h1, -⟩
      · exact ltS_as h1
      · rw [h1]; exact ltS_irr _
    · cases hi
  have hmem : ∀ x, x ∈ P.take (k + 1) ↔ x ∈ P.take k ∨ x = f := fun x => by rw [take_app hf, List.mem_append, List.mem_singleton]
  have hfil : ∀ e : Ep, ((P.take (k + 1)).filter (mt e)).flatMap Fp.ws = ((P.take k).filter (mt e)).flatMap Fp.ws ++ if mt e f then f.ws else [] := fun e => by
    rw [take_app hf, List.filter_append, List.flatMap_append]
    congr 1
    cases h9 : mt e f
    · rw [List.filter_cons_of_neg (by simp [h9])]; simp
    · rw [List.filter_cons_of_pos h9]; simp
  by_cases hs : E ≠ [] ∧ (E.getLastD ez).t = f.t
  · obtain ⟨A, g, rfl⟩ : ∃ A g, E = A ++ [g] := ⟨E.dropLast, E.getLast hs.1, (List.dropLast_concat_getLast hs.1).symm⟩
    have ht : g.t = f.t := by have := hs.2; rwa [List.getLastD_concat] at this
    rw [grp_same ht]
    obtain ⟨hA, -, hAg⟩ := List.pairwise_append.1 h.up
    obtain ⟨x, hx, hxt, hxs⟩ := h.fr g (by simp)
    have hgs : f.s = g.s := by rw [← hxs]; exact ((hP.like x (hin x hx) f hfm).1 (hxt.trans ht)).symm
    refine ⟨List.pairwise_append.2 ⟨hA, List.pairwise_singleton _ _, fun a ha b hb => ?_⟩, fun e he => ?_, fun e he => ?_, fun y hy => ?_, ?_⟩
    · rw [List.mem_singleton] at hb; rw [hb]; exact hAg a ha g (by simp)
    · rcases List.mem_append.1 he with he | he
      · rw [hfil e, if_neg, List.append_nil]
        · exact h.ws e (List.mem_append_left _ he)
        · intro h9
          have h8 : f.t = e.t ∧ f.s = e.s := of_decide_eq_true h9
          have h7 := hAg e he g (by simp)
          rw [← h8.2, hgs] at h7
          exact ltS_irr _ h7
      · rw [List.mem_singleton] at he
        subst he
        rw [hfil]
        have h8 : mt { g with ws := g.ws ++ f.ws } f = true := decide_eq_true ⟨ht.symm, hgs⟩
        rw [if_pos h8]
        show g.ws ++ f.ws = _
        rw [h.ws g (by simp)]
        rfl
    · rcases List.mem_append.1 he with he | he
      · obtain ⟨y, hy, h9⟩ := h.fr e (List.mem_append_left _ he)
        exact ⟨y, (hmem y).2 (.inl hy), h9⟩
      · rw [List.mem_singleton] at he
        subst he
        exact ⟨x, (hmem x).2 (.inl hx), hxt, hxs⟩
    · rcases (hmem y).1 hy with hy | rfl
      · obtain ⟨e, he, h9⟩ := h.all y hy
        rcases List.mem_append.1 he with he | he
        · exact ⟨e, List.mem_append_left _ he, h9⟩
        · rw [List.mem_singleton] at he
          subst he
          exact ⟨_, List.mem_append_right _ (List.mem_singleton.2 rfl), h9⟩
      · exact ⟨_, List.mem_append_right _ (List.mem_singleton.2 rfl), ht.symm, hgs⟩
    · have h9 := h.sum
      rw [take_app hf, sumN_app, sumN_app, ← h9, sumN_app]
      simp only [sumN, wlE, wlF, List.length_append]
      omega
  · have e1 : grpE E f = E ++ [⟨f.t, f.s, f.ws⟩] := by unfold grpE; exact if_neg hs
    rw [e1]
    have hlt : ∀ e ∈ E, ltS e.s f.s := fun e he => by
      obtain ⟨x, hx, hxt, hxs⟩ := h.fr e he
      rcases ltS_tot e.s f.s with h9 | h9 | h9
      · exact h9
      · have hne : E ≠ [] := fun h8 => by rw [h8] at he; simp at he
        obtain ⟨A, g, rfl⟩ : ∃ A g, E = A ++ [g] := ⟨E.dropLast, E.getLast hne, (List.dropLast_concat_getLast hne).symm⟩
        have hft : e.t = f.t := by rw [← hxt]; exact (hP.like x (hin x hx) f hfm).2 (hxs.trans h9)
        rcases List.mem_append.1 he with he | he
        · have h7 := (List.pairwise_append.1 h.up).2.2 e he g (by simp)
          obtain ⟨y, hy, -, hys⟩ := h.fr g (by simp)
          rw [h9, ← hys] at h7
          exact absurd h7 (hle y hy)
        · rw [List.mem_singleton] at he
          subst he
          exact absurd ⟨hne, by rw [List.getLastD_concat]; exact hft⟩ hs
      · rw [← hxs] at h9; exact absurd h9 (hle x hx)
    have hnf : ∀ x ∈ P.take k, x.s ≠ f.s := fun x hx h9 => by
      obtain ⟨e, he, -, hes⟩ := h.all x hx
      have h7 := hlt e he
      rw [← hes, h9] at h7
      exact ltS_irr _ h7
    refine ⟨List.pairwise_append.2 ⟨h.up, List.pairwise_singleton _ _, fun a ha b hb => ?_⟩, fun e he => ?_, fun e he => ?_, fun y hy => ?_, ?_⟩
    · rw [List.mem_singleton] at hb; rw [hb]; exact hlt a ha
    · rcases List.mem_append.1 he with he | he
      · rw [hfil e, if_neg, List.append_nil]
        · exact h.ws e he
        · intro h9
          have h8 : f.t = e.t ∧ f.s = e.s := of_decide_eq_true h9
          have h7 := hlt e he
          rw [h8.2] at h7
          exact ltS_irr _ h7
      · rw [List.mem_singleton] at he
        subst he
        rw [hfil, if_pos (show mt ⟨f.t, f.s, f.ws⟩ f = true from decide_eq_true ⟨rfl, rfl⟩), List.filter_eq_nil_iff.2 fun x hx h9 => hnf x hx (of_decide_eq_true h9).2]
        rfl
    · rcases List.mem_append.1 he with he | he
      · obtain ⟨y, hy, h9⟩ := h.fr e he
        exact ⟨y, (hmem y).2 (.inl hy), h9⟩
      · rw [List.mem_singleton] at he
        subst he
        exact ⟨f, (hmem f).2 (.inr rfl), rfl, rfl⟩
    · rcases (hmem y).1 hy with hy | rfl
      · obtain ⟨e, he, h9⟩ := h.all y hy
        exact ⟨e, List.mem_append_left _ he, h9⟩
      · exact ⟨_, List.mem_append_right _ (List.mem_singleton.2 rfl), rfl, rfl⟩
    · rw [take_app hf, sumN_app, sumN_app, h.sum]
      rfl
theorem grpx_all {P : List Fp} (hP : Held P) : ∀ k, k ≤ P.length → GrpX P k (uptoG (P.take k))
  | 0, _ => ⟨by simp [uptoG], by simp [uptoG], by simp [uptoG], by simp, by simp [uptoG, sumN]⟩
  | k + 1, h => by
    obtain ⟨f, hf⟩ : ∃ f, P[k]? = some f := ⟨_, List.getElem?_eq_getElem h⟩
    rw [upto_snoc hf]
    exact grpx_step hP hf (grpx_all hP k (by omega))
theorem rise_of {l : List Wt} (h1 : SrtW l) (h2 : DisW l) : l.Pairwise fun a b => slt a.key b.key :=
  (h1.and h2).imp fun {a b} h => by
    rcases slt_tot a.key b.key with h3 | h3 | h3
    · exact h3
    · exact absurd h3 h.2
    · exact absurd h3 h.1
/-- what comes out, told -/
structure UpX (L : List Fp) (at_ : Stp) (E : List Ep) : Prop where
  up : E.Pairwise fun a b => ltS a.s b.s
  ws : ∀ e ∈ E, e.ws.Perm (((L.take (cntS at_ L)).filter (mt e)).flatMap Fp.ws) ∧ (e.ws.Pairwise fun a b => slt a.key b.key) ∧ 1 ≤ e.ws.length
  fr : ∀ e ∈ E, ∃ x ∈ L.take (cntS at_ L), x.s = e.s
  sum : sumN wlE E = sumN wlF (L.take (cntS at_ L))
  len : E.length ≤ cntS at_ L
theorem upx {L : List Fp} (hL : Held L) (at_ : Stp) : UpX L at_ (uptoE L at_) := by
  have hc := cntS_le at_ L
  have h := grpx_all hL _ hc
  have h2 := grp_all hL _ hc
  unfold uptoE
  refine ⟨List.pairwise_map.2 h.up, fun e he => ?_, fun e he => ?_, ?_, by rw [List.length_map]; exact h2.len⟩
  · obtain ⟨g, hg, rfl⟩ := List.mem_map.1 he
    have hp := sortW_perm g.ws
    have hd := (h2.dis g hg).1
    refine ⟨?_, rise_of (sortW_srt _) (hp.symm.pairwise hd fun h => h.symm), by show 1 ≤ (sortW g.ws).length; rw [hp.length_eq]; exact (h2.dis g hg).2.2.1⟩
    show (sortW g.ws).Perm _
    refine hp.trans ?_
    rw [h.ws g hg]
    exact List.Perm.refl _
  · obtain ⟨g, hg, rfl⟩ := List.mem_map.1 he
    obtain ⟨x, hx, -, h9⟩ := h.fr g hg
    exact ⟨x, hx, h9⟩
  · rw [← h.sum]
    generalize uptoG (L.take (cntS at_ L)) = G
    induction G with
    | nil => rfl
    | cons g r ih =>
      show (sortW g.ws).length + sumN wlE (r.map srtE) = g.ws.length + sumN wlE r
      rw [ih, (sortW_perm g.ws).length_eq]
/-- how it stands -/
structure WI (I : List Fp) (O : List Ep) (L : List Fp) (low last : Stp) : Prop where
  held : Held L
  perm : (I.filter fun x => decide (ltS low x.s)).Perm L
  out : ∀ e ∈ O, e.ws.Perm ((I.filter (mt e)).flatMap Fp.ws) ∧ (e.ws.Pairwise fun a b => slt a.key b.key) ∧ 1 ≤ e.ws.length ∧ ¬ ltS low e.s
  last : ¬ ltS low last
  sum : sumN wlF I = sumN wlE O + sumN wlF L
  len : O.length + L.length ≤ I.length
  small : ∀ x ∈ I, x.ws.length ≤ 16
theorem WI.nil : WI [] [] [] sz0 sz0 := ⟨held_nil, List.Perm.refl _, by simp, ltS_irr _, rfl, Nat.le_refl _, by simp⟩
theorem WI.above {I O L low last} (h : WI I O L low last) : ∀ x ∈ L, ltS low x.s := fun x hx => by
  have := h.perm.mem_iff.2 hx
  rw [List.mem_filter] at this
  exact of_decide_eq_true this.2
theorem WI.add {I O L low last} (h : WI I O L low last) {f : Fp} (hf : ltS low f.s) (ha : addE L f = 0) : WI (I ++ [f]) O (addL L f) low last := by
  have h1 := addL_ins ha
  have hp := ins_perm L f
  refine ⟨held_add h.held f, ?_, fun e he => ?_, h.last, ?_, ?_, fun x hx => ?_⟩
  · rw [List.filter_append, List.filter_cons_of_pos (by simpa using hf), h1]
    refine List.Perm.trans ?_ hp.symm
    refine (h.perm.append_right _).trans ?_
    exact List.perm_append_comm
  · obtain ⟨a, b, c, d⟩ := h.out e he
    refine ⟨?_, b, c, d⟩
    rw [List.filter_append, List.filter_cons_of_neg, List.filter_nil, List.append_nil]
    · exact a
    · intro h9
      rw [(of_decide_eq_true h9 : f.t = e.t ∧ f.s = e.s).2] at hf
      exact d hf
  · rw [h1, sumN_perm hp, sumN_app, h.sum]
    simp only [sumN]
    omega
  · have h2 := h.len
    rw [h1, hp.length_eq, List.length_append, List.length_cons, List.length_singleton]
    omega
  · rcases List.mem_append.1 hx with hx | hx
    · exact h.small x hx
    · rw [List.mem_singleton] at hx; rw [hx]; exact (mayF_ok (add_zero ha).1).2.2.2.1
def lastE (z : Stp) (E : List Ep) : Stp := E.foldl (fun _ e => e.s) z
theorem lastE_snoc {z : Stp} {E : List Ep} {k : Nat} {e : Ep} (h : E[k]? = some e) : lastE z (E.take (k + 1)) = e.s := by
  unfold lastE; rw [take_app h, List.foldl_append]; rfl
theorem lastE_lt {z : Stp} {E : List Ep} (h1 : ∀ e ∈ E, ltS z e.s) (h2 : E.Pairwise fun a b => ltS a.s b.s) {k : Nat} {e : Ep} (he : E[k]? = some e) : ltS (lastE z (E.take k)) e.s := by
  cases k with
  | zero => exact h1 e (List.mem_of_getElem? he)
  | succ j =>
    obtain ⟨g1, rfl⟩ := List.getElem?_eq_some_iff.1 he
    have h3 : E[j]? = some E[j] := List.getElem?_eq_getElem _
    rw [lastE_snoc h3]
    exact List.pairwise_iff_getElem.1 h2 j (j + 1) _ g1 (Nat.lt_succ_self _)
theorem WI.rise {I O L low last at_} (h : WI I O L low last) (_ha : ¬ ltS at_ low) : (∀ e ∈ uptoE L at_, ltS last e.s) ∧ ((uptoE L at_).Pairwise fun a b => ltS a.s b.s) ∧ ∀ e ∈ uptoE L at_, ¬ ltS at_ e.s := by
  have u := upx h.held at_
  refine ⟨fun e he => ?_, u.up, fun e he => ?_⟩
  · obtain ⟨x, hx, hxs⟩ := u.fr e he
    rw [← hxs]
    exact nlt_lt h.last (h.above x (List.mem_of_mem_take hx))
  · obtain ⟨x, hx, hxs⟩ := u.fr e he
    rw [← hxs]
    exact (cmp_le _ _).1 (cntS_all hx)
theorem WI.upto {I O L low last at_} (h : WI I O L low last) (ha : ¬ ltS at_ low) : WI I (O ++ uptoE L at_) (uptoL L at_) at_ (lastE last (uptoE L at_)) := by
  have u := upx h.held at_
  obtain ⟨r1, r2, r3⟩ := h.rise ha
  have hd := cntS_drop (at_ := at_) h.held.srt
  have hle := cntS_le at_ L
  have hsp : L = L.take (cntS at_ L) ++ L.drop (cntS at_ L) := (List.take_append_drop _ _).symm
  refine ⟨held_upto h.held _, ?_, fun e he => ?_, ?_, ?_, ?_, h.small⟩
  · have h1 := h.perm.filter fun x => decide (ltS at_ x.s)
    rw [List.filter_filter] at h1
    have h2 : (fun x : Fp => decide (ltS at_ x.s) && decide (ltS low x.s)) = fun x => decide (ltS at_ x.s) := by
      funext x
      by_cases h9 : ltS at_ x.s
      · simp [h9, nlt_lt ha h9]
      · simp [h9]
    rw [h2] at h1
    refine h1.trans ?_
    unfold uptoL
    conv => lhs; rw [hsp]
    rw [List.filter_append, List.filter_eq_nil_iff.2 fun x hx => by
      have := (cmp_le _ _).1 (cntS_all hx)
      simpa using this, List.nil_append, List.filter_eq_self.2 fun x hx => by
      have := hd x hx
      rw [cmp_le] at this
      simpa using this]
  · rcases List.mem_append.1 he with he | he
    · obtain ⟨a, b, c, d⟩ := h.out e he
      exact ⟨a, b, c, nlt_tr (Classical.not_not.1 fun h9 => h9 d) ha⟩
    · obtain ⟨a, b, c⟩ := u.ws e he
      refine ⟨a.trans ?_, b, c, r3 e he⟩
      obtain ⟨x9, hx9, hxs9⟩ := u.fr e he
      have hlo : ltS low e.s := by rw [← hxs9]; exact h.above x9 (List.mem_of_mem_take hx9)
      refine List.Perm.flatMap_right _ ?_
      have h1 := h.perm.filter (mt e)
      rw [List.filter_filter] at h1
      have h2 : (fun x : Fp => mt e x && decide (ltS low x.s)) = mt e := by
        funext x
        cases h9 : mt e x
        · rfl
        · have h8 : x.t = e.t ∧ x.s = e.s := of_decide_eq_true h9
          rw [h8.2]
          simp [hlo]
      rw [h2] at h1
      refine List.Perm.trans ?_ h1.symm
      conv => rhs; rw [hsp]
      rw [List.filter_append, (List.filter_eq_nil_iff (p := mt e) (l := L.drop (cntS at_ L))).2 fun x hx h9 => by
        have h8 : x.t = e.t ∧ x.s = e.s := of_decide_eq_true h9
        have h7 := hd x hx
        rw [cmp_le, h8.2] at h7
        exact h7 (r3 e he), List.append_nil]
  · rcases List.eq_nil_or_concat (uptoE L at_) with h9 | ⟨A, g, h9⟩
    · rw [h9]
      exact nlt_tr h.last ha
    · rw [h9]
      have h8 : lastE last (A ++ [g]) = g.s := by unfold lastE; rw [List.foldl_append]; rfl
      rw [List.concat_eq_append, h8]
      exact r3 g (by rw [h9]; simp)
  · have h1 := h.sum
    rw [sumN_app, u.sum, h1]
    conv => lhs; rw [hsp]
    rw [sumN_app]
    unfold uptoL
    omega
  · have h1 := h.len
    have h2 := u.len
    unfold uptoL
    rw [List.length_append, List.length_drop]
    omega
theorem sum_bd : ∀ {I : List Fp}, (∀ x ∈ I, x.ws.length ≤ 16) → sumN wlF I ≤ 16 * I.length
  | [], _ => Nat.zero_le _
  | x :: r, h => by
    have h1 := sum_bd (I := r) fun y hy => h y (List.mem_cons_of_mem _ hy)
    have h2 := h x List.mem_cons_self
    simp only [sumN, List.length_cons]
    unfold wlF at *
    omega
def smax : Stp := ⟨281474976710656, 65535, 63⟩
theorem upto_max {L : List Fp} (h : Held L) : uptoL L smax = [] := by
  rcases List.eq_nil_or_concat (uptoL L smax) with h9 | ⟨A, g, h9⟩
  · exact h9
  · have hg : g ∈ L.drop (cntS smax L) := by show g ∈ uptoL L smax; rw [h9]; simp
    have h1 := cntS_drop h.srt g hg
    rw [cmp_le] at h1
    have h2 := (mayF_ok (h.may g (List.mem_of_mem_drop hg))).2.2.2.2
    unfold emay at h2
    simp only [Bool.and_eq_true] at h2
    have h3 : mayS g.s = true := by simp_all
    have h4 := of_decide_eq_true h3
    refine absurd (fun h5 => ?_) h1
    simp only [ltS, smax] at h5
    omega

/-! what is told, and what is above -/
def HiI (h : Stp) (L : List Fp) : Prop := ∀ x ∈ L, ltS h x.s
theorem hi_nil (h : Stp) : HiI h [] := fun x hx => by cases hx
theorem addM_ok {h : Stp} {F : List Fk} {L : List Fp} {f : Fp} (he : addM h F L f = 0) : hasK F f.rg = true ∧ ltS h f.s ∧ addE L f = 0 ∧ addMF h F L f = addL L f ∧ (addMF h F L f).length = L.length + 1 := by
  unfold addM at he
  by_cases hb : addB h F f = 0
  · rw [if_pos hb] at he
    have h1 : addMF h F L f = addL L f := by unfold addMF; rw [if_pos hb]
    have h0 := hb
    unfold addB at hb
    split at hb
    · cases hb
    split at hb
    · cases hb
    rename_i h3
    split at hb
    · cases hb
    rename_i h4
    refine ⟨by simpa using h3, ?_, he, h1, by rw [h1]; exact (has_add he).2.2⟩
    rw [← cmp_gt]
    omega
  · rw [if_neg hb] at he
    exact absurd he hb
theorem addM_no {h : Stp} {F : List Fk} {L : List Fp} {f : Fp} (he : addM h F L f ≠ 0) : addMF h F L f = L := by
  unfold addM at he
  unfold addMF
  split
  · rename_i hb
    rw [if_pos hb] at he
    exact add_no rfl he
  · rfl
theorem hi_add {h : Stp} {F : List Fk} {L : List Fp} (hL : HiI h L) (f : Fp) : HiI h (addMF h F L f) := by
  by_cases he : addM h F L f = 0
  · obtain ⟨-, h2, h3, h4, -⟩ := addM_ok he
    rw [h4, addL_ins h3]
    intro x hx
    rcases List.mem_cons.1 ((ins_perm L f).mem_iff.1 hx) with rfl | hx
    · exact h2
    · exact hL x hx
  · rw [addM_no he]; exact hL
theorem lastOr_eq (h : Stp) (E : List Ep) : lastOr h E = lastE h E := by
  rcases List.eq_nil_or_concat E with rfl | ⟨A, g, rfl⟩
  · rfl
  · unfold lastOr lastE
    rw [List.concat_eq_append, List.getLast?_concat, List.foldl_append]
    rfl
structure TkI (h : Stp) (F : List Fk) (E : List Ep) : Prop where
  up : E.Pairwise fun a b => ltS a.s b.s
  lo : ∀ e ∈ E, ltS h e.s
  hi : ∀ e ∈ E, ¬ ltS (lsF F) e.s
theorem take_up {h : Stp} {F : List Fk} {L : List Fp} (hd : Held L) (hH : HiI h L) : TkI h F (takeO F L) := by
  unfold takeO
  split
  · exact ⟨List.Pairwise.nil, by simp, by simp⟩
  · have u := upx hd (lsF F)
    refine ⟨u.up, fun e he => ?_, fun e he => ?_⟩
    · obtain ⟨x, hx, hxs⟩ := u.fr e he
      rw [← hxs]
      exact hH x (List.mem_of_mem_take hx)
    · obtain ⟨x, hx, hxs⟩ := u.fr e he
      rw [← hxs]
      exact (cmp_le _ _).1 (cntS_all hx)
theorem hi_take {h : Stp} {F : List Fk} {L : List Fp} (hd : Held L) (hH : HiI h L) : HiI (takeH h F L) (takeL F L) := by
  unfold takeH takeL
  have ht := take_up (F := F) hd hH
  by_cases hF : F = []
  · unfold takeO; rw [if_pos hF, if_pos hF]; exact hH
  · rw [if_neg hF]
    intro x hx
    have h1 := cntS_drop hd.srt x hx
    rw [cmp_le] at h1
    have h2 : ltS (lsF F) x.s := Classical.not_not.1 h1
    rcases List.eq_nil_or_concat (takeO F L) with h9 | ⟨A, g, h9⟩
    · rw [h9]; exact hH x (List.mem_of_mem_drop hx)
    · rw [lastOr_eq, h9]
      have h8 : lastE h (A ++ [g]) = g.s := by unfold lastE; rw [List.foldl_append]; rfl
      rw [List.concat_eq_append, h8]
      exact nlt_lt (ht.hi g (by rw [h9]; simp)) h2
/-- one entry of what is told -/
theorem tk_at {h : Stp} {F : List Fk} {L : List Fp} (ht : TkI h F (takeO F L)) {E : List En} (hE : E.map En.p = takeO F L) {k : Nat} {e : En} (he : E[k]? = some e) : F ≠ [] ∧ ¬ ltS (lsF F) e.s ∧ ltS (lastE h ((E.take k).map En.p)) e.s := by
  have hp : (takeO F L)[k]? = some e.p := by rw [← hE, List.getElem?_map, he]; rfl
  refine ⟨fun h9 => ?_, ht.hi e.p (List.mem_of_getElem? hp), ?_⟩
  · unfold takeO at hp; rw [if_pos h9] at hp; simp at hp
  · rw [List.map_take, hE]
    exact lastE_lt ht.lo ht.up hp
theorem lastE_take {h : Stp} {E : List En} {k : Nat} {e : En} (he : E[k]? = some e) : lastE h ((E.take (k + 1)).map En.p) = e.s := by
  rw [List.map_take, lastE_snoc (e := e.p) (by rw [List.getElem?_map, he]; rfl)]
  rfl
theorem above_eq (a b : Stp) : decide (ltS b a) = (if a.w ≠ b.w then decide (b.w < a.w) else if a.l ≠ b.l then decide (b.l < a.l) else decide (b.n < a.n)) := by
  unfold ltS
  split
  · rename_i h1
    exact decide_eq_decide.2 (by omega)
  split
  · rename_i h1 h2
    exact decide_eq_decide.2 (by omega)
  · rename_i h1 h2
    exact decide_eq_decide.2 (by omega)
theorem takeO_len (F : List Fk) (L : List Fp) : (takeO F L).length ≤ L.length := by
  unfold takeO
  split
  · exact Nat.zero_le _
  · exact uptoE_len _ _

/-! the document's merger: which ranges are there, and their frontiers -/
def dmc (room : Int) (is : List Bool) (fs : List Stp) (p : Nat) (h : Stp) : List Value :=
  .int .i64 room :: (is.map Value.bool ++ (fs.flatMap Stp.cells ++ [.pointer (some ⟨p, 0, none⟩), .int .i64 h.w, .int .i64 h.l, .int .i64 h.n]))
def isF (F : List Fk) : List Bool := (List.range 13).map fun (i : Nat) => hasK F (i : Int)
def fsF (F : List Fk) : List Stp := (List.range 13).map fun (i : Nat) => stpF F (i : Int)
theorem isF_len (F : List Fk) : (isF F).length = 13 := by unfold isF; rw [List.length_map, List.length_range]
theorem fsF_len (F : List Fk) : (fsF F).length = 13 := by unfold fsF; rw [List.length_map, List.length_range]
theorem Stp.len (s : Stp) : s.cells.length = 3 := rfl
theorem isF_at (F : List Fk) {k : Nat} (hk : k < 13) : (isF F)[k]? = some (hasK F (k : Int)) := by
  unfold isF
  rw [List.getElem?_map, List.getElem?_range hk]
  rfl
theorem fsF_at (F : List Fk) {k : Nat} (hk : k < 13) : (fsF F)[k]? = some (stpF F (k : Int)) := by
  unfold fsF
  rw [List.getElem?_map, List.getElem?_range hk]
  rfl
theorem dm_nil (room : Int) (p : Nat) (h : Stp) : dmc room (isF []) (fsF []) p h = dmc room (List.replicate 13 false) (List.replicate 13 sz0) p h := by
  have e1 : isF [] = List.replicate 13 false := by decide +kernel
  have e2 : fsF [] = List.replicate 13 sz0 := by decide +kernel
  rw [e1, e2]
section
variable {w : World} {b p k : Nat} {e : TypeId} {room : Int} {h : Stp} {is : List Bool} {fs : List Stp}
theorem dm_len : (dmc room is fs p h).length = 1 + is.length + fs.length * 3 + 4 := by
  unfold dmc
  rw [List.length_cons, List.length_append, List.length_append, List.length_map, flat_len Stp.len]
  simp only [List.length_cons, List.length_nil]
  omega
theorem dm_room (B : Blk w b (dmc room is fs p h) e) : w.cell? ⟨b, 0, none⟩ = some (.int .i64 room) := B.cell rfl
theorem dm_is (B : Blk w b (dmc room is fs p h) e) {v : Bool} (hk : is[k]? = some v) : w.cell? ⟨b, 1 + k * 1, none⟩ = some (.bool v) := by
  refine B.cell ?_
  have h1 := (List.getElem?_eq_some_iff.1 hk).1
  unfold dmc
  rw [Nat.mul_one, Nat.add_comm, List.getElem?_cons_succ, List.getElem?_append_left (by rw [List.length_map]; exact h1), List.getElem?_map, hk]
  rfl
theorem dm_split (hk : k < fs.length) : dmc room is fs p h = (.int .i64 room :: (is.map Value.bool ++ (fs.take k).flatMap Stp.cells)) ++ (fs[k].cells ++ ((fs.drop (k + 1)).flatMap Stp.cells ++ [.pointer (some ⟨p, 0, none⟩), .int .i64 h.w, .int .i64 h.l, .int .i64 h.n])) := by
  unfold dmc
  have e1 : fs = fs.take k ++ fs[k] :: fs.drop (k + 1) := by rw [List.getElem_cons_drop, List.take_append_drop]
  conv => lhs; rw [e1]
  rw [List.flatMap_append, List.flatMap_cons]
  simp only [List.cons_append, List.append_assoc]
theorem dm_fr (B : Blk w b (dmc room is fs p h) e) (hi : is.length = 13) {s : Stp} (hk : fs[k]? = some s) : Cs w b (14 + k * 3) s.cells := by
  obtain ⟨h1, rfl⟩ := List.getElem?_eq_some_iff.1 hk
  rw [dm_split h1] at B
  refine B.run ?_
  rw [List.length_cons, List.length_append, List.length_map, flat_len Stp.len, List.length_take]
  omega
theorem dm_tail (hi : is.length = 13) (hf : fs.length = 13) : (dmc room is fs p h).drop 53 = [.pointer (some ⟨p, 0, none⟩), .int .i64 h.w, .int .i64 h.l, .int .i64 h.n] := by
  unfold dmc
  rw [List.drop_succ_cons, ← List.append_assoc, List.drop_left' (by rw [List.length_append, List.length_map, flat_len Stp.len]; omega)]
theorem dm_ptr (B : Blk w b (dmc room is fs p h) e) (hi : is.length = 13) (hf : fs.length = 13) : w.cell? ⟨b, 53, none⟩ = some (.pointer (some ⟨p, 0, none⟩)) := by
  refine B.cell ?_
  have h1 := congrArg (fun l : List Value => l[0]?) (dm_tail (room := room) (p := p) (h := h) hi hf)
  simpa [List.getElem?_drop] using h1
theorem dm_hi (B : Blk w b (dmc room is fs p h) e) (hi : is.length = 13) (hf : fs.length = 13) : Cs w b 54 h.cells := by
  refine B.cs_of fun j v hj => ?_
  have h1 := congrArg (fun l : List Value => l[1 + j]?) (dm_tail (room := room) (p := p) (h := h) hi hf)
  simp only [List.getElem?_drop] at h1
  rw [show 54 + j = 53 + (1 + j) from by omega, h1, Nat.add_comm, List.getElem?_cons_succ]
  exact hj
theorem dm_set1 {v : Bool} (hk : k < is.length) : (dmc room is fs p h).set (1 + k * 1) (.bool v) = dmc room (is.set k v) fs p h := by
  unfold dmc
  rw [Nat.mul_one, Nat.add_comm, List.set_cons_succ, List.set_append_left _ _ (by rw [List.length_map]; exact hk), List.map_set]
theorem dm_setF {s : Stp} (hi : is.length = 13) (hk : k < fs.length) : (dmc room is fs p h).take (14 + k * 3) ++ s.cells ++ (dmc room is fs p h).drop (14 + k * 3 + s.cells.length) = dmc room is (fs.set k s) p h := by
  have hl : (Value.int .i64 room :: (is.map Value.bool ++ (fs.take k).flatMap Stp.cells)).length = 14 + k * 3 := by
    rw [List.length_cons, List.length_append, List.length_map, flat_len Stp.len, List.length_take]
    omega
  have hk2 : k < (fs.set k s).length := by rw [List.length_set]; exact hk
  rw [dm_split hk, dm_split hk2, List.take_left' hl, ← List.append_assoc (Value.int .i64 room :: _) fs[k].cells, List.drop_left' (by rw [List.length_append, hl]; rfl), List.getElem_set_self, List.take_set_of_le (Nat.le_refl _), List.drop_set_of_lt (Nat.lt_succ_self _), List.append_assoc]
theorem dm_setH {h' : Stp} (hi : is.length = 13) (hf : fs.length = 13) : (dmc room is fs p h).take 54 ++ h'.cells ++ (dmc room is fs p h).drop (54 + h'.cells.length) = dmc room is fs p h' := by
  have hl : (Value.int .i64 room :: (is.map Value.bool ++ (fs.flatMap Stp.cells ++ [.pointer (some ⟨p, 0, none⟩)]))).length = 54 := by
    rw [List.length_cons, List.length_append, List.length_append, List.length_map, flat_len Stp.len, List.length_singleton]
    omega
  have e1 : ∀ g : Stp, dmc room is fs p g = (Value.int .i64 room :: (is.map Value.bool ++ (fs.flatMap Stp.cells ++ [.pointer (some ⟨p, 0, none⟩)]))) ++ g.cells := fun g => by
    unfold dmc Stp.cells
    simp only [List.cons_append, List.append_assoc, List.nil_append]
  rw [e1 h, e1 h', List.take_left' hl, List.drop_eq_nil_of_le (by rw [List.length_append, hl]; exact Nat.le_refl _), List.append_nil]
end
theorem isF_put {F : List Fk} {k : Nat} (s : Stp) : (isF F).set k true = isF (putF F (k : Int) s) := by
  refine List.ext_getElem? fun i => ?_
  rw [List.getElem?_set, isF_len]
  rcases Nat.lt_or_ge i 13 with hi | hi
  · rw [isF_at _ hi, isF_at _ hi]
    unfold hasK
    rw [getF_put]
    by_cases h1 : k = i
    · subst h1; rw [if_pos rfl, if_pos hi, if_pos rfl]; rfl
    · rw [if_neg h1, if_neg (by omega)]
  · rw [List.getElem?_eq_none (by rw [isF_len]; exact hi), List.getElem?_eq_none (by rw [isF_len]; exact hi)]
    split
    · rw [if_neg (by omega)]
    · rfl
theorem fsF_put {F : List Fk} {k : Nat} (s : Stp) : (fsF F).set k s = fsF (putF F (k : Int) s) := by
  refine List.ext_getElem? fun i => ?_
  rw [List.getElem?_set, fsF_len]
  rcases Nat.lt_or_ge i 13 with hi | hi
  · rw [fsF_at _ hi, fsF_at _ hi]
    unfold stpF
    rw [getF_put]
    by_cases h1 : k = i
    · subst h1; rw [if_pos rfl, if_pos hi, if_pos rfl]; rfl
    · rw [if_neg h1, if_neg (by omega)]
  · rw [List.getElem?_eq_none (by rw [fsF_len]; exact hi), List.getElem?_eq_none (by rw [fsF_len]; exact hi)]
    split
    · rw [if_neg (by omega)]
    · rfl
theorem has_out {F : List Fk} (hG : GoodF F) {id : Int} (h : ¬ (1 ≤ id ∧ id ≤ 12)) : hasK F id = false := by
  cases h1 : hasK F id
  · rfl
  · exact absurd (hasK_id hG h1) h
theorem isF_adv {F : List Fk} {k : Nat} (s : Stp) (hh : hasK F (k : Int) = true) : isF (putF F (k : Int) s) = isF F := by
  refine List.ext_getElem? fun i => ?_
  rcases Nat.lt_or_ge i 13 with hi | hi
  · rw [isF_at _ hi, isF_at _ hi]
    unfold hasK
    rw [getF_put]
    by_cases h1 : (k : Int) = i
    · rw [if_pos h1, ← h1]; unfold hasK at hh; rw [hh]; rfl
    · rw [if_neg h1]
  · rw [List.getElem?_eq_none (by rw [isF_len]; exact hi), List.getElem?_eq_none (by rw [isF_len]; exact hi)]
/-- the ranges, one behind the other -/
def rngF (F : List Fk) (n : Nat) : List Int := ((List.range n).filter fun (i : Nat) => hasK F (i : Int)).map fun (i : Nat) => (i : Int)
theorem rngF_succ (F : List Fk) (n : Nat) : rngF F (n + 1) = if hasK F (n : Int) = true then rngF F n ++ [(n : Int)] else rngF F n := by
  unfold rngF
  rw [List.range_succ, List.filter_append, List.map_append]
  split
  · rename_i h; rw [List.filter_cons_of_pos (p := fun (i : Nat) => hasK F (i : Int)) h]; rfl
  · rename_i h; rw [List.filter_cons_of_neg (p := fun (i : Nat) => hasK F (i : Int)) h]; simp
theorem rngF_one {F : List Fk} (hG : GoodF F) : rngF F 1 = [] := by
  rw [rngF_succ, if_neg (by rw [has_out hG (by omega)]; decide)]
  rfl
theorem rngF_all {F : List Fk} (hG : GoodF F) : rngF F 13 = F.map Fk.id := by
  have h1 : (rngF F 13).Pairwise (· < ·) := by
    unfold rngF
    rw [List.pairwise_map]
    exact (List.pairwise_lt_range.filter _).imp fun h => by omega
  have h2 : (F.map Fk.id).Pairwise (· < ·) := List.pairwise_map.2 hG.srt
  have h3 : ∀ i : Int, i ∈ rngF F 13 ↔ i ∈ F.map Fk.id := fun i => by
    unfold rngF
    rw [List.mem_map, List.mem_map]
    constructor
    · rintro ⟨k, hk, rfl⟩
      obtain ⟨-, hk2⟩ := List.mem_filter.1 hk
      unfold hasK at hk2
      obtain ⟨s, hs⟩ := Option.isSome_iff_exists.1 hk2
      exact ⟨_, getF_mem hs, rfl⟩
    · rintro ⟨x, hx, rfl⟩
      obtain ⟨h4, h5⟩ := hG.id x hx
      obtain ⟨j, hj⟩ := List.mem_iff_getElem?.1 hx
      refine ⟨x.id.toNat, List.mem_filter.2 ⟨List.mem_range.2 (by omega), ?_⟩, by omega⟩
      rw [show ((x.id.toNat : Nat) : Int) = x.id from by omega]
      unfold hasK
      rw [getF_at hG.srt hj]
      rfl
  have hp : (rngF F 13).Perm (F.map Fk.id) := (List.perm_ext_iff_of_nodup (h1.imp fun h => by omega) (h2.imp fun h => by omega)).2 h3
  exact hp.eq_of_pairwise (fun a b _ _ h4 h5 => by omega) h1 h2

end Go.Proofs.YtdjfbkllbeeabaaGreat
