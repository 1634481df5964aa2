/- What holds of a store that has come of operations, plainly. -/
import Derived.Test.YtpnfpndhdnmhkaaGreatK8
set_option linter.unusedSimpArgs false
set_option linter.unusedVariables false
namespace Go.Proofs.YtpnfpndhdnmhkaaGreat
open Sx

/-! what holds of a store that has come of operations -/
theorem newV_skip (x : Vr) (A B : List Vr) (at_ : Stp) (h : ¬ cmpS x.s at_ ≤ 0) : newV (A ++ x :: B) at_ false = newV (A ++ B) at_ false := by
  unfold newV
  rw [List.foldl_append, List.foldl_append, List.foldl_cons, Bool.false_or, if_neg (by simpa using h)]
theorem newV_ins (x : Vr) (vs : List Vr) (at_ : Stp) (h : ¬ cmpS x.s at_ ≤ 0) : newV (insV x vs) at_ false = newV vs at_ false := by
  unfold insV
  rw [newV_skip _ _ _ _ h, List.take_append_drop]
theorem newV_mem (vs : List Vr) (at_ : Stp) (all : Bool) : newV vs at_ all = rz0 ∨ newV vs at_ all ∈ vs := by
  have key : ∀ (l : List Vr) (o : Vr), l.foldl (fun o x => if (all || decide (cmpS x.s at_ ≤ 0)) = true then x else o) o = o ∨ l.foldl (fun o x => if (all || decide (cmpS x.s at_ ≤ 0)) = true then x else o) o ∈ l := fun l => by
    induction l with
    | nil => exact fun o => .inl rfl
    | cons x l ih =>
      intro o
      rw [List.foldl_cons]
      by_cases h : (all || decide (cmpS x.s at_ ≤ 0)) = true
      · rw [if_pos h]
        rcases ih x with h1 | h1
        · rw [h1]; exact .inr List.mem_cons_self
        · exact .inr (List.mem_cons_of_mem _ h1)
      · rw [if_neg h]
        rcases ih o with h1 | h1
        · rw [h1]; exact .inl rfl
        · exact .inr (List.mem_cons_of_mem _ h1)
  exact key vs rz0
theorem ins_mem {x y : Vr} {vs : List Vr} : y ∈ insV x vs ↔ y = x ∨ y ∈ vs := by
  unfold insV
  rw [List.mem_append, List.mem_cons]
  constructor
  · rintro (h | h | h)
    · exact .inr (List.mem_of_mem_take h)
    · exact .inl h
    · exact .inr (List.mem_of_mem_drop h)
  · rintro (h | h)
    · exact .inr (.inl h)
    · rw [← List.take_append_drop (vs.length - tailV x.s vs) vs, List.mem_append] at h
      exact h.imp id .inr
theorem vs_put (H : List Hy) (k : Key) (x : Vr) (k2 : Key) : vsOf (putH H k x) k2 = if k = k2 then insV x (vsOf H k) else vsOf H k2 := by
  unfold vsOf putH
  rw [sO.get_put]
  by_cases h : k = k2
  · rw [if_pos h, if_pos h]; rfl
  · rw [if_neg h, if_neg h]
theorem vs_com (ws : List Wt) (at_ : Stp) (k : Key) : ∀ H : List Hy, wrts ws k = false → vsOf (comH H ws at_) k = vsOf H k := by
  induction ws with
  | nil => intro H _; rfl
  | cons w ws ih =>
    intro H h
    unfold wrts at h
    rw [List.any_cons, Bool.or_eq_false_iff] at h
    show vsOf (comH (putH H w.key ⟨at_, w.v⟩) ws at_) k = _
    rw [ih _ h.2, vs_put, if_neg (of_decide_eq_false h.1)]
theorem newV_com (ws : List Wt) (at_ a2 : Stp) (k : Key) (h : ¬ cmpS at_ a2 ≤ 0) : ∀ H : List Hy, newV (vsOf (comH H ws at_) k) a2 false = newV (vsOf H k) a2 false := by
  induction ws with
  | nil => intro H; rfl
  | cons w ws ih =>
    intro H
    show newV (vsOf (comH (putH H w.key ⟨at_, w.v⟩) ws at_) k) a2 false = _
    rw [ih, vs_put]
    by_cases hk : w.key = k
    · rw [if_pos hk, newV_ins _ _ _ h, hk]
    · rw [if_neg hk]
theorem clash_iff (x p : Pp) : clashF x p = true ↔ (∃ a ∈ x.ws, ∃ b ∈ p.ws, b.key = a.key) ∨ (∃ a ∈ x.ws, a.key ∈ p.rs) ∨ ∃ k ∈ x.rs, ∃ b ∈ p.ws, b.key = k := by
  unfold clashF wrts rds
  simp only [Bool.or_eq_true, List.any_eq_true, decide_eq_true_eq]
  constructor
  · rintro (⟨a, ha, h | h⟩ | h)
    · exact .inl ⟨a, ha, h⟩
    · exact .inr (.inl ⟨a, ha, h⟩)
    · exact .inr (.inr h)
  · rintro (⟨a, ha, h⟩ | ⟨a, ha, h⟩ | h)
    · exact .inl ⟨a, ha, .inl h⟩
    · exact .inl ⟨a, ha, .inr h⟩
    · exact .inr h
theorem clash_sym (x p : Pp) : clashF x p = clashF p x := by
  have key : ∀ x p : Pp, clashF x p = true → clashF p x = true := fun x p h => by
    rw [clash_iff] at h ⊢
    rcases h with ⟨a, ha, b, hb, e⟩ | ⟨a, ha, h⟩ | ⟨k, hk, b, hb, e⟩
    · exact .inl ⟨b, hb, a, ha, e.symm⟩
    · exact .inr (.inr ⟨_, h, a, ha, rfl⟩)
    · exact .inr (.inl ⟨b, hb, by rw [e]; exact hk⟩)
  rw [Bool.eq_iff_iff]
  exact ⟨key x p, key p x⟩
structure Inv (M : Ms) : Prop where
  hs : SrtK slt Hy.key M.H
  hv : ∀ h ∈ M.H, h.vs ≠ [] ∧ ∀ v ∈ h.vs, mayV v.v = true
  ps : SrtK slt kbp M.P
  pp : ∀ p ∈ M.P, pmay p.t p.s p.rs p.ws = 0
  lock : M.P.Pairwise fun a b => clashF a b = false
  old : ∀ p ∈ M.P, oldF M.H p = false
theorem Inv.z : Inv Ms.z := ⟨List.Pairwise.nil, (fun h hh => by cases hh), List.Pairwise.nil, (fun p hp => by cases hp), List.Pairwise.nil, (fun p hp => by cases hp)⟩
theorem prep_0 {M : Ms} {p : Pp} {sn : List Sn} (h : prepE M p sn = 0) : pmay p.t p.s p.rs p.ws = 0 ∧ findF M.P p.t = none ∧ ¬ cmpS p.s M.low ≤ 0 ∧ lockF M.P p = false ∧ oldF M.H p = false ∧ p.rs = sn.map Sn.key ∧ ∀ x ∈ sn, (newF M.H x.key sz0 true).s = x.s := by
  unfold prepE at h
  by_cases h1 : pmay p.t p.s p.rs p.ws ≠ 0
  · rw [if_pos h1] at h; exact absurd h h1
  rw [if_neg h1] at h
  by_cases h2 : p.rs ≠ sn.map Sn.key
  · rw [if_pos h2] at h; cases h
  rw [if_neg h2] at h
  by_cases h3 : (findF M.P p.t).isSome = true
  · rw [if_pos h3] at h; cases h
  rw [if_neg h3] at h
  by_cases h4 : cmpS p.s M.low ≤ 0
  · rw [if_pos h4] at h; cases h
  rw [if_neg h4] at h
  by_cases h5 : lockF M.P p = true
  · rw [if_pos h5] at h; cases h
  rw [if_neg h5] at h
  by_cases h6 : (sn.any fun x => decide ((newF M.H x.key sz0 true).s ≠ x.s)) = true
  · rw [if_pos h6] at h; cases h
  rw [if_neg h6] at h
  by_cases h7 : oldF M.H p = true
  · rw [if_pos h7] at h; cases h
  refine ⟨by simpa using h1, by simpa using h3, h4, by simpa using h5, by simpa using h7, by simpa using h2, fun x hx => ?_⟩
  have h8 := List.any_eq_false.1 (by simpa using h6 : (sn.any fun x => decide ((newF M.H x.key sz0 true).s ≠ x.s)) = false) x hx
  simpa using h8
theorem wld_0 {M : Ms} {t : Tn} {commit : Bool} {at_ : Stp} (h : wldE M t commit at_ = 0) : ∃ p, findF M.P t = some p ∧ (commit = true → mayS at_ = true ∧ ¬ cmpS at_ p.s < 0 ∧ (p.ws.any fun w => hasV (vsOf M.H w.key) at_) = false) := by
  unfold wldE at h
  cases hf : findF M.P t with
  | none => rw [hf] at h; cases h
  | some p =>
    rw [hf] at h
    refine ⟨p, rfl, fun hc => ?_⟩
    dsimp only at h
    rw [if_neg (by rw [hc]; decide)] at h
    by_cases h1 : mayS at_ = false
    · rw [if_pos h1] at h; cases h
    rw [if_neg h1] at h
    by_cases h2 : cmpS at_ p.s < 0
    · rw [if_pos h2] at h; cases h
    rw [if_neg h2] at h
    by_cases h3 : (p.ws.any fun w => hasV (vsOf M.H w.key) at_) = true
    · rw [if_pos h3] at h; cases h
    exact ⟨by simpa using h1, h2, by simpa using h3⟩
theorem find_at {P : List Pp} {t : Tn} {p : Pp} (h : findF P t = some p) : p ∈ P ∧ kbp p = tb t := sO.get_some h
theorem pmay_ws {t : Tn} {s : Stp} {rs : List Key} {ws : List Wt} (h : pmay t s rs ws = 0) : ∀ x ∈ ws, mayV x.v = true := by
  rw [pmay_doc] at h
  by_cases h1 : mayT t = false
  · rw [if_pos h1] at h; cases h
  rw [if_neg h1] at h
  by_cases h2 : mayS s = false ∨ s = sz0
  · rw [if_pos h2] at h; cases h
  rw [if_neg h2] at h
  by_cases h3 : (decide (rs.length ≤ 16) && keysOk rs) = false ∨ okW ws 16 = false
  · rw [if_pos h3] at h; cases h
  have h4 : okW ws 16 = true := by
    cases h5 : okW ws 16
    · exact absurd (.inr h5) h3
    · rfl
  rw [okW_iff, Bool.and_eq_true] at h4
  exact fun x hx => List.all_eq_true.1 h4.2 x hx
/-- one key's history grows -/
theorem Inv.put1 {H : List Hy} (h1 : SrtK slt Hy.key H) (h2 : ∀ h ∈ H, h.vs ≠ [] ∧ ∀ v ∈ h.vs, mayV v.v = true) (k : Key) {x : Vr} (hx : mayV x.v = true) : SrtK slt Hy.key (putH H k x) ∧ ∀ h ∈ putH H k x, h.vs ≠ [] ∧ ∀ v ∈ h.vs, mayV v.v = true := by
  refine ⟨sO.put_srt _ h1, fun h hh => ?_⟩
  rcases sO.put_mem.1 hh with rfl | ⟨hh, -⟩
  · refine ⟨fun h9 => ?_, fun v hv => ?_⟩
    · have h8 := congrArg List.length h9
      dsimp only at h8
      rw [ins_len] at h8
      cases h8
    · rcases ins_mem.1 hv with rfl | hv
      · exact hx
      · unfold vsOf at hv
        cases hg : gtK slit Hy.key H k with
        | none => rw [hg] at hv; cases hv
        | some y => rw [hg] at hv; exact (h2 y (sO.get_some hg).1).2 v hv
  · exact h2 h hh
theorem Inv.com1 (at_ : Stp) : ∀ (ws : List Wt) (H : List Hy), (∀ x ∈ ws, mayV x.v = true) → SrtK slt Hy.key H → (∀ h ∈ H, h.vs ≠ [] ∧ ∀ v ∈ h.vs, mayV v.v = true) → SrtK slt Hy.key (comH H ws at_) ∧ ∀ h ∈ comH H ws at_, h.vs ≠ [] ∧ ∀ v ∈ h.vs, mayV v.v = true
  | [], H, _, h1, h2 => ⟨h1, h2⟩
  | w :: ws, H, h0, h1, h2 => by
    obtain ⟨h3, h4⟩ := Inv.put1 h1 h2 w.key (x := ⟨at_, w.v⟩) (h0 w List.mem_cons_self)
    exact Inv.com1 at_ ws _ (fun x hx => h0 x (List.mem_cons_of_mem _ hx)) h3 h4
theorem any_cg {α : Type} {p q : α → Bool} : ∀ {l : List α}, (∀ x ∈ l, p x = q x) → l.any p = l.any q
  | [], _ => rfl
  | x :: l, h => by rw [List.any_cons, List.any_cons, h x List.mem_cons_self, any_cg fun y hy => h y (List.mem_cons_of_mem _ hy)]
theorem old_com {H : List Hy} {ws : List Wt} {at_ : Stp} {q : Pp} (h : ∀ w ∈ q.ws, wrts ws w.key = false) : oldF (comH H ws at_) q = oldF H q := by
  unfold oldF newF
  refine any_cg fun w hw => ?_
  rw [vs_com ws at_ w.key H (h w hw)]
theorem Inv.read {M : Ms} (h : Inv M) (k : Key) (at_ : Stp) : Inv (readM M k at_) := by
  unfold readM
  split
  · exact ⟨h.hs, h.hv, h.ps, h.pp, h.lock, h.old⟩
  · exact h
theorem lock_no {P : List Pp} {p : Pp} (h : lockF P p = false) : ∀ q ∈ P, clashF p q = false := fun q hq => by
  have := List.any_eq_false.1 h q hq
  simpa using this
theorem Inv.prep {M : Ms} (h : Inv M) (p : Pp) (sn : List Sn) : Inv (prepM M p sn) := by
  unfold prepM
  split
  · rename_i h0
    obtain ⟨h1, h2, h3, h4, h5, -, -⟩ := prep_0 h0
    have hp : (ptK slit kbp p M.P).Perm (p :: M.P) := by
      have := sO.put_perm (κ := kbp) p M.P
      rw [sO.del_none (show gtK slit kbp M.P (kbp p) = none from h2)] at this
      exact this
    refine ⟨h.hs, h.hv, sO.put_srt _ h.ps, fun q hq => ?_, ?_, fun q hq => ?_⟩
    · rcases List.mem_cons.1 (hp.mem_iff.1 hq) with rfl | hq
      · exact h1
      · exact h.pp q hq
    · refine hp.symm.pairwise (List.pairwise_cons.2 ⟨lock_no h4, h.lock⟩) fun {a b} hab => ?_
      rw [clash_sym]; exact hab
    · rcases List.mem_cons.1 (hp.mem_iff.1 hq) with rfl | hq
      · exact h5
      · exact h.old q hq
  · exact h
/-- what is pending beside one that is pending does not touch what that one writes -/
theorem Inv.apart {M : Ms} (h : Inv M) {p q : Pp} (hp : p ∈ M.P) (hq : q ∈ M.P) (hne : p ≠ q) : clashF p q = false := by
  have : ∀ {l : List Pp}, l.Pairwise (fun a b => clashF a b = false) → p ∈ l → q ∈ l → clashF p q = false := fun {l} hl => by
    induction l with
    | nil => intro h; cases h
    | cons x l ih =>
      intro h1 h2
      have hc := List.pairwise_cons.1 hl
      rcases List.mem_cons.1 h1 with e1 | h3
      · rcases List.mem_cons.1 h2 with e2 | h4
        · exact absurd (e1.trans e2.symm) hne
        · rw [e1]; exact hc.1 q h4
      · rcases List.mem_cons.1 h2 with e2 | h4
        · rw [clash_sym, e2]; exact hc.1 p h3
        · exact ih hc.2 h3 h4
  exact this h.lock hp hq
theorem clash_wr {p q : Pp} (h : clashF p q = false) : ∀ w ∈ p.ws, wrts q.ws w.key = false ∧ rds q.rs w.key = false := fun w hw => by
  unfold clashF at h
  rw [Bool.or_eq_false_iff] at h
  have := List.any_eq_false.1 h.1 w hw
  simpa using this
theorem Inv.res {M : Ms} (h : Inv M) (t : Tn) (commit : Bool) (at_ : Stp) : Inv (resM M t commit at_) := by
  unfold resM
  split
  · rename_i h0
    obtain ⟨p, hp, -⟩ := wld_0 h0
    obtain ⟨hpm, hpt⟩ := find_at hp
    have hsub : ∀ q, q ∈ dlK kbp (tb t) M.P → q ∈ M.P ∧ p ≠ q := fun q hq => by
      obtain ⟨h1, h2⟩ := dlK_mem.1 hq
      exact ⟨h1, fun e => h2 (by rw [← e]; exact hpt)⟩
    rw [hp]
    show Inv { M with H := (if commit then comH M.H p.ws at_ else M.H), P := dlK kbp (tb t) M.P }
    cases commit with
    | false =>
      exact ⟨h.hs, h.hv, dlK_srt h.ps, fun q hq => h.pp q (hsub q hq).1, h.lock.filter _, fun q hq => h.old q (hsub q hq).1⟩
    | true =>
      obtain ⟨h1, h2⟩ := Inv.com1 at_ p.ws M.H (pmay_ws (h.pp p hpm)) h.hs h.hv
      refine ⟨h1, h2, dlK_srt h.ps, fun q hq => h.pp q (hsub q hq).1, h.lock.filter _, fun q hq => ?_⟩
      show oldF (comH M.H p.ws at_) q = false
      rw [old_com fun w hw => ?_]
      · exact h.old q (hsub q hq).1
      · exact (clash_wr (h.apart (hsub q hq).1 hpm (fun e => (hsub q hq).2 e.symm)) w hw).1
  · exact h
theorem Inv.act {M : Ms} (h : Inv M) (o : Oy) : Inv (actM M o) := by
  unfold actM
  split
  · exact h.read _ _
  · split
    · exact h.prep _ _
    · split
      · exact h.res _ _ _
      · exact h
theorem Inv.run {M : Ms} (h : Inv M) : ∀ l : List Oy, Inv (runM M l) := fun l => by
  unfold runM
  induction l generalizing M with
  | nil => exact h
  | cons o l ih => exact ih (h.act o)
/-- what is pending stands behind all versions of what it writes -/
theorem Inv.newest {M : Ms} (h : Inv M) {p : Pp} (hp : p ∈ M.P) {w : Wt} (hw : w ∈ p.ws) : cmpS (newF M.H w.key sz0 true).s p.s < 0 := by
  have := List.any_eq_false.1 (h.old p hp) w hw
  simp only [decide_eq_true_eq] at this
  omega
def touchF (p : Pp) (k : Key) : Bool := rds p.rs k || wrts p.ws k
theorem Inv.touch {M : Ms} (h : Inv M) {p q : Pp} (hp : p ∈ M.P) (hq : q ∈ M.P) (hne : p ≠ q) {w : Wt} (hw : w ∈ p.ws) : touchF q w.key = false := by
  obtain ⟨h1, h2⟩ := clash_wr (h.apart hp hq hne) w hw
  unfold touchF
  rw [h1, h2]
  rfl
theorem Inv.at_ne {M : Ms} (h : Inv M) {a b : Nat} {p q : Pp} (hp : M.P[a]? = some p) (hq : M.P[b]? = some q) (hne : b ≠ a) : p ≠ q := fun e => by
  subst e
  have hn := sO.nodup h.ps
  obtain ⟨g1, e1⟩ := List.getElem?_eq_some_iff.1 hp
  obtain ⟨g2, e2⟩ := List.getElem?_eq_some_iff.1 hq
  exact hne ((List.getElem_inj hn).1 (e2.trans e1.symm))
/-! reads that stay -/
structure Stay (M : Ms) (k : Key) (at_ : Stp) (x : Sn) : Prop where
  low : cmpS at_ M.low ≤ 0
  pend : ∀ p ∈ M.P, wrts p.ws k = true → ¬ cmpS p.s at_ ≤ 0
  new : newF M.H k at_ false = x
theorem later_le (a b : Stp) : cmpS b (laterS a b) ≤ 0 := by
  unfold laterS
  split
  · rw [cmp_le]; exact ltS_irr _
  · rename_i h; rw [cmp_le]; exact h
theorem later_le2 (a b : Stp) : cmpS a (laterS a b) ≤ 0 := by
  unfold laterS
  split
  · rename_i h; rw [cmp_le]; exact ltS_as h
  · rw [cmp_le]; exact ltS_irr _
theorem cmp_le_tr {a b c : Stp} (h1 : cmpS a b ≤ 0) (h2 : cmpS b c ≤ 0) : cmpS a c ≤ 0 := by
  rw [cmp_le] at *
  intro h
  rcases ltS_tot b c with h3 | h3 | h3
  · exact h1 (ltS_tr h3 h)
  · subst h3; exact h1 h
  · exact h2 h3
theorem read_0 {M : Ms} {k : Key} {at_ : Stp} (h : readE M k at_ = 0) : keyB k = true ∧ mayS at_ = true ∧ ∀ p ∈ M.P, wrts p.ws k = true → ¬ cmpS p.s at_ ≤ 0 := by
  unfold readE at h
  by_cases h1 : keyB k = false
  · rw [if_pos h1] at h; cases h
  rw [if_neg h1] at h
  by_cases h2 : mayS at_ = false
  · rw [if_pos h2] at h; cases h
  rw [if_neg h2] at h
  by_cases h3 : (M.P.any fun p => wrts p.ws k && decide (cmpS p.s at_ ≤ 0)) = true
  · rw [if_pos h3] at h; cases h
  refine ⟨by simpa using h1, by simpa using h2, fun p hp hw hc => h3 (List.any_eq_true.2 ⟨p, hp, by rw [hw, decide_eq_true hc]; rfl⟩)⟩
theorem read_of {M : Ms} {k : Key} {at_ : Stp} (h1 : keyB k = true) (h2 : mayS at_ = true) (h3 : ∀ p ∈ M.P, wrts p.ws k = true → ¬ cmpS p.s at_ ≤ 0) : readE M k at_ = 0 := by
  unfold readE
  rw [if_neg (by rw [h1]; decide), if_neg (by rw [h2]; decide), if_neg]
  intro h
  obtain ⟨p, hp, hw⟩ := List.any_eq_true.1 h
  rw [Bool.and_eq_true, decide_eq_true_eq] at hw
  exact h3 p hp hw.1 hw.2
theorem Stay.of {M : Ms} {k : Key} {at_ : Stp} (h : readE M k at_ = 0) : Stay (readM M k at_) k at_ (readS M k at_) := by
  obtain ⟨h1, h2, h3⟩ := read_0 h
  unfold readM readS
  rw [if_pos h, if_pos h]
  exact ⟨later_le _ _, h3, rfl⟩
theorem Stay.read {M : Ms} {k : Key} {at_ : Stp} {x : Sn} (h : Stay M k at_ x) (k2 : Key) (a2 : Stp) : Stay (readM M k2 a2) k at_ x := by
  unfold readM
  split
  · exact ⟨cmp_le_tr h.low (later_le2 _ _), h.pend, h.new⟩
  · exact h
theorem Stay.act {M : Ms} {k : Key} {at_ : Stp} {x : Sn} (h : Stay M k at_ x) (o : Oy) : Stay (actM M o) k at_ x := by
  unfold actM
  split
  · exact h.read _ _
  · split
    · unfold prepM
      split
      · rename_i h0
        obtain ⟨-, h2, h3, -⟩ := prep_0 h0
        refine ⟨h.low, fun q hq hw hc => ?_, h.new⟩
        rcases sO.put_mem.1 hq with rfl | ⟨hq, -⟩
        · exact h3 (cmp_le_tr hc h.low)
        · exact h.pend q hq hw hc
      · exact h
    · split
      · unfold resM
        split
        · rename_i h0
          obtain ⟨p, hp, hc⟩ := wld_0 h0
          obtain ⟨hpm, hpt⟩ := find_at hp
          refine ⟨h.low, fun q hq => h.pend q (dlK_mem.1 hq).1, ?_⟩
          rw [hp]
          show newF (if o.yes then comH M.H p.ws o.s else M.H) k at_ false = x
          cases hy : o.yes with
          | false => exact h.new
          | true =>
            rw [if_pos rfl, ← h.new]
            unfold newF
            obtain ⟨-, hlt, -⟩ := hc hy
            cases hw : wrts p.ws k with
            | false => rw [vs_com p.ws o.s k M.H hw]
            | true =>
              have h9 : ¬ cmpS o.s at_ ≤ 0 := fun h9 => by
                refine h.pend p hpm hw (cmp_le_tr ?_ h9)
                rw [cmp_le]
                intro h8
                exact hlt ((cmp_lt _ _).2 h8)
              rw [newV_com p.ws o.s at_ k h9]
        · exact h
      · exact h
theorem Stay.reads {M : Ms} {k : Key} {at_ : Stp} {x : Sn} (h : Stay M k at_ x) (h1 : keyB k = true) (h2 : mayS at_ = true) : readE M k at_ = 0 ∧ readS M k at_ = x := by
  have h3 := read_of h1 h2 h.pend
  refine ⟨h3, ?_⟩
  unfold readS
  rw [if_pos h3, h.new]
/-! what stands at a stamp, key by key -/
def mineF (l : List Wt) (k : Key) : Vl := l.foldl (fun v x => if x.key = k then x.v else v) vz
theorem mine_no {l : List Wt} {k : Key} (h : ∀ x ∈ l, x.key ≠ k) (v : Vl) : l.foldl (fun v x => if x.key = k then x.v else v) v = v := by
  induction l generalizing v with
  | nil => rfl
  | cons x l ih =>
    rw [List.foldl_cons, if_neg (h x List.mem_cons_self), ih fun y hy => h y (List.mem_cons_of_mem _ hy)]
theorem mayV_z {v : Vl} (h : mayV v = true) (hk : v.k = 0) : v = vz := by
  unfold mayV at h
  rw [if_pos hk, Bool.and_eq_true, decide_eq_true_eq, decide_eq_true_eq] at h
  obtain ⟨a, b, c⟩ := v
  dsimp only at h hk
  rw [hk, h.1, h.2]
  rfl
theorem atF_cons (h : Hy) (H : List Hy) (at_ : Stp) : atF (h :: H) at_ = (if (newV h.vs at_ false).v.k = 0 then [] else [⟨h.key, (newV h.vs at_ false).v⟩]) ++ atF H at_ := by
  unfold atF
  by_cases hk : (newV h.vs at_ false).v.k = 0
  · rw [if_pos hk, List.filterMap_cons_none (by exact if_pos hk)]; rfl
  · rw [if_neg hk, List.filterMap_cons_some (b := ⟨h.key, (newV h.vs at_ false).v⟩) (by exact if_neg hk)]; rfl
theorem atF_key {H : List Hy} {at_ : Stp} {x : Wt} (h : x ∈ atF H at_) : ∃ y ∈ H, y.key = x.key := by
  unfold atF at h
  obtain ⟨y, hy, h2⟩ := List.mem_filterMap.1 h
  split at h2
  · cases h2
  · cases h2; exact ⟨y, hy, rfl⟩
theorem mine_at {H : List Hy} (h1 : SrtK slt Hy.key H) (h2 : ∀ h ∈ H, h.vs ≠ [] ∧ ∀ v ∈ h.vs, mayV v.v = true) (k : Key) (at_ : Stp) : mineF (atF H at_) k = (newF H k at_ false).v := by
  unfold newF mineF vsOf
  dsimp only
  induction H with
  | nil => rfl
  | cons y H ih =>
    have hc := List.pairwise_cons.1 h1
    have ih := ih hc.2 fun h hh => h2 h (List.mem_cons_of_mem _ hh)
    rw [atF_cons, List.foldl_append, sO.get_cons]
    by_cases hk : y.key = k
    · rw [if_pos hk]
      have hno : ∀ x ∈ atF H at_, x.key ≠ k := fun x hx e => by
        obtain ⟨z, hz, e2⟩ := atF_key hx
        exact sO.ne (hc.1 z hz) (by rw [hk, e2, e])
      rw [mine_no hno]
      show _ = (newV y.vs at_ false).v
      by_cases h0 : (newV y.vs at_ false).v.k = 0
      · rw [if_pos h0]
        rcases newV_mem y.vs at_ false with h3 | h3
        · rw [h3]; rfl
        · rw [mayV_z ((h2 y List.mem_cons_self).2 _ h3) h0]; rfl
      · rw [if_neg h0]
        show (if y.key = k then _ else _) = _
        rw [if_pos hk]
    · rw [if_neg hk]
      have e : (if (newV y.vs at_ false).v.k = 0 then [] else [(⟨y.key, (newV y.vs at_ false).v⟩ : Wt)]).foldl (fun v x => if x.key = k then x.v else v) vz = vz := by
        split
        · rfl
        · show (if y.key = k then _ else _) = _
          rw [if_neg hk]
      rw [e]
      exact ih
theorem mine_snoc {l : List Wt} {j : Nat} {x : Wt} {k : Key} (h : l[j]? = some x) : mineF (l.take (j + 1)) k = if x.key = k then x.v else mineF (l.take j) k := by
  unfold mineF
  rw [take_app h, List.foldl_append]
  rfl
theorem vs_at {H : List Hy} (h : SrtK slt Hy.key H) {j : Nat} {y : Hy} (hy : H[j]? = some y) : vsOf H y.key = y.vs := by
  unfold vsOf
  rw [sO.get_at h hy]
  rfl

end Go.Proofs.YtpnfpndhdnmhkaaGreat
