/- A store that is loaded of what another one tells, plainly. -/
import Derived.Test.YtpnfpndhdnmhkaaGreatK19
set_option linter.unusedSimpArgs false
set_option linter.unusedVariables false
namespace Go.Proofs.YtpnfpndhdnmhkaaGreat
open Sx
/-! a store that is loaded of what another one tells -/
theorem tw_spec {α : Type} {p : α → Bool} : ∀ L : List α, (∀ (t : Nat) q, t < (L.takeWhile p).length → L[t]? = some q → p q = true) ∧ ∀ q, L[(L.takeWhile p).length]? = some q → p q = false
  | [] => ⟨fun t q h => by simp at h, fun q h => by simp at h⟩
  | x :: L => by
    obtain ⟨h1, h2⟩ := tw_spec (p := p) L
    cases hx : p x with
    | false =>
      rw [List.takeWhile_cons, hx]
      exact ⟨fun t q h => by simp at h, fun q h => by simp at h; subst h; exact hx⟩
    | true =>
      rw [List.takeWhile_cons, hx]
      refine ⟨fun t q h hq => ?_, fun q h => ?_⟩
      · cases t with
        | zero => simp at hq; subst hq; exact hx
        | succ t => exact h1 t q (by simpa using h) (by simpa using hq)
      · exact h2 q (by simpa using h)
theorem tail_spec (at_ : Stp) (vs : List Vr) : (∀ (t : Nat) q, vs.length - tailV at_ vs ≤ t → vs[t]? = some q → 0 < cmpS q.s at_) ∧ ∀ q, 0 < vs.length - tailV at_ vs → vs[vs.length - tailV at_ vs - 1]? = some q → ¬ 0 < cmpS q.s at_ := by
  obtain ⟨h1, h2⟩ := tw_spec (p := fun x : Vr => decide (0 < cmpS x.s at_)) vs.reverse
  have hle : tailV at_ vs ≤ vs.length := by
    have := (List.takeWhile_sublist (l := vs.reverse) (fun x : Vr => decide (0 < cmpS x.s at_))).length_le
    rw [List.length_reverse] at this
    exact this
  refine ⟨fun t q ht hq => ?_, fun q h0 hq => ?_⟩
  · have hlt := (List.getElem?_eq_some_iff.1 hq).1
    have h3 := h1 (vs.length - 1 - t) q (by show _ < tailV at_ vs; omega) (by rw [List.getElem?_reverse (by omega), show vs.length - 1 - (vs.length - 1 - t) = t from by omega]; exact hq)
    exact of_decide_eq_true h3
  · have h3 := h2 q (by show vs.reverse[tailV at_ vs]? = _; rw [List.getElem?_reverse (by omega), show vs.length - 1 - tailV at_ vs = vs.length - tailV at_ vs - 1 from by omega]; exact hq)
    exact of_decide_eq_false h3
structure VS (a : Stp) (vs : List Vr) : Prop where
  srt : vs.Pairwise fun x y => ltS x.s y.s
  may : ∀ v ∈ vs, mayS v.s = true ∧ ltS a v.s ∧ mayV v.v = true
theorem VS.ver : ∀ {vs : List Vr} {a : Stp}, VS a vs → verOk a vs = true
  | [], _, _ => rfl
  | x :: vs, a, h => by
    have hc := List.pairwise_cons.1 h.srt
    obtain ⟨h1, h2, h3⟩ := h.may x List.mem_cons_self
    show (mayS x.s && decide (ltS a x.s) && mayV x.v && verOk x.s vs) = true
    rw [h1, decide_eq_true h2, h3, VS.ver ⟨hc.2, fun v hv => ⟨(h.may v (List.mem_cons_of_mem _ hv)).1, hc.1 v hv, (h.may v (List.mem_cons_of_mem _ hv)).2.2⟩⟩]
    rfl
theorem VS.of : ∀ {vs : List Vr} {a : Stp}, verOk a vs = true → VS a vs
  | [], _, _ => ⟨List.Pairwise.nil, fun v h => by cases h⟩
  | x :: vs, a, h => by
    have h : (mayS x.s && decide (ltS a x.s) && mayV x.v && verOk x.s vs) = true := h
    simp only [Bool.and_eq_true, decide_eq_true_eq] at h
    obtain ⟨⟨⟨h1, h2⟩, h3⟩, h4⟩ := h
    have ih := VS.of h4
    refine ⟨List.pairwise_cons.2 ⟨fun y hy => (ih.may y hy).2.1, ih.srt⟩, fun v hv => ?_⟩
    rcases List.mem_cons.1 hv with rfl | hv
    · exact ⟨h1, h2, h3⟩
    · exact ⟨(ih.may v hv).1, ltS_tr h2 (ih.may v hv).2.1, (ih.may v hv).2.2⟩
theorem VS.ins {vs : List Vr} {a : Stp} (h : VS a vs) {x : Vr} (h1 : mayS x.s = true) (h2 : ltS a x.s) (h3 : mayV x.v = true) (h4 : hasV vs x.s = false) : VS a (insV x vs) := by
  obtain ⟨t1, t2⟩ := tail_spec x.s vs
  have hne : ∀ v ∈ vs, v.s ≠ x.s := fun v hv e => by
    have := List.any_eq_false.1 h4 v hv
    simp only [decide_eq_true_eq] at this
    exact this e
  have hs := List.pairwise_iff_getElem.1 h.srt
  have hA : ∀ v ∈ vs.take (vs.length - tailV x.s vs), ltS v.s x.s := fun v hv => by
    obtain ⟨t, ht⟩ := List.mem_iff_getElem?.1 hv
    obtain ⟨hlt, e⟩ := List.getElem?_eq_some_iff.1 ht
    rw [List.length_take] at hlt
    rw [List.getElem_take] at e
    have hz : vs[vs.length - tailV x.s vs - 1]? = some vs[vs.length - tailV x.s vs - 1] := List.getElem?_eq_getElem (by omega)
    have h5 := t2 _ (by omega) hz
    have h6 : ltS vs[vs.length - tailV x.s vs - 1].s x.s := by
      rcases ltS_tot vs[vs.length - tailV x.s vs - 1].s x.s with h7 | h7 | h7
      · exact h7
      · exact absurd h7 (hne _ (List.getElem_mem _))
      · exact absurd ((cmp_gt _ _).2 h7) h5
    rcases Nat.lt_or_ge t (vs.length - tailV x.s vs - 1) with h8 | h8
    · rw [← e]; exact ltS_tr (hs t (vs.length - tailV x.s vs - 1) (by omega) (by omega) h8) h6
    · have : t = vs.length - tailV x.s vs - 1 := by omega
      subst this
      rw [← e]; exact h6
  have hB : ∀ v ∈ vs.drop (vs.length - tailV x.s vs), ltS x.s v.s := fun v hv => by
    obtain ⟨t, ht⟩ := List.mem_iff_getElem?.1 hv
    rw [List.getElem?_drop] at ht
    exact (cmp_gt _ _).1 (t1 _ v (by omega) ht)
  refine ⟨?_, fun v hv => ?_⟩
  · unfold insV
    have hs2 : (vs.take (vs.length - tailV x.s vs) ++ vs.drop (vs.length - tailV x.s vs)).Pairwise fun x y : Vr => ltS x.s y.s := by rw [List.take_append_drop]; exact h.srt
    obtain ⟨p1, p2, p3⟩ := List.pairwise_append.1 hs2
    refine List.pairwise_append.2 ⟨p1, List.pairwise_cons.2 ⟨hB, p2⟩, fun y hy z hz => ?_⟩
    rcases List.mem_cons.1 hz with rfl | hz
    · exact hA y hy
    · exact p3 y hy z hz
  · rcases ins_mem.1 hv with rfl | hv
    · exact ⟨h1, h2, h3⟩
    · exact h.may v hv
structure Inv2 (M : Ms) : Prop extends Inv M where
  kv : ∀ h ∈ M.H, keyB h.key = true ∧ VS sz0 h.vs
  lz : ¬ ltS M.low sz0
theorem VS.nil (a : Stp) : VS a [] := ⟨List.Pairwise.nil, fun v h => by cases h⟩
theorem vs_VS {H : List Hy} (h : ∀ x ∈ H, keyB x.key = true ∧ VS sz0 x.vs) (k : Key) : VS sz0 (vsOf H k) := by
  unfold vsOf
  cases hg : gtK slit Hy.key H k with
  | none => exact VS.nil _
  | some y => exact (h y (sO.get_some hg).1).2
theorem kv_com (at_ : Stp) (ha : mayS at_ = true) (hz : ltS sz0 at_) : ∀ (ws : List Wt) (H : List Hy), ws.Pairwise (fun a b => a.key ≠ b.key) → (∀ w ∈ ws, keyB w.key = true ∧ mayV w.v = true ∧ hasV (vsOf H w.key) at_ = false) → (∀ x ∈ H, keyB x.key = true ∧ VS sz0 x.vs) → ∀ x ∈ comH H ws at_, keyB x.key = true ∧ VS sz0 x.vs
  | [], H, _, _, h => h
  | w :: ws, H, hp, h1, h => by
    have hc := List.pairwise_cons.1 hp
    obtain ⟨hk, hm, hn⟩ := h1 w List.mem_cons_self
    refine kv_com at_ ha hz ws (putH H w.key ⟨at_, w.v⟩) hc.2 (fun v hv => ?_) fun x hx => ?_
    · obtain ⟨g1, g2, g3⟩ := h1 v (List.mem_cons_of_mem _ hv)
      refine ⟨g1, g2, ?_⟩
      rw [vs_put, if_neg (hc.1 v hv)]
      exact g3
    · rcases sO.put_mem.1 hx with rfl | ⟨hx, -⟩
      · exact ⟨hk, (vs_VS h w.key).ins ha hz hm hn⟩
      · exact h x hx
theorem pmay_s {t : Tn} {s : Stp} {rs : List Key} {ws : List Wt} (h : pmay t s rs ws = 0) : mayS s = true ∧ ltS sz0 s := by
  unfold pmay at h
  by_cases h1 : mayT t = false
  · rw [if_pos h1] at h; cases h
  rw [if_neg h1] at h
  by_cases h2 : mayS s = false ∨ s = sz0
  · rw [if_pos h2] at h; cases h
  have h3 : mayS s = true := by
    cases h9 : mayS s
    · exact absurd (.inl h9) h2
    · rfl
  refine ⟨h3, ?_⟩
  unfold mayS at h3
  have h4 := of_decide_eq_true h3
  have h5 : s ≠ sz0 := fun e => h2 (.inr e)
  rcases ltS_tot sz0 s with h6 | h6 | h6
  · exact h6
  · exact absurd h6.symm h5
  · unfold ltS sz0 at h6
    dsimp only at h6
    omega
theorem lt_later (a b s : Stp) : ltS (laterS a b) s ↔ ltS a s ∧ ltS b s := by
  unfold laterS
  split
  · rename_i h
    exact ⟨fun h1 => ⟨ltS_tr h h1, h1⟩, fun h1 => h1.2⟩
  · rename_i h
    refine ⟨fun h1 => ⟨h1, ?_⟩, fun h1 => h1.1⟩
    rcases ltS_tot a b with h2 | h2 | h2
    · exact absurd h2 h
    · subst h2; exact h1
    · exact ltS_tr h2 h1
theorem Inv2.z : Inv2 Ms.z := ⟨Inv.z, (fun x hx => by cases hx), ltS_irr _⟩
theorem read_low {M : Ms} {k : Key} {at_ : Stp} (h : readE M k at_ = 0) : readM M k at_ = { M with low := laterS M.low at_ } := by unfold readM; rw [if_pos h]
theorem read_no {M : Ms} {k : Key} {at_ : Stp} (h : ¬ readE M k at_ = 0) : readM M k at_ = M := by unfold readM; rw [if_neg h]
theorem Inv2.act {M : Ms} (h : Inv2 M) (o : Oy) : Inv2 (actM M o) := by
  refine ⟨h.toInv.act o, ?_, ?_⟩
  · unfold actM
    split
    · by_cases h0 : readE M o.key o.s = 0
      · rw [read_low h0]; exact h.kv
      · rw [read_no h0]; exact h.kv
    · split
      · by_cases h0 : prepE M o.p o.sn = 0
        · rw [prep_yes h0]; exact h.kv
        · rw [prep_no h0]; exact h.kv
      · split
        · by_cases h0 : wldE M o.t o.yes o.s = 0
          · obtain ⟨p, hp, hc⟩ := wld_0 h0
            obtain ⟨hpm, -⟩ := find_at hp
            rw [res_yes h0 hp]
            show ∀ x ∈ (if o.yes then comH M.H p.ws o.s else M.H), _
            cases hy : o.yes with
            | false => exact h.kv
            | true =>
              obtain ⟨g1, g2, g3⟩ := hc hy
              have hpp := h.pp p hpm
              have hks := (pmay_keys hpp).1
              have hz : ltS sz0 o.s := by
                rcases ltS_tot o.s p.s with h9 | h9 | h9
                · exact absurd ((cmp_lt _ _).2 h9) g2
                · rw [h9]; exact (pmay_s hpp).2
                · exact ltS_tr (pmay_s hpp).2 h9
              refine kv_com o.s g1 hz p.ws M.H (ws_apart hks) (fun w hw => ⟨(keys_rise hks).2 _ (List.mem_map_of_mem hw), pmay_ws hpp w hw, ?_⟩) h.kv
              have := List.any_eq_false.1 g3 w hw
              simpa using this
          · rw [res_no h0]; exact h.kv
        · exact h.kv
  · unfold actM
    split
    · by_cases h0 : readE M o.key o.s = 0
      · rw [read_low h0]
        intro h9
        exact h.lz ((lt_later _ _ _).1 h9).1
      · rw [read_no h0]; exact h.lz
    · split
      · by_cases h0 : prepE M o.p o.sn = 0
        · rw [prep_yes h0]; exact h.lz
        · rw [prep_no h0]; exact h.lz
      · split
        · by_cases h0 : wldE M o.t o.yes o.s = 0
          · obtain ⟨p, hp, -⟩ := wld_0 h0
            rw [res_yes h0 hp]; exact h.lz
          · rw [res_no h0]; exact h.lz
        · exact h.lz
theorem Inv2.run {M : Ms} (h : Inv2 M) : ∀ l : List Oy, Inv2 (runM M l) := fun l => by
  unfold runM
  induction l generalizing M with
  | nil => exact h
  | cons o l ih => exact ih (h.act o)
theorem nil_lt {k : Key} (h : keyB k = true) : slt [] k := by
  cases k with
  | nil => cases h
  | cons x k => show Op.bytesLess [] (x :: k) = true; rfl
structure Twin (low : Stp) (M N : Ms) : Prop where
  H : M.H = N.H
  P : M.P = N.P
  lw : ∀ s, ltS M.low s ↔ ltS low s ∧ ltS N.low s
theorem Twin.of {M : Ms} (h : Inv2 M) : Twin M.low M ⟨M.H, M.P, sz0⟩ := ⟨rfl, rfl, fun s => ⟨fun h1 => ⟨h1, by
  rcases ltS_tot M.low sz0 with h2 | h2 | h2
  · exact absurd h2 h.lz
  · rw [← h2]; exact h1
  · exact ltS_tr h2 h1⟩, fun h1 => h1.1⟩⟩
theorem Twin.act {low : Stp} {M N : Ms} (h : Twin low M N) (o : Oy) (hs : ¬ (o.kind = 2 ∧ cmpS o.p.s low ≤ 0)) : actE M o = actE N o ∧ Twin low (actM M o) (actM N o) := by
  obtain ⟨H, P, lo⟩ := M
  obtain ⟨H2, P2, lo2⟩ := N
  obtain ⟨e1, e2, lw⟩ := h
  dsimp only at e1 e2 lw
  subst e1 e2
  unfold actE actM
  by_cases h1 : o.kind = 1
  · rw [if_pos h1, if_pos h1, if_pos h1, if_pos h1]
    have e : readE ⟨H, P, lo⟩ o.key o.s = readE ⟨H, P, lo2⟩ o.key o.s := rfl
    refine ⟨e, ?_⟩
    by_cases h0 : readE ⟨H, P, lo⟩ o.key o.s = 0
    · rw [read_low h0, read_low (e ▸ h0)]
      refine ⟨rfl, rfl, fun s => ?_⟩
      show ltS (laterS lo o.s) s ↔ ltS low s ∧ ltS (laterS lo2 o.s) s
      rw [lt_later, lt_later, lw]
      exact ⟨fun ⟨⟨a, b⟩, c⟩ => ⟨a, b, c⟩, fun ⟨a, b, c⟩ => ⟨⟨a, b⟩, c⟩⟩
    · rw [read_no h0, read_no (fun h9 => h0 (e.trans h9))]
      exact ⟨rfl, rfl, lw⟩
  · rw [if_neg h1, if_neg h1, if_neg h1, if_neg h1]
    by_cases h2 : o.kind = 2
    · rw [if_pos h2, if_pos h2, if_pos h2, if_pos h2]
      have hp : ltS low o.p.s := by
        have h3 : ¬ cmpS o.p.s low ≤ 0 := fun h9 => hs ⟨h2, h9⟩
        rw [cmp_le] at h3
        exact Classical.not_not.1 h3
      have hc : (cmpS o.p.s lo ≤ 0) = (cmpS o.p.s lo2 ≤ 0) := by
        rw [cmp_le, cmp_le, lw]
        exact propext ⟨fun h3 h4 => h3 ⟨hp, h4⟩, fun h3 h4 => h3 h4.2⟩
      have e : prepE ⟨H, P, lo⟩ o.p o.sn = prepE ⟨H, P, lo2⟩ o.p o.sn := by
        unfold prepE
        dsimp only
        simp only [hc]
      refine ⟨e, ?_⟩
      by_cases h0 : prepE ⟨H, P, lo⟩ o.p o.sn = 0
      · rw [prep_yes h0, prep_yes (e ▸ h0)]
        exact ⟨rfl, rfl, lw⟩
      · rw [prep_no h0, prep_no (fun h9 => h0 (e.trans h9))]
        exact ⟨rfl, rfl, lw⟩
    · rw [if_neg h2, if_neg h2, if_neg h2, if_neg h2]
      by_cases h3 : o.kind = 3
      · rw [if_pos h3, if_pos h3, if_pos h3, if_pos h3]
        have e : wldE ⟨H, P, lo⟩ o.t o.yes o.s = wldE ⟨H, P, lo2⟩ o.t o.yes o.s := rfl
        refine ⟨e, ?_⟩
        by_cases h0 : wldE ⟨H, P, lo⟩ o.t o.yes o.s = 0
        · obtain ⟨p, hp, -⟩ := wld_0 h0
          rw [res_yes h0 hp, res_yes (e ▸ h0) (show findF P o.t = some p from hp)]
          exact ⟨rfl, rfl, lw⟩
        · rw [res_no h0, res_no (fun h9 => h0 (e.trans h9))]
          exact ⟨rfl, rfl, lw⟩
      · rw [if_neg h3, if_neg h3, if_neg h3, if_neg h3]
        exact ⟨rfl, rfl, rfl, lw⟩
end Go.Proofs.YtpnfpndhdnmhkaaGreat
