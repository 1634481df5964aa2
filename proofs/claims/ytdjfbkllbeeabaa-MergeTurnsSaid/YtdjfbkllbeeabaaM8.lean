/- Whichever frontier rises first, plainly. -/
import Derived.Test.YtdjfbkllbeeabaaM6
set_option linter.unusedSimpArgs false
set_option linter.unusedVariables false
namespace Go.Proofs.Ytdjfbkllbeeabaa
open Sx

/-! whichever frontier rises first -/
def JN : Nat → List Fk
  | 0 => []
  | k + 1 => joinF (JN k) ((k + 1 : Nat) : Int) sz0
theorem JN_step {id : Nat} (h : 1 ≤ id) : joinF (JN (id - 1)) (id : Int) sz0 = JN (id + 1 - 1) := by
  obtain ⟨k, rfl⟩ : ∃ k, id = k + 1 := ⟨id - 1, by omega⟩
  rfl
def F0 : List Fk := JN 4
theorem JN_good : ∀ k, GoodF (JN k)
  | 0 => goodF_nil
  | k + 1 => join_good (JN_good k) _ _
theorem F0_good : GoodF F0 := JN_good 4
theorem F0_ls : lsF F0 = sz0 := by decide +kernel
theorem F0_has : hasK F0 1 = true := by decide +kernel
theorem ne64 : newE 64 sz0 = 0 := by decide +kernel
/-- one rise at one range -/
def rs1 (i : Int) (s : Stp) (x : Int × Stp) : Stp := if x.1 = i ∧ mayS x.2 = true then laterS s x.2 else s
theorem get_adv (F : List Fk) (a : Int) (t : Stp) (i : Int) : getF (advF F a t) i = (getF F i).map fun s => rs1 i s (a, t) := by
  unfold advF advE
  by_cases h1 : hasK F a = false
  · rw [if_pos h1, if_neg (by decide)]
    cases h2 : getF F i with
    | none => rfl
    | some s =>
      have h3 : ¬ (a = i ∧ mayS t = true) := fun h => by
        unfold hasK at h1; rw [h.1, h2] at h1; cases h1
      show some s = some (rs1 i s (a, t))
      unfold rs1
      rw [if_neg h3]
  · rw [if_neg h1]
    by_cases h2 : mayS t = false
    · rw [if_pos h2, if_neg (by decide)]
      cases h3 : getF F i with
      | none => rfl
      | some s =>
        show some s = some (rs1 i s (a, t))
        unfold rs1
        rw [if_neg (fun h => by rw [h2] at h; cases h.2)]
    · rw [if_neg h2, if_pos rfl, getF_put]
      by_cases h3 : a = i
      · subst h3
        rw [if_pos rfl]
        unfold stpF
        cases h4 : getF F a with
        | none => unfold hasK at h1; rw [h4] at h1; exact absurd rfl h1
        | some s =>
          show some (laterS s t) = some (rs1 a s (a, t))
          unfold rs1
          rw [if_pos ⟨rfl, by simpa using h2⟩]
      · rw [if_neg h3]
        cases h4 : getF F i with
        | none => rfl
        | some s =>
          show some s = some (rs1 i s (a, t))
          unfold rs1
          rw [if_neg (fun h => h3 h.1)]
def foldV (F : List Fk) (l : List (Int × Stp)) : List Fk := l.foldl (fun F x => advF F x.1 x.2) F
theorem foldV_snoc (F : List Fk) (l : List (Int × Stp)) (x : Int × Stp) : foldV F (l ++ [x]) = advF (foldV F l) x.1 x.2 := by unfold foldV; rw [List.foldl_append]; rfl
theorem foldV_good : ∀ (l : List (Int × Stp)) {F : List Fk}, GoodF F → GoodF (foldV F l)
  | [], _, h => h
  | x :: l, _, h => foldV_good l (adv_good h x.1 x.2)
theorem get_fold : ∀ (l : List (Int × Stp)) (F : List Fk) (i : Int), getF (foldV F l) i = (getF F i).map fun s => l.foldl (rs1 i) s
  | [], F, i => by show getF F i = _; cases getF F i <;> rfl
  | x :: l, F, i => by
    show getF (foldV (advF F x.1 x.2) l) i = _
    rw [get_fold l, get_adv]
    cases getF F i <;> rfl
theorem later_comm (s a b : Stp) : laterS (laterS s a) b = laterS (laterS s b) a := by
  unfold laterS
  by_cases h1 : ltS s a
  · by_cases h2 : ltS s b
    · rw [if_pos h1, if_pos h2]
      rcases ltS_tot a b with h3 | h3 | h3
      · rw [if_pos h3, if_neg (ltS_as h3)]
      · rw [h3]
      · rw [if_neg (ltS_as h3), if_pos h3]
    · rw [if_pos h1, if_neg h2, if_pos h1, if_neg]
      intro h3
      exact h2 (ltS_tr h1 h3)
  · by_cases h2 : ltS s b
    · rw [if_neg h1, if_pos h2, if_neg]
      intro h3
      exact h1 (ltS_tr h2 h3)
    · rw [if_neg h1, if_neg h2, if_neg h1]
theorem rs1_comm (i : Int) (s : Stp) (x y : Int × Stp) : rs1 i (rs1 i s x) y = rs1 i (rs1 i s y) x := by
  unfold rs1
  by_cases h1 : x.1 = i ∧ mayS x.2 = true
  · by_cases h2 : y.1 = i ∧ mayS y.2 = true
    · rw [if_pos h1, if_pos h2, if_pos h2, if_pos h1, later_comm]
    · rw [if_pos h1, if_neg h2, if_neg h2, if_pos h1]
  · by_cases h2 : y.1 = i ∧ mayS y.2 = true
    · rw [if_neg h1, if_pos h2, if_neg h1]
    · rw [if_neg h1, if_neg h2, if_neg h1]
theorem ext_get {F G : List Fk} (hF : SrtF F) (hG : SrtF G) (h : ∀ i, getF F i = getF G i) : F = G := by
  refine intKO.ext hF hG fun i => ?_
  have h1 := h i
  unfold getF at h1
  have key : ∀ (H : List Fk) (x : Fk), gtK (fun i : Int => Lit.int .i64 i) Fk.id H i = some x → x.id = i := fun H x hx => (intKO.get_some hx).2
  cases h2 : gtK (fun i : Int => Lit.int .i64 i) Fk.id F i with
  | none =>
    rw [h2] at h1
    cases h3 : gtK (fun i : Int => Lit.int .i64 i) Fk.id G i with
    | none => rfl
    | some y => rw [h3] at h1; cases h1
  | some x =>
    rw [h2] at h1
    cases h3 : gtK (fun i : Int => Lit.int .i64 i) Fk.id G i with
    | none => rw [h3] at h1; cases h1
    | some y =>
      rw [h3] at h1
      have h4 := key F x h2
      have h5 := key G y h3
      have h6 : x.s = y.s := Option.some.inj h1
      obtain ⟨xi, xs⟩ := x
      obtain ⟨yi, ys⟩ := y
      dsimp only at h4 h5 h6
      rw [h4, h5, h6]
theorem foldV_rev {F : List Fk} (h : GoodF F) (l : List (Int × Stp)) : foldV F l.reverse = foldV F l := by
  refine ext_get (foldV_good _ h).srt (foldV_good _ h).srt fun i => ?_
  rw [get_fold, get_fold]
  congr 1
  funext s
  exact List.Perm.foldl_eq' (List.reverse_perm l) (fun x _ y _ z => rs1_comm i z x y) s
theorem getF_nil (i : Int) : getF [] i = none := by
  unfold getF
  rw [intKO.get_of_none (L := []) (by simp)]
  rfl
theorem ne_of_has {F : List Fk} {i : Int} (h : hasK F i = true) : F ≠ [] := fun h9 => by
  unfold hasK at h; rw [h9, getF_nil] at h; cases h
theorem foldV_ne (l : List (Int × Stp)) : foldV F0 l ≠ [] := by
  refine ne_of_has (i := 1) ?_
  unfold hasK
  rw [get_fold, Option.isSome_map]
  exact F0_has
theorem later_ge (s t : Stp) : ¬ ltS (laterS s t) s := by
  unfold laterS
  split
  · rename_i h; exact ltS_as h
  · exact ltS_irr s
theorem rs1_ge (i : Int) (s : Stp) (x : Int × Stp) : ¬ ltS (rs1 i s x) s := by
  unfold rs1
  split
  · exact later_ge _ _
  · exact ltS_irr s
theorem adv_ls {F : List Fk} (h : GoodF F) (a : Int) (t : Stp) : ¬ ltS (lsF (advF F a t)) (lsF F) := by
  by_cases hn : advF F a t = []
  · rw [hn]
    by_cases hF : F = []
    · rw [hF]; exact ltS_irr _
    · obtain ⟨x, hx, -⟩ := lsF_mem hF
      obtain ⟨k, hk⟩ := List.mem_iff_getElem?.1 hx
      have h1 := get_adv F a t x.id
      rw [getF_at h.srt hk, hn, getF_nil] at h1
      cases h1
  · obtain ⟨x, hx, hxs⟩ := lsF_mem hn
    obtain ⟨k, hk⟩ := List.mem_iff_getElem?.1 hx
    have h1 := getF_at (adv_good h a t).srt hk
    rw [get_adv] at h1
    cases h2 : getF F x.id with
    | none => rw [h2] at h1; cases h1
    | some s =>
      rw [h2] at h1
      have h3 : rs1 x.id s (a, t) = x.s := Option.some.inj h1
      have h4 := lsF_le _ (getF_mem h2)
      rw [← hxs, ← h3]
      exact nlt3 h4 (rs1_ge _ _ _)
/-- what comes out in two goes comes out in one -/
theorem cnt_cat {a b : Stp} (hab : ¬ ltS b a) : ∀ L : List Fp, cntS b L = cntS a L + cntS b (L.drop (cntS a L))
  | [] => rfl
  | y :: r => by
    show (if cmpS y.s b ≤ 0 then cntS b r + 1 else 0) = _
    by_cases h1 : cmpS y.s a ≤ 0
    · have h2 : cmpS y.s b ≤ 0 := by rw [cmp_le] at h1 ⊢; exact nlt3 h1 hab
      have h3 : cntS a (y :: r) = cntS a r + 1 := by show (if _ then _ else _) = _; rw [if_pos h1]
      rw [if_pos h2, h3, List.drop_succ_cons, cnt_cat hab r]
      omega
    · have h3 : cntS a (y :: r) = 0 := by show (if _ then _ else _) = _; rw [if_neg h1]
      rw [h3, List.drop_zero, Nat.zero_add]
      rfl
theorem grp_cat {A E : List Ep} {f : Fp} (h : E ≠ []) : grpE (A ++ E) f = A ++ grpE E f := by
  obtain ⟨B, g, rfl⟩ : ∃ B g, E = B ++ [g] := ⟨E.dropLast, E.getLast h, (List.dropLast_concat_getLast h).symm⟩
  by_cases hg : g.t = f.t
  · rw [grp_same hg, ← List.append_assoc, grp_same hg, List.append_assoc]
  · rw [grp_new (.inr ⟨B, g, rfl, hg⟩), ← List.append_assoc, grp_new (.inr ⟨A ++ B, g, rfl, hg⟩)]
    simp only [List.append_assoc]
theorem fold_cat {A : List Ep} : ∀ (P : List Fp) {E : List Ep}, E ≠ [] → P.foldl grpE (A ++ E) = A ++ P.foldl grpE E
  | [], _, _ => rfl
  | f :: P, E, h => by
    rw [List.foldl_cons, List.foldl_cons, grp_cat h]
    exact fold_cat P (grpE_ne E f)
theorem uptoG_cat {P Q : List Fp} (h : ∀ A g f R, uptoG P = A ++ [g] → Q = f :: R → g.t ≠ f.t) : uptoG (P ++ Q) = uptoG P ++ uptoG Q := by
  cases Q with
  | nil => rw [List.append_nil]; show _ = uptoG P ++ []; rw [List.append_nil]
  | cons f R =>
    have h1 : grpE (uptoG P) f = uptoG P ++ [⟨f.t, f.s, f.ws⟩] := by
      refine grp_new ?_
      rcases List.eq_nil_or_concat (uptoG P) with h9 | ⟨A, g, h9⟩
      · exact .inl h9
      · rw [List.concat_eq_append] at h9
        exact .inr ⟨A, g, h9, h A g f R h9 rfl⟩
    have h2 : grpE [] f = [⟨f.t, f.s, f.ws⟩] := grp_new (.inl rfl)
    have e1 : uptoG (P ++ f :: R) = R.foldl grpE (grpE (uptoG P) f) := by unfold uptoG; rw [List.foldl_append]; rfl
    have e2 : uptoG (f :: R) = R.foldl grpE (grpE [] f) := rfl
    rw [e1, e2, h1, h2]
    exact fold_cat R (by simp)
theorem upto_cat {M : List Fp} (hM : Held M) {a b : Stp} (hab : ¬ ltS b a) : uptoE M a ++ uptoE (uptoL M a) b = uptoE M b ∧ uptoL (uptoL M a) b = uptoL M b := by
  have hc := cnt_cat hab M
  refine ⟨?_, by unfold uptoL; rw [hc, List.drop_drop]⟩
  unfold uptoE uptoL
  rw [hc, List.take_add, ← List.map_append, uptoG_cat]
  intro A g f R h1 h2
  obtain ⟨x, hx, hxt, -⟩ := (grpx_all hM _ (cntS_le a M)).fr g (by rw [h1]; simp)
  have hf : f ∈ M.drop (cntS a M) := List.mem_of_mem_take (by rw [h2]; exact List.mem_cons_self)
  intro he
  have h3 := (hM.like x (List.mem_of_mem_take hx) f (List.mem_of_mem_drop hf)).1 (hxt.trans he)
  have h4 := cntS_drop hM.srt f hf
  rw [← h3] at h4
  exact h4 (cntS_all hx)
structure TI (M : List Fp) (F : List Fk) (X : List Ep) (L : List Fp) (h : Stp) : Prop where
  ex : ∃ a, ¬ ltS (lsF F) a ∧ X = uptoE M a ∧ L = uptoL M a
  hi : h = lastE sz0 X
theorem TI.len {M F X L h} (t : TI M F X L h) : X.length ≤ M.length ∧ L.length ≤ M.length := by
  obtain ⟨a, -, rfl, rfl⟩ := t.ex
  exact ⟨uptoE_len M a, (upto_len M a).2⟩
theorem TI.held {M F X L h} (t : TI M F X L h) (hM : Held M) : Held L := by
  obtain ⟨a, -, rfl, rfl⟩ := t.ex
  exact held_upto hM a
theorem TI.nil {M : List Fp} (h : HiI sz0 M) : TI M F0 [] M sz0 := by
  have h1 : cntS sz0 M = 0 := cntS_eq (fun t q ht => by omega) (fun q hq => by
    have := h q (List.mem_of_getElem? hq)
    rw [cmp_le]
    exact fun h9 => h9 this) (Nat.zero_le _)
  refine ⟨⟨sz0, by rw [F0_ls]; exact ltS_irr _, ?_, ?_⟩, rfl⟩
  · unfold uptoE; rw [h1]; rfl
  · unfold uptoL; rw [h1]; rfl
theorem TI.take {M F X L h} (t : TI M F X L h) (hM : Held M) {G : List Fk} (hG : G ≠ []) (hg : ¬ ltS (lsF G) (lsF F)) :
    TI M G (X ++ takeO G L) (takeL G L) (takeH h G L) ∧ X ++ takeO G L = takeO G M ∧ takeL G L = takeL G M ∧ takeH h G L = takeH sz0 G M := by
  obtain ⟨⟨a, ha, hX, hL⟩, hh⟩ := t
  have hab : ¬ ltS (lsF G) a := nlt3 ha hg
  obtain ⟨h1, h2⟩ := upto_cat hM hab
  have o1 : takeO G L = uptoE L (lsF G) := by unfold takeO; rw [if_neg hG]
  have o2 : takeO G M = uptoE M (lsF G) := by unfold takeO; rw [if_neg hG]
  have l1 : takeL G L = uptoL L (lsF G) := by unfold takeL; rw [if_neg hG]
  have l2 : takeL G M = uptoL M (lsF G) := by unfold takeL; rw [if_neg hG]
  have e1 : X ++ takeO G L = takeO G M := by rw [o1, o2, hX, hL]; exact h1
  have e2 : takeL G L = takeL G M := by rw [l1, l2, hL]; exact h2
  have e3 : takeH h G L = lastE sz0 (X ++ takeO G L) := by
    unfold takeH
    rw [lastOr_eq, hh]
    unfold lastE
    rw [List.foldl_append]
  have e4 : takeH sz0 G M = lastE sz0 (takeO G M) := by unfold takeH; rw [lastOr_eq]
  exact ⟨⟨⟨lsF G, ltS_irr _, by rw [e1, o2], by rw [e2, l2]⟩, e3⟩, e1, e2, by rw [e3, e4, e1]⟩
/-- the rises that operations tell -/
def advO (l : List Op) : List (Int × Stp) := (l.filter fun o => decide (o.kd = 2)).map fun o => (o.n, o.s)
theorem advO_snoc {l : List Op} {k : Nat} {o : Op} (h : l[k]? = some o) : advO (l.take (k + 1)) = if o.kd = 2 then advO (l.take k) ++ [(o.n, o.s)] else advO (l.take k) := by
  unfold advO
  rw [take_app h, List.filter_append, List.map_append]
  by_cases hk : o.kd = 2
  · rw [if_pos hk, List.filter_cons_of_pos (by simp [hk])]; rfl
  · rw [if_neg hk, List.filter_cons_of_neg (by simp [hk])]; simp
theorem advO_drop {l : List Op} {k : Nat} {o : Op} (h : l[k]? = some o) : advO (l.drop k) = if o.kd = 2 then (o.n, o.s) :: advO (l.drop (k + 1)) else advO (l.drop (k + 1)) := by
  obtain ⟨hk, rfl⟩ := List.getElem?_eq_some_iff.1 h
  unfold advO
  rw [List.drop_eq_getElem_cons hk]
  by_cases h1 : l[k].kd = 2
  · rw [if_pos h1, List.filter_cons_of_pos (by simp [h1])]; rfl
  · rw [if_neg h1, List.filter_cons_of_neg (by simp [h1])]
theorem adv_fwd {l : List Op} {k : Nat} {o : Op} (h : l[k]? = some o) (hk : o.kd = 2) : advF (foldV F0 (advO (l.take k))) o.n o.s = foldV F0 (advO (l.take (k + 1))) := by
  rw [advO_snoc h, if_pos hk, foldV_snoc]
theorem adv_fwd0 {l : List Op} {k : Nat} {o : Op} (h : l[k]? = some o) (hk : ¬ o.kd = 2) : foldV F0 (advO (l.take k)) = foldV F0 (advO (l.take (k + 1))) := by
  rw [advO_snoc h, if_neg hk]
theorem adv_bwd {l : List Op} {i : Nat} {o : Op} (hi : i < l.length) (h : l[l.length - 1 - i]? = some o) (hk : o.kd = 2) : advF (foldV F0 (advO (l.drop (l.length - i))).reverse) o.n o.s = foldV F0 (advO (l.drop (l.length - (i + 1)))).reverse := by
  rw [show l.length - (i + 1) = l.length - 1 - i from by omega, advO_drop h, if_pos hk, List.reverse_cons, foldV_snoc, show l.length - 1 - i + 1 = l.length - i from by omega]
theorem adv_bwd0 {l : List Op} {i : Nat} {o : Op} (hi : i < l.length) (h : l[l.length - 1 - i]? = some o) (hk : ¬ o.kd = 2) : foldV F0 (advO (l.drop (l.length - i))).reverse = foldV F0 (advO (l.drop (l.length - (i + 1)))).reverse := by
  rw [show l.length - (i + 1) = l.length - 1 - i from by omega, advO_drop h, if_neg hk, show l.length - 1 - i + 1 = l.length - i from by omega]

end Go.Proofs.Ytdjfbkllbeeabaa
