/- What comes out of a sift, plainly. -/
import Derived.Test.YtdjfbkllbeeabaaGreatC5
import Derived.Test.YtdjfbkllbeeabaaGreatS0
import Derived.Test.YtdjfbkllbeeabaaGreatC3
set_option linter.unusedSimpArgs false
set_option linter.unusedVariables false
namespace Go.Proofs.YtdjfbkllbeeabaaGreat
open Sx

/-! what comes out -/
def ez : Ep := ⟨⟨0, 0, 0⟩, sz0, []⟩
/-- a fragment joins the last transaction, or begins one -/
def grpE (E : List Ep) (f : Fp) : List Ep :=
  if E ≠ [] ∧ (E.getLastD ez).t = f.t then E.dropLast ++ [{ E.getLastD ez with ws := (E.getLastD ez).ws ++ f.ws }] else E ++ [⟨f.t, f.s, f.ws⟩]
theorem grp_new {E : List Ep} {f : Fp} (h : E = [] ∨ ∃ A g, E = A ++ [g] ∧ g.t ≠ f.t) : grpE E f = E ++ [⟨f.t, f.s, f.ws⟩] := by
  unfold grpE
  rw [if_neg]
  rintro ⟨h1, h2⟩
  rcases h with h | ⟨A, g, rfl, hg⟩
  · exact h1 h
  · rw [List.getLastD_concat] at h2; exact hg h2
theorem grp_same {A : List Ep} {g : Ep} {f : Fp} (h : g.t = f.t) : grpE (A ++ [g]) f = A ++ [{ g with ws := g.ws ++ f.ws }] := by
  unfold grpE
  rw [List.getLastD_concat, if_pos ⟨by simp, h⟩, List.dropLast_concat]
def uptoG (P : List Fp) : List Ep := P.foldl grpE []
theorem upto_snoc {P : List Fp} {k : Nat} {f : Fp} (h : P[k]? = some f) : uptoG (P.take (k + 1)) = grpE (uptoG (P.take k)) f := by
  unfold uptoG; rw [take_app h, List.foldl_append]; rfl
def cntS (at_ : Stp) : List Fp → Nat
  | [] => 0
  | y :: r => if cmpS y.s at_ ≤ 0 then cntS at_ r + 1 else 0
theorem cntS_eq {at_ : Stp} : ∀ {l : List Fp} {i : Nat}, (∀ (t : Nat) q, t < i → l[t]? = some q → cmpS q.s at_ ≤ 0) → (∀ q, l[i]? = some q → ¬ cmpS q.s at_ ≤ 0) → i ≤ l.length → cntS at_ l = i
  | [], i, _, _, h => by simp at h; subst h; rfl
  | y :: r, 0, _, h, _ => by unfold cntS; rw [if_neg (h y rfl)]
  | y :: r, i + 1, h1, h2, h3 => by
    unfold cntS
    rw [if_pos (h1 0 y (Nat.succ_pos _) rfl), cntS_eq (i := i) (fun t q ht hq => h1 (t + 1) q (by omega) (by simpa using hq)) (fun q hq => h2 q (by simpa using hq)) (by simpa using h3)]
theorem cntS_le (at_ : Stp) : ∀ l : List Fp, cntS at_ l ≤ l.length
  | [] => Nat.le_refl _
  | y :: r => by unfold cntS; split; exact Nat.succ_le_succ (cntS_le at_ r); exact Nat.zero_le _
/-- a write in its place -/
def putS (l : List Wt) (w : Wt) : List Wt := l.take (lead w.key l) ++ w :: l.drop (lead w.key l)
def sortW (l : List Wt) : List Wt := l.foldl putS []
def srtE (e : Ep) : Ep := { e with ws := sortW e.ws }
def uptoE (L : List Fp) (at_ : Stp) : List Ep := (uptoG (L.take (cntS at_ L))).map srtE
def uptoL (L : List Fp) (at_ : Stp) : List Fp := L.drop (cntS at_ L)
theorem putS_perm (l : List Wt) (w : Wt) : (putS l w).Perm (w :: l) := by
  unfold putS
  refine List.perm_middle.trans ?_
  rw [List.take_append_drop]
theorem putS_cons {w y : Wt} {r : List Wt} : putS (y :: r) w = if slt y.key w.key then y :: putS r w else w :: y :: r := by
  have e : lead w.key (y :: r) = if slt y.key w.key then lead w.key r + 1 else 0 := rfl
  unfold putS
  rw [e]
  split <;> rfl
def SrtW (l : List Wt) : Prop := l.Pairwise fun x y => ¬ slt y.key x.key
theorem putS_srt {w : Wt} : ∀ {l : List Wt}, SrtW l → SrtW (putS l w)
  | [], _ => List.pairwise_singleton _ _
  | y :: r, h => by
    have hc := List.pairwise_cons.1 h
    rw [putS_cons]
    split
    · rename_i hlt
      refine List.pairwise_cons.2 ⟨fun z hz => ?_, putS_srt hc.2⟩
      rcases List.mem_cons.1 ((putS_perm r w).mem_iff.1 hz) with rfl | hz
      · exact slt_as hlt
      · exact hc.1 z hz
    · rename_i hlt
      refine List.pairwise_cons.2 ⟨fun z hz => ?_, h⟩
      rcases List.mem_cons.1 hz with rfl | hz
      · exact hlt
      · intro h9
        rcases (nless y.key w.key).1 hlt with h1 | h1
        · rw [← h1] at h9; exact hc.1 z hz h9
        · exact hc.1 z hz (slt_tr h9 h1)
theorem sortW_perm (l : List Wt) : (sortW l).Perm l := by
  have key : ∀ (l A : List Wt), (l.foldl putS A).Perm (A ++ l) := by
    intro l
    induction l with
    | nil => intro A; simp
    | cons x l ih =>
      intro A
      rw [List.foldl_cons]
      refine (ih _).trans (((putS_perm A x).append_right l).trans ?_)
      rw [List.cons_append]
      exact List.perm_middle.symm
  exact key l []
theorem sortW_srt (l : List Wt) : SrtW (sortW l) := by
  have key : ∀ (l A : List Wt), SrtW A → SrtW (l.foldl putS A) := by
    intro l
    induction l with
    | nil => intro A h; exact h
    | cons x l ih => intro A h; exact ih _ (putS_srt h)
  exact key l [] List.Pairwise.nil
def DisW (l : List Wt) : Prop := l.Pairwise fun x y => x.key ≠ y.key
theorem sortW_of {l m : List Wt} (hd : DisW l) (hp : m.Perm l) (hs : SrtW m) : m = sortW l := by
  have hp2 : m.Perm (sortW l) := hp.trans (sortW_perm l).symm
  have hdm : DisW m := hp.symm.pairwise hd fun {x y} h => h.symm
  have hds : DisW (sortW l) := (sortW_perm l).symm.pairwise hd fun {x y} h => h.symm
  have s1 : m.Pairwise fun x y => slt x.key y.key := by
    refine (hs.and hdm).imp fun {x y} ⟨h1, h2⟩ => ?_
    rcases (nless y.key x.key).1 h1 with h3 | h3
    · exact absurd h3.symm h2
    · exact h3
  have s2 : (sortW l).Pairwise fun x y => slt x.key y.key := by
    refine ((sortW_srt l).and hds).imp fun {x y} ⟨h1, h2⟩ => ?_
    rcases (nless y.key x.key).1 h1 with h3 | h3
    · exact absurd h3.symm h2
    · exact h3
  exact hp2.eq_of_pairwise (fun a b _ _ h1 h2 => absurd (slt_tr h1 h2) (slt_irr _)) s1 s2
theorem okW_dis {l : List Wt} {m : Nat} (h : okW l m = true) : l.Pairwise (fun x y => slt x.key y.key) ∧ ∀ x ∈ l, x.key.length ≤ 24 := by
  unfold okW at h
  simp only [Bool.and_eq_true, decide_eq_true_eq] at h
  have hb := allOk_iff.1 h.2
  have key : ∀ (i : Nat) x, l[i]? = some x → keyB x.key = true ∧ kbad (l.map Wt.key) i = false := fun i x hx => by
    have h1 := hb i (List.getElem?_eq_some_iff.1 hx).1
    unfold wbad at h1
    rw [hx] at h1
    simp only [Bool.or_eq_false_iff] at h1
    have h2 := h1.1
    unfold kbad at h2
    rw [List.getElem?_map, hx] at h2
    simp only [Option.map_some, Bool.or_eq_false_iff, Bool.not_eq_false'] at h2
    exact ⟨h2.1, h1.1⟩
  have adj : ∀ (i : Nat) x y, l[i]? = some x → l[i + 1]? = some y → slt x.key y.key := fun i x y hx hy => by
    obtain ⟨h1, h4⟩ := key (i + 1) y hy
    have h5 := kbad_pos (l := l.map Wt.key) (k := i + 1) (x := y.key) (y := x.key) (by rw [List.getElem?_map, hy]; rfl) h1 (Nat.succ_pos _) (by rw [Nat.add_sub_cancel, List.getElem?_map, hx]; rfl)
    rw [h4] at h5
    simpa [slt] using h5.symm
  refine ⟨?_, fun x hx => ?_⟩
  · rw [List.pairwise_iff_getElem]
    intro i j hi hj hij
    induction j with
    | zero => omega
    | succ j ih =>
      have h1 := adj j l[j] l[j + 1] (List.getElem?_eq_getElem (by omega)) (List.getElem?_eq_getElem hj)
      rcases Nat.lt_or_ge i j with h2 | h2
      · exact slt_tr (ih (by omega) h2) h1
      · obtain rfl : i = j := by omega
        exact h1
  · obtain ⟨i, hi⟩ := List.mem_iff_getElem?.1 hx
    have := (key i x hi).1
    unfold keyB at this
    simp only [Bool.and_eq_true, decide_eq_true_eq] at this
    exact this.2
theorem mayF_ws {f : Fp} (h : mayF f = true) : DisW f.ws ∧ ∀ x ∈ f.ws, x.key.length ≤ 24 := by
  have h1 := (mayF_ok h).2.2.2.2
  unfold emay at h1
  simp only [Bool.and_eq_true] at h1
  obtain ⟨h2, h3⟩ := okW_dis h1.2
  exact ⟨h2.imp fun {x y} h4 => sO.ne h4, h3⟩
/-- the transactions of a beginning of what is held -/
structure GrpI (P : List Fp) (k : Nat) (E : List Ep) : Prop where
  dis : ∀ e ∈ E, DisW e.ws ∧ (∀ w ∈ e.ws, ∃ x ∈ P.take k, x.t = e.t ∧ w ∈ x.ws) ∧ 1 ≤ e.ws.length ∧ e.ws.length ≤ 16 * k
  len : E.length ≤ k
theorem grp_step {P : List Fp} (hP : Held P) {k : Nat} {f : Fp} (hf : P[k]? = some f) {E : List Ep} (h : GrpI P k E) : GrpI P (k + 1) (grpE E f) := by
  have hm := hP.may f (List.mem_of_getElem? hf)
  obtain ⟨-, -, hw1, hw16, -⟩ := mayF_ok hm
  have hfd := (mayF_ws hm).1
  have hft : f ∈ P.take (k + 1) := by rw [take_app hf]; simp
  have hup : ∀ x, x ∈ P.take k → x ∈ P.take (k + 1) := fun x hx => by rw [take_app hf]; exact List.mem_append_left _ hx
  have hold : ∀ e ∈ E, DisW e.ws ∧ (∀ w ∈ e.ws, ∃ x ∈ P.take (k + 1), x.t = e.t ∧ w ∈ x.ws) ∧ 1 ≤ e.ws.length ∧ e.ws.length ≤ 16 * (k + 1) := fun e he => by
    obtain ⟨h1, h2, h3, h4⟩ := h.dis e he
    exact ⟨h1, fun w hw => by obtain ⟨x, hx, hy⟩ := h2 w hw; exact ⟨x, hup x hx, hy⟩, h3, by omega⟩
  by_cases hs : E ≠ [] ∧ (E.getLastD ez).t = f.t
  · obtain ⟨A, g, rfl⟩ : ∃ A g, E = A ++ [g] := ⟨E.dropLast, E.getLast hs.1, (List.dropLast_concat_getLast hs.1).symm⟩
    have ht : g.t = f.t := by have := hs.2; rwa [List.getLastD_concat] at this
    rw [grp_same ht]
    obtain ⟨h1, h2, h3, h4⟩ := h.dis g (by simp)
    have hl := h.len
    refine ⟨fun e he => ?_, by simp at hl ⊢; omega⟩
    rcases List.mem_append.1 he with he | he
    · exact hold e (List.mem_append_left _ he)
    · rw [List.mem_singleton] at he
      subst he
      refine ⟨List.pairwise_append.2 ⟨h1, hfd, fun u hu v hv => ?_⟩, fun w hw => ?_, by show 1 ≤ (g.ws ++ f.ws).length; rw [List.length_append]; omega, by show (g.ws ++ f.ws).length ≤ _; rw [List.length_append]; omega⟩
      · obtain ⟨x, hx, hxt, hux⟩ := h2 u hu
        obtain ⟨i, hi⟩ := List.mem_iff_getElem?.1 hx
        rw [List.getElem?_take] at hi
        split at hi
        · rename_i hik
          obtain ⟨g1, rfl⟩ := List.getElem?_eq_some_iff.1 hi
          obtain ⟨g2, rfl⟩ := List.getElem?_eq_some_iff.1 hf
          exact List.pairwise_iff_getElem.1 hP.apart i k g1 g2 hik (hxt.trans ht) u hux v hv
        · cases hi
      · rcases List.mem_append.1 hw with hw | hw
        · obtain ⟨x, hx, hy⟩ := h2 w hw
          exact ⟨x, hup x hx, hy⟩
        · exact ⟨f, hft, ht.symm, hw⟩
  · have e : grpE E f = E ++ [⟨f.t, f.s, f.ws⟩] := by unfold grpE; exact if_neg hs
    rw [e]
    have hl := h.len
    refine ⟨fun e he => ?_, by simp; omega⟩
    rcases List.mem_append.1 he with he | he
    · exact hold e he
    · rw [List.mem_singleton] at he
      subst he
      exact ⟨hfd, fun w hw => ⟨f, hft, rfl, hw⟩, hw1, by show f.ws.length ≤ _; omega⟩
theorem grp_all {P : List Fp} (hP : Held P) : ∀ k, k ≤ P.length → GrpI P k (uptoG (P.take k))
  | 0, _ => ⟨by simp [uptoG], by simp [uptoG]⟩
  | k + 1, h => by
    obtain ⟨f, hf⟩ : ∃ f, P[k]? = some f := ⟨_, List.getElem?_eq_getElem h⟩
    rw [upto_snoc hf]
    exact grp_step hP hf (grp_all hP k (by omega))
/-! keys against one another, as the program's sort has them -/
def wkV (k : Key) : Vl := if 64 < k.length then vz else ⟨2, 0, k⟩
def cmpD (a b : Vl) : Int :=
  if mayV a = false ∨ mayV b = false then 0 else if a.k < b.k then -1 else if b.k < a.k then 1 else if a.k = 1 then cmpF a.num b.num
  else if slt a.tx b.tx then -1 else if slt b.tx a.tx then 1 else 0
def cfK (x y : Wt) : Int := cmpD (wkV x.key) (wkV y.key)
def ltK (a b : Key) : Prop := (64 < a.length ∧ ¬ 64 < b.length) ∨ (¬ 64 < a.length ∧ ¬ 64 < b.length ∧ slt a b)
theorem mayV_wk (k : Key) : mayV (wkV k) = true := by
  unfold wkV
  split
  · rfl
  · unfold mayV
    simp
    omega
theorem cfK_lt (x y : Wt) : cfK x y < 0 ↔ ltK x.key y.key := by
  unfold cfK cmpD ltK
  rw [if_neg (by rw [mayV_wk, mayV_wk]; simp)]
  unfold wkV
  by_cases h1 : 64 < x.key.length
  · by_cases h2 : 64 < y.key.length
    · simp [h1, h2, vz, slt, Op.bytesLess]
    · simp [h1, h2, vz]
  · by_cases h2 : 64 < y.key.length
    · simp [h1, h2, vz]
    · simp only [h1, h2, if_false]
      by_cases h3 : slt x.key y.key
      · simp [h3]
      · by_cases h4 : slt y.key x.key
        · simp [h3, h4]
        · simp [h3, h4]
theorem ltK_irr (a : Key) : ¬ ltK a a := by
  rintro (⟨h1, h2⟩ | ⟨-, -, h⟩)
  · exact h2 h1
  · exact slt_irr a h
theorem ltK_tr {a b c : Key} (h1 : ltK a b) (h2 : ltK b c) : ltK a c := by
  rcases h1 with ⟨h1, h3⟩ | ⟨h1, h3, h5⟩
  · rcases h2 with ⟨h2, h4⟩ | ⟨h2, h4, -⟩
    · exact absurd h2 h3
    · exact .inl ⟨h1, h4⟩
  · rcases h2 with ⟨h2, h4⟩ | ⟨h2, h4, h6⟩
    · exact absurd h2 h3
    · exact .inr ⟨h1, h4, slt_tr h5 h6⟩
theorem ltK_n {a b c : Key} (h1 : ¬ ltK a b) (h2 : ¬ ltK b c) : ¬ ltK a c := by
  unfold ltK at *
  rintro (⟨h3, h4⟩ | ⟨h3, h4, h5⟩)
  · by_cases hb : 64 < b.length
    · exact h2 (.inl ⟨hb, h4⟩)
    · exact h1 (.inl ⟨h3, hb⟩)
  · by_cases hb : 64 < b.length
    · exact h2 (.inl ⟨hb, h4⟩)
    · have h6 : ¬ slt a b := fun h => h1 (.inr ⟨h3, hb, h⟩)
      have h7 : ¬ slt b c := fun h => h2 (.inr ⟨hb, h4, h⟩)
      rcases (nless a b).1 h6 with rfl | h6
      · exact h7 h5
      · rcases (nless b c).1 h7 with rfl | h7
        · exact h6 |> slt_as <| h5
        · exact slt_as (slt_tr h7 h6) h5
theorem ltK_short {a b : Key} (ha : a.length ≤ 24) (hb : b.length ≤ 24) (h : slt a b) : ltK a b := .inr ⟨by omega, by omega, h⟩
theorem snoc_en {L : List En} {t : Tn} {s : Stp} : L.flatMap En.cells ++ [.int .i64 t.co, .int .i64 t.li, .int .i64 t.sq, .int .i64 s.w, .int .i64 s.l, .int .i64 s.n, .slice none 0 0] = (L ++ [(⟨t, s, none, 0, []⟩ : En)]).flatMap En.cells := by
  rw [List.flatMap_append]; simp [En.cells]
theorem cut_f {l : List Fr} {p : Nat} (hp : p ≤ l.length) : (l.flatMap Fr.cells).drop (p * 9) = (l.drop p).flatMap Fr.cells := flat_drop Fr.len l p
theorem tk_wws {l m : List Wt} : l.flatMap Wt.cells ++ m.flatMap Wt.cells = (l ++ m).flatMap Wt.cells := List.flatMap_append.symm
theorem map_last {A : List En} {g : En} : (A ++ [g]).map En.p = A.map En.p ++ [g.p] := by rw [List.map_append]; rfl
theorem drop_cnt {L : List Fr} {at_ : Stp} {n : Nat} (h : cntS at_ (L.map Fr.p) = n) : (L.drop n).map Fr.p = uptoL (L.map Fr.p) at_ := by unfold uptoL; rw [h, List.map_drop]
theorem set_cells {E : List En} {k : Nat} {x y : En} (hx : E[k]? = some x) (h : y.cells = x.cells) : (E.set k y).flatMap En.cells = E.flatMap En.cells := by
  obtain ⟨hk, rfl⟩ := List.getElem?_eq_some_iff.1 hx
  have e2 : E.set k y = E.take k ++ y :: E.drop (k + 1) := List.set_eq_take_append_cons_drop.trans (by rw [if_pos hk])
  have e1 : E = E.take k ++ E[k] :: E.drop (k + 1) := by rw [List.getElem_cons_drop, List.take_append_drop]
  rw [e2]
  conv => rhs; rw [e1]
  rw [List.flatMap_append, List.flatMap_append, List.flatMap_cons, List.flatMap_cons, h]
theorem upto_bd {L : List Fr} {k : Nat} {E : List En} (hHd : Held (L.map Fr.p)) (hk : k ≤ L.length) (hE : E.map En.p = uptoG ((L.take k).map Fr.p)) (hb : k ≤ 10000) :
    ∀ e ∈ E, DisW e.ws ∧ (∀ x ∈ e.ws, x.key.length ≤ 24) ∧ 1 ≤ e.ws.length ∧ e.ws.length ≤ 1000000 := fun e he => by
  have h1 := grp_all hHd k (by rw [List.length_map]; exact hk)
  rw [← List.map_take, ← hE] at h1
  obtain ⟨h2, h3, h4, h5⟩ := h1.dis e.p (List.mem_map_of_mem he)
  refine ⟨h2, fun x hx => ?_, h4, by have h6 : e.ws.length ≤ 16 * k := h5; omega⟩
  obtain ⟨y, hy, -, hxy⟩ := h3 x hx
  rw [← List.map_take] at hy
  obtain ⟨z, hz, rfl⟩ := List.mem_map.1 hy
  exact (mayF_ws (hHd.may z.p (List.mem_map_of_mem (List.mem_of_mem_take hz)))).2 x hxy
theorem upto_set {E1 : List En} {k2 : Nat} {y : En} {ws9 : List Wt} (hgi : ∀ e ∈ E1, DisW e.ws ∧ (∀ x ∈ e.ws, x.key.length ≤ 24) ∧ 1 ≤ e.ws.length ∧ e.ws.length ≤ 1000000) (hyb : DisW y.ws ∧ (∀ x ∈ y.ws, x.key.length ≤ 24) ∧ 1 ≤ y.ws.length ∧ y.ws.length ≤ 1000000) (hp : ws9.Perm y.ws) :
    ∀ e ∈ E1.set k2 (⟨y.t, y.s, y.ad, y.c, ws9⟩ : En), DisW e.ws ∧ (∀ x ∈ e.ws, x.key.length ≤ 24) ∧ 1 ≤ e.ws.length ∧ e.ws.length ≤ 1000000 := fun e he => by
  rcases List.mem_or_eq_of_mem_set he with he | rfl
  · exact hgi e he
  · have hl := hp.length_eq
    exact ⟨hp.symm.pairwise hyb.1 fun {x y} h => h.symm, fun x hx => hyb.2.1 x (hp.mem_iff.1 hx), by show 1 ≤ ws9.length; omega, by show ws9.length ≤ _; omega⟩
theorem upto_nx {E E1 : List En} {k2 : Nat} {y : En} {ws9 : List Wt} (h : E1.map En.p = ((E.map En.p).take k2).map srtE ++ (E.map En.p).drop k2) (hy : E1[k2]? = some y) (hw : ws9 = sortW y.ws) (hl : E1.length = E.length) :
    (E1.set k2 (⟨y.t, y.s, y.ad, y.c, ws9⟩ : En)).map En.p = ((E.map En.p).take (k2 + 1)).map srtE ++ (E.map En.p).drop (k2 + 1) := by
  have hk := (List.getElem?_eq_some_iff.1 hy).1
  have hlen : (((E.map En.p).take k2).map srtE).length = k2 := by rw [List.length_map, List.length_take, List.length_map]; omega
  have hyp : (E.map En.p)[k2]? = some y.p := by
    have h1 : (E1.map En.p)[k2]? = some y.p := by rw [List.getElem?_map, hy]; rfl
    rw [h, List.getElem?_append_right (by omega), hlen, Nat.sub_self, List.getElem?_drop] at h1
    exact h1
  obtain ⟨h2, h3⟩ := List.getElem?_eq_some_iff.1 hyp
  have hd : (E.map En.p).drop k2 = y.p :: (E.map En.p).drop (k2 + 1) := by rw [List.drop_eq_getElem_cons h2, h3]
  rw [List.map_set, h, hd, take_app hyp, List.map_append, List.set_append_right _ _ (by omega), hlen, Nat.sub_self, List.append_assoc]
  show _ ++ (En.p ⟨y.t, y.s, y.ad, y.c, ws9⟩ :: _) = _
  rw [show En.p ⟨y.t, y.s, y.ad, y.c, ws9⟩ = srtE y.p from by rw [hw]; rfl]
  rfl
theorem row_ssnc {w : World} {e : TypeId} {sz n c : Nat} {ad : Option Addr} {α : Type} {enc : α → List Value} {xs ys : List α} (h : Row w e sz ad n c (ys.flatMap enc)) (he : xs.flatMap enc = ys.flatMap enc) (hn : xs.length = n) : Ss w ad enc sz xs := by
  rw [← he] at h
  exact Row.ssn h hn.symm

end Go.Proofs.YtdjfbkllbeeabaaGreat
