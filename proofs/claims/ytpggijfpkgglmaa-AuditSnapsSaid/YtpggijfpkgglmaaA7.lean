/- What entries make, plainly. -/
import Derived.Test.YtpggijfpkgglmaaA5
import Derived.Test.YtpggijfpkgglmaaC3
set_option linter.unusedSimpArgs false
set_option linter.unusedVariables false
namespace Go.Proofs.Ytpggijfpkgglmaa
open Sx

/-! what entries make, as the program keeps it: with the keys that are gone -/
def putR (R : List Wt) (x : Wt) : List Wt := if keyB x.key = true ∧ mayV x.v = true then ptK slit Wt.key x R else R
def rawW (R : List Wt) (x : Ep) : List Wt := x.ws.foldl putR R
def rawE (R : List Wt) (x : En) : List Wt := x.ws.foldl putR R
def rawF (l : List Ep) (at_ : Stp) (below : Bool) : List Wt := ((ordL Ep.s l).filter fun x => upto at_ below x.s).foldl rawW []
def fil (R : List Wt) : List Wt := R.filter fun x => decide (x.v.k ≠ 0)
def gtv (L : List Wt) (k : Key) : Vl := ((gtK slit Wt.key L k).map Wt.v).getD vz
structure GoodR (R : List Wt) : Prop where
  srt : SrtK slt Wt.key R
  may : ∀ x ∈ R, keyB x.key = true ∧ mayV x.v = true
theorem goodR_nil : GoodR [] := ⟨List.Pairwise.nil, fun x h => by cases h⟩
theorem goodR_put {R : List Wt} (x : Wt) (h : GoodR R) : GoodR (putR R x) := by
  unfold putR
  split
  · rename_i hx
    refine ⟨sO.put_srt x h.srt, fun y hy => ?_⟩
    rcases sO.put_mem.1 hy with rfl | hy
    · exact hx
    · exact h.may y hy.1
  · exact h
theorem goodR_fold : ∀ {l R : List Wt}, GoodR R → GoodR (l.foldl putR R)
  | [], _, h => h
  | x :: l, _, h => goodR_fold (l := l) (goodR_put x h)
theorem putR_len (R : List Wt) (x : Wt) : (putR R x).length ≤ R.length + 1 := by
  unfold putR
  split
  · exact sO.put_len x
  · omega
theorem foldR_len : ∀ (l R : List Wt), (l.foldl putR R).length ≤ R.length + l.length
  | [], R => Nat.le_refl _
  | x :: l, R => by
    have h1 := foldR_len l (putR R x)
    have h2 := putR_len R x
    rw [List.foldl_cons, List.length_cons]
    omega
theorem fil_srt {R : List Wt} (h : SrtK slt Wt.key R) : SrtK slt Wt.key (fil R) := List.Pairwise.filter _ h
theorem fil_mem {R : List Wt} {y : Wt} : y ∈ fil R ↔ y ∈ R ∧ y.v.k ≠ 0 := by
  unfold fil
  rw [List.mem_filter, decide_eq_true_eq]
theorem fil_put {R : List Wt} (x : Wt) (h : SrtK slt Wt.key R) : fil (putR R x) = putW (fil R) x := by
  unfold putR putW
  by_cases hx : keyB x.key = true ∧ mayV x.v = true
  · rw [if_pos hx, if_pos hx]
    refine sO.ext_mem (fil_srt (sO.put_srt x h)) (putV_srt x (fil_srt h)) fun r => ?_
    rw [fil_mem, sO.put_mem]
    unfold putV
    by_cases hk : x.v.k = 0
    · rw [if_pos hk, dlK_mem, fil_mem]
      constructor
      · rintro ⟨rfl | h1, h2⟩
        · exact absurd hk h2
        · exact ⟨⟨h1.1, h2⟩, h1.2⟩
      · rintro ⟨⟨h1, h2⟩, h3⟩
        exact ⟨.inr ⟨h1, h3⟩, h2⟩
    · rw [if_neg hk, sO.put_mem, fil_mem]
      constructor
      · rintro ⟨rfl | h1, h2⟩
        · exact .inl rfl
        · exact .inr ⟨⟨h1.1, h2⟩, h1.2⟩
      · rintro (rfl | ⟨⟨h1, h2⟩, h3⟩)
        · exact ⟨.inl rfl, hk⟩
        · exact ⟨.inr ⟨h1, h3⟩, h2⟩
  · rw [if_neg hx, if_neg hx]
theorem fil_fold : ∀ {l R : List Wt}, GoodR R → fil (l.foldl putR R) = l.foldl putW (fil R)
  | [], _, _ => rfl
  | x :: l, R, h => by
    rw [List.foldl_cons, List.foldl_cons, fil_fold (goodR_put x h), fil_put x h.srt]
theorem goodR_rows : ∀ {l : List Ep} {R : List Wt}, GoodR R → GoodR (l.foldl rawW R)
  | [], _, h => h
  | x :: l, _, h => goodR_rows (l := l) (goodR_fold h)
theorem fil_rows : ∀ {l : List Ep} {R : List Wt}, GoodR R → fil (l.foldl rawW R) = l.foldl mkW (fil R)
  | [], _, _ => rfl
  | x :: l, R, h => by
    rw [List.foldl_cons, List.foldl_cons]
    show fil (l.foldl rawW (x.ws.foldl putR R)) = _
    rw [fil_rows (goodR_fold h), fil_fold h]
    rfl
theorem goodR_raw (l : List Ep) (at_ : Stp) (below : Bool) : GoodR (rawF l at_ below) := goodR_rows goodR_nil
/-! sorted, then let in: as let in, then sorted -/
def SrtL {α : Type} (κ : α → Stp) (L : List α) : Prop := L.Pairwise fun a b => ¬ ltS (κ b) (κ a)
theorem placeC {α : Type} {κ : α → Stp} {x y : α} {r : List α} : placeG κ x (y :: r) = if ltS (κ x) (κ y) then x :: y :: r else y :: placeG κ x r := by
  have e : leadS κ (κ x) (y :: r) = if ltS (κ x) (κ y) then 0 else leadS κ (κ x) r + 1 := rfl
  unfold placeG
  rw [e]
  split <;> rfl
theorem nlt_tr {a b c : Stp} (h1 : ¬ ltS b a) (h2 : ¬ ltS c b) : ¬ ltS c a := by unfold ltS at *; omega
theorem placeL_srt {α : Type} {κ : α → Stp} (x : α) : ∀ {L : List α}, SrtL κ L → SrtL κ (placeG κ x L)
  | [], _ => List.pairwise_singleton _ _
  | y :: r, h => by
    have hc := List.pairwise_cons.1 h
    rw [placeC]
    split
    · rename_i hlt
      refine List.pairwise_cons.2 ⟨fun z hz => ?_, h⟩
      rcases List.mem_cons.1 hz with rfl | hz
      · exact ltS_as hlt
      · exact nlt_tr (ltS_as hlt) (hc.1 z hz)
    · rename_i hlt
      refine List.pairwise_cons.2 ⟨fun z hz => ?_, placeL_srt x hc.2⟩
      rcases List.mem_cons.1 ((place_perm κ x r).mem_iff.1 hz) with rfl | hz
      · exact hlt
      · exact hc.1 z hz
theorem ordL_srt {α : Type} (κ : α → Stp) (l : List α) : SrtL κ (ordL κ l) := by
  have key : ∀ (l A : List α), SrtL κ A → SrtL κ (l.foldl (fun L x => placeG κ x L) A) := by
    intro l
    induction l with
    | nil => intro A h; exact h
    | cons x l ih => intro A h; exact ih _ (placeL_srt x h)
  exact key l [] List.Pairwise.nil
theorem place_head {α : Type} {κ : α → Stp} {x : α} : ∀ {L : List α}, (∀ y ∈ L, ltS (κ x) (κ y)) → placeG κ x L = x :: L
  | [], _ => rfl
  | y :: r, h => by rw [placeC, if_pos (h y List.mem_cons_self)]
theorem place_filter {α : Type} {κ : α → Stp} {q : α → Bool} (x : α) : ∀ {L : List α}, SrtL κ L → (placeG κ x L).filter q = if q x = true then placeG κ x (L.filter q) else L.filter q
  | [], _ => by
    show [x].filter q = _
    by_cases h : q x = true
    · rw [if_pos h, List.filter_cons_of_pos h]; rfl
    · rw [if_neg h, List.filter_cons_of_neg h]
  | y :: r, hs => by
    have hc := List.pairwise_cons.1 hs
    rw [placeC]
    by_cases hlt : ltS (κ x) (κ y)
    · rw [if_pos hlt]
      by_cases h : q x = true
      · rw [if_pos h, List.filter_cons_of_pos h, place_head]
        intro z hz
        have hz := (List.mem_filter.1 hz).1
        rcases List.mem_cons.1 hz with rfl | hz
        · exact hlt
        · have h2 := hc.1 z hz
          unfold ltS at hlt h2 ⊢
          omega
      · rw [if_neg h, List.filter_cons_of_neg h]
    · rw [if_neg hlt]
      have ih := place_filter (q := q) x hc.2
      by_cases hy : q y = true
      · rw [List.filter_cons_of_pos hy, List.filter_cons_of_pos hy, ih]
        split
        · rw [placeC, if_neg hlt]
        · rfl
      · rw [List.filter_cons_of_neg hy, List.filter_cons_of_neg hy, ih]
theorem ordL_filter {α : Type} {κ : α → Stp} (q : α → Bool) (l : List α) : ordL κ (l.filter q) = (ordL κ l).filter q := by
  have key : ∀ (l A : List α), SrtL κ A → (l.filter q).foldl (fun L x => placeG κ x L) (A.filter q) = (l.foldl (fun L x => placeG κ x L) A).filter q := by
    intro l
    induction l with
    | nil => intro A _; rfl
    | cons x l ih =>
      intro A h
      rw [List.foldl_cons, ← ih _ (placeL_srt x h), place_filter x h]
      by_cases hq : q x = true
      · rw [List.filter_cons_of_pos hq, if_pos hq]; rfl
      · rw [List.filter_cons_of_neg hq, if_neg hq]
  exact key l [] List.Pairwise.nil
theorem fil_raw (l : List Ep) (at_ : Stp) (below : Bool) : fil (rawF l at_ below) = makesF l at_ below := by
  unfold rawF makesF
  rw [fil_rows goodR_nil, ordL_filter]
  rfl
theorem mayV_zero {v : Vl} (h : mayV v = true) (hk : v.k = 0) : v = vz := by
  obtain ⟨k, n, t⟩ := v
  dsimp only at hk
  subst hk
  unfold mayV at h
  simp only [if_true, Bool.and_eq_true, decide_eq_true_eq] at h
  obtain ⟨rfl, rfl⟩ := h
  rfl
theorem gtv_fil {R : List Wt} (h : GoodR R) (k : Key) : gtv (fil R) k = gtv R k := by
  unfold gtv
  cases h1 : gtK slit Wt.key R k with
  | none =>
    rw [sO.get_of_none (fun y hy => sO.get_none h1 y (fil_mem.1 hy).1)]
  | some x =>
    obtain ⟨hx, rfl⟩ := sO.get_some h1
    by_cases hk : x.v.k = 0
    · rw [sO.get_of_none (fun y hy he => ?_)]
      · show vz = x.v
        exact (mayV_zero (h.may x hx).2 hk).symm
      · obtain ⟨hy1, hy2⟩ := fil_mem.1 hy
        have h2 := sO.get_mem h.srt hy1
        rw [he, h1] at h2
        cases h2
        exact hy2 hk
    · rw [sO.get_mem (fil_srt h.srt) (fil_mem.2 ⟨hx, hk⟩)]
theorem rawF_len (l : List En) (at_ : Stp) (below : Bool) : (rawF (l.map En.p) at_ below).length ≤ sumN wl l := by
  have key : ∀ (l : List Ep) (R : List Wt), (l.foldl rawW R).length ≤ R.length + sumN (fun x => x.ws.length) l := by
    intro l
    induction l with
    | nil => intro R; exact Nat.le_refl _
    | cons x l ih =>
      intro R
      have h1 := ih (rawW R x)
      have h2 := foldR_len x.ws R
      have h3 : (rawW R x).length ≤ R.length + x.ws.length := h2
      simp only [List.foldl_cons, sumN]
      omega
  have h1 := key ((ordL Ep.s (l.map En.p)).filter fun x => upto at_ below x.s) []
  have h2 := sumN_filter (f := fun x : Ep => x.ws.length) (fun x => upto at_ below x.s) (ordL Ep.s (l.map En.p))
  have h3 := sumN_perm (f := fun x : Ep => x.ws.length) (ord_perm Ep.s (l.map En.p))
  have h4 : ∀ l : List En, sumN (fun x : Ep => x.ws.length) (l.map En.p) = sumN wl l := by
    intro l
    induction l with
    | nil => rfl
    | cons x l ih => simp only [List.map_cons, sumN, ih]; rfl
  have h5 := h4 l
  unfold rawF
  simp only [List.length_nil] at h1
  omega
theorem raw_en {M l : List En} (h : M.map En.p = ordL Ep.s (l.map En.p)) (at_ : Stp) (below : Bool) : rawF (l.map En.p) at_ below = (M.filter fun x => upto at_ below x.s).foldl rawE [] := by
  unfold rawF
  rw [← h, List.filter_map, List.foldl_map]
  rfl
theorem filtE_snoc {M : List En} {q : En → Bool} {i : Nat} {o : En} (ho : M[i]? = some o) : ((M.take (i + 1)).filter q).foldl rawE [] = if q o = true then o.ws.foldl putR (((M.take i).filter q).foldl rawE []) else ((M.take i).filter q).foldl rawE [] := by
  rw [take_app ho, List.filter_append]
  by_cases hq : q o = true
  · rw [if_pos hq, List.filter_cons_of_pos hq, List.filter_nil, List.foldl_append]; rfl
  · rw [if_neg hq, List.filter_cons_of_neg hq, List.filter_nil, List.append_nil]
/-! is one value the other? -/
def cmpD (a b : Vl) : Int :=
  if mayV a = false ∨ mayV b = false then 0 else if a.k < b.k then -1 else if b.k < a.k then 1 else if a.k = 1 then cmpF a.num b.num
  else if slt a.tx b.tx then -1 else if slt b.tx a.tx then 1 else 0
def sameV (a b : Vl) : Bool := mayV a && mayV b && decide (cmpD a b = 0)
theorem cmpD_self (a : Vl) : cmpD a a = 0 := by
  unfold cmpD
  simp [cmpF_self, slt_irr]
theorem cmpD_sym {a b : Vl} (h : cmpD a b = 0) : cmpD b a = 0 := by
  unfold cmpD at *
  by_cases h1 : mayV a = false
  · simp [h1]
  by_cases h2 : mayV b = false
  · simp [h2]
  rw [if_neg (by simp [h1, h2])] at h ⊢
  by_cases h3 : a.k < b.k
  · rw [if_pos h3] at h; cases h
  by_cases h4 : b.k < a.k
  · rw [if_neg h3, if_pos h4] at h; cases h
  have h5 : a.k = b.k := by omega
  rw [if_neg h3, if_neg h4] at h
  rw [if_neg h4, if_neg h3]
  by_cases h6 : a.k = 1
  · rw [if_pos h6] at h
    rw [if_pos (by omega)]
    unfold cmpF at *
    rw [(ord_tri _ _).2.1] at h ⊢
    exact h.symm
  · rw [if_neg h6] at h
    rw [if_neg (by omega)]
    by_cases h7 : slt a.tx b.tx
    · rw [if_pos h7] at h; cases h
    by_cases h8 : slt b.tx a.tx
    · rw [if_neg h7, if_pos h8] at h; cases h
    rw [if_neg h8, if_neg h7]
theorem sameV_self {a : Vl} (h : mayV a = true) : sameV a a = true := by
  unfold sameV
  rw [h, cmpD_self]
  rfl
theorem sameV_sym (a b : Vl) : sameV a b = sameV b a := by
  have h1 : (cmpD a b = 0) = (cmpD b a = 0) := propext ⟨cmpD_sym, cmpD_sym⟩
  unfold sameV
  simp only [h1, Bool.and_comm (mayV a)]
/-! the first fault, from what stands ahead -/
theorem any_exE {l : List En} {i : Nat} {P : Ep → Prop} [DecidablePred P] : (∃ y ∈ (l.map En.p).take i, P y) ↔ ((l.take i).any fun y => decide (P y.p)) = true := by
  rw [← List.map_take, List.any_eq_true]
  constructor
  · rintro ⟨y, hy, hp⟩
    obtain ⟨x, hx, rfl⟩ := List.mem_map.1 hy
    exact ⟨x, hx, decide_eq_true hp⟩
  · rintro ⟨x, hx, hp⟩
    exact ⟨x.p, List.mem_map_of_mem hx, of_decide_eq_true hp⟩
theorem fltA_txn {l : List En} {i : Nat} {o : En} (ho : l[i]? = some o) (h : emay o.t o.s o.ws = true) (ha : ((l.take i).any fun y => decide (y.t = o.t)) = true) : fltE (l.map En.p) i = 9 := by
  unfold fltE
  rw [List.getElem?_map, ho]
  show (if emay o.t o.s o.ws = false then _ else _) = _
  rw [if_neg (by rw [h]; decide), if_pos]
  exact (any_exE (P := fun y => y.t = o.t)).2 ha
theorem fltA_stamp {l : List En} {i : Nat} {o : En} (ho : l[i]? = some o) (h : emay o.t o.s o.ws = true) (hn : ((l.take i).any fun y => decide (y.t = o.t)) = false) (ha : ((l.take i).any fun y => decide (y.s = o.s)) = true) : fltE (l.map En.p) i = 17 := by
  unfold fltE
  rw [List.getElem?_map, ho]
  show (if emay o.t o.s o.ws = false then _ else _) = _
  rw [if_neg (by rw [h]; decide), if_neg, if_pos]
  · exact (any_exE (P := fun y => y.s = o.s)).2 ha
  · intro h9
    have := (any_exE (P := fun y => y.t = o.t)).1 h9
    exact absurd (hn.symm.trans this) (by decide)
theorem fltA_no {l : List En} {i : Nat} {o : En} (ho : l[i]? = some o) (h : emay o.t o.s o.ws = true) (hn : ((l.take i).any fun y => decide (y.t = o.t)) = false) (hm : ((l.take i).any fun y => decide (y.s = o.s)) = false) : fltE (l.map En.p) i = 0 := by
  unfold fltE
  rw [List.getElem?_map, ho]
  show (if emay o.t o.s o.ws = false then _ else _) = _
  rw [if_neg (by rw [h]; decide), if_neg, if_neg]
  · intro h9
    have := (any_exE (P := fun y => y.s = o.s)).1 h9
    exact absurd (hm.symm.trans this) (by decide)
  · intro h9
    have := (any_exE (P := fun y => y.t = o.t)).1 h9
    exact absurd (hn.symm.trans this) (by decide)
/-- as the program tells it: -1 where there is none -/
def faF (l : List Ep) : Int × Int := if (ordE l).2 = 0 then (-1, 0) else ordE l
theorem fa_two (l : List Ep) : (faF l).2 = (ordE l).2 := by
  unfold faF
  split
  · rename_i h; exact h.symm
  · rfl
theorem fa_at {l : List Ep} {k : Nat} {e : Int} (h1 : ∀ i, i < k → fltE l i = 0) (hk : k < l.length) (h2 : fltE l k = e) (h3 : e ≠ 0) : faF l = ((k : Int), e) := by
  have h := ordE_at h1 hk h2 h3
  unfold faF
  rw [h, if_neg h3]
theorem fa_no {l : List Ep} (h : ∀ i, i < l.length → fltE l i = 0) : faF l = (-1, 0) := by
  unfold faF
  rw [ordE_no h, if_pos rfl]
theorem sum_map (l : List En) : sumN (fun x : Ep => x.ws.length) (l.map En.p) = sumN wl l := by
  induction l with
  | nil => rfl
  | cons x l ih => simp only [List.map_cons, sumN, ih]; rfl
theorem ord_sum {M l : List En} (h : M.map En.p = ordL Ep.s (l.map En.p)) : sumN wl M = sumN wl l ∧ M.length = l.length ∧ ∀ x ∈ M, ∃ y ∈ l, x.ws = y.ws := by
  have hp : (M.map En.p).Perm (l.map En.p) := by rw [h]; exact ord_perm _ _
  refine ⟨?_, ?_, fun x hx => ?_⟩
  · rw [← sum_map, ← sum_map, sumN_perm hp]
  · have := hp.length_eq; simpa using this
  · have h1 : x.p ∈ l.map En.p := hp.mem_iff.1 (List.mem_map_of_mem hx)
    obtain ⟨y, hy, he⟩ := List.mem_map.1 h1
    exact ⟨y, hy, by have : y.p.ws = x.p.ws := by rw [he]
                     exact this.symm⟩
/-! keys and their values -/
def Wt.val (x : Wt) : Value := .agg #[.int .i64 x.v.k, .float .f64 x.v.num, .string ⟨x.v.tx.toArray⟩]
abbrev tw (L : List Wt) : DataW Value := tab (fun x => slit (Wt.key x)) Wt.val L
theorem put_v (x : Wt) (L : List Wt) : (tw L).put (slit x.key) (.held (.agg #[.int .i64 x.v.k, .float .f64 x.v.num, .string ⟨x.v.tx.toArray⟩])) = tw (ptK slit Wt.key x L) := putK x
theorem look_v {L : List Wt} {x : Wt} (hs : SrtK slt Wt.key L) (h : x ∈ L) (z : Value) : atV (tw L) (slit x.key) z = .agg #[.int .i64 x.v.k, .float .f64 x.v.num, .string ⟨x.v.tx.toArray⟩] := (lookK_yes (sO.get_mem hs h) z).1
theorem look_g (L : List Wt) (k : Key) : atV (tw L) (slit k) (.agg #[.int .i64 0, .float .f64 0, .string .empty]) = .agg #[.int .i64 (gtv L k).k, .float .f64 (gtv L k).num, .string ⟨(gtv L k).tx.toArray⟩] := by
  rw [lookK k]
  unfold gtv
  cases gtK slit Wt.key L k with
  | none => rfl
  | some x => rfl
theorem keyB_len {k : Key} (h : keyB k = true) : k.length ≤ 24 := by
  unfold keyB at h
  simp only [Bool.and_eq_true, decide_eq_true_eq] at h
  exact h.2
theorem fil_len (R : List Wt) : (fil R).length ≤ R.length := List.length_filter_le _ _
theorem fil_snoc {R : List Wt} {k : Nat} {o : Wt} (h : R[k]? = some o) : fil (R.take (k + 1)) = if o.v.k ≠ 0 then fil (R.take k) ++ [o] else fil (R.take k) := by
  rw [take_app h]
  unfold fil
  rw [List.filter_append]
  by_cases hk : o.v.k = 0
  · rw [if_neg (by simp [hk]), List.filter_cons_of_neg (by simp [hk]), List.filter_nil, List.append_nil]
  · rw [if_pos hk, List.filter_cons_of_pos (by simp [hk]), List.filter_nil]
theorem ss_take {α : Type} {enc : α → List Value} {sz : Nat} {w : World} {ad : Option Addr} {xs : List α} (he : ∀ x, (enc x).length = sz) (h : Ss w ad enc sz xs) {k : Nat} (hk : k ≤ xs.length) : Ss w ad enc sz (xs.take k) := by
  have h1 := Sv.cut (lo := 0) (hi := k) (c := xs.length) h.sv (Nat.zero_le _) hk (Nat.le_refl _)
  rw [cutAt_zero, Nat.zero_mul, List.drop_zero, Nat.sub_zero, flat_take he] at h1
  unfold Ss
  rw [List.length_take, Nat.min_eq_left hk]
  exact h1

/-! what was seen; deeds -/
structure Sn where
  key : Key
  v : Vl
  s : Stp
  deriving DecidableEq
def Sn.cells (x : Sn) : List Value := [.string ⟨x.key.toArray⟩, .int .i64 x.v.k, .float .f64 x.v.num, .string ⟨x.v.tx.toArray⟩, .int .i64 x.s.w, .int .i64 x.s.l, .int .i64 x.s.n]
theorem Sn.len (x : Sn) : x.cells.length = 7 := rfl
theorem Sn.one (x : Sn) : ∀ u ∈ x.cells, u.oneCell' = true := by
  intro u hu
  simp only [Sn.cells, List.mem_cons, List.not_mem_nil, or_false] at hu
  rcases hu with rfl | rfl | rfl | rfl | rfl | rfl | rfl <;> rfl
def Sn.wf (x : Sn) : Prop := x.key.length ≤ 140737488351232 ∧ x.v.wf
structure Dn where
  t : Tn
  s : Stp
  ad : Option Addr
  c : Nat
  ws : List Wt
  sa : Option Addr
  sc : Nat
  sn : List Sn
def Dn.e (x : Dn) : En := ⟨x.t, x.s, x.ad, x.c, x.ws⟩
def Dn.cells (x : Dn) : List Value := [.int .i64 x.t.co, .int .i64 x.t.li, .int .i64 x.t.sq, .int .i64 x.s.w, .int .i64 x.s.l, .int .i64 x.s.n, .slice x.ad x.ws.length x.c, .slice x.sa x.sn.length x.sc]
theorem Dn.len (x : Dn) : x.cells.length = 8 := rfl
theorem Dn.one (x : Dn) : ∀ u ∈ x.cells, u.oneCell' = true := by
  intro u hu
  simp only [Dn.cells, List.mem_cons, List.not_mem_nil, or_false] at hu
  rcases hu with rfl | rfl | rfl | rfl | rfl | rfl | rfl | rfl <;> rfl
def Dn.rw (x : Dn) : Rw := ⟨x.sa, x.sn.length, x.sc, x.sn.flatMap Sn.cells⟩
abbrev Dp := Ep × List Sn
def Dn.p (x : Dn) : Dp := (x.e.p, x.sn)
theorem ents_map (l : List Dn) : (l.map Dn.e).map En.p = (l.map Dn.p).map Prod.fst := by
  rw [List.map_map, List.map_map]; rfl
/-- it saw what was not so -/
def badD (es : List Ep) (d : Dp) : Bool := d.2.any fun x => !sameV x.v (gtv (rawF es d.1.s true) x.key)
def rdF (ds : List Dp) : Int × Int :=
  if (ordE (ds.map Prod.fst)).2 ≠ 0 then ordE (ds.map Prod.fst)
  else match (List.range ds.length).find? (fun i => match ds[i]? with | none => false | some d => badD (ds.map Prod.fst) d) with
  | none => (-1, 0)
  | some i => ((i : Int), 19)
theorem rd_fault {ds : List Dp} (h : (ordE (ds.map Prod.fst)).2 ≠ 0) : rdF ds = ordE (ds.map Prod.fst) := by unfold rdF; exact if_pos h
theorem rd_at {ds : List Dp} {i : Nat} {d : Dp} (h : (ordE (ds.map Prod.fst)).2 = 0) (hd : ds[i]? = some d) (hb : badD (ds.map Prod.fst) d = true) (hlt : ∀ (t : Nat) q, t < i → ds[t]? = some q → badD (ds.map Prod.fst) q = false) : rdF ds = ((i : Int), 19) := by
  have hf : (List.range ds.length).find? (fun i => match ds[i]? with | none => false | some d => badD (ds.map Prod.fst) d) = some i := by
    rw [List.find?_range_eq_some]
    refine ⟨by rw [hd]; exact hb, List.mem_range.2 (List.getElem?_eq_some_iff.1 hd).1, fun j hj => ?_⟩
    cases h9 : ds[j]? with
    | none => rfl
    | some q => dsimp only; rw [hlt j q hj h9]; rfl
  unfold rdF
  rw [if_neg (fun h9 => h9 h), hf]
theorem rd_no {ds : List Dp} (h : (ordE (ds.map Prod.fst)).2 = 0) (hlt : ∀ (t : Nat) q, ds[t]? = some q → badD (ds.map Prod.fst) q = false) : rdF ds = (-1, 0) := by
  have hf : (List.range ds.length).find? (fun i => match ds[i]? with | none => false | some d => badD (ds.map Prod.fst) d) = none := by
    rw [List.find?_eq_none]
    intro i hi
    cases h9 : ds[i]? with
    | none => simp
    | some q => simp [hlt i q h9]
  unfold rdF
  rw [if_neg (fun h9 => h9 h), hf]
theorem tk_h {l : List Dn} {k : Nat} {o : Dn} (h : l[k]? = some o) : ((l.take k).map Dn.e).flatMap En.cells ++ [.int .i64 o.t.co, .int .i64 o.t.li, .int .i64 o.t.sq, .int .i64 o.s.w, .int .i64 o.s.l, .int .i64 o.s.n, .slice o.ad o.ws.length o.c] = ((l.take (k + 1)).map Dn.e).flatMap En.cells := by
  rw [take_app h, List.map_append, List.flatMap_append]; simp [Dn.e, En.cells]
theorem tk_d {l : List Dn} {k : Nat} {o : Dn} (h : l[k]? = some o) : (l.take k).flatMap Dn.cells ++ [.int .i64 o.t.co, .int .i64 o.t.li, .int .i64 o.t.sq, .int .i64 o.s.w, .int .i64 o.s.l, .int .i64 o.s.n, .slice o.ad o.ws.length o.c, .slice o.sa o.sn.length o.sc] = (l.take (k + 1)).flatMap Dn.cells := by
  rw [take_app h, List.flatMap_append]; simp [Dn.cells]
theorem tk_s7 {l : List Sn} {k : Nat} {o : Sn} (h : l[k]? = some o) : (l.take k).flatMap Sn.cells ++ o.cells = (l.take (k + 1)).flatMap Sn.cells := by
  rw [take_app h, List.flatMap_append]; simp
theorem get_e {l : List Dn} {k : Nat} {o : Dn} (h : l[k]? = some o) : (l.map Dn.p)[k]? = some o.p := by rw [List.getElem?_map, h]; rfl
/-- a key's value among pairs -/
theorem gtK_at {k : Key} : ∀ {L : List Wt} {i : Nat} {o : Wt}, (∀ (t : Nat) q, t < i → L[t]? = some q → q.key ≠ k) → L[i]? = some o → o.key = k → gtK slit Wt.key L k = some o
  | [], i, o, _, h, _ => by simp at h
  | y :: L, 0, o, _, h, he => by
    simp at h
    subst h
    rw [sO.get_cons, if_pos he]
  | y :: L, i + 1, o, hl, h, he => by
    rw [sO.get_cons, if_neg (hl 0 y (Nat.succ_pos _) rfl)]
    exact gtK_at (i := i) (fun t q ht hq => hl (t + 1) q (by omega) (by simpa using hq)) (by simpa using h) he
theorem gtv_at {k : Key} {L : List Wt} {i : Nat} {o : Wt} (hl : ∀ (t : Nat) q, t < i → L[t]? = some q → q.key ≠ k) (h : L[i]? = some o) (he : o.key = k) : gtv L k = o.v := by
  unfold gtv
  rw [gtK_at hl h he]
  rfl
theorem gtv_none {k : Key} {L : List Wt} (hl : ∀ (t : Nat) q, L[t]? = some q → q.key ≠ k) : gtv L k = vz := by
  unfold gtv
  rw [sO.get_of_none fun y hy => by obtain ⟨t, ht⟩ := List.mem_iff_getElem?.1 hy; exact hl t y ht]
  rfl
theorem tnI (a b : Tn) : a = b ↔ a.co = b.co ∧ a.li = b.li ∧ a.sq = b.sq := by
  obtain ⟨a1, a2, a3⟩ := a
  obtain ⟨c1, c2, c3⟩ := b
  simp only [Tn.mk.injEq]
theorem stI (a b : Stp) : a = b ↔ a.w = b.w ∧ a.l = b.l ∧ a.n = b.n := by
  obtain ⟨a1, a2, a3⟩ := a
  obtain ⟨c1, c2, c3⟩ := b
  simp only [Stp.mk.injEq]
theorem epI (a b : En) : a.p = b.p ↔ a.t = b.t ∧ a.s = b.s ∧ a.ws = b.ws := by
  unfold En.p
  simp only [Ep.mk.injEq]

end Go.Proofs.Ytpggijfpkgglmaa
