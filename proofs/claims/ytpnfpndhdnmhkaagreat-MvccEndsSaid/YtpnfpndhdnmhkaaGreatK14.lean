/- Two that are resolved in whatever order, plainly. -/
import Derived.Test.YtpnfpndhdnmhkaaGreatK11
set_option linter.unusedSimpArgs false
set_option linter.unusedVariables false
namespace Go.Proofs.YtpnfpndhdnmhkaaGreat
open Sx

/-! two that are resolved in whatever order -/
def comK (k : Key) (at_ : Stp) (ws : List Wt) (o : Option Hy) : Option Hy := ws.foldl (fun o w => if w.key = k then some ⟨k, insV ⟨at_, w.v⟩ ((o.map Hy.vs).getD [])⟩ else o) o
theorem get_putH (H : List Hy) (k : Key) (x : Vr) (k2 : Key) : gtK slit Hy.key (putH H k x) k2 = if k = k2 then some ⟨k, insV x (vsOf H k)⟩ else gtK slit Hy.key H k2 := by
  unfold putH
  rw [sO.get_put]
theorem get_com (at_ : Stp) (k : Key) : ∀ (ws : List Wt) (H : List Hy), gtK slit Hy.key (comH H ws at_) k = comK k at_ ws (gtK slit Hy.key H k)
  | [], H => rfl
  | w :: ws, H => by
    show gtK slit Hy.key (comH (putH H w.key ⟨at_, w.v⟩) ws at_) k = comK k at_ ws (if w.key = k then _ else _)
    rw [get_com at_ k ws, get_putH]
    by_cases h : w.key = k
    · rw [if_pos h, if_pos h]
      subst h
      rfl
    · rw [if_neg h, if_neg h]
theorem comK_no {k : Key} {at_ : Stp} : ∀ {ws : List Wt} {o : Option Hy}, wrts ws k = false → comK k at_ ws o = o
  | [], o, _ => rfl
  | w :: ws, o, h => by
    unfold wrts at h
    rw [List.any_cons, Bool.or_eq_false_iff] at h
    show comK k at_ ws (if w.key = k then _ else _) = o
    rw [if_neg (of_decide_eq_false h.1)]
    exact comK_no h.2
theorem com_srt (at_ : Stp) : ∀ (ws : List Wt) {H : List Hy}, SrtK slt Hy.key H → SrtK slt Hy.key (comH H ws at_)
  | [], _, h => h
  | w :: ws, H, h => com_srt at_ ws (H := putH H w.key ⟨at_, w.v⟩) (sO.put_srt _ h)
theorem com_swap {H : List Hy} (h : SrtK slt Hy.key H) {ws ws2 : List Wt} (hd : ∀ k, wrts ws k = true → wrts ws2 k = false) (a b : Stp) : comH (comH H ws a) ws2 b = comH (comH H ws2 b) ws a := by
  refine sO.ext (com_srt b ws2 (com_srt a ws h)) (com_srt a ws (com_srt b ws2 h)) fun k => ?_
  rw [get_com, get_com, get_com, get_com]
  cases hw : wrts ws k with
  | false => rw [comK_no hw, comK_no hw]
  | true => rw [comK_no (hd k hw), comK_no (hd k hw)]
theorem wr_apart {p q : Pp} (h : clashF p q = false) (k : Key) (hw : wrts p.ws k = true) : wrts q.ws k = false := by
  unfold wrts at hw
  obtain ⟨w, hw1, hw2⟩ := List.any_eq_true.1 hw
  have := (clash_wr h w hw1).1
  rw [of_decide_eq_true hw2] at this
  exact this
theorem res_find {M : Ms} {a b : Tn} (hab : tb b ≠ tb a) (p : Bool) (x : Stp) : findF (resM M a p x).P b = findF M.P b := by
  unfold resM
  split
  · show gtK slit kbp (dlK kbp (tb a) M.P) (tb b) = _
    rw [sO.get_del, if_neg hab]
    rfl
  · rfl
theorem res_vs {M : Ms} (hI : Inv M) {a b : Tn} (hab : tb b ≠ tb a) (p : Bool) (x : Stp) {q : Pp} (hq : findF M.P b = some q) {w : Wt} (hw : w ∈ q.ws) : vsOf (resM M a p x).H w.key = vsOf M.H w.key := by
  unfold resM
  split
  · rename_i h0
    obtain ⟨r, hr, -⟩ := wld_0 h0
    obtain ⟨hrm, hrt⟩ := find_at hr
    obtain ⟨hqm, hqt⟩ := find_at hq
    rw [hr]
    show vsOf (if p then comH M.H r.ws x else M.H) w.key = _
    cases p with
    | false => rfl
    | true =>
      have hne : q ≠ r := fun e => hab (by rw [← hqt, ← hrt, e])
      show vsOf (comH M.H r.ws x) w.key = _
      rw [vs_com r.ws x w.key M.H (clash_wr (hI.apart hqm hrm hne) w hw).1]
  · rfl
theorem ends_e {M : Ms} (hI : Inv M) {a b : Tn} (hab : tb b ≠ tb a) (p q : Bool) (x y : Stp) : wldE (resM M a p x) b q y = wldE M b q y := by
  unfold wldE
  rw [res_find hab]
  cases hf : findF M.P b with
  | none => rfl
  | some r =>
    dsimp only
    have e : (r.ws.any fun w => hasV (vsOf (resM M a p x).H w.key) y) = r.ws.any fun w => hasV (vsOf M.H w.key) y := any_cg fun w hw => by rw [res_vs hI hab p x hf hw]
    rw [e]
theorem res_yes {M : Ms} {t : Tn} {c : Bool} {at_ : Stp} {r : Pp} (h : wldE M t c at_ = 0) (hr : findF M.P t = some r) : resM M t c at_ = ⟨if c then comH M.H r.ws at_ else M.H, dlK kbp (tb t) M.P, M.low⟩ := by
  unfold resM
  rw [if_pos h, hr]
  rfl
theorem res_no {M : Ms} {t : Tn} {c : Bool} {at_ : Stp} (h : ¬ wldE M t c at_ = 0) : resM M t c at_ = M := by
  unfold resM
  rw [if_neg h]
theorem ends_s {M : Ms} (hI : Inv M) {a b : Tn} (hab : tb b ≠ tb a) (p q : Bool) (x y : Stp) : (resM (resM M a p x) b q y).H = (resM (resM M b q y) a p x).H ∧ (resM (resM M a p x) b q y).P = (resM (resM M b q y) a p x).P := by
  have e1 := ends_e hI hab p q x y
  have e2 := ends_e hI (a := b) (b := a) (fun h => hab h.symm) q p y x
  have f1 : findF (resM M a p x).P b = findF M.P b := res_find hab p x
  have f2 : findF (resM M b q y).P a = findF M.P a := res_find (fun h => hab h.symm) q y
  by_cases h1 : wldE M a p x = 0
  · by_cases h2 : wldE M b q y = 0
    · obtain ⟨r, hr, -⟩ := wld_0 h1
      obtain ⟨s, hs, -⟩ := wld_0 h2
      obtain ⟨hrm, hrt⟩ := find_at hr
      obtain ⟨hsm, hst⟩ := find_at hs
      have hne : r ≠ s := fun e => hab (by rw [← hst, ← hrt, e])
      have hcl := hI.apart hrm hsm hne
      have g1 := res_yes h1 hr
      have g2 := res_yes h2 hs
      have g3 := res_yes (e1.trans h2) (f1.trans hs)
      have g4 := res_yes (e2.trans h1) (f2.trans hr)
      rw [g3, g4, g1, g2]
      refine ⟨?_, ?_⟩
      · cases p <;> cases q
        · rfl
        · rfl
        · rfl
        · exact com_swap hI.hs (fun k hk => wr_apart hcl k hk) x y
      · show dlK kbp (tb b) (dlK kbp (tb a) M.P) = dlK kbp (tb a) (dlK kbp (tb b) M.P)
        unfold dlK
        rw [List.filter_filter, List.filter_filter]
        congr 1
        funext z
        rw [Bool.and_comm]
    · rw [res_no (fun h => h2 (e1.symm.trans h) : ¬ wldE (resM M a p x) b q y = 0), res_no h2]
      exact ⟨rfl, rfl⟩
  · rw [res_no h1, res_no (fun h => h1 (e2.symm.trans h) : ¬ wldE (resM M b q y) a p x = 0)]
    exact ⟨rfl, rfl⟩
theorem pp_eq (a b : Pp) : decide (a = b) = (decide (a.t.co = b.t.co ∧ a.t.li = b.t.li ∧ a.t.sq = b.t.sq) && decide (a.s.w = b.s.w ∧ a.s.l = b.s.l ∧ a.s.n = b.s.n) && decide (a.rs = b.rs) && decide (a.ws = b.ws)) := by
  obtain ⟨⟨p, q, r⟩, ⟨p1, q1, r1⟩, c, d⟩ := a
  obtain ⟨⟨p2, q2, r2⟩, ⟨p3, q3, r3⟩, c2, d2⟩ := b
  rw [Bool.eq_iff_iff]
  simp only [Pp.mk.injEq, Tn.mk.injEq, Stp.mk.injEq, decide_eq_true_eq, Bool.and_eq_true]
  exact ⟨fun ⟨h1, h2, h3, h4⟩ => ⟨⟨⟨h1, h2⟩, h3⟩, h4⟩, fun ⟨⟨⟨h1, h2⟩, h3⟩, h4⟩ => ⟨h1, h2, h3, h4⟩⟩
theorem maps_len {α β : Type} {f : α → β} {l m : List α} (h : l.length ≠ m.length) : l.map f ≠ m.map f := fun e => h (by simpa using congrArg List.length e)
theorem maps_ne {α β : Type} {f : α → β} {l m : List α} {k : Nat} {o o2 : α} (h1 : l[k]? = some o) (h2 : m[k]? = some o2) (h : f o ≠ f o2) : l.map f ≠ m.map f := fun e => by
  have h3 := congrArg (fun q => q[k]?) e
  simp only [List.getElem?_map, h1, h2, Option.map_some, Option.some.injEq] at h3
  exact h h3
theorem maps_eq {α β : Type} {f : α → β} {l m : List α} {k : Nat} (hl : l.length ≤ k) (hm : m.length ≤ k) (hlm : l.length = m.length) (h : ∀ (t : Nat) x y, t < k → l[t]? = some x → m[t]? = some y → f x = f y) : l.map f = m.map f := by
  refine List.ext_getElem? fun t => ?_
  rw [List.getElem?_map, List.getElem?_map]
  rcases Nat.lt_or_ge t l.length with h1 | h1
  · rw [List.getElem?_eq_getElem h1, List.getElem?_eq_getElem (by omega)]
    exact congrArg some (h t _ _ (by omega) (List.getElem?_eq_getElem h1) (List.getElem?_eq_getElem (by omega)))
  · rw [List.getElem?_eq_none h1, List.getElem?_eq_none (by omega)]
theorem vr_eq (a b : Vr) : decide (a = b) = (decide (a.s.w = b.s.w ∧ a.s.l = b.s.l ∧ a.s.n = b.s.n) && decide (a.v = b.v)) := by
  obtain ⟨⟨p, q, r⟩, c⟩ := a
  obtain ⟨⟨p2, q2, r2⟩, c2⟩ := b
  rw [Bool.eq_iff_iff]
  simp only [Vr.mk.injEq, Stp.mk.injEq, decide_eq_true_eq, Bool.and_eq_true]

end Go.Proofs.YtpnfpndhdnmhkaaGreat
