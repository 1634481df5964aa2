/- What is there just below an entry, plainly. -/
import Derived.Test.YtpggijfpkgglmaaA10
set_option linter.unusedSimpArgs false
set_option linter.unusedVariables false
namespace Go.Proofs.Ytpggijfpkgglmaa
open Sx

/-! what is there just below an entry, at the keys that it writes -/
def seenF (es : List Ep) (e : Ep) : List Sn := e.ws.map fun x => ⟨x.key, gtv (makesF es e.s true) x.key, sz0⟩
def dsF (es : List Ep) : List Dp := es.map fun e => (e, seenF es e)
theorem gtv_may {R : List Wt} (h : GoodR R) (k : Key) : mayV (gtv R k) = true := by
  unfold gtv
  cases h1 : gtK slit Wt.key R k with
  | none => rfl
  | some x => exact (h.may x (sO.get_some h1).1).2
theorem gtv_mk (es : List Ep) (s : Stp) (k : Key) : gtv (makesF es s true) k = gtv (rawF es s true) k := by
  rw [← fil_raw, gtv_fil (goodR_raw _ _ _)]
theorem seen_ok (es : List Ep) (e : Ep) : badD es (e, seenF es e) = false := by
  unfold badD seenF
  rw [List.any_eq_false]
  intro x hx
  obtain ⟨y, hy, rfl⟩ := List.mem_map.1 hx
  dsimp only
  rw [gtv_mk, sameV_self (gtv_may (goodR_raw _ _ _) _)]
  decide
theorem ds_fst (es : List Ep) : (dsF es).map Prod.fst = es := by
  unfold dsF
  rw [List.map_map]
  exact List.map_id es
theorem ds_get {es : List Ep} {t : Nat} {q : Dp} (h : (dsF es)[t]? = some q) : ∃ e, es[t]? = some e ∧ q = (e, seenF es e) := by
  unfold dsF at h
  rw [List.getElem?_map] at h
  cases h1 : es[t]? with
  | none => rw [h1] at h; cases h
  | some e => rw [h1] at h; cases h; exact ⟨e, rfl, rfl⟩
theorem rd_true {es : List Ep} (h : (ordE es).2 = 0) : rdF (dsF es) = (-1, 0) :=
  rd_no (by rw [ds_fst]; exact h) fun t q hq => by
    obtain ⟨e, -, rfl⟩ := ds_get hq
    rw [ds_fst]
    exact seen_ok es e
theorem rd_wrong {es : List Ep} {j : Nat} {e : Ep} {sn : List Sn} (h : (ordE es).2 = 0) (hj : es[j]? = some e) (hs : ∃ x ∈ sn, sameV x.v (gtv (rawF es e.s true) x.key) = false) : rdF ((dsF es).set j (e, sn)) = ((j : Int), 19) := by
  have hlt := (List.getElem?_eq_some_iff.1 hj).1
  have hf : ((dsF es).set j (e, sn)).map Prod.fst = es := by
    rw [List.map_set, ds_fst]
    obtain ⟨h1, rfl⟩ := List.getElem?_eq_some_iff.1 hj
    exact List.set_getElem_self h1
  have hl : (dsF es).length = es.length := by unfold dsF; rw [List.length_map]
  obtain ⟨x, hx, hb⟩ := hs
  refine rd_at (d := (e, sn)) (by rw [hf]; exact h) (by rw [List.getElem?_set_self (by omega)]) ?_ fun t q ht hq => ?_
  · rw [hf]
    exact List.any_eq_true.2 ⟨x, hx, by dsimp only; rw [hb]; rfl⟩
  · rw [List.getElem?_set_ne (by omega)] at hq
    obtain ⟨e2, -, rfl⟩ := ds_get hq
    rw [hf]
    exact seen_ok es e2
theorem seen_take {es : List Ep} {e : En} {k : Nat} {y : Wt} (h : e.ws[k]? = some y) : (seenF es e.p).take (k + 1) = (seenF es e.p).take k ++ [⟨y.key, gtv (makesF es e.s true) y.key, sz0⟩] := by
  refine take_app ?_
  unfold seenF
  show (e.ws.map _)[k]? = _
  rw [List.getElem?_map, h]
  rfl
theorem seen_len (es : List Ep) (e : Ep) : (seenF es e).length = e.ws.length := by unfold seenF; rw [List.length_map]
/-- the deeds' entries and what they saw -/
def Dn.q (x : Dn) : En × List Sn := (x.e, x.sn)
theorem q_entries {L : List Dn} {l : List En} {es : List Ep} (h : L.map Dn.q = l.map fun x => (x, seenF es x.p)) : L.map Dn.e = l := by
  have h1 := congrArg (List.map Prod.fst) h
  rw [List.map_map, List.map_map] at h1
  rw [show Prod.fst ∘ Dn.q = Dn.e from rfl, show (Prod.fst ∘ fun x : En => (x, seenF es x.p)) = id from rfl, List.map_id] at h1
  exact h1
theorem q_deeds {L : List Dn} {l : List En} (h : L.map Dn.q = l.map fun x => (x, seenF (l.map En.p) x.p)) : L.map Dn.p = dsF (l.map En.p) := by
  have h1 := congrArg (List.map fun z : En × List Sn => (z.1.p, z.2)) h
  rw [List.map_map, List.map_map] at h1
  unfold dsF
  rw [List.map_map]
  exact h1
theorem q_mem {L : List Dn} {l : List En} {es : List Ep} (h : L.map Dn.q = l.map fun x => (x, seenF es x.p)) : ∀ x ∈ L, x.e ∈ l ∧ x.sn = seenF es x.e.p := fun x hx => by
  have h1 : x.q ∈ l.map fun x => (x, seenF es x.p) := by rw [← h]; exact List.mem_map_of_mem hx
  obtain ⟨y, hy, he⟩ := List.mem_map.1 h1
  have e1 : y = x.e := congrArg Prod.fst he
  have e2 : seenF es y.p = x.sn := congrArg Prod.snd he
  subst e1
  exact ⟨hy, e2.symm⟩
theorem q_at {L : List Dn} {l : List En} {es : List Ep} (h : L.map Dn.q = l.map fun x => (x, seenF es x.p)) {i : Nat} {x : Dn} (hx : L[i]? = some x) : l[i]? = some x.e := by
  rw [← q_entries h, List.getElem?_map, hx]
  rfl
theorem seen_v {es : List Ep} {e : Ep} {y : Sn} (h : y ∈ seenF es e) : y.v = gtv (makesF es e.s true) y.key ∧ ∃ u ∈ e.ws, y.key = u.key := by
  obtain ⟨u, hu, rfl⟩ := List.mem_map.1 h
  exact ⟨rfl, u, hu, rfl⟩

end Go.Proofs.Ytpggijfpkgglmaa
