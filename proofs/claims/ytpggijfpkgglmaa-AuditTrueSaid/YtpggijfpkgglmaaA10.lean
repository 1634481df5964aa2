/- What was seen, and deeds, plainly. -/
import Derived.Test.YtpggijfpkgglmaaA7
set_option linter.unusedSimpArgs false
set_option linter.unusedVariables false
namespace Go.Proofs.Ytpggijfpkgglmaa
open Sx

/-! what was seen; deeds -/
structure Sn where
  key : Key
  v : Vl
  s : Stp
  deriving DecidableEq
def Sn.cells (x : Sn) : List Value := [.string ⟨x.key.toArray⟩, .int .i64 x.v.k, .float .f64 x.v.num, .string ⟨x.v.tx.toArray⟩, .int .i64 x.s.w, .int .i64 x.s.l, .int .i64 x.s.n]
theorem Sn.len (x : Sn) : x.cells.length = 7 := rfl
theorem Sn.one (x : Sn) : ∀ u ∈ x.cells, u.oneCell' = true := by
  intro u hu
  simp only [Sn.cells, List.mem_cons, List.not_mem_nil, or_false] at hu
  rcases hu with rfl | rfl | rfl | rfl | rfl | rfl | rfl <;> rfl
def Sn.wf (x : Sn) : Prop := x.key.length ≤ 140737488351232 ∧ x.v.wf
structure Dn where
  t : Tn
  s : Stp
  ad : Option Addr
  c : Nat
  ws : List Wt
  sa : Option Addr
  sc : Nat
  sn : List Sn
def Dn.e (x : Dn) : En := ⟨x.t, x.s, x.ad, x.c, x.ws⟩
def Dn.cells (x : Dn) : List Value := [.int .i64 x.t.co, .int .i64 x.t.li, .int .i64 x.t.sq, .int .i64 x.s.w, .int .i64 x.s.l, .int .i64 x.s.n, .slice x.ad x.ws.length x.c, .slice x.sa x.sn.length x.sc]
theorem Dn.len (x : Dn) : x.cells.length = 8 := rfl
theorem Dn.one (x : Dn) : ∀ u ∈ x.cells, u.oneCell' = true := by
  intro u hu
  simp only [Dn.cells, List.mem_cons, List.not_mem_nil, or_false] at hu
  rcases hu with rfl | rfl | rfl | rfl | rfl | rfl | rfl | rfl <;> rfl
def Dn.rw (x : Dn) : Rw := ⟨x.sa, x.sn.length, x.sc, x.sn.flatMap Sn.cells⟩
abbrev Dp := Ep × List Sn
def Dn.p (x : Dn) : Dp := (x.e.p, x.sn)
theorem ents_map (l : List Dn) : (l.map Dn.e).map En.p = (l.map Dn.p).map Prod.fst := by
  rw [List.map_map, List.map_map]; rfl
/-- it saw what was not so -/
def badD (es : List Ep) (d : Dp) : Bool := d.2.any fun x => !sameV x.v (gtv (rawF es d.1.s true) x.key)
def rdF (ds : List Dp) : Int × Int :=
  if (ordE (ds.map Prod.fst)).2 ≠ 0 then ordE (ds.map Prod.fst)
  else match (List.range ds.length).find? (fun i => match ds[i]? with | none => false | some d => badD (ds.map Prod.fst) d) with
  | none => (-1, 0)
  | some i => ((i : Int), 19)
theorem rd_fault {ds : List Dp} (h : (ordE (ds.map Prod.fst)).2 ≠ 0) : rdF ds = ordE (ds.map Prod.fst) := by unfold rdF; exact if_pos h
theorem rd_at {ds : List Dp} {i : Nat} {d : Dp} (h : (ordE (ds.map Prod.fst)).2 = 0) (hd : ds[i]? = some d) (hb : badD (ds.map Prod.fst) d = true) (hlt : ∀ (t : Nat) q, t < i → ds[t]? = some q → badD (ds.map Prod.fst) q = false) : rdF ds = ((i : Int), 19) := by
  have hf : (List.range ds.length).find? (fun i => match ds[i]? with | none => false | some d => badD (ds.map Prod.fst) d) = some i := by
    rw [List.find?_range_eq_some]
    refine ⟨by rw [hd]; exact hb, List.mem_range.2 (List.getElem?_eq_some_iff.1 hd).1, fun j hj => ?_⟩
    cases h9 : ds[j]? with
    | none => rfl
    | some q => dsimp only; rw [hlt j q hj h9]; rfl
  unfold rdF
  rw [if_neg (fun h9 => h9 h), hf]
theorem rd_no {ds : List Dp} (h : (ordE (ds.map Prod.fst)).2 = 0) (hlt : ∀ (t : Nat) q, ds[t]? = some q → badD (ds.map Prod.fst) q = false) : rdF ds = (-1, 0) := by
  have hf : (List.range ds.length).find? (fun i => match ds[i]? with | none => false | some d => badD (ds.map Prod.fst) d) = none := by
    rw [List.find?_eq_none]
    intro i hi
    cases h9 : ds[i]? with
    | none => simp
    | some q => simp [hlt i q h9]
  unfold rdF
  rw [if_neg (fun h9 => h9 h), hf]
theorem tk_h {l : List Dn} {k : Nat} {o : Dn} (h : l[k]? = some o) : ((l.take k).map Dn.e).flatMap En.cells ++ [.int .i64 o.t.co, .int .i64 o.t.li, .int .i64 o.t.sq, .int .i64 o.s.w, .int .i64 o.s.l, .int .i64 o.s.n, .slice o.ad o.ws.length o.c] = ((l.take (k + 1)).map Dn.e).flatMap En.cells := by
  rw [take_app h, List.map_append, List.flatMap_append]; simp [Dn.e, En.cells]
theorem tk_d {l : List Dn} {k : Nat} {o : Dn} (h : l[k]? = some o) : (l.take k).flatMap Dn.cells ++ [.int .i64 o.t.co, .int .i64 o.t.li, .int .i64 o.t.sq, .int .i64 o.s.w, .int .i64 o.s.l, .int .i64 o.s.n, .slice o.ad o.ws.length o.c, .slice o.sa o.sn.length o.sc] = (l.take (k + 1)).flatMap Dn.cells := by
  rw [take_app h, List.flatMap_append]; simp [Dn.cells]
theorem tk_s7 {l : List Sn} {k : Nat} {o : Sn} (h : l[k]? = some o) : (l.take k).flatMap Sn.cells ++ o.cells = (l.take (k + 1)).flatMap Sn.cells := by
  rw [take_app h, List.flatMap_append]; simp
theorem get_e {l : List Dn} {k : Nat} {o : Dn} (h : l[k]? = some o) : (l.map Dn.p)[k]? = some o.p := by rw [List.getElem?_map, h]; rfl
/-- a key's value among pairs -/
theorem gtK_at {k : Key} : ∀ {L : List Wt} {i : Nat} {o : Wt}, (∀ (t : Nat) q, t < i → L[t]? = some q → q.key ≠ k) → L[i]? = some o → o.key = k → gtK slit Wt.key L k = some o
  | [], i, o, _, h, _ => by simp at h
  | y :: L, 0, o, _, h, he => by
    simp at h
    subst h
    rw [sO.get_cons, if_pos he]
  | y :: L, i + 1, o, hl, h, he => by
    rw [sO.get_cons, if_neg (hl 0 y (Nat.succ_pos _) rfl)]
    exact gtK_at (i := i) (fun t q ht hq => hl (t + 1) q (by omega) (by simpa using hq)) (by simpa using h) he
theorem gtv_at {k : Key} {L : List Wt} {i : Nat} {o : Wt} (hl : ∀ (t : Nat) q, t < i → L[t]? = some q → q.key ≠ k) (h : L[i]? = some o) (he : o.key = k) : gtv L k = o.v := by
  unfold gtv
  rw [gtK_at hl h he]
  rfl
theorem gtv_none {k : Key} {L : List Wt} (hl : ∀ (t : Nat) q, L[t]? = some q → q.key ≠ k) : gtv L k = vz := by
  unfold gtv
  rw [sO.get_of_none fun y hy => by obtain ⟨t, ht⟩ := List.mem_iff_getElem?.1 hy; exact hl t y ht]
  rfl
theorem tnI (a b : Tn) : a = b ↔ a.co = b.co ∧ a.li = b.li ∧ a.sq = b.sq := by
  obtain ⟨a1, a2, a3⟩ := a
  obtain ⟨c1, c2, c3⟩ := b
  simp only [Tn.mk.injEq]
theorem stI (a b : Stp) : a = b ↔ a.w = b.w ∧ a.l = b.l ∧ a.n = b.n := by
  obtain ⟨a1, a2, a3⟩ := a
  obtain ⟨c1, c2, c3⟩ := b
  simp only [Stp.mk.injEq]
theorem epI (a b : En) : a.p = b.p ↔ a.t = b.t ∧ a.s = b.s ∧ a.ws = b.ws := by
  unfold En.p
  simp only [Ep.mk.injEq]

end Go.Proofs.Ytpggijfpkgglmaa
