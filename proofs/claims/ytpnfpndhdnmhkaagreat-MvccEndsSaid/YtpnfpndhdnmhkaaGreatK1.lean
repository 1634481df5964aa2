/- Versions, histories, pending transactions, plainly. -/
import Derived.Test.YtpnfpndhdnmhkaaGreatC0
set_option linter.unusedSimpArgs false
set_option linter.unusedVariables false
namespace Go.Proofs.YtpnfpndhdnmhkaaGreat
open Sx

/-! versions, histories, what is pending, what was seen -/
structure Vr where
  s : Stp
  v : Vl
  deriving DecidableEq
def Vr.cells (x : Vr) : List Value := [.int .i64 x.s.w, .int .i64 x.s.l, .int .i64 x.s.n, .int .i64 x.v.k, .float .f64 x.v.num, .string ⟨x.v.tx.toArray⟩]
theorem Vr.len (x : Vr) : x.cells.length = 6 := rfl
theorem Vr.one (x : Vr) : ∀ u ∈ x.cells, u.oneCell' = true := by
  intro u hu
  simp only [Vr.cells, List.mem_cons, List.not_mem_nil, or_false] at hu
  rcases hu with rfl | rfl | rfl | rfl | rfl | rfl <;> rfl
def rz0 : Vr := ⟨sz0, vz⟩
/-- a key with its versions -/
structure Hy where
  key : Key
  vs : List Vr
  deriving DecidableEq
/-- the same, and where they lie -/
structure Hs where
  key : Key
  vs : List Vr
  ad : Option Addr
  c : Nat
def Hs.p (x : Hs) : Hy := ⟨x.key, x.vs⟩
def Hs.val (x : Hs) : Value := .slice x.ad x.vs.length x.c
def Hs.rw (x : Hs) : Rw := ⟨x.ad, x.vs.length, x.c, x.vs.flatMap Vr.cells⟩
def Hs.cells (x : Hs) : List Value := [.string ⟨x.key.toArray⟩, .slice x.ad x.vs.length x.c]
theorem Hs.len (x : Hs) : x.cells.length = 2 := rfl
theorem Hs.one (x : Hs) : ∀ u ∈ x.cells, u.oneCell' = true := by
  intro u hu
  simp only [Hs.cells, List.mem_cons, List.not_mem_nil, or_false] at hu
  rcases hu with rfl | rfl <;> rfl
def hz0 : Hs := ⟨[], [], none, 0⟩
/-- what is pending -/
structure Pp where
  t : Tn
  s : Stp
  rs : List Key
  ws : List Wt
  deriving DecidableEq
structure Pn where
  t : Tn
  s : Stp
  rs : List Key
  ra : Option Addr
  rc : Nat
  ws : List Wt
  wa : Option Addr
  wc : Nat
def Pn.p (x : Pn) : Pp := ⟨x.t, x.s, x.rs, x.ws⟩
def Pn.cells (x : Pn) : List Value := [.int .i64 x.t.co, .int .i64 x.t.li, .int .i64 x.t.sq, .int .i64 x.s.w, .int .i64 x.s.l, .int .i64 x.s.n, .slice x.ra x.rs.length x.rc, .slice x.wa x.ws.length x.wc]
def Pn.val (x : Pn) : Value := .agg x.cells.toArray
theorem Pn.len (x : Pn) : x.cells.length = 8 := rfl
theorem Pn.one (x : Pn) : ∀ u ∈ x.cells, u.oneCell' = true := by
  intro u hu
  simp only [Pn.cells, List.mem_cons, List.not_mem_nil, or_false] at hu
  rcases hu with rfl | rfl | rfl | rfl | rfl | rfl | rfl | rfl <;> rfl
def Pn.rr (x : Pn) : Rw := ⟨x.ra, x.rs.length, x.rc, x.rs.flatMap kc⟩
def Pn.rw (x : Pn) : Rw := ⟨x.wa, x.ws.length, x.wc, x.ws.flatMap Wt.cells⟩
/-- what was seen of a key -/
structure Sn where
  key : Key
  v : Vl
  s : Stp
  deriving DecidableEq
def Sn.cells (x : Sn) : List Value := [.string ⟨x.key.toArray⟩, .int .i64 x.v.k, .float .f64 x.v.num, .string ⟨x.v.tx.toArray⟩, .int .i64 x.s.w, .int .i64 x.s.l, .int .i64 x.s.n]
theorem Sn.len (x : Sn) : x.cells.length = 7 := rfl
theorem Sn.one (x : Sn) : ∀ u ∈ x.cells, u.oneCell' = true := by
  intro u hu
  simp only [Sn.cells, List.mem_cons, List.not_mem_nil, or_false] at hu
  rcases hu with rfl | rfl | rfl | rfl | rfl | rfl | rfl <;> rfl
def nz0 : Sn := ⟨[], vz, sz0⟩
def laterS (a b : Stp) : Stp := if ltS a b then b else a
/-! tables told otherwise -/
section
variable {K : Type} [DecidableEq K] {lit : K → Lit} {lt : K → K → Prop} {α β : Type} {κ : α → K} {κ' : β → K} {f : α → β}
omit [DecidableEq K] in
theorem get_map (h : ∀ x, κ' (f x) = κ x) (L : List α) (i : K) : gtK lit κ' (L.map f) i = (gtK lit κ L i).map f := by
  unfold gtK getT
  induction L with
  | nil => rfl
  | cons y L ih =>
    rw [List.map_cons, List.find?_cons, List.find?_cons]
    dsimp only
    rw [h]
    cases (lit (κ y)).sameKey (lit i)
    · exact ih
    · rfl
theorem del_map (h : ∀ x, κ' (f x) = κ x) (L : List α) (i : K) : (dlK κ i L).map f = dlK κ' i (L.map f) := by
  unfold dlK
  rw [List.filter_map]
  congr 1
  apply List.filter_congr
  intro x _
  simp [h]
omit [DecidableEq K] in
theorem ins_map (h : ∀ x, κ' (f x) = κ x) (x : α) : ∀ L : List α, (insT (fun x => lit (κ x)) x L).map f = insT (fun x => lit (κ' x)) (f x) (L.map f)
  | [] => rfl
  | y :: r => by
    rw [List.map_cons]
    unfold insT
    rw [h, h]
    split
    · rw [List.map_cons, List.map_cons]
    · rw [List.map_cons, ins_map h x r]
theorem put_map (O : KO lit lt) (h : ∀ x, κ' (f x) = κ x) (x : α) (L : List α) : (ptK lit κ x L).map f = ptK lit κ' (f x) (L.map f) := by
  unfold ptK putT
  rw [O.del, O.del, ins_map h, del_map h, h]
omit [DecidableEq K] in
theorem srt_map (h : ∀ x, κ' (f x) = κ x) {L : List α} : SrtK lt κ' (L.map f) ↔ SrtK lt κ L := by
  unfold SrtK
  rw [List.pairwise_map]
  simp only [h]
end
/-! a transaction's number as a key -/
def tb (t : Tn) : Key := keyBytes [.int .i64 t.co, .int .i64 t.li, .int .i64 t.sq]
/-! the store, plainly -/
structure Ms where
  H : List Hy
  P : List Pp
  low : Stp
def kbp (x : Pp) : Key := tb x.t
def kbn (x : Pn) : Key := tb x.t
def newV (vs : List Vr) (at_ : Stp) (all : Bool) : Vr := vs.foldl (fun o x => if (all || decide (cmpS x.s at_ ≤ 0)) = true then x else o) rz0
def vsOf (H : List Hy) (k : Key) : List Vr := ((gtK slit Hy.key H k).map Hy.vs).getD []
def newF (H : List Hy) (k : Key) (at_ : Stp) (all : Bool) : Sn := ⟨k, (newV (vsOf H k) at_ all).v, (newV (vsOf H k) at_ all).s⟩
def wrts (ws : List Wt) (k : Key) : Bool := ws.any fun w => decide (w.key = k)
def rds (rs : List Key) (k : Key) : Bool := decide (k ∈ rs)
def clashF (x p : Pp) : Bool := (x.ws.any fun w => wrts p.ws w.key || rds p.rs w.key) || x.rs.any fun k => wrts p.ws k
def lockF (P : List Pp) (x : Pp) : Bool := P.any fun p => clashF x p
def oldF (H : List Hy) (x : Pp) : Bool := x.ws.any fun w => decide (0 ≤ cmpS (newF H w.key sz0 true).s x.s)
def readE (M : Ms) (k : Key) (at_ : Stp) : Int :=
  if keyB k = false then 10 else if mayS at_ = false then 17 else if (M.P.any fun p => wrts p.ws k && decide (cmpS p.s at_ ≤ 0)) = true then 18 else 0
def readS (M : Ms) (k : Key) (at_ : Stp) : Sn := if readE M k at_ = 0 then newF M.H k at_ false else nz0
def readM (M : Ms) (k : Key) (at_ : Stp) : Ms := if readE M k at_ = 0 then { M with low := laterS M.low at_ } else M
def findF (P : List Pp) (t : Tn) : Option Pp := gtK slit kbp P (tb t)
def prepE (M : Ms) (p : Pp) (seen : List Sn) : Int :=
  if pmay p.t p.s p.rs p.ws ≠ 0 then pmay p.t p.s p.rs p.ws
  else if p.rs ≠ seen.map Sn.key then 4
  else if (findF M.P p.t).isSome = true then 9
  else if cmpS p.s M.low ≤ 0 then 20
  else if lockF M.P p = true then 18
  else if (seen.any fun x => decide ((newF M.H x.key sz0 true).s ≠ x.s)) = true then 19
  else if oldF M.H p = true then 20 else 0
def prepM (M : Ms) (p : Pp) (seen : List Sn) : Ms := if prepE M p seen = 0 then { M with P := ptK slit kbp p M.P } else M
def hasV (vs : List Vr) (at_ : Stp) : Bool := vs.any fun v => decide (v.s = at_)
def wldE (M : Ms) (t : Tn) (commit : Bool) (at_ : Stp) : Int := match findF M.P t with
  | none => 8
  | some p => if commit = false then 0 else if mayS at_ = false then 17 else if cmpS at_ p.s < 0 then 20 else if (p.ws.any fun w => hasV (vsOf M.H w.key) at_) = true then 9 else 0
/-- how many of the last ones stand behind a stamp -/
def tailV (at_ : Stp) (vs : List Vr) : Nat := (vs.reverse.takeWhile fun x => decide (0 < cmpS x.s at_)).length
def insV (x : Vr) (vs : List Vr) : List Vr := vs.take (vs.length - tailV x.s vs) ++ x :: vs.drop (vs.length - tailV x.s vs)
def putH (H : List Hy) (k : Key) (x : Vr) : List Hy := ptK slit Hy.key ⟨k, insV x (vsOf H k)⟩ H
def comH (H : List Hy) (ws : List Wt) (at_ : Stp) : List Hy := ws.foldl (fun H w => putH H w.key ⟨at_, w.v⟩) H
def resM (M : Ms) (t : Tn) (commit : Bool) (at_ : Stp) : Ms :=
  if wldE M t commit at_ = 0 then { M with H := (if commit then comH M.H (((findF M.P t).map Pp.ws).getD []) at_ else M.H), P := dlK kbp (tb t) M.P } else M
def atF (H : List Hy) (at_ : Stp) : List Wt := H.filterMap fun h => if (newV h.vs at_ false).v.k = 0 then none else some ⟨h.key, (newV h.vs at_ false).v⟩
def Ms.z : Ms := ⟨[], [], sz0⟩
theorem newV_snoc (vs : List Vr) (o : Vr) (at_ : Stp) (all : Bool) : newV (vs ++ [o]) at_ all = if (all || decide (cmpS o.s at_ ≤ 0)) = true then o else newV vs at_ all := by
  unfold newV; rw [List.foldl_append]; rfl
theorem vsOf_map (H : List Hs) (k : Key) : vsOf (H.map Hs.p) k = ((gtK slit Hs.key H k).getD hz0).vs := by
  unfold vsOf
  rw [get_map (κ := Hs.key) (κ' := Hy.key) (f := Hs.p) (fun _ => rfl)]
  cases gtK slit Hs.key H k <;> rfl
theorem any_at {α : Type} {l : List α} {p : α → Bool} {k : Nat} {o : α} (h : l[k]? = some o) (hp : p o = true) : l.any p = true := List.any_eq_true.2 ⟨o, List.mem_of_getElem? h, hp⟩
theorem any_none {α : Type} {l : List α} {p : α → Bool} (h : ∀ (t : Nat) q, t < l.length → l[t]? = some q → p q = false) : l.any p = false := by
  rw [List.any_eq_false]
  intro x hx
  obtain ⟨t, ht⟩ := List.mem_iff_getElem?.1 hx
  rw [h t x (List.getElem?_eq_some_iff.1 ht).1 ht]
  decide
theorem upto_snoc {α : Type} {l : List α} {p : α → Bool} {k : Nat} {o : α} (h : ∀ (t : Nat) q, t < k → l[t]? = some q → p q = false) (ho : l[k]? = some o) (hp : p o = false) : ∀ (t : Nat) q, t < k + 1 → l[t]? = some q → p q = false := fun t q h3 h4 => by
  rcases Nat.lt_or_ge t k with h5 | h5
  · exact h t q h5 h4
  · obtain rfl : t = k := by omega
    rw [ho] at h4; cases h4; exact hp

theorem ins_len (x : Vr) (vs : List Vr) : (insV x vs).length = vs.length + 1 := by
  unfold insV
  rw [List.length_append, List.length_cons, List.length_take, List.length_drop]
  omega
theorem takeWhile_eq {α : Type} {p : α → Bool} : ∀ {l : List α} {n : Nat}, (∀ (t : Nat) q, t < n → l[t]? = some q → p q = true) → n ≤ l.length → (∀ q, l[n]? = some q → p q = false) → (l.takeWhile p).length = n
  | [], n, _, h, _ => by simp at h; subst h; rfl
  | x :: l, 0, _, _, h3 => by rw [List.takeWhile_cons, h3 x rfl]; rfl
  | x :: l, n + 1, h1, h2, h3 => by
    rw [List.takeWhile_cons, h1 0 x (Nat.succ_pos _) rfl]
    simp only [if_true, List.length_cons]
    rw [takeWhile_eq (n := n) (fun t q ht hq => h1 (t + 1) q (by omega) (by simpa using hq)) (by simpa using h2) (fun q hq => h3 q (by simpa using hq))]
/-- where a version takes its place -/
theorem tail_eq {vs : List Vr} {at_ : Stp} {i : Nat} (hi : i ≤ vs.length) (h : ∀ (t : Nat) q, i ≤ t → vs[t]? = some q → 0 < cmpS q.s at_) (h2 : i = 0 ∨ ∃ q, vs[i - 1]? = some q ∧ ¬ 0 < cmpS q.s at_) : vs.length - tailV at_ vs = i := by
  have h3 : tailV at_ vs = vs.length - i := by
    unfold tailV
    refine takeWhile_eq (fun t q ht hq => ?_) (by rw [List.length_reverse]; omega) (fun q hq => ?_)
    · rw [List.getElem?_reverse (by omega)] at hq
      exact decide_eq_true (h _ q (by omega) hq)
    · have hlt := (List.getElem?_eq_some_iff.1 hq).1
      rw [List.length_reverse] at hlt
      rw [List.getElem?_reverse (by omega)] at hq
      rcases h2 with h2 | ⟨q2, h4, h5⟩
      · omega
      · rw [show vs.length - 1 - (vs.length - i) = i - 1 from by omega, h4] at hq
        cases hq
        exact decide_eq_false h5
  omega
theorem wld_none {M : Ms} {t : Tn} {commit : Bool} {at_ : Stp} (h : findF M.P t = none) : wldE M t commit at_ = 8 := by unfold wldE; rw [h]
theorem ins_at {vs : List Vr} {x : Vr} {i : Nat} (h : vs.length - tailV x.s vs = i) : vs.take i ++ x :: vs.drop i = insV x vs := by unfold insV; rw [h]
theorem sn_eq (a b : Sn) : decide (a = b) = (decide (a.key = b.key) && decide (a.s.w = b.s.w ∧ a.s.l = b.s.l ∧ a.s.n = b.s.n) && decide (a.v = b.v)) := by
  obtain ⟨a, c, ⟨p, q, r⟩⟩ := a
  obtain ⟨a2, c2, ⟨p2, q2, r2⟩⟩ := b
  rw [Bool.eq_iff_iff]
  simp only [Sn.mk.injEq, Stp.mk.injEq, decide_eq_true_eq, Bool.and_eq_true]
  exact ⟨fun ⟨h1, h2, h3⟩ => ⟨⟨h1, h3⟩, h2⟩, fun ⟨⟨h1, h3⟩, h2⟩ => ⟨h1, h2, h3⟩⟩

end Go.Proofs.YtpnfpndhdnmhkaaGreat
