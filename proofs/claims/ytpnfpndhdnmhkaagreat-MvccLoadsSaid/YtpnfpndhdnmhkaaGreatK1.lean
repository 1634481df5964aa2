/- Versions, histories, pending transactions, plainly. -/
import Derived.Test.YtpnfpndhdnmhkaaGreatC0
set_option linter.unusedSimpArgs false
set_option linter.unusedVariables false
namespace Go.Proofs.YtpnfpndhdnmhkaaGreat
open Sx
/-! versions, histories, what is pending, what was seen -/
structure Vr where
  s : Stp
  v : Vl
  deriving DecidableEq
def Vr.cells (x : Vr) : List Value := [.int .i64 x.s.w, .int .i64 x.s.l, .int .i64 x.s.n, .int .i64 x.v.k, .float .f64 x.v.num, .string ⟨x.v.tx.toArray⟩]
theorem Vr.len (x : Vr) : x.cells.length = 6 := rfl
theorem Vr.one (x : Vr) : ∀ u ∈ x.cells, u.oneCell' = true := by
  intro u hu
  simp only [Vr.cells, List.mem_cons, List.not_mem_nil, or_false] at hu
  rcases hu with rfl | rfl | rfl | rfl | rfl | rfl <;> rfl
def rz0 : Vr := ⟨sz0, vz⟩
structure Hy where
  key : Key
  vs : List Vr
  deriving DecidableEq
structure Hs where
  key : Key
  vs : List Vr
  ad : Option Addr
  c : Nat
def Hs.p (x : Hs) : Hy := ⟨x.key, x.vs⟩
def Hs.val (x : Hs) : Value := .slice x.ad x.vs.length x.c
def Hs.rw (x : Hs) : Rw := ⟨x.ad, x.vs.length, x.c, x.vs.flatMap Vr.cells⟩
def Hs.cells (x : Hs) : List Value := [.string ⟨x.key.toArray⟩, .slice x.ad x.vs.length x.c]
theorem Hs.len (x : Hs) : x.cells.length = 2 := rfl
theorem Hs.one (x : Hs) : ∀ u ∈ x.cells, u.oneCell' = true := by
  intro u hu
  simp only [Hs.cells, List.mem_cons, List.not_mem_nil, or_false] at hu
  rcases hu with rfl | rfl <;> rfl
def hz0 : Hs := ⟨[], [], none, 0⟩
structure Pp where
  t : Tn
  s : Stp
  rs : List Key
  ws : List Wt
  deriving DecidableEq
structure Pn where
  t : Tn
  s : Stp
  rs : List Key
  ra : Option Addr
  rc : Nat
  ws : List Wt
  wa : Option Addr
  wc : Nat
def Pn.p (x : Pn) : Pp := ⟨x.t, x.s, x.rs, x.ws⟩
def Pn.cells (x : Pn) : List Value := [.int .i64 x.t.co, .int .i64 x.t.li, .int .i64 x.t.sq, .int .i64 x.s.w, .int .i64 x.s.l, .int .i64 x.s.n, .slice x.ra x.rs.length x.rc, .slice x.wa x.ws.length x.wc]
def Pn.val (x : Pn) : Value := .agg x.cells.toArray
theorem Pn.len (x : Pn) : x.cells.length = 8 := rfl
theorem Pn.one (x : Pn) : ∀ u ∈ x.cells, u.oneCell' = true := by
  intro u hu
  simp only [Pn.cells, List.mem_cons, List.not_mem_nil, or_false] at hu
  rcases hu with rfl | rfl | rfl | rfl | rfl | rfl | rfl | rfl <;> rfl
def Pn.rr (x : Pn) : Rw := ⟨x.ra, x.rs.length, x.rc, x.rs.flatMap kc⟩
def Pn.rw (x : Pn) : Rw := ⟨x.wa, x.ws.length, x.wc, x.ws.flatMap Wt.cells⟩
structure Sn where
  key : Key
  v : Vl
  s : Stp
  deriving DecidableEq
def Sn.cells (x : Sn) : List Value := [.string ⟨x.key.toArray⟩, .int .i64 x.v.k, .float .f64 x.v.num, .string ⟨x.v.tx.toArray⟩, .int .i64 x.s.w, .int .i64 x.s.l, .int .i64 x.s.n]
theorem Sn.len (x : Sn) : x.cells.length = 7 := rfl
theorem Sn.one (x : Sn) : ∀ u ∈ x.cells, u.oneCell' = true := by
  intro u hu
  simp only [Sn.cells, List.mem_cons, List.not_mem_nil, or_false] at hu
  rcases hu with rfl | rfl | rfl | rfl | rfl | rfl | rfl <;> rfl
def nz0 : Sn := ⟨[], vz, sz0⟩
def laterS (a b : Stp) : Stp := if ltS a b then b else a
/-! tables told otherwise -/
section
variable {K : Type} [DecidableEq K] {lit : K → Lit} {lt : K → K → Prop} {α β : Type} {κ : α → K} {κ' : β → K} {f : α → β}
omit [DecidableEq K] in
theorem get_map (h : ∀ x, κ' (f x) = κ x) (L : List α) (i : K) : gtK lit κ' (L.map f) i = (gtK lit κ L i).map f := by
  unfold gtK getT
  induction L with
  | nil => rfl
  | cons y L ih =>
    rw [List.map_cons, List.find?_cons, List.find?_cons]
    dsimp only
    rw [h]
    cases (lit (κ y)).sameKey (lit i)
    · exact ih
    · rfl
theorem del_map (h : ∀ x, κ' (f x) = κ x) (L : List α) (i : K) : (dlK κ i L).map f = dlK κ' i (L.map f) := by
  unfold dlK
  rw [List.filter_map]
  congr 1
  apply List.filter_congr
  intro x _
  simp [h]
omit [DecidableEq K] in
theorem ins_map (h : ∀ x, κ' (f x) = κ x) (x : α) : ∀ L : List α, (insT (fun x => lit (κ x)) x L).map f = insT (fun x => lit (κ' x)) (f x) (L.map f)
  | [] => rfl
  | y :: r => by
    rw [List.map_cons]
    unfold insT
    rw [h, h]
    split
    · rw [List.map_cons, List.map_cons]
    · rw [List.map_cons, ins_map h x r]
theorem put_map (O : KO lit lt) (h : ∀ x, κ' (f x) = κ x) (x : α) (L : List α) : (ptK lit κ x L).map f = ptK lit κ' (f x) (L.map f) := by
  unfold ptK putT
  rw [O.del, O.del, ins_map h, del_map h, h]
omit [DecidableEq K] in
theorem srt_map (h : ∀ x, κ' (f x) = κ x) {L : List α} : SrtK lt κ' (L.map f) ↔ SrtK lt κ L := by
  unfold SrtK
  rw [List.pairwise_map]
  simp only [h]
end
/-! a transaction's number as a key -/
def tb (t : Tn) : Key := keyBytes [.int .i64 t.co, .int .i64 t.li, .int .i64 t.sq]
/-! the store, plainly -/
structure Ms where
  H : List Hy
  P : List Pp
  low : Stp
def kbp (x : Pp) : Key := tb x.t
def kbn (x : Pn) : Key := tb x.t
def newV (vs : List Vr) (at_ : Stp) (all : Bool) : Vr := vs.foldl (fun o x => if (all || decide (cmpS x.s at_ ≤ 0)) = true then x else o) rz0
def vsOf (H : List Hy) (k : Key) : List Vr := ((gtK slit Hy.key H k).map Hy.vs).getD []
def newF (H : List Hy) (k : Key) (at_ : Stp) (all : Bool) : Sn := ⟨k, (newV (vsOf H k) at_ all).v, (newV (vsOf H k) at_ all).s⟩
def wrts (ws : List Wt) (k : Key) : Bool := ws.any fun w => decide (w.key = k)
def rds (rs : List Key) (k : Key) : Bool := decide (k ∈ rs)
def clashF (x p : Pp) : Bool := (x.ws.any fun w => wrts p.ws w.key || rds p.rs w.key) || x.rs.any fun k => wrts p.ws k
def lockF (P : List Pp) (x : Pp) : Bool := P.any fun p => clashF x p
def oldF (H : List Hy) (x : Pp) : Bool := x.ws.any fun w => decide (0 ≤ cmpS (newF H w.key sz0 true).s x.s)
def readE (M : Ms) (k : Key) (at_ : Stp) : Int :=
  if keyB k = false then 10 else if mayS at_ = false then 17 else if (M.P.any fun p => wrts p.ws k && decide (cmpS p.s at_ ≤ 0)) = true then 18 else 0
def readS (M : Ms) (k : Key) (at_ : Stp) : Sn := if readE M k at_ = 0 then newF M.H k at_ false else nz0
def readM (M : Ms) (k : Key) (at_ : Stp) : Ms := if readE M k at_ = 0 then { M with low := laterS M.low at_ } else M
def findF (P : List Pp) (t : Tn) : Option Pp := gtK slit kbp P (tb t)
def prepE (M : Ms) (p : Pp) (seen : List Sn) : Int :=
  if pmay p.t p.s p.rs p.ws ≠ 0 then pmay p.t p.s p.rs p.ws
  else if p.rs ≠ seen.map Sn.key then 4
  else if (findF M.P p.t).isSome = true then 9
  else if cmpS p.s M.low ≤ 0 then 20
  else if lockF M.P p = true then 18
  else if (seen.any fun x => decide ((newF M.H x.key sz0 true).s ≠ x.s)) = true then 19
  else if oldF M.H p = true then 20 else 0
def prepM (M : Ms) (p : Pp) (seen : List Sn) : Ms := if prepE M p seen = 0 then { M with P := ptK slit kbp p M.P } else M
def hasV (vs : List Vr) (at_ : Stp) : Bool := vs.any fun v => decide (v.s = at_)
def wldE (M : Ms) (t : Tn) (commit : Bool) (at_ : Stp) : Int := match findF M.P t with
  | none => 8
  | some p => if commit = false then 0 else if mayS at_ = false then 17 else if cmpS at_ p.s < 0 then 20 else if (p.ws.any fun w => hasV (vsOf M.H w.key) at_) = true then 9 else 0
def tailV (at_ : Stp) (vs : List Vr) : Nat := (vs.reverse.takeWhile fun x => decide (0 < cmpS x.s at_)).length
def insV (x : Vr) (vs : List Vr) : List Vr := vs.take (vs.length - tailV x.s vs) ++ x :: vs.drop (vs.length - tailV x.s vs)
def putH (H : List Hy) (k : Key) (x : Vr) : List Hy := ptK slit Hy.key ⟨k, insV x (vsOf H k)⟩ H
def comH (H : List Hy) (ws : List Wt) (at_ : Stp) : List Hy := ws.foldl (fun H w => putH H w.key ⟨at_, w.v⟩) H
def resM (M : Ms) (t : Tn) (commit : Bool) (at_ : Stp) : Ms :=
  if wldE M t commit at_ = 0 then { M with H := (if commit then comH M.H (((findF M.P t).map Pp.ws).getD []) at_ else M.H), P := dlK kbp (tb t) M.P } else M
def atF (H : List Hy) (at_ : Stp) : List Wt := H.filterMap fun h => if (newV h.vs at_ false).v.k = 0 then none else some ⟨h.key, (newV h.vs at_ false).v⟩
def Ms.z : Ms := ⟨[], [], sz0⟩
theorem newV_snoc (vs : List Vr) (o : Vr) (at_ : Stp) (all : Bool) : newV (vs ++ [o]) at_ all = if (all || decide (cmpS o.s at_ ≤ 0)) = true then o else newV vs at_ all := by
  unfold newV; rw [List.foldl_append]; rfl
theorem vsOf_map (H : List Hs) (k : Key) : vsOf (H.map Hs.p) k = ((gtK slit Hs.key H k).getD hz0).vs := by
  unfold vsOf
  rw [get_map (κ := Hs.key) (κ' := Hy.key) (f := Hs.p) (fun _ => rfl)]
  cases gtK slit Hs.key H k <;> rfl
theorem any_at {α : Type} {l : List α} {p : α → Bool} {k : Nat} {o : α} (h : l[k]? = some o) (hp : p o = true) : l.any p = true := List.any_eq_true.2 ⟨o, List.mem_of_getElem? h, hp⟩
theorem any_none {α : Type} {l : List α} {p : α → Bool} (h : ∀ (t : Nat) q, t < l.length → l[t]? = some q → p q = false) : l.any p = false := by
  rw [List.any_eq_false]
  intro x hx
  obtain ⟨t, ht⟩ := List.mem_iff_getElem?.1 hx
  rw [h t x (List.getElem?_eq_some_iff.1 ht).1 ht]
  decide
theorem upto_snoc {α : Type} {l : List α} {p : α → Bool} {k : Nat} {o : α} (h : ∀ (t : Nat) q, t < k → l[t]? = some q → p q = false) (ho : l[k]? = some o) (hp : p o = false) : ∀ (t : Nat) q, t < k + 1 → l[t]? = some q → p q = false := fun t q h3 h4 => by
  rcases Nat.lt_or_ge t k with h5 | h5
  · exact h t q h5 h4
  · obtain rfl : t = k := by omega
    rw [ho] at h4; cases h4; exact hp
theorem ins_len (x : Vr) (vs : List Vr) : (insV x vs).length = vs.length + 1 := by
  unfold insV
  rw [List.length_append, List.length_cons, List.length_take, List.length_drop]
  omega
theorem takeWhile_eq {α : Type} {p : α → Bool} : ∀ {l : List α} {n : Nat}, (∀ (t : Nat) q, t < n → l[t]? = some q → p q = true) → n ≤ l.length → (∀ q, l[n]? = some q → p q = false) → (l.takeWhile p).length = n
  | [], n, _, h, _ => by simp at h; subst h; rfl
  | x :: l, 0, _, _, h3 => by rw [List.takeWhile_cons, h3 x rfl]; rfl
  | x :: l, n + 1, h1, h2, h3 => by
    rw [List.takeWhile_cons, h1 0 x (Nat.succ_pos _) rfl]
    simp only [if_true, List.length_cons]
    rw [takeWhile_eq (n := n) (fun t q ht hq => h1 (t + 1) q (by omega) (by simpa using hq)) (by simpa using h2) (fun q hq => h3 q (by simpa using hq))]
theorem tail_eq {vs : List Vr} {at_ : Stp} {i : Nat} (hi : i ≤ vs.length) (h : ∀ (t : Nat) q, i ≤ t → vs[t]? = some q → 0 < cmpS q.s at_) (h2 : i = 0 ∨ ∃ q, vs[i - 1]? = some q ∧ ¬ 0 < cmpS q.s at_) : vs.length - tailV at_ vs = i := by
  have h3 : tailV at_ vs = vs.length - i := by
    unfold tailV
    refine takeWhile_eq (fun t q ht hq => ?_) (by rw [List.length_reverse]; omega) (fun q hq => ?_)
    · rw [List.getElem?_reverse (by omega)] at hq
      exact decide_eq_true (h _ q (by omega) hq)
    · have hlt := (List.getElem?_eq_some_iff.1 hq).1
      rw [List.length_reverse] at hlt
      rw [List.getElem?_reverse (by omega)] at hq
      rcases h2 with h2 | ⟨q2, h4, h5⟩
      · omega
      · rw [show vs.length - 1 - (vs.length - i) = i - 1 from by omega, h4] at hq
        cases hq
        exact decide_eq_false h5
  omega
theorem wld_none {M : Ms} {t : Tn} {commit : Bool} {at_ : Stp} (h : findF M.P t = none) : wldE M t commit at_ = 8 := by unfold wldE; rw [h]
theorem ins_at {vs : List Vr} {x : Vr} {i : Nat} (h : vs.length - tailV x.s vs = i) : vs.take i ++ x :: vs.drop i = insV x vs := by unfold insV; rw [h]
theorem sn_eq (a b : Sn) : decide (a = b) = (decide (a.key = b.key) && decide (a.s.w = b.s.w ∧ a.s.l = b.s.l ∧ a.s.n = b.s.n) && decide (a.v = b.v)) := by
  obtain ⟨a, c, ⟨p, q, r⟩⟩ := a
  obtain ⟨a2, c2, ⟨p2, q2, r2⟩⟩ := b
  rw [Bool.eq_iff_iff]
  simp only [Sn.mk.injEq, Stp.mk.injEq, decide_eq_true_eq, Bool.and_eq_true]
  exact ⟨fun ⟨h1, h2, h3⟩ => ⟨⟨h1, h3⟩, h2⟩, fun ⟨⟨h1, h3⟩, h2⟩ => ⟨h1, h2, h3⟩⟩
/-! a transaction's number as a key: its bytes, which stand as the numbers do  -/
theorem slt_cons {x y : UInt8} {a b : Key} : slt (x :: a) (y :: b) ↔ x < y ∨ (x = y ∧ slt a b) := by
  simp only [slt, Op.bytesLess, Bool.or_eq_true, decide_eq_true_eq, Bool.and_eq_true, beq_iff_eq]
theorem bytesBE_succ (w n : Nat) : bytesBE (w + 1) n = bytesBE w (n / 256) ++ [UInt8.ofNat (n % 256)] := by
  show (UInt8.ofNat (n % 256) :: bytesLE w (n / 256)).reverse = _
  rw [List.reverse_cons]
  rfl
theorem be_lt : ∀ (w a b : Nat) (r s : Key), a < 256 ^ w → b < 256 ^ w → (slt (bytesBE w a ++ r) (bytesBE w b ++ s) ↔ a < b ∨ (a = b ∧ slt r s))
  | 0, a, b, r, s, ha, hb => by
    rw [Nat.pow_zero] at ha hb
    obtain rfl : a = 0 := by omega
    obtain rfl : b = 0 := by omega
    show slt r s ↔ _
    simp
  | w + 1, a, b, r, s, ha, hb => by
    rw [Nat.pow_succ] at ha hb
    rw [bytesBE_succ, bytesBE_succ, List.append_assoc, List.append_assoc, be_lt w (a / 256) (b / 256) _ _ (by omega) (by omega)]
    show a / 256 < b / 256 ∨ (a / 256 = b / 256 ∧ slt (UInt8.ofNat (a % 256) :: r) (UInt8.ofNat (b % 256) :: s)) ↔ _
    have h1 : (UInt8.ofNat (a % 256)).toNat = a % 256 := by rw [UInt8.toNat_ofNat']; omega
    have h2 : (UInt8.ofNat (b % 256)).toNat = b % 256 := by rw [UInt8.toNat_ofNat']; omega
    have h3 : UInt8.ofNat (a % 256) = UInt8.ofNat (b % 256) ↔ a % 256 = b % 256 := by rw [← UInt8.toNat_inj, h1, h2]
    rw [slt_cons, UInt8.lt_iff_toNat_lt, h1, h2, h3]
    constructor
    · rintro (h | ⟨h, h4 | ⟨h4, h5⟩⟩)
      · exact .inl (by omega)
      · exact .inl (by omega)
      · exact .inr ⟨by omega, h5⟩
    · rintro (h | ⟨h, h5⟩)
      · by_cases h6 : a / 256 < b / 256
        · exact .inl h6
        · exact .inr ⟨by omega, .inl (by omega)⟩
      · exact .inr ⟨by omega, .inr ⟨by omega, h5⟩⟩
theorem be_eq : ∀ (w a b : Nat) (r s : Key), a < 256 ^ w → b < 256 ^ w → bytesBE w a ++ r = bytesBE w b ++ s → a = b ∧ r = s
  | 0, a, b, r, s, ha, hb, h => by
    rw [Nat.pow_zero] at ha hb
    exact ⟨by omega, h⟩
  | w + 1, a, b, r, s, ha, hb, h => by
    rw [Nat.pow_succ] at ha hb
    rw [bytesBE_succ, bytesBE_succ, List.append_assoc, List.append_assoc] at h
    obtain ⟨h1, h2⟩ := be_eq w (a / 256) (b / 256) _ _ (by omega) (by omega) h
    obtain ⟨h3, h4⟩ := List.cons.inj (show UInt8.ofNat (a % 256) :: r = UInt8.ofNat (b % 256) :: s from h2)
    have h5 : (UInt8.ofNat (a % 256)).toNat = a % 256 := by rw [UInt8.toNat_ofNat']; omega
    have h6 : (UInt8.ofNat (b % 256)).toNat = b % 256 := by rw [UInt8.toNat_ofNat']; omega
    rw [h3, h6] at h5
    exact ⟨by omega, h4⟩
def u64 (n : Int) : Nat := (n % 2 ^ 64).toNat
theorem tb_eq (t : Tn) : tb t = bytesBE 8 (u64 t.co) ++ (bytesBE 8 (u64 t.li) ++ (bytesBE 8 (u64 t.sq) ++ [])) := by
  unfold tb keyBytes
  rw [List.flatMap_cons, List.flatMap_cons, List.flatMap_cons]
  rfl
theorem u64_lt (n : Int) : u64 n < 256 ^ 8 := by
  unfold u64
  have h1 : (256 : Nat) ^ 8 = 18446744073709551616 := by decide
  have h2 : (2 : Int) ^ 64 = 18446744073709551616 := by decide
  rw [h1, h2]
  omega
def tless (a b : Tn) : Prop := a.co < b.co ∨ (a.co = b.co ∧ (a.li < b.li ∨ (a.li = b.li ∧ a.sq < b.sq)))
instance (a b : Tn) : Decidable (tless a b) := by unfold tless; infer_instance
structure Tn.pos (t : Tn) : Prop where
  c : 1 ≤ t.co ∧ t.co ≤ 9223372036854775807
  l : 1 ≤ t.li ∧ t.li ≤ 9223372036854775807
  s : 1 ≤ t.sq ∧ t.sq ≤ 9223372036854775807
theorem u64_pos {n : Int} (h : 1 ≤ n ∧ n ≤ 9223372036854775807) : (u64 n : Int) = n := by
  unfold u64
  have h2 : (2 : Int) ^ 64 = 18446744073709551616 := by decide
  rw [h2]
  omega
theorem tb_lt {a b : Tn} (ha : a.pos) (hb : b.pos) : slt (tb a) (tb b) ↔ tless a b := by
  rw [tb_eq, tb_eq, be_lt 8 _ _ _ _ (u64_lt _) (u64_lt _), be_lt 8 _ _ _ _ (u64_lt _) (u64_lt _), be_lt 8 _ _ _ _ (u64_lt _) (u64_lt _)]
  have h1 := u64_pos ha.c; have h2 := u64_pos ha.l; have h3 := u64_pos ha.s
  have h4 := u64_pos hb.c; have h5 := u64_pos hb.l; have h6 := u64_pos hb.s
  have h7 : ¬ slt ([] : Key) [] := slt_irr []
  unfold tless
  constructor
  · rintro (h | ⟨h, h | ⟨h, h | ⟨_, h⟩⟩⟩)
    · exact .inl (by omega)
    · exact .inr ⟨by omega, .inl (by omega)⟩
    · exact .inr ⟨by omega, .inr ⟨by omega, by omega⟩⟩
    · exact absurd h h7
  · rintro (h | ⟨h, h | ⟨h8, h⟩⟩)
    · exact .inl (by omega)
    · exact .inr ⟨by omega, .inl (by omega)⟩
    · exact .inr ⟨by omega, .inr ⟨by omega, .inl (by omega)⟩⟩
structure Tn.wf (t : Tn) : Prop where
  c : -9223372036854775808 ≤ t.co ∧ t.co ≤ 9223372036854775807
  l : -9223372036854775808 ≤ t.li ∧ t.li ≤ 9223372036854775807
  s : -9223372036854775808 ≤ t.sq ∧ t.sq ≤ 9223372036854775807
theorem u64_inj {m n : Int} (h1 : -9223372036854775808 ≤ m ∧ m ≤ 9223372036854775807) (h2 : -9223372036854775808 ≤ n ∧ n ≤ 9223372036854775807) (h : u64 m = u64 n) : m = n := by
  unfold u64 at h
  have h3 : (2 : Int) ^ 64 = 18446744073709551616 := by decide
  rw [h3] at h
  omega
theorem tb_inj {a b : Tn} (ha : a.wf) (hb : b.wf) (h : tb a = tb b) : a = b := by
  rw [tb_eq, tb_eq] at h
  have e1 := be_eq 8 _ _ _ _ (u64_lt a.co) (u64_lt b.co) h
  have e2 := be_eq 8 _ _ _ _ (u64_lt a.li) (u64_lt b.li) e1.2
  have e3 := be_eq 8 _ _ _ _ (u64_lt a.sq) (u64_lt b.sq) e2.2
  obtain ⟨p, q, r⟩ := a
  obtain ⟨p2, q2, r2⟩ := b
  have r1 := u64_inj ha.c hb.c e1.1
  have r2 := u64_inj ha.l hb.l e2.1
  have r3 := u64_inj ha.s hb.s e3.1
  dsimp only at r1 r2 r3
  rw [r1, r2, r3]
theorem Tn.pos.wf {t : Tn} (h : t.pos) : t.wf := ⟨⟨by have := h.c; omega, h.c.2⟩, ⟨by have := h.l; omega, h.l.2⟩, ⟨by have := h.s; omega, h.s.2⟩⟩
theorem Tn.pos_of {t : Tn} (h : t.wf) (hm : mayT t = true) : t.pos := by
  unfold mayT at hm
  have hm := of_decide_eq_true hm
  exact ⟨⟨hm.1, h.c.2⟩, ⟨hm.2.2.1, h.l.2⟩, ⟨hm.2.2.2, h.s.2⟩⟩
theorem tless_tri (a b : Tn) : tless a b ∨ b = a ∨ tless b a := by
  obtain ⟨p, q, r⟩ := a
  obtain ⟨p2, q2, r2⟩ := b
  unfold tless
  simp only [Tn.mk.injEq]
  omega
/-! what lists weigh -/
def sumL {α : Type} (c : α → Nat) (l : List α) : Nat := (l.map c).sum
theorem sumL_cons {α : Type} (c : α → Nat) (x : α) (l : List α) : sumL c (x :: l) = c x + sumL c l := by simp [sumL]
theorem sumL_mem {α : Type} {c : α → Nat} : ∀ {l : List α} {x : α}, x ∈ l → c x ≤ sumL c l
  | y :: l, x, h => by
    rw [sumL_cons]
    rcases List.mem_cons.1 h with rfl | h
    · omega
    · have := sumL_mem (c := c) h; omega
theorem sumL_len {α : Type} {c : α → Nat} : ∀ {l : List α}, (∀ x ∈ l, 1 ≤ c x) → l.length ≤ sumL c l
  | [], _ => Nat.le_refl _
  | y :: l, h => by
    rw [sumL_cons, List.length_cons]
    have h1 := h y List.mem_cons_self
    have h2 := sumL_len (c := c) (l := l) fun x hx => h x (List.mem_cons_of_mem _ hx)
    omega
def wgF {α : Type} (g : α → Nat → Nat) (m : Nat) : List α → Nat → Nat
  | [], n => n
  | x :: r, n => if n ≤ m then wgF g m r (g x n) else n
section
variable {α : Type} {g : α → Nat → Nat} {m : Nat}
theorem wg_stop {n : Nat} (h : ¬ n ≤ m) : ∀ l : List α, wgF g m l n = n
  | [] => rfl
  | x :: r => by unfold wgF; rw [if_neg h]
theorem wg_step {n k : Nat} {l : List α} {o : α} (h : l[k]? = some o) (hn : n ≤ m) : wgF g m (l.drop k) n = wgF g m (l.drop (k + 1)) (g o n) := by
  obtain ⟨hk, rfl⟩ := List.getElem?_eq_some_iff.1 h
  rw [List.drop_eq_getElem_cons hk]
  conv => lhs; unfold wgF
  rw [if_pos hn]
theorem wg_end {n k : Nat} {l : List α} (h : l.length ≤ k) : wgF g m (l.drop k) n = n := by rw [List.drop_eq_nil_of_le h]; rfl
theorem wg_sum {c : α → Nat} (hg : ∀ x n, n ≤ m → g x n ≤ m → n + c x ≤ g x n) : ∀ (l : List α) (n : Nat), wgF g m l n ≤ m → n + sumL c l ≤ wgF g m l n
  | [], n, _ => by show n + 0 ≤ n; omega
  | x :: r, n, h => by
    unfold wgF at h ⊢
    split at h
    · rename_i hn
      rw [if_pos hn, sumL_cons]
      have h1 := wg_sum hg r _ h
      have h2 := hg x n hn (by omega)
      omega
    · rename_i hn
      omega
theorem wg_bd {B : Nat} (hg : ∀ x n, n ≤ m → g x n ≤ B) : ∀ (l : List α) (n : Nat), n ≤ B → wgF g m l n ≤ B
  | [], n, h => h
  | x :: r, n, h => by
    unfold wgF
    split
    · rename_i hn; exact wg_bd hg r _ (hg x n hn)
    · exact h
end
theorem few2_bd (a b c : Nat) : few2F a b c ≤ 2 * c + 1 := by unfold few2F; split <;> omega
def gT (m : Nat) (x : Key) (n : Nat) : Nat := few2F n (1 + x.length) m
def gW (m : Nat) (x : Wt) (n : Nat) : Nat := few2F (few2F n (1 + x.key.length) m) x.v.tx.length m
def gS (m : Nat) (x : Sn) (n : Nat) : Nat := few2F (few2F n (1 + x.key.length) m) x.v.tx.length m
def gV (m : Nat) (x : Vr) (n : Nat) : Nat := few2F n (1 + x.v.tx.length) m
def wtF (m : Nat) (l : List Key) : Nat := wgF (gT m) m l 0
def wsF (m : Nat) (l : List Sn) : Nat := wgF (gS m) m l 0
theorem ww_wg (m : Nat) : ∀ (l : List Wt) (n : Nat), wwF m l n = wgF (gW m) m l n
  | [], n => rfl
  | x :: r, n => by unfold wwF wgF; rw [ww_wg m r]; rfl
def gP (m : Nat) (x : Pp) (n : Nat) : Nat := few2F (few2F n (1 + wtF m x.rs) m) (wwF m x.ws 0) m
def wpF (m : Nat) (l : List Pp) : Nat := wgF (gP m) m l 0
def gH (m : Nat) (x : Hy) (n : Nat) : Nat := wgF (gV m) m x.vs (few2F n (1 + x.key.length) m)
def whF (m : Nat) (l : List Hy) : Nat := wgF (gH m) m l 0
def cT (x : Key) : Nat := 1 + x.length
def cW (x : Wt) : Nat := 1 + x.key.length + x.v.tx.length
def cS (x : Sn) : Nat := 1 + x.key.length + x.v.tx.length
def cV (x : Vr) : Nat := 1 + x.v.tx.length
theorem gT_c {m : Nat} (x : Key) (n : Nat) (_ : n ≤ m) (h : gT m x n ≤ m) : n + cT x ≤ gT m x n := by
  have := few2_le h
  unfold gT cT
  omega
theorem g2_c {m a b n : Nat} (h : few2F (few2F n a m) b m ≤ m) : n + (a + b) ≤ few2F (few2F n a m) b m := by
  have h1 := few2_le h
  have h2 := few2_le (show few2F n a m ≤ m by omega)
  omega
theorem gW_c {m : Nat} (x : Wt) (n : Nat) (_ : n ≤ m) (h : gW m x n ≤ m) : n + cW x ≤ gW m x n := g2_c h
theorem gS_c {m : Nat} (x : Sn) (n : Nat) (_ : n ≤ m) (h : gS m x n ≤ m) : n + cS x ≤ gS m x n := g2_c h
theorem gV_c {m : Nat} (x : Vr) (n : Nat) (_ : n ≤ m) (h : gV m x n ≤ m) : n + cV x ≤ gV m x n := by
  have := few2_le h
  unfold gV cV
  omega
theorem ws_facts {m : Nat} {l : List Sn} (h : wsF m l ≤ m) : sumL cS l ≤ m := by have := wg_sum gS_c l 0 h; unfold wsF at h; omega
def cP (x : Pp) : Nat := 1 + sumL cT x.rs + sumL cW x.ws
theorem gP_c {m : Nat} (x : Pp) (n : Nat) (_ : n ≤ m) (h : gP m x n ≤ m) : n + cP x ≤ gP m x n := by
  have h1 := g2_c h
  have h2 := wg_sum gT_c x.rs 0 (show wgF (gT m) m x.rs 0 ≤ m by unfold gP at h; unfold wtF at h1 h; omega)
  have h3 := wg_sum gW_c x.ws 0 (show wgF (gW m) m x.ws 0 ≤ m by rw [← ww_wg]; unfold gP at h; omega)
  rw [← ww_wg] at h3
  unfold gP cP
  unfold wtF at h1 ⊢
  omega
theorem wp_facts {m : Nat} {l : List Pp} (h : wpF m l ≤ m) : sumL cP l ≤ m := by have := wg_sum gP_c l 0 h; unfold wpF at h; omega
def cH (x : Hy) : Nat := 1 + x.key.length + sumL cV x.vs
theorem gH_c {m : Nat} (x : Hy) (n : Nat) (_ : n ≤ m) (h : gH m x n ≤ m) : n + cH x ≤ gH m x n := by
  unfold gH at h ⊢
  have h1 := wg_sum gV_c x.vs _ h
  have h2 := few2_le (show few2F n (1 + x.key.length) m ≤ m by omega)
  unfold cH
  omega
theorem wh_facts {m : Nat} {l : List Hy} (h : whF m l ≤ m) : sumL cH l ≤ m := by have := wg_sum gH_c l 0 h; unfold whF at h; omega
theorem wt_bd (m : Nat) (l : List Key) : wtF m l ≤ 2 * m + 1 := wg_bd (fun x n _ => few2_bd _ _ _) l 0 (Nat.zero_le _)
theorem ws_bd (m : Nat) (l : List Sn) : wsF m l ≤ 2 * m + 1 := wg_bd (fun x n _ => few2_bd _ _ _) l 0 (Nat.zero_le _)
theorem ww_bd (m : Nat) (l : List Wt) : wwF m l 0 ≤ 2 * m + 1 := by rw [ww_wg]; exact wg_bd (fun x n _ => few2_bd _ _ _) l 0 (Nat.zero_le _)
theorem wp_bd (m : Nat) (l : List Pp) : wpF m l ≤ 2 * m + 1 := wg_bd (fun x n _ => few2_bd _ _ _) l 0 (Nat.zero_le _)
/-! what is done -/
structure Ox where
  kind : Int
  key : Key
  s : Stp
  t : Tn
  yes : Bool
  p : Pn
  sn : List Sn
  sa : Option Addr
  sc : Nat
def Ox.cells (o : Ox) : List Value := [.int .i64 o.kind, .string ⟨o.key.toArray⟩, .int .i64 o.s.w, .int .i64 o.s.l, .int .i64 o.s.n, .int .i64 o.t.co, .int .i64 o.t.li, .int .i64 o.t.sq, .bool o.yes, .int .i64 o.p.t.co, .int .i64 o.p.t.li, .int .i64 o.p.t.sq, .int .i64 o.p.s.w, .int .i64 o.p.s.l, .int .i64 o.p.s.n, .slice o.p.ra o.p.rs.length o.p.rc, .slice o.p.wa o.p.ws.length o.p.wc, .slice o.sa o.sn.length o.sc]
theorem Ox.len (o : Ox) : o.cells.length = 18 := rfl
structure Oy where
  kind : Int
  key : Key
  s : Stp
  t : Tn
  yes : Bool
  p : Pp
  sn : List Sn
def Ox.y (o : Ox) : Oy := ⟨o.kind, o.key, o.s, o.t, o.yes, o.p.p, o.sn⟩
def actM (M : Ms) (o : Oy) : Ms := if o.kind = 1 then readM M o.key o.s else if o.kind = 2 then prepM M o.p o.sn else if o.kind = 3 then resM M o.t o.yes o.s else M
def actE (M : Ms) (o : Oy) : Int := if o.kind = 1 then readE M o.key o.s else if o.kind = 2 then prepE M o.p o.sn else if o.kind = 3 then wldE M o.t o.yes o.s else 0
def runM (M : Ms) (l : List Oy) : Ms := l.foldl actM M
theorem run_snoc {l : List Ox} {k : Nat} {o : Ox} (M : Ms) (h : l[k]? = some o) : runM M ((l.take (k + 1)).map Ox.y) = actM (runM M ((l.take k).map Ox.y)) o.y := by
  unfold runM
  rw [take_app h, List.map_append, List.foldl_append]
  rfl
def gO (o : Oy) (n : Nat) : Nat := n + min o.key.length 20001 + wsF 20000 o.sn + wpF 20000 [o.p]
def fewN (l : List Oy) : Nat := wgF gO 20000 l 0
def fewB (l : List Oy) : Bool := decide (l.length ≤ 200) && decide (fewN l ≤ 20000)
def cO (o : Oy) : Nat := min o.key.length 20001 + wsF 20000 o.sn + wpF 20000 [o.p]
structure Sm (o : Oy) : Prop where
  key : o.key.length ≤ 20000
  sn : sumL cS o.sn ≤ 20000
  rs : sumL cT o.p.rs ≤ 20000
  ws : sumL cW o.p.ws ≤ 20000
theorem few_sm {l : List Oy} (h : fewB l = true) : l.length ≤ 200 ∧ ∀ o ∈ l, Sm o := by
  unfold fewB at h
  rw [Bool.and_eq_true, decide_eq_true_eq, decide_eq_true_eq] at h
  refine ⟨h.1, fun o ho => ?_⟩
  have h1 := wg_sum (c := cO) (g := gO) (m := 20000) (fun x n _ _ => by unfold gO cO; omega) l 0 h.2
  have h2 := sumL_mem (c := cO) ho
  have h3 : fewN l ≤ 20000 := h.2
  unfold fewN at h3
  have h4 : cO o ≤ 20000 := by omega
  unfold cO at h4
  have h5 := wp_facts (l := [o.p]) (m := 20000) (by omega)
  rw [sumL_cons] at h5
  unfold cP at h5
  have h6 := ws_facts (l := o.sn) (m := 20000) (by omega)
  exact ⟨by omega, h6, by omega, by omega⟩
theorem Sm.k {o : Oy} (h : Sm o) : ∀ y ∈ o.p.ws, y.key.length ≤ 140737488351232 := fun y hy => by
  have h1 := sumL_mem (c := cW) hy
  have h2 := h.ws
  have h3 : cW y = 1 + y.key.length + y.v.tx.length := rfl
  omega
theorem Sm.k3 {o : Oy} (h : Sm o) : ∀ y ∈ o.sn, y.key.length ≤ 140737488351232 := fun y hy => by
  have h1 := sumL_mem (c := cS) hy
  have h2 := h.sn
  have h3 : cS y = 1 + y.key.length + y.v.tx.length := rfl
  omega
theorem Sm.l1 {o : Oy} (h : Sm o) : o.p.rs.length ≤ 1000000 := by
  have h1 := sumL_len (c := cT) (l := o.p.rs) (fun x _ => by unfold cT; omega)
  have h2 := h.rs
  omega
theorem Sm.l2 {o : Oy} (h : Sm o) : o.p.ws.length ≤ 1000000 := by
  have h1 := sumL_len (c := cW) (l := o.p.ws) (fun x _ => by unfold cW; omega)
  have h2 := h.ws
  omega
theorem Sm.l3 {o : Oy} (h : Sm o) : o.sn.length ≤ 1000000 := by
  have h1 := sumL_len (c := cS) (l := o.sn) (fun x _ => by unfold cS; omega)
  have h2 := h.sn
  omega
/-! the chapter's examples -/
def fT : Tn := ⟨1, 1, 1⟩
def fW : Wt := ⟨[97], ⟨1, 4619567317775286272, []⟩⟩
def fP : Pp := ⟨fT, ⟨6, 0, 1⟩, [], [fW]⟩
def fM1 : Ms := prepM Ms.z fP []
def fM2 : Ms := readM fM1 [97] ⟨9, 0, 1⟩
def fM3 : Ms := resM fM2 fT true ⟨10, 0, 1⟩
theorem f_e1 : prepE Ms.z fP [] = 0 := by decide +kernel
theorem f_e2 : readE fM1 [97] ⟨9, 0, 1⟩ = 18 := by decide +kernel
theorem f_e3 : wldE fM2 fT true ⟨10, 0, 1⟩ = 0 := by decide +kernel
theorem f_e4 : readE fM3 [97] ⟨10, 0, 1⟩ = 0 := by decide +kernel
theorem f_e5 : readS fM3 [97] ⟨10, 0, 1⟩ = ⟨[97], fW.v, ⟨10, 0, 1⟩⟩ := by decide +kernel
theorem readM_eq (H : List Hy) (P : List Pp) (low : Stp) (k : Key) (at_ : Stp) : (⟨H, P, (readM ⟨H, P, low⟩ k at_).low⟩ : Ms) = readM ⟨H, P, low⟩ k at_ := by
  unfold readM; split <;> rfl
theorem pmay_doc (t : Tn) (s : Stp) (rs : List Key) (ws : List Wt) : pmay t s rs ws = if mayT t = false then 4 else if mayS s = false ∨ s = sz0 then 17 else if (decide (rs.length ≤ 16) && keysOk rs) = false ∨ okW ws 16 = false then 4 else 0 := by
  unfold pmay
  rw [okW_iff]
  by_cases h1 : mayT t = false
  · rw [if_pos h1, if_pos h1]
  · rw [if_neg h1, if_neg h1]
    by_cases h2 : mayS s = false ∨ s = sz0
    · rw [if_pos h2, if_pos h2]
    · rw [if_neg h2, if_neg h2]
      cases h3 : (keysOk rs && decide (rs.length ≤ 16))
      · rw [Bool.and_comm] at h3
        rw [if_pos (.inl rfl), if_pos (.inl h3)]
      · rw [Bool.and_comm] at h3
        rw [h3]
        cases h4 : (keysOk (wkeys ws) && decide (ws.length ≤ 16))
        · simp
        · cases h5 : ws.all fun x => mayV x.v <;> simp
/-! what holds of a store that has come of operations -/
theorem newV_skip (x : Vr) (A B : List Vr) (at_ : Stp) (h : ¬ cmpS x.s at_ ≤ 0) : newV (A ++ x :: B) at_ false = newV (A ++ B) at_ false := by
  unfold newV
  rw [List.foldl_append, List.foldl_append, List.foldl_cons, Bool.false_or, if_neg (by simpa using h)]
theorem newV_ins (x : Vr) (vs : List Vr) (at_ : Stp) (h : ¬ cmpS x.s at_ ≤ 0) : newV (insV x vs) at_ false = newV vs at_ false := by
  unfold insV
  rw [newV_skip _ _ _ _ h, List.take_append_drop]
theorem ins_mem {x y : Vr} {vs : List Vr} : y ∈ insV x vs ↔ y = x ∨ y ∈ vs := by
  unfold insV
  rw [List.mem_append, List.mem_cons]
  constructor
  · rintro (h | h | h)
    · exact .inr (List.mem_of_mem_take h)
    · exact .inl h
    · exact .inr (List.mem_of_mem_drop h)
  · rintro (h | h)
    · exact .inr (.inl h)
    · rw [← List.take_append_drop (vs.length - tailV x.s vs) vs, List.mem_append] at h
      exact h.imp id .inr
theorem vs_put (H : List Hy) (k : Key) (x : Vr) (k2 : Key) : vsOf (putH H k x) k2 = if k = k2 then insV x (vsOf H k) else vsOf H k2 := by
  unfold vsOf putH
  rw [sO.get_put]
  by_cases h : k = k2
  · rw [if_pos h, if_pos h]; rfl
  · rw [if_neg h, if_neg h]
theorem vs_com (ws : List Wt) (at_ : Stp) (k : Key) : ∀ H : List Hy, wrts ws k = false → vsOf (comH H ws at_) k = vsOf H k := by
  induction ws with
  | nil => intro H _; rfl
  | cons w ws ih =>
    intro H h
    unfold wrts at h
    rw [List.any_cons, Bool.or_eq_false_iff] at h
    show vsOf (comH (putH H w.key ⟨at_, w.v⟩) ws at_) k = _
    rw [ih _ h.2, vs_put, if_neg (of_decide_eq_false h.1)]
theorem newV_com (ws : List Wt) (at_ a2 : Stp) (k : Key) (h : ¬ cmpS at_ a2 ≤ 0) : ∀ H : List Hy, newV (vsOf (comH H ws at_) k) a2 false = newV (vsOf H k) a2 false := by
  induction ws with
  | nil => intro H; rfl
  | cons w ws ih =>
    intro H
    show newV (vsOf (comH (putH H w.key ⟨at_, w.v⟩) ws at_) k) a2 false = _
    rw [ih, vs_put]
    by_cases hk : w.key = k
    · rw [if_pos hk, newV_ins _ _ _ h, hk]
    · rw [if_neg hk]
theorem clash_iff (x p : Pp) : clashF x p = true ↔ (∃ a ∈ x.ws, ∃ b ∈ p.ws, b.key = a.key) ∨ (∃ a ∈ x.ws, a.key ∈ p.rs) ∨ ∃ k ∈ x.rs, ∃ b ∈ p.ws, b.key = k := by
  unfold clashF wrts rds
  simp only [Bool.or_eq_true, List.any_eq_true, decide_eq_true_eq]
  constructor
  · rintro (⟨a, ha, h | h⟩ | h)
    · exact .inl ⟨a, ha, h⟩
    · exact .inr (.inl ⟨a, ha, h⟩)
    · exact .inr (.inr h)
  · rintro (⟨a, ha, h⟩ | ⟨a, ha, h⟩ | h)
    · exact .inl ⟨a, ha, .inl h⟩
    · exact .inl ⟨a, ha, .inr h⟩
    · exact .inr h
theorem clash_sym (x p : Pp) : clashF x p = clashF p x := by
  have key : ∀ x p : Pp, clashF x p = true → clashF p x = true := fun x p h => by
    rw [clash_iff] at h ⊢
    rcases h with ⟨a, ha, b, hb, e⟩ | ⟨a, ha, h⟩ | ⟨k, hk, b, hb, e⟩
    · exact .inl ⟨b, hb, a, ha, e.symm⟩
    · exact .inr (.inr ⟨_, h, a, ha, rfl⟩)
    · exact .inr (.inl ⟨b, hb, by rw [e]; exact hk⟩)
  rw [Bool.eq_iff_iff]
  exact ⟨key x p, key p x⟩
structure Inv (M : Ms) : Prop where
  hs : SrtK slt Hy.key M.H
  hv : ∀ h ∈ M.H, h.vs ≠ [] ∧ ∀ v ∈ h.vs, mayV v.v = true
  ps : SrtK slt kbp M.P
  pp : ∀ p ∈ M.P, pmay p.t p.s p.rs p.ws = 0
  lock : M.P.Pairwise fun a b => clashF a b = false
  old : ∀ p ∈ M.P, oldF M.H p = false
theorem Inv.z : Inv Ms.z := ⟨List.Pairwise.nil, (fun h hh => by cases hh), List.Pairwise.nil, (fun p hp => by cases hp), List.Pairwise.nil, (fun p hp => by cases hp)⟩
theorem prep_0 {M : Ms} {p : Pp} {sn : List Sn} (h : prepE M p sn = 0) : pmay p.t p.s p.rs p.ws = 0 ∧ findF M.P p.t = none ∧ ¬ cmpS p.s M.low ≤ 0 ∧ lockF M.P p = false ∧ oldF M.H p = false ∧ p.rs = sn.map Sn.key ∧ ∀ x ∈ sn, (newF M.H x.key sz0 true).s = x.s := by
  unfold prepE at h
  by_cases h1 : pmay p.t p.s p.rs p.ws ≠ 0
  · rw [if_pos h1] at h; exact absurd h h1
  rw [if_neg h1] at h
  by_cases h2 : p.rs ≠ sn.map Sn.key
  · rw [if_pos h2] at h; cases h
  rw [if_neg h2] at h
  by_cases h3 : (findF M.P p.t).isSome = true
  · rw [if_pos h3] at h; cases h
  rw [if_neg h3] at h
  by_cases h4 : cmpS p.s M.low ≤ 0
  · rw [if_pos h4] at h; cases h
  rw [if_neg h4] at h
  by_cases h5 : lockF M.P p = true
  · rw [if_pos h5] at h; cases h
  rw [if_neg h5] at h
  by_cases h6 : (sn.any fun x => decide ((newF M.H x.key sz0 true).s ≠ x.s)) = true
  · rw [if_pos h6] at h; cases h
  rw [if_neg h6] at h
  by_cases h7 : oldF M.H p = true
  · rw [if_pos h7] at h; cases h
  refine ⟨by simpa using h1, by simpa using h3, h4, by simpa using h5, by simpa using h7, by simpa using h2, fun x hx => ?_⟩
  have h8 := List.any_eq_false.1 (by simpa using h6 : (sn.any fun x => decide ((newF M.H x.key sz0 true).s ≠ x.s)) = false) x hx
  simpa using h8
theorem wld_0 {M : Ms} {t : Tn} {commit : Bool} {at_ : Stp} (h : wldE M t commit at_ = 0) : ∃ p, findF M.P t = some p ∧ (commit = true → mayS at_ = true ∧ ¬ cmpS at_ p.s < 0 ∧ (p.ws.any fun w => hasV (vsOf M.H w.key) at_) = false) := by
  unfold wldE at h
  cases hf : findF M.P t with
  | none => rw [hf] at h; cases h
  | some p =>
    rw [hf] at h
    refine ⟨p, rfl, fun hc => ?_⟩
    dsimp only at h
    rw [if_neg (by rw [hc]; decide)] at h
    by_cases h1 : mayS at_ = false
    · rw [if_pos h1] at h; cases h
    rw [if_neg h1] at h
    by_cases h2 : cmpS at_ p.s < 0
    · rw [if_pos h2] at h; cases h
    rw [if_neg h2] at h
    by_cases h3 : (p.ws.any fun w => hasV (vsOf M.H w.key) at_) = true
    · rw [if_pos h3] at h; cases h
    exact ⟨by simpa using h1, h2, by simpa using h3⟩
theorem find_at {P : List Pp} {t : Tn} {p : Pp} (h : findF P t = some p) : p ∈ P ∧ kbp p = tb t := sO.get_some h
theorem pmay_ws {t : Tn} {s : Stp} {rs : List Key} {ws : List Wt} (h : pmay t s rs ws = 0) : ∀ x ∈ ws, mayV x.v = true := by
  rw [pmay_doc] at h
  by_cases h1 : mayT t = false
  · rw [if_pos h1] at h; cases h
  rw [if_neg h1] at h
  by_cases h2 : mayS s = false ∨ s = sz0
  · rw [if_pos h2] at h; cases h
  rw [if_neg h2] at h
  by_cases h3 : (decide (rs.length ≤ 16) && keysOk rs) = false ∨ okW ws 16 = false
  · rw [if_pos h3] at h; cases h
  have h4 : okW ws 16 = true := by
    cases h5 : okW ws 16
    · exact absurd (.inr h5) h3
    · rfl
  rw [okW_iff, Bool.and_eq_true] at h4
  exact fun x hx => List.all_eq_true.1 h4.2 x hx
theorem Inv.put1 {H : List Hy} (h1 : SrtK slt Hy.key H) (h2 : ∀ h ∈ H, h.vs ≠ [] ∧ ∀ v ∈ h.vs, mayV v.v = true) (k : Key) {x : Vr} (hx : mayV x.v = true) : SrtK slt Hy.key (putH H k x) ∧ ∀ h ∈ putH H k x, h.vs ≠ [] ∧ ∀ v ∈ h.vs, mayV v.v = true := by
  refine ⟨sO.put_srt _ h1, fun h hh => ?_⟩
  rcases sO.put_mem.1 hh with rfl | ⟨hh, -⟩
  · refine ⟨fun h9 => ?_, fun v hv => ?_⟩
    · have h8 := congrArg List.length h9
      dsimp only at h8
      rw [ins_len] at h8
      cases h8
    · rcases ins_mem.1 hv with rfl | hv
      · exact hx
      · unfold vsOf at hv
        cases hg : gtK slit Hy.key H k with
        | none => rw [hg] at hv; cases hv
        | some y => rw [hg] at hv; exact (h2 y (sO.get_some hg).1).2 v hv
  · exact h2 h hh
theorem Inv.com1 (at_ : Stp) : ∀ (ws : List Wt) (H : List Hy), (∀ x ∈ ws, mayV x.v = true) → SrtK slt Hy.key H → (∀ h ∈ H, h.vs ≠ [] ∧ ∀ v ∈ h.vs, mayV v.v = true) → SrtK slt Hy.key (comH H ws at_) ∧ ∀ h ∈ comH H ws at_, h.vs ≠ [] ∧ ∀ v ∈ h.vs, mayV v.v = true
  | [], H, _, h1, h2 => ⟨h1, h2⟩
  | w :: ws, H, h0, h1, h2 => by
    obtain ⟨h3, h4⟩ := Inv.put1 h1 h2 w.key (x := ⟨at_, w.v⟩) (h0 w List.mem_cons_self)
    exact Inv.com1 at_ ws _ (fun x hx => h0 x (List.mem_cons_of_mem _ hx)) h3 h4
theorem any_cg {α : Type} {p q : α → Bool} : ∀ {l : List α}, (∀ x ∈ l, p x = q x) → l.any p = l.any q
  | [], _ => rfl
  | x :: l, h => by rw [List.any_cons, List.any_cons, h x List.mem_cons_self, any_cg fun y hy => h y (List.mem_cons_of_mem _ hy)]
theorem old_com {H : List Hy} {ws : List Wt} {at_ : Stp} {q : Pp} (h : ∀ w ∈ q.ws, wrts ws w.key = false) : oldF (comH H ws at_) q = oldF H q := by
  unfold oldF newF
  refine any_cg fun w hw => ?_
  rw [vs_com ws at_ w.key H (h w hw)]
theorem Inv.read {M : Ms} (h : Inv M) (k : Key) (at_ : Stp) : Inv (readM M k at_) := by
  unfold readM
  split
  · exact ⟨h.hs, h.hv, h.ps, h.pp, h.lock, h.old⟩
  · exact h
theorem lock_no {P : List Pp} {p : Pp} (h : lockF P p = false) : ∀ q ∈ P, clashF p q = false := fun q hq => by
  have := List.any_eq_false.1 h q hq
  simpa using this
theorem Inv.prep {M : Ms} (h : Inv M) (p : Pp) (sn : List Sn) : Inv (prepM M p sn) := by
  unfold prepM
  split
  · rename_i h0
    obtain ⟨h1, h2, h3, h4, h5, -, -⟩ := prep_0 h0
    have hp : (ptK slit kbp p M.P).Perm (p :: M.P) := by
      have := sO.put_perm (κ := kbp) p M.P
      rw [sO.del_none (show gtK slit kbp M.P (kbp p) = none from h2)] at this
      exact this
    refine ⟨h.hs, h.hv, sO.put_srt _ h.ps, fun q hq => ?_, ?_, fun q hq => ?_⟩
    · rcases List.mem_cons.1 (hp.mem_iff.1 hq) with rfl | hq
      · exact h1
      · exact h.pp q hq
    · refine hp.symm.pairwise (List.pairwise_cons.2 ⟨lock_no h4, h.lock⟩) fun {a b} hab => ?_
      rw [clash_sym]; exact hab
    · rcases List.mem_cons.1 (hp.mem_iff.1 hq) with rfl | hq
      · exact h5
      · exact h.old q hq
  · exact h
theorem Inv.apart {M : Ms} (h : Inv M) {p q : Pp} (hp : p ∈ M.P) (hq : q ∈ M.P) (hne : p ≠ q) : clashF p q = false := by
  have : ∀ {l : List Pp}, l.Pairwise (fun a b => clashF a b = false) → p ∈ l → q ∈ l → clashF p q = false := fun {l} hl => by
    induction l with
    | nil => intro h; cases h
    | cons x l ih =>
      intro h1 h2
      have hc := List.pairwise_cons.1 hl
      rcases List.mem_cons.1 h1 with e1 | h3
      · rcases List.mem_cons.1 h2 with e2 | h4
        · exact absurd (e1.trans e2.symm) hne
        · rw [e1]; exact hc.1 q h4
      · rcases List.mem_cons.1 h2 with e2 | h4
        · rw [clash_sym, e2]; exact hc.1 p h3
        · exact ih hc.2 h3 h4
  exact this h.lock hp hq
theorem clash_wr {p q : Pp} (h : clashF p q = false) : ∀ w ∈ p.ws, wrts q.ws w.key = false ∧ rds q.rs w.key = false := fun w hw => by
  unfold clashF at h
  rw [Bool.or_eq_false_iff] at h
  have := List.any_eq_false.1 h.1 w hw
  simpa using this
theorem Inv.res {M : Ms} (h : Inv M) (t : Tn) (commit : Bool) (at_ : Stp) : Inv (resM M t commit at_) := by
  unfold resM
  split
  · rename_i h0
    obtain ⟨p, hp, -⟩ := wld_0 h0
    obtain ⟨hpm, hpt⟩ := find_at hp
    have hsub : ∀ q, q ∈ dlK kbp (tb t) M.P → q ∈ M.P ∧ p ≠ q := fun q hq => by
      obtain ⟨h1, h2⟩ := dlK_mem.1 hq
      exact ⟨h1, fun e => h2 (by rw [← e]; exact hpt)⟩
    rw [hp]
    show Inv { M with H := (if commit then comH M.H p.ws at_ else M.H), P := dlK kbp (tb t) M.P }
    cases commit with
    | false =>
      exact ⟨h.hs, h.hv, dlK_srt h.ps, fun q hq => h.pp q (hsub q hq).1, h.lock.filter _, fun q hq => h.old q (hsub q hq).1⟩
    | true =>
      obtain ⟨h1, h2⟩ := Inv.com1 at_ p.ws M.H (pmay_ws (h.pp p hpm)) h.hs h.hv
      refine ⟨h1, h2, dlK_srt h.ps, fun q hq => h.pp q (hsub q hq).1, h.lock.filter _, fun q hq => ?_⟩
      show oldF (comH M.H p.ws at_) q = false
      rw [old_com fun w hw => ?_]
      · exact h.old q (hsub q hq).1
      · exact (clash_wr (h.apart (hsub q hq).1 hpm (fun e => (hsub q hq).2 e.symm)) w hw).1
  · exact h
theorem Inv.act {M : Ms} (h : Inv M) (o : Oy) : Inv (actM M o) := by
  unfold actM
  split
  · exact h.read _ _
  · split
    · exact h.prep _ _
    · split
      · exact h.res _ _ _
      · exact h
theorem Inv.run {M : Ms} (h : Inv M) : ∀ l : List Oy, Inv (runM M l) := fun l => by
  unfold runM
  induction l generalizing M with
  | nil => exact h
  | cons o l ih => exact ih (h.act o)
def touchF (p : Pp) (k : Key) : Bool := rds p.rs k || wrts p.ws k
theorem Inv.touch {M : Ms} (h : Inv M) {p q : Pp} (hp : p ∈ M.P) (hq : q ∈ M.P) (hne : p ≠ q) {w : Wt} (hw : w ∈ p.ws) : touchF q w.key = false := by
  obtain ⟨h1, h2⟩ := clash_wr (h.apart hp hq hne) w hw
  unfold touchF
  rw [h1, h2]
  rfl
/-! reads that stay -/
structure Stay (M : Ms) (k : Key) (at_ : Stp) (x : Sn) : Prop where
  low : cmpS at_ M.low ≤ 0
  pend : ∀ p ∈ M.P, wrts p.ws k = true → ¬ cmpS p.s at_ ≤ 0
  new : newF M.H k at_ false = x
theorem later_le (a b : Stp) : cmpS b (laterS a b) ≤ 0 := by
  unfold laterS
  split
  · rw [cmp_le]; exact ltS_irr _
  · rename_i h; rw [cmp_le]; exact h
theorem later_le2 (a b : Stp) : cmpS a (laterS a b) ≤ 0 := by
  unfold laterS
  split
  · rename_i h; rw [cmp_le]; exact ltS_as h
  · rw [cmp_le]; exact ltS_irr _
theorem cmp_le_tr {a b c : Stp} (h1 : cmpS a b ≤ 0) (h2 : cmpS b c ≤ 0) : cmpS a c ≤ 0 := by
  rw [cmp_le] at *
  intro h
  rcases ltS_tot b c with h3 | h3 | h3
  · exact h1 (ltS_tr h3 h)
  · subst h3; exact h1 h
  · exact h2 h3
theorem read_0 {M : Ms} {k : Key} {at_ : Stp} (h : readE M k at_ = 0) : keyB k = true ∧ mayS at_ = true ∧ ∀ p ∈ M.P, wrts p.ws k = true → ¬ cmpS p.s at_ ≤ 0 := by
  unfold readE at h
  by_cases h1 : keyB k = false
  · rw [if_pos h1] at h; cases h
  rw [if_neg h1] at h
  by_cases h2 : mayS at_ = false
  · rw [if_pos h2] at h; cases h
  rw [if_neg h2] at h
  by_cases h3 : (M.P.any fun p => wrts p.ws k && decide (cmpS p.s at_ ≤ 0)) = true
  · rw [if_pos h3] at h; cases h
  refine ⟨by simpa using h1, by simpa using h2, fun p hp hw hc => h3 (List.any_eq_true.2 ⟨p, hp, by rw [hw, decide_eq_true hc]; rfl⟩)⟩
theorem read_of {M : Ms} {k : Key} {at_ : Stp} (h1 : keyB k = true) (h2 : mayS at_ = true) (h3 : ∀ p ∈ M.P, wrts p.ws k = true → ¬ cmpS p.s at_ ≤ 0) : readE M k at_ = 0 := by
  unfold readE
  rw [if_neg (by rw [h1]; decide), if_neg (by rw [h2]; decide), if_neg]
  intro h
  obtain ⟨p, hp, hw⟩ := List.any_eq_true.1 h
  rw [Bool.and_eq_true, decide_eq_true_eq] at hw
  exact h3 p hp hw.1 hw.2
theorem Stay.of {M : Ms} {k : Key} {at_ : Stp} (h : readE M k at_ = 0) : Stay (readM M k at_) k at_ (readS M k at_) := by
  obtain ⟨h1, h2, h3⟩ := read_0 h
  unfold readM readS
  rw [if_pos h, if_pos h]
  exact ⟨later_le _ _, h3, rfl⟩
theorem Stay.read {M : Ms} {k : Key} {at_ : Stp} {x : Sn} (h : Stay M k at_ x) (k2 : Key) (a2 : Stp) : Stay (readM M k2 a2) k at_ x := by
  unfold readM
  split
  · exact ⟨cmp_le_tr h.low (later_le2 _ _), h.pend, h.new⟩
  · exact h
theorem Stay.act {M : Ms} {k : Key} {at_ : Stp} {x : Sn} (h : Stay M k at_ x) (o : Oy) : Stay (actM M o) k at_ x := by
  unfold actM
  split
  · exact h.read _ _
  · split
    · unfold prepM
      split
      · rename_i h0
        obtain ⟨-, h2, h3, -⟩ := prep_0 h0
        refine ⟨h.low, fun q hq hw hc => ?_, h.new⟩
        rcases sO.put_mem.1 hq with rfl | ⟨hq, -⟩
        · exact h3 (cmp_le_tr hc h.low)
        · exact h.pend q hq hw hc
      · exact h
    · split
      · unfold resM
        split
        · rename_i h0
          obtain ⟨p, hp, hc⟩ := wld_0 h0
          obtain ⟨hpm, hpt⟩ := find_at hp
          refine ⟨h.low, fun q hq => h.pend q (dlK_mem.1 hq).1, ?_⟩
          rw [hp]
          show newF (if o.yes then comH M.H p.ws o.s else M.H) k at_ false = x
          cases hy : o.yes with
          | false => exact h.new
          | true =>
            rw [if_pos rfl, ← h.new]
            unfold newF
            obtain ⟨-, hlt, -⟩ := hc hy
            cases hw : wrts p.ws k with
            | false => rw [vs_com p.ws o.s k M.H hw]
            | true =>
              have h9 : ¬ cmpS o.s at_ ≤ 0 := fun h9 => by
                refine h.pend p hpm hw (cmp_le_tr ?_ h9)
                rw [cmp_le]
                intro h8
                exact hlt ((cmp_lt _ _).2 h8)
              rw [newV_com p.ws o.s at_ k h9]
        · exact h
      · exact h
theorem Stay.reads {M : Ms} {k : Key} {at_ : Stp} {x : Sn} (h : Stay M k at_ x) (h1 : keyB k = true) (h2 : mayS at_ = true) : readE M k at_ = 0 ∧ readS M k at_ = x := by
  have h3 := read_of h1 h2 h.pend
  refine ⟨h3, ?_⟩
  unfold readS
  rw [if_pos h3, h.new]
/-! what stands at a stamp, key by key -/
/-! two that are resolved in whatever order -/
theorem res_yes {M : Ms} {t : Tn} {c : Bool} {at_ : Stp} {r : Pp} (h : wldE M t c at_ = 0) (hr : findF M.P t = some r) : resM M t c at_ = ⟨if c then comH M.H r.ws at_ else M.H, dlK kbp (tb t) M.P, M.low⟩ := by
  unfold resM
  rw [if_pos h, hr]
  rfl
theorem res_no {M : Ms} {t : Tn} {c : Bool} {at_ : Stp} (h : ¬ wldE M t c at_ = 0) : resM M t c at_ = M := by
  unfold resM
  rw [if_neg h]
theorem pp_eq (a b : Pp) : decide (a = b) = (decide (a.t.co = b.t.co ∧ a.t.li = b.t.li ∧ a.t.sq = b.t.sq) && decide (a.s.w = b.s.w ∧ a.s.l = b.s.l ∧ a.s.n = b.s.n) && decide (a.rs = b.rs) && decide (a.ws = b.ws)) := by
  obtain ⟨⟨p, q, r⟩, ⟨p1, q1, r1⟩, c, d⟩ := a
  obtain ⟨⟨p2, q2, r2⟩, ⟨p3, q3, r3⟩, c2, d2⟩ := b
  rw [Bool.eq_iff_iff]
  simp only [Pp.mk.injEq, Tn.mk.injEq, Stp.mk.injEq, decide_eq_true_eq, Bool.and_eq_true]
  exact ⟨fun ⟨h1, h2, h3, h4⟩ => ⟨⟨⟨h1, h2⟩, h3⟩, h4⟩, fun ⟨⟨⟨h1, h2⟩, h3⟩, h4⟩ => ⟨h1, h2, h3, h4⟩⟩
theorem maps_len {α β : Type} {f : α → β} {l m : List α} (h : l.length ≠ m.length) : l.map f ≠ m.map f := fun e => h (by simpa using congrArg List.length e)
theorem maps_ne {α β : Type} {f : α → β} {l m : List α} {k : Nat} {o o2 : α} (h1 : l[k]? = some o) (h2 : m[k]? = some o2) (h : f o ≠ f o2) : l.map f ≠ m.map f := fun e => by
  have h3 := congrArg (fun q => q[k]?) e
  simp only [List.getElem?_map, h1, h2, Option.map_some, Option.some.injEq] at h3
  exact h h3
theorem maps_eq {α β : Type} {f : α → β} {l m : List α} {k : Nat} (hl : l.length ≤ k) (hm : m.length ≤ k) (hlm : l.length = m.length) (h : ∀ (t : Nat) x y, t < k → l[t]? = some x → m[t]? = some y → f x = f y) : l.map f = m.map f := by
  refine List.ext_getElem? fun t => ?_
  rw [List.getElem?_map, List.getElem?_map]
  rcases Nat.lt_or_ge t l.length with h1 | h1
  · rw [List.getElem?_eq_getElem h1, List.getElem?_eq_getElem (by omega)]
    exact congrArg some (h t _ _ (by omega) (List.getElem?_eq_getElem h1) (List.getElem?_eq_getElem (by omega)))
  · rw [List.getElem?_eq_none h1, List.getElem?_eq_none (by omega)]
theorem vr_eq (a b : Vr) : decide (a = b) = (decide (a.s.w = b.s.w ∧ a.s.l = b.s.l ∧ a.s.n = b.s.n) && decide (a.v = b.v)) := by
  obtain ⟨⟨p, q, r⟩, c⟩ := a
  obtain ⟨⟨p2, q2, r2⟩, c2⟩ := b
  rw [Bool.eq_iff_iff]
  simp only [Vr.mk.injEq, Stp.mk.injEq, decide_eq_true_eq, Bool.and_eq_true]
/-! a transaction as a whole -/
theorem prep_yes {M : Ms} {p : Pp} {sn : List Sn} (h : prepE M p sn = 0) : prepM M p sn = ⟨M.H, ptK slit kbp p M.P, M.low⟩ := by unfold prepM; rw [if_pos h]
theorem prep_no {M : Ms} {p : Pp} {sn : List Sn} (h : ¬ prepE M p sn = 0) : prepM M p sn = M := by unfold prepM; rw [if_neg h]
theorem keys_rise {l : List Key} (h : keysOk l = true) : l.Pairwise slt ∧ ∀ x ∈ l, keyB x = true := by
  unfold keysOk at h
  rw [allOk_iff] at h
  have hb : ∀ x ∈ l, keyB x = true := fun x hx => by
    obtain ⟨i, hi⟩ := List.mem_iff_getElem?.1 hx
    cases hk : keyB x with
    | true => rfl
    | false =>
      have h1 := h i (List.getElem?_eq_some_iff.1 hi).1
      rw [kbad_key hi hk] at h1
      cases h1
  refine ⟨?_, hb⟩
  have step : ∀ (k : Nat) x y, l[k]? = some y → l[k + 1]? = some x → slt y x := fun k x y hy hx => by
    have h1 := h (k + 1) (List.getElem?_eq_some_iff.1 hx).1
    rw [kbad_pos hx (hb x (List.mem_of_getElem? hx)) (Nat.succ_pos k) (by simpa using hy)] at h1
    show Op.bytesLess y x = true
    simpa using h1
  rw [List.pairwise_iff_getElem]
  intro i j hi hj hij
  obtain ⟨d, rfl⟩ : ∃ d, j = i + d + 1 := ⟨j - i - 1, by omega⟩
  induction d with
  | zero => exact step i _ _ (List.getElem?_eq_getElem hi) (List.getElem?_eq_getElem hj)
  | succ d ih => exact slt_tr (ih (by omega) (by omega)) (step (i + d + 1) _ _ (List.getElem?_eq_getElem (by omega)) (List.getElem?_eq_getElem hj))
theorem pmay_keys {t : Tn} {s : Stp} {rs : List Key} {ws : List Wt} (h : pmay t s rs ws = 0) : keysOk (wkeys ws) = true ∧ keysOk rs = true := by
  unfold pmay at h
  by_cases h1 : mayT t = false
  · rw [if_pos h1] at h; cases h
  rw [if_neg h1] at h
  by_cases h2 : mayS s = false ∨ s = sz0
  · rw [if_pos h2] at h; cases h
  rw [if_neg h2] at h
  by_cases h3 : (keysOk rs && decide (rs.length ≤ 16)) = false ∨ (keysOk (wkeys ws) && decide (ws.length ≤ 16)) = false
  · rw [if_pos h3] at h; cases h
  have h4 : ¬ (keysOk rs && decide (rs.length ≤ 16)) = false := fun h9 => h3 (.inl h9)
  have h5 : ¬ (keysOk (wkeys ws) && decide (ws.length ≤ 16)) = false := fun h9 => h3 (.inr h9)
  simp only [Bool.not_eq_false, Bool.and_eq_true] at h4 h5
  exact ⟨h5.1, h4.1⟩
theorem ws_apart {ws : List Wt} (h : keysOk (wkeys ws) = true) : ws.Pairwise fun a b => a.key ≠ b.key := by
  have := (keys_rise h).1
  unfold wkeys at this
  exact (List.pairwise_map.1 this).imp fun {a b} h => sO.ne h
/-! pairs without keys -/
end Go.Proofs.YtpnfpndhdnmhkaaGreat
