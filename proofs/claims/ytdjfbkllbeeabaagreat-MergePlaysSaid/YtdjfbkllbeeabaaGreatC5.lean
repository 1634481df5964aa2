/- Entries, a write among pairs, plainly. -/
import Derived.Test.YtdjfbkllbeeabaaGreatC0
set_option linter.unusedSimpArgs false
set_option linter.unusedVariables false
namespace Go.Proofs.YtdjfbkllbeeabaaGreat
open Sx

/-! entries; a write among pairs -/
structure En where
  t : Tn
  s : Stp
  ad : Option Addr
  c : Nat
  ws : List Wt
def En.cells (x : En) : List Value := [.int .i64 x.t.co, .int .i64 x.t.li, .int .i64 x.t.sq, .int .i64 x.s.w, .int .i64 x.s.l, .int .i64 x.s.n, .slice x.ad x.ws.length x.c]
theorem En.len (x : En) : x.cells.length = 7 := rfl
theorem En.one (x : En) : ∀ u ∈ x.cells, u.oneCell' = true := by
  intro u hu
  simp only [En.cells, List.mem_cons, List.not_mem_nil, or_false] at hu
  rcases hu with rfl | rfl | rfl | rfl | rfl | rfl | rfl <;> rfl
def En.rw (x : En) : Rw := ⟨x.ad, x.ws.length, x.c, x.ws.flatMap Wt.cells⟩
/-- an entry without its place -/
structure Ep where
  t : Tn
  s : Stp
  ws : List Wt
  deriving DecidableEq
def En.p (x : En) : Ep := ⟨x.t, x.s, x.ws⟩
theorem nilcut2 {ad : Option Addr} {n c sz lo : Nat} (hn : ad = none → n = 0 ∧ c = 0) (hc : cutAt ad sz lo c = none) : n - lo = 0 ∧ c - lo = 0 := by
  cases ad with
  | none => have := hn rfl; omega
  | some x =>
    unfold cutAt at hc
    split at hc <;> cases hc
theorem rownil {w : World} {e : TypeId} {sz n c : Nat} {ad : Option Addr} {xs : List Value} (h : Row w e sz ad n c xs) : ad = none → n = 0 ∧ c = 0 := fun hn => by
  subst hn
  have := h.nilcut (lo := 0) (cutAt_zero _ _ _)
  omega
def putV (L : List Wt) (x : Wt) : List Wt := if x.v.k = 0 then dlK Wt.key x.key L else ptK slit Wt.key x L
theorem putV_len (L : List Wt) (x : Wt) : (putV L x).length ≤ L.length + 1 := by
  unfold putV
  split
  · have := List.length_filter_le (fun y => !decide (Wt.key y = x.key)) L
    unfold dlK
    omega
  · exact sO.put_len x
theorem putV_srt {L : List Wt} (x : Wt) (h : SrtK slt Wt.key L) : SrtK slt Wt.key (putV L x) := by
  unfold putV
  split
  · exact dlK_srt h
  · exact sO.put_srt x h
theorem putV_mem {L : List Wt} {x y : Wt} (h : y ∈ putV L x) : y ∈ L ∨ (y = x ∧ x.v.k ≠ 0) := by
  unfold putV at h
  split at h
  · exact .inl (dlK_mem.1 h).1
  · rename_i hk
    rcases sO.put_mem.1 h with h | h
    · exact .inr ⟨h, hk⟩
    · exact .inl h.1
/-- how many stand ahead of a key -/
def lead (k : Key) : List Wt → Nat
  | [] => 0
  | y :: r => if slt y.key k then lead k r + 1 else 0
def behind (k : Key) (l : List Wt) : Nat := if (l[lead k l]?).map Wt.key = some k then lead k l + 1 else lead k l
def putM (x : Wt) : List Wt := if x.v.k = 0 then [] else [x]
/-- a write takes its place among pairs, whatever they are -/
def putD (l : List Wt) (x : Wt) : List Wt := l.take (lead x.key l) ++ putM x ++ l.drop (behind x.key l)
theorem lead_eq {k : Key} : ∀ {l : List Wt} {i : Nat}, (∀ (t : Nat) q, t < i → l[t]? = some q → slt q.key k) → (∀ q, l[i]? = some q → ¬ slt q.key k) → i ≤ l.length → lead k l = i
  | [], i, _, _, h => by simp at h; subst h; rfl
  | y :: r, 0, _, h, _ => by unfold lead; rw [if_neg (h y rfl)]
  | y :: r, i + 1, h1, h2, h3 => by
    unfold lead
    rw [if_pos (h1 0 y (Nat.succ_pos _) rfl), lead_eq (i := i) (fun t q ht hq => h1 (t + 1) q (by omega) (by simpa using hq)) (fun q hq => h2 q (by simpa using hq)) (by simpa using h3)]
theorem putD_at {l : List Wt} {x : Wt} {i p : Nat} (h1 : lead x.key l = i) (h2 : behind x.key l = p) : putD l x = l.take i ++ putM x ++ l.drop p := by
  unfold putD; rw [h1, h2]
theorem behind_yes {l : List Wt} {k : Key} {i : Nat} {o : Wt} (h1 : lead k l = i) (ho : l[i]? = some o) (he : o.key = k) : behind k l = i + 1 := by
  unfold behind; rw [h1, ho, if_pos (by simp [he])]
theorem behind_no {l : List Wt} {k : Key} {i : Nat} (h1 : lead k l = i) (h : ∀ o, l[i]? = some o → o.key ≠ k) : behind k l = i := by
  unfold behind
  rw [h1, if_neg]
  intro h9
  cases h2 : l[i]? with
  | none => rw [h2] at h9; cases h9
  | some o => rw [h2] at h9; simp at h9; exact h o h2 h9
theorem lead_cons (k : Key) (y : Wt) (r : List Wt) : lead k (y :: r) = if slt y.key k then lead k r + 1 else 0 := rfl
theorem putD_cons_lt {y x : Wt} {r : List Wt} (h : slt y.key x.key) : putD (y :: r) x = y :: putD r x := by
  have e1 : lead x.key (y :: r) = lead x.key r + 1 := by rw [lead_cons, if_pos h]
  have e2 : behind x.key (y :: r) = behind x.key r + 1 := by
    unfold behind
    rw [e1, List.getElem?_cons_succ]
    split <;> rfl
  unfold putD
  rw [e1, e2]
  rfl
theorem ins_all {x : Wt} : ∀ {L : List Wt}, (∀ y ∈ L, slt x.key y.key) → insT (fun x : Wt => slit x.key) x L = x :: L
  | [], _ => rfl
  | y :: r, h => by unfold insT; rw [if_pos ((sO.bef _ _).2 (h y List.mem_cons_self))]
theorem dlK_none {L : List Wt} {k : Key} (h : ∀ y ∈ L, y.key ≠ k) : dlK Wt.key k L = L := by
  unfold dlK
  rw [List.filter_eq_self]
  intro y hy
  simp [h y hy]
theorem dlK_cons {y : Wt} {L : List Wt} {k : Key} : dlK Wt.key k (y :: L) = if y.key = k then dlK Wt.key k L else y :: dlK Wt.key k L := by
  unfold dlK
  by_cases h : y.key = k
  · rw [if_pos h, List.filter_cons_of_neg (by simp [h])]
  · rw [if_neg h, List.filter_cons_of_pos (by simp [h])]
theorem putV_eq (L : List Wt) (x : Wt) : putV L x = if x.v.k = 0 then dlK Wt.key x.key L else insT (fun x : Wt => slit x.key) x (dlK Wt.key x.key L) := by
  unfold putV
  split
  · rfl
  · unfold ptK putT
    rw [sO.del]
theorem putD_eq {x : Wt} : ∀ {L : List Wt}, SrtK slt Wt.key L → putD L x = putV L x
  | [], _ => by
    rw [putV_eq]
    unfold putD putM
    split
    · rfl
    · rfl
  | y :: r, h => by
    have hc := List.pairwise_cons.1 h
    have ih := putD_eq (x := x) hc.2
    by_cases hlt : slt y.key x.key
    · rw [putD_cons_lt hlt, ih, putV_eq, putV_eq, dlK_cons, if_neg (sO.ne hlt)]
      split
      · rfl
      · rw [insT, if_neg (fun h9 => slt_as hlt ((sO.bef _ _).1 h9))]
    · have e1 : lead x.key (y :: r) = 0 := by rw [lead_cons, if_neg hlt]
      by_cases he : y.key = x.key
      · have hgt : ∀ z ∈ r, slt x.key z.key := fun z hz => by rw [← he]; exact hc.1 z hz
        have hne : ∀ z ∈ r, z.key ≠ x.key := fun z hz h9 => slt_irr x.key (by have := hgt z hz; rw [h9] at this; exact this)
        rw [putD_at e1 (behind_yes (o := y) e1 rfl he), putV_eq, dlK_cons, if_pos he, dlK_none hne]
        unfold putM
        split
        · rfl
        · rw [ins_all hgt]; rfl
      · have hxy : slt x.key y.key := by
          rcases slt_tot x.key y.key with h1 | h1 | h1
          · exact h1
          · exact absurd h1.symm he
          · exact absurd h1 hlt
        have hgt : ∀ z ∈ y :: r, slt x.key z.key := fun z hz => by
          rcases List.mem_cons.1 hz with rfl | hz
          · exact hxy
          · exact slt_tr hxy (hc.1 z hz)
        have hne : ∀ z ∈ y :: r, z.key ≠ x.key := fun z hz h9 => slt_irr x.key (by have := hgt z hz; rw [h9] at this; exact this)
        rw [putD_at e1 (behind_no e1 fun o ho => by simp at ho; subst ho; exact he), putV_eq, dlK_none hne]
        unfold putM
        split
        · rfl
        · rw [ins_all hgt]; rfl
theorem snoc_w {L : List Wt} {x : Wt} : L.flatMap Wt.cells ++ [.string ⟨x.key.toArray⟩, .int .i64 x.v.k, .float .f64 x.v.num, .string ⟨x.v.tx.toArray⟩] = (L ++ [x]).flatMap Wt.cells := by
  rw [List.flatMap_append]; simp [Wt.cells]
theorem cut_w {l : List Wt} {p : Nat} (hp : p ≤ l.length) : ((l.flatMap Wt.cells).drop (p * 4)).take ((l.length - p) * 4) = (l.drop p).flatMap Wt.cells := by
  rw [flat_drop Wt.len, List.take_of_length_le (by rw [flat_len Wt.len, List.length_drop]; omega)]
/-! weights -/
theorem few2_max (a b c : Nat) : few2F a b c ≤ 2 * c + 1 := by unfold few2F; split <;> omega
theorem ww_max {m : Nat} : ∀ (l : List Wt) (n : Nat), wwF m l n ≤ max n (2 * m + 1)
  | [], n => by unfold wwF; omega
  | x :: r, n => by
    unfold wwF
    split
    · have h1 := ww_max (m := m) r (few2F (few2F n (1 + x.key.length) m) x.v.tx.length m)
      have h2 := few2_max (few2F n (1 + x.key.length) m) x.v.tx.length m
      omega
    · omega
def sumN {α : Type} (f : α → Nat) : List α → Nat
  | [] => 0
  | x :: l => f x + sumN f l
theorem sumN_app {α : Type} (f : α → Nat) : ∀ l m : List α, sumN f (l ++ m) = sumN f l + sumN f m
  | [], m => by simp [sumN]
  | x :: l, m => by simp only [List.cons_append, sumN, sumN_app f l m]; omega
theorem sumN_snoc {α : Type} (f : α → Nat) {l : List α} {k : Nat} {o : α} (h : l[k]? = some o) : sumN f (l.take (k + 1)) = sumN f (l.take k) + f o := by
  rw [take_app h, sumN_app]; simp [sumN]
theorem sumN_mem {α : Type} {f : α → Nat} : ∀ {l : List α} {x : α}, x ∈ l → f x ≤ sumN f l
  | y :: l, x, h => by
    simp only [sumN]
    rcases List.mem_cons.1 h with rfl | h
    · omega
    · have := sumN_mem (f := f) h; omega

end Go.Proofs.YtdjfbkllbeeabaaGreat
