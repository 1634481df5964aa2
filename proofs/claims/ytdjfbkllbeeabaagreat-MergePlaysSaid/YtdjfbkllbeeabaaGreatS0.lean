/- Fragments, plainly. -/
import Derived.Test.YtdjfbkllbeeabaaGreatC0
set_option linter.unusedSimpArgs false
set_option linter.unusedVariables false
namespace Go.Proofs.YtdjfbkllbeeabaaGreat
open Sx

/-! fragments -/
structure Fr where
  rg : Int
  at_ : Int
  t : Tn
  s : Stp
  ad : Option Addr
  c : Nat
  ws : List Wt
def Fr.cells (x : Fr) : List Value := [.int .i64 x.rg, .int .i64 x.at_, .int .i64 x.t.co, .int .i64 x.t.li, .int .i64 x.t.sq, .int .i64 x.s.w, .int .i64 x.s.l, .int .i64 x.s.n, .slice x.ad x.ws.length x.c]
theorem Fr.len (x : Fr) : x.cells.length = 9 := rfl
theorem Fr.one (x : Fr) : ∀ u ∈ x.cells, u.oneCell' = true := by
  intro u hu
  simp only [Fr.cells, List.mem_cons, List.not_mem_nil, or_false] at hu
  rcases hu with rfl | rfl | rfl | rfl | rfl | rfl | rfl | rfl | rfl <;> rfl
def Fr.rw (x : Fr) : Rw := ⟨x.ad, x.ws.length, x.c, x.ws.flatMap Wt.cells⟩
structure Fp where
  rg : Int
  at_ : Int
  t : Tn
  s : Stp
  ws : List Wt
  deriving DecidableEq
def Fr.p (x : Fr) : Fp := ⟨x.rg, x.at_, x.t, x.s, x.ws⟩
def mayF (f : Fp) : Bool := decide (1 ≤ f.rg ∧ f.rg ≤ 12) && decide (1 ≤ f.at_) && decide (1 ≤ f.ws.length) && emay f.t f.s f.ws
/-- ahead: by stamps, then ranges -/
def ltF (a b : Fp) : Prop := ltS a.s b.s ∨ (a.s = b.s ∧ a.rg < b.rg)
instance (a b : Fp) : Decidable (ltF a b) := by unfold ltF; infer_instance
def lessI (a b : Fp) : Int := if cmpS a.s b.s ≠ 0 then cmpS a.s b.s else a.rg - b.rg
theorem lessF_iff (a b : Fp) : lessI a b < 0 ↔ ltF a b := by
  unfold lessI ltF
  have h1 := cmp_eq a.s b.s
  have h2 := cmp_lt a.s b.s
  split
  · rename_i h
    constructor
    · intro h3; exact .inl (h2.1 h3)
    · rintro (h3 | ⟨h3, -⟩)
      · exact h2.2 h3
      · exact absurd (h1.2 h3) h
  · rename_i h
    have h3 : a.s = b.s := h1.1 (by omega)
    constructor
    · intro h4; exact .inr ⟨h3, by omega⟩
    · rintro (h4 | ⟨-, h4⟩)
      · rw [h3] at h4; exact absurd h4 (ltS_irr _)
      · omega
theorem ltF_irr (a : Fp) : ¬ ltF a a := by
  rintro (h | ⟨-, h⟩)
  · exact ltS_irr _ h
  · omega
theorem ltF_tr {a b c : Fp} (h1 : ltF a b) (h2 : ltF b c) : ltF a c := by
  rcases h1 with h1 | ⟨h1, h3⟩
  · rcases h2 with h2 | ⟨h2, -⟩
    · exact .inl (ltS_tr h1 h2)
    · rw [h2] at h1; exact .inl h1
  · rcases h2 with h2 | ⟨h2, h4⟩
    · rw [← h1] at h2; exact .inl h2
    · exact .inr ⟨h1.trans h2, by omega⟩
theorem ltF_tot (a b : Fp) : ltF a b ∨ (a.s = b.s ∧ a.rg = b.rg) ∨ ltF b a := by
  unfold ltF
  rcases ltS_tot a.s b.s with h | h | h
  · exact .inl (.inl h)
  · rcases Int.lt_trichotomy a.rg b.rg with h1 | h1 | h1
    · exact .inl (.inr ⟨h, h1⟩)
    · exact .inr (.inl ⟨h, h1⟩)
    · exact .inr (.inr (.inr ⟨h.symm, h1⟩))
  · exact .inr (.inr (.inl h))
theorem ltF_as {a b : Fp} (h : ltF a b) : ¬ ltF b a := fun h2 => ltF_irr a (ltF_tr h h2)
/-- adding -/
def hasF (L : List Fp) (rg : Int) (t : Tn) : Bool := L.any fun h => decide (h.rg = rg ∧ h.t = t)
def unlike (h f : Fp) : Bool := decide (h.t = f.t) != decide (h.s = f.s)
def meetF (l m : List Wt) : Bool := l.any fun x => m.any fun y => decide (x.key = y.key)
def addE (L : List Fp) (f : Fp) : Int :=
  if mayF f = false then 4 else if hasF L f.rg f.t = true then 9
  else if (L.any fun h => unlike h f) = true then 17 else if (L.any fun h => decide (h.t = f.t) && meetF h.ws f.ws) = true then 18 else 0
def leadF (f : Fp) : List Fp → Nat
  | [] => 0
  | y :: r => if ltF y f then leadF f r + 1 else 0
def insF (L : List Fp) (f : Fp) : List Fp := L.take (leadF f L) ++ f :: L.drop (leadF f L)
def addL (L : List Fp) (f : Fp) : List Fp := if addE L f = 0 then insF L f else L
theorem leadF_eq {f : Fp} : ∀ {l : List Fp} {i : Nat}, (∀ (t : Nat) q, t < i → l[t]? = some q → ltF q f) → (∀ q, l[i]? = some q → ¬ ltF q f) → i ≤ l.length → leadF f l = i
  | [], i, _, _, h => by simp at h; subst h; rfl
  | y :: r, 0, _, h, _ => by unfold leadF; rw [if_neg (h y rfl)]
  | y :: r, i + 1, h1, h2, h3 => by
    unfold leadF
    rw [if_pos (h1 0 y (Nat.succ_pos _) rfl), leadF_eq (i := i) (fun t q ht hq => h1 (t + 1) q (by omega) (by simpa using hq)) (fun q hq => h2 q (by simpa using hq)) (by simpa using h3)]
theorem leadF_le (f : Fp) : ∀ l : List Fp, leadF f l ≤ l.length
  | [] => Nat.le_refl _
  | y :: r => by unfold leadF; split; exact Nat.succ_le_succ (leadF_le f r); exact Nat.zero_le _
theorem ins_perm (L : List Fp) (f : Fp) : (insF L f).Perm (f :: L) := by
  unfold insF
  refine List.perm_middle.trans ?_
  rw [List.take_append_drop]
theorem ins_cons {f y : Fp} {r : List Fp} : insF (y :: r) f = if ltF y f then y :: insF r f else f :: y :: r := by
  have e : leadF f (y :: r) = if ltF y f then leadF f r + 1 else 0 := rfl
  unfold insF
  rw [e]
  split <;> rfl
/-- what is held: in its order, of one stamp a transaction -/
structure Held (L : List Fp) : Prop where
  srt : L.Pairwise ltF
  may : ∀ x ∈ L, mayF x = true
  like : ∀ x ∈ L, ∀ y ∈ L, x.t = y.t ↔ x.s = y.s
  apart : L.Pairwise fun x y => x.t = y.t → ∀ u ∈ x.ws, ∀ v ∈ y.ws, u.key ≠ v.key
theorem held_nil : Held [] := ⟨List.Pairwise.nil, by simp, by simp, List.Pairwise.nil⟩
theorem any_no {α : Type} {p : α → Bool} {L : List α} (h : (L.any p) = false) : ∀ x ∈ L, p x = false := fun x hx => by
  have := List.any_eq_false.1 h x hx
  simpa using this
theorem add_zero {L : List Fp} {f : Fp} (h : addE L f = 0) : mayF f = true ∧ (∀ x ∈ L, ¬ (x.rg = f.rg ∧ x.t = f.t)) ∧ (∀ x ∈ L, x.t = f.t ↔ x.s = f.s) ∧ ∀ x ∈ L, x.t = f.t → ∀ u ∈ x.ws, ∀ v ∈ f.ws, u.key ≠ v.key := by
  unfold addE at h
  split at h
  · cases h
  rename_i h1
  split at h
  · cases h
  rename_i h2
  split at h
  · cases h
  rename_i h3
  split at h
  · cases h
  rename_i h4
  refine ⟨by simpa using h1, fun x hx => ?_, fun x hx => ?_, fun x hx ht u hu v hv he => ?_⟩
  · have := any_no (show hasF L f.rg f.t = false by simpa using h2) x hx
    simpa using this
  · have := any_no (show (L.any fun h => unlike h f) = false by simpa using h3) x hx
    unfold unlike at this
    simpa using this
  · have := any_no (show (L.any fun h => decide (h.t = f.t) && meetF h.ws f.ws) = false by simpa using h4) x hx
    simp only [ht, decide_true, Bool.true_and] at this
    have h5 := any_no (any_no (show meetF x.ws f.ws = false from this) u hu) v hv
    simp [he] at h5
theorem held_ins {L : List Fp} {f : Fp} (hL : Held L) (h : addE L f = 0) : Held (insF L f) := by
  obtain ⟨h1, h2, h3, h4⟩ := add_zero h
  have hm : ∀ x, x ∈ insF L f ↔ x = f ∨ x ∈ L := fun x => by rw [(ins_perm L f).mem_iff, List.mem_cons]
  refine ⟨?_, fun x hx => ?_, fun x hx y hy => ?_, ?_⟩
  · have key : ∀ M : List Fp, M.Pairwise ltF → (∀ x ∈ M, ¬ (x.s = f.s ∧ x.rg = f.rg)) → (insF M f).Pairwise ltF := by
      intro M
      induction M with
      | nil => intro _ _; exact List.pairwise_singleton _ _
      | cons y r ih =>
        intro hp hn
        have hc := List.pairwise_cons.1 hp
        rw [ins_cons]
        split
        · rename_i hlt
          refine List.pairwise_cons.2 ⟨fun z hz => ?_, ih hc.2 fun z hz => hn z (List.mem_cons_of_mem _ hz)⟩
          rcases List.mem_cons.1 ((ins_perm r f).mem_iff.1 hz) with rfl | hz
          · exact hlt
          · exact hc.1 z hz
        · rename_i hlt
          have hfy : ltF f y := by
            rcases ltF_tot f y with h5 | h5 | h5
            · exact h5
            · exact absurd ⟨h5.1.symm, h5.2.symm⟩ (hn y List.mem_cons_self)
            · exact absurd h5 hlt
          refine List.pairwise_cons.2 ⟨fun z hz => ?_, hp⟩
          rcases List.mem_cons.1 hz with rfl | hz
          · exact hfy
          · exact ltF_tr hfy (hc.1 z hz)
    exact key L hL.srt fun x hx ⟨e1, e2⟩ => h2 x hx ⟨e2, (h3 x hx).2 e1⟩
  · rcases (hm x).1 hx with rfl | hx
    · exact h1
    · exact hL.may x hx
  · rcases (hm x).1 hx with hx1 | hx1
    · rcases (hm y).1 hy with hy1 | hy1
      · rw [hx1, hy1]; exact ⟨fun _ => rfl, fun _ => rfl⟩
      · rw [hx1]; exact ⟨fun e => ((h3 y hy1).1 e.symm).symm, fun e => ((h3 y hy1).2 e.symm).symm⟩
    · rcases (hm y).1 hy with hy1 | hy1
      · rw [hy1]; exact h3 x hx1
      · exact hL.like x hx1 y hy1
  · have hp : (f :: L).Pairwise fun x y => x.t = y.t → ∀ u ∈ x.ws, ∀ v ∈ y.ws, u.key ≠ v.key :=
      List.pairwise_cons.2 ⟨fun y hy e u hu v hv e2 => h4 y hy e.symm v hv u hu e2.symm, hL.apart⟩
    exact (ins_perm L f).symm.pairwise hp fun {x y} h5 e u hu v hv e2 => h5 e.symm v hv u hu e2.symm
theorem held_drop {L : List Fp} (h : Held L) (n : Nat) : Held (L.drop n) :=
  ⟨h.srt.sublist (List.drop_sublist _ _), fun x hx => h.may x (List.mem_of_mem_drop hx), fun x hx y hy => h.like x (List.mem_of_mem_drop hx) y (List.mem_of_mem_drop hy), h.apart.sublist (List.drop_sublist _ _)⟩
theorem held_add {L : List Fp} (h : Held L) (f : Fp) : Held (addL L f) := by
  unfold addL
  split
  · rename_i e; exact held_ins h e
  · exact h
theorem mayF_ok {f : Fp} (h : mayF f = true) : 1 ≤ f.rg ∧ f.rg ≤ 12 ∧ 1 ≤ f.ws.length ∧ f.ws.length ≤ 16 ∧ emay f.t f.s f.ws = true := by
  unfold mayF at h
  simp only [Bool.and_eq_true, decide_eq_true_eq] at h
  have h2 := h.2
  unfold emay okW at h2
  simp only [Bool.and_eq_true, decide_eq_true_eq] at h2
  exact ⟨h.1.1.1.1, h.1.1.1.2, h.1.2, h2.2.1, h.2⟩
theorem mayF_no {f : Fp} (h : ¬ (1 ≤ f.rg ∧ f.rg ≤ 12 ∧ 1 ≤ f.at_ ∧ 1 ≤ f.ws.length)) : mayF f = false := by
  unfold mayF
  rw [Bool.and_eq_false_iff, Bool.and_eq_false_iff, Bool.and_eq_false_iff]
  simp only [decide_eq_false_iff_not]
  left
  omega
theorem mayF_yes {f : Fp} (h : 1 ≤ f.rg ∧ f.rg ≤ 12 ∧ 1 ≤ f.at_ ∧ 1 ≤ f.ws.length) : mayF f = emay f.t f.s f.ws := by
  unfold mayF
  rw [decide_eq_true ⟨h.1, h.2.1⟩, decide_eq_true h.2.2.1, decide_eq_true h.2.2.2]
  rfl
theorem mayF_doc (f : Fp) : mayF f = (decide (1 ≤ f.rg) && (decide (f.rg ≤ 12) && (decide (1 ≤ f.at_) && (mayT f.t && (mayS f.s && (!decide (f.s = sz0) && (decide (1 ≤ f.ws.length) && okW f.ws 16))))))) := by
  unfold mayF emay
  rw [Bool.eq_iff_iff]
  simp only [Bool.and_eq_true, decide_eq_true_eq]
  constructor
  · rintro ⟨⟨⟨⟨h1, h2⟩, h3⟩, h4⟩, ⟨⟨h5, h6⟩, h7⟩, h8⟩
    exact ⟨h1, h2, h3, h5, h6, h7, h4, h8⟩
  · rintro ⟨h1, h2, h3, h5, h6, h7, h4, h8⟩
    exact ⟨⟨⟨⟨h1, h2⟩, h3⟩, h4⟩, ⟨⟨h5, h6⟩, h7⟩, h8⟩
theorem tn_iff {a b : Tn} : a = b ↔ a.co = b.co ∧ a.li = b.li ∧ a.sq = b.sq := by
  obtain ⟨a1, a2, a3⟩ := a
  obtain ⟨b1, b2, b3⟩ := b
  simp only [Tn.mk.injEq]
theorem stp_iff {a b : Stp} : a = b ↔ a.w = b.w ∧ a.l = b.l ∧ a.n = b.n := by
  obtain ⟨a1, a2, a3⟩ := a
  obtain ⟨b1, b2, b3⟩ := b
  simp only [Stp.mk.injEq]
theorem tn_eq (a b : Tn) : decide (a = b) = decide (a.co = b.co ∧ a.li = b.li ∧ a.sq = b.sq) := decide_eq_decide.2 tn_iff
theorem stp_eq (a b : Stp) : decide (a = b) = decide (a.w = b.w ∧ a.l = b.l ∧ a.n = b.n) := decide_eq_decide.2 stp_iff
theorem unl_eq (o x : Fr) : unlike o.p x.p = (decide (o.t.co = x.t.co ∧ o.t.li = x.t.li ∧ o.t.sq = x.t.sq) != decide (o.s.w = x.s.w ∧ o.s.l = x.s.l ∧ o.s.n = x.s.n)) := by
  unfold unlike
  rw [tn_eq, stp_eq]
  rfl

end Go.Proofs.YtdjfbkllbeeabaaGreat
