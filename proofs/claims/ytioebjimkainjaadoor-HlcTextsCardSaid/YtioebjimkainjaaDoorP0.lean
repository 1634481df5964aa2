/- Plain: stamps as texts, and read back. -/
import Derived.Test.YtioebjimkainjaaDoorN0
import Derived.Lib.AtoiAll
import Derived.Lib.ItoaMem
set_option linter.unusedSimpArgs false
set_option linter.unusedVariables false
namespace Go.Proofs.YtioebjimkainjaaDoor
open Sx

/-! ### numerals read back -/
theorem pu_snoc : ∀ (l : List UInt8) (acc v : Nat) (c : UInt8), Lib.parseUint10 acc l = .ok v → 48 ≤ c.toNat ∧ c.toNat ≤ 57 → v * 10 + (c.toNat - 48) < 18446744073709551616 → Lib.parseUint10 acc (l ++ [c]) = .ok (v * 10 + (c.toNat - 48))
  | [], acc, v, c, h, hc, hv => by
    simp only [Lib.parseUint10] at h
    injection h with h
    subst h
    simp only [List.nil_append, Lib.parseUint10]
    rw [if_pos hc, if_neg (by omega), if_neg (by omega)]
  | d :: l, acc, v, c, h, hc, hv => by
    simp only [List.cons_append, Lib.parseUint10] at h ⊢
    split at h
    · rename_i hd
      rw [if_pos hd]
      split at h
      · cases h
      · rename_i h1
        rw [if_neg h1]
        split at h
        · cases h
        · rename_i h2
          rw [if_neg h2]
          exact pu_snoc l _ v c h hc hv
    · cases h
theorem digit_of (k : Nat) (h : k < 10) : (UInt8.ofNat (48 + k)).toNat = 48 + k := by
  rw [UInt8.toNat_ofNat']; exact Nat.mod_eq_of_lt (by omega)
theorem pu_dec (u : Nat) (h : u < 18446744073709551616) : Lib.parseUint10 0 (Lib.decDigits u) = .ok u := by
  induction u using Nat.strongRecOn with
  | _ u ih =>
    by_cases h0 : u < 10
    · rw [Lib.decDigits_one h0]
      have := pu_snoc [] 0 0 (UInt8.ofNat (48 + u)) rfl (by rw [digit_of u h0]; omega) (by rw [digit_of u h0]; omega)
      rw [digit_of u h0] at this
      simpa using this
    · rw [Lib.decDigits, dif_neg h0]
      have h1 := ih (u / 10) (by omega) (by omega)
      have hd := digit_of (u % 10) (by omega)
      have := pu_snoc _ 0 _ (UInt8.ofNat (48 + u % 10)) h1 (by rw [hd]; omega) (by rw [hd]; omega)
      rw [hd] at this
      rw [this]
      congr 1
      omega
theorem dec_digit (u : Nat) : ∀ c ∈ Lib.decDigits u, 48 ≤ c.toNat ∧ c.toNat ≤ 57 := by
  induction u using Nat.strongRecOn with
  | _ u ih =>
    intro c hc
    by_cases h0 : u < 10
    · rw [Lib.decDigits_one h0, List.mem_singleton] at hc
      subst hc
      rw [digit_of u h0]; omega
    · rw [Lib.decDigits, dif_neg h0, List.mem_append, List.mem_singleton] at hc
      rcases hc with hc | hc
      · exact ih (u / 10) (by omega) c hc
      · subst hc
        rw [digit_of _ (by omega)]; omega
theorem dec_ne (u : Nat) : Lib.decDigits u ≠ [] := by
  rw [Lib.decDigits]
  split <;> simp
def inInt (n : Int) : Prop := -9223372036854775808 ≤ n ∧ n ≤ 9223372036854775807
theorem atoi_itoa (n : Int) (h : inInt n) : Lib.atoiAll (Lib.itoa n) = .ok n := by
  obtain ⟨h0, h1⟩ := h
  unfold Lib.itoa
  by_cases hn : n < 0
  · rw [if_pos hn]
    unfold Lib.atoiAll
    dsimp only
    rw [if_pos (by decide)]
    unfold Lib.parseMag
    rw [if_neg (dec_ne _), pu_dec _ (by omega)]
    dsimp only
    rw [if_neg (by simp), if_neg (by omega), if_pos (by decide)]
    congr 1
    omega
  · rw [if_neg hn]
    have hd := dec_digit n.toNat
    have hp := pu_dec n.toNat (by omega)
    have hne := dec_ne n.toNat
    cases hl : Lib.decDigits n.toNat with
    | nil => exact absurd hl hne
    | cons c r =>
      rw [hl] at hd hp
      have hc := hd c (by simp)
      unfold Lib.atoiAll
      dsimp only
      rw [if_neg (by omega)]
      unfold Lib.parseMag
      rw [if_neg (by simp), hp]
      dsimp only
      rw [if_neg (by omega), if_neg (by omega), if_neg (by omega)]
      congr 1
      omega
theorem itoa_inj {n m : Int} (hn : inInt n) (hm : inInt m) (h : Lib.itoa n = Lib.itoa m) : n = m := by
  have h1 := atoi_itoa n hn
  rw [h, atoi_itoa m hm] at h1
  injection h1 with h1
  exact h1.symm
theorem itoa_dot (n : Int) : (46 : UInt8) ∉ Lib.itoa n := by
  intro h
  unfold Lib.itoa at h
  split at h
  · rcases List.mem_cons.1 h with h1 | h1
    · exact absurd h1 (by decide)
    · have := dec_digit _ _ h1
      have e : (46 : UInt8).toNat = 46 := rfl
      omega
  · have := dec_digit _ _ h
    have e : (46 : UInt8).toNat = 46 := rfl
    omega

/-! ### pieces between dots -/
theorem dot_head : ∀ {a b x y : List UInt8}, (46 : UInt8) ∉ a → (46 : UInt8) ∉ b → a ++ 46 :: x = b ++ 46 :: y → a = b ∧ x = y
  | [], [], x, y, _, _, h => by simpa using h
  | [], c :: b, x, y, _, hb, h => by
    simp only [List.nil_append, List.cons_append, List.cons.injEq] at h
    exact absurd (by simp [h.1]) hb
  | c :: a, [], x, y, ha, _, h => by
    simp only [List.nil_append, List.cons_append, List.cons.injEq] at h
    exact absurd (by simp [← h.1]) ha
  | c :: a, d :: b, x, y, ha, hb, h => by
    simp only [List.cons_append, List.cons.injEq] at h
    obtain ⟨h1, h2⟩ := dot_head (fun h9 => ha (by simp [h9])) (fun h9 => hb (by simp [h9])) h.2
    exact ⟨by rw [h.1, h1], h2⟩
/-- pieces, a dot behind each -/
def dots (l : List (List UInt8)) : List UInt8 := l.flatMap fun p => p ++ [46]
theorem dots_cons (p : List UInt8) (l : List (List UInt8)) : dots (p :: l) = p ++ 46 :: dots l := by simp [dots]
theorem dots_snoc (l : List (List UInt8)) (p : List UInt8) : dots (l ++ [p]) = dots l ++ (p ++ [46]) := by simp [dots]
theorem dots_split : ∀ {vs ws : List (List UInt8)} {rest : List UInt8}, (∀ v ∈ vs, (46 : UInt8) ∉ v) → (∀ v ∈ ws, (46 : UInt8) ∉ v) → dots vs ++ rest = dots ws → ∃ us, ws = vs ++ us ∧ rest = dots us
  | [], ws, rest, _, _, h => ⟨ws, rfl, by simpa [dots] using h⟩
  | v :: vs, [], rest, _, _, h => by
    rw [dots_cons] at h
    simp [dots] at h
  | v :: vs, w :: ws, rest, hv, hw, h => by
    rw [dots_cons, dots_cons, List.append_assoc, List.cons_append] at h
    obtain ⟨h1, h2⟩ := dot_head (hv v (by simp)) (hw w (by simp)) h
    obtain ⟨us, h3, h4⟩ := dots_split (fun u hu => hv u (by simp [hu])) (fun u hu => hw u (by simp [hu])) h2
    exact ⟨us, by rw [h1, h3]; rfl, h4⟩

/-! ### a stamp as a text -/
def printS (t : Stamp) : List UInt8 := Lib.itoa t.wall ++ [46] ++ Lib.itoa t.logical ++ [46] ++ Lib.itoa t.node
theorem print_dots (t : Stamp) : printS t ++ [46] = dots [Lib.itoa t.wall, Lib.itoa t.logical, Lib.itoa t.node] := by simp [printS, dots]
theorem three_dot (t : Stamp) : ∀ v ∈ [Lib.itoa t.wall, Lib.itoa t.logical, Lib.itoa t.node], (46 : UInt8) ∉ v := by
  intro v hv
  simp only [List.mem_cons, List.not_mem_nil, or_false] at hv
  rcases hv with rfl | rfl | rfl <;> exact itoa_dot _
theorem may_in {t : Stamp} (h : may t = true) : inInt t.wall ∧ inInt t.logical ∧ inInt t.node := by
  unfold may at h
  simp only [decide_eq_true_eq] at h
  unfold inInt
  omega
theorem print_inj {t u : Stamp} (ht : inInt t.wall ∧ inInt t.logical ∧ inInt t.node) (hu : inInt u.wall ∧ inInt u.logical ∧ inInt u.node) (h : printS t = printS u) : t = u := by
  have h1 : dots [Lib.itoa t.wall, Lib.itoa t.logical, Lib.itoa t.node] ++ [] = dots [Lib.itoa u.wall, Lib.itoa u.logical, Lib.itoa u.node] := by rw [List.append_nil, ← print_dots, ← print_dots, h]
  obtain ⟨us, h2, h3⟩ := dots_split (three_dot _) (three_dot _) h1
  have h4 : us = [] := by
    cases us with
    | nil => rfl
    | cons a b => rw [dots_cons] at h3; simp at h3
  subst h4
  simp at h2
  obtain ⟨a, b, c⟩ := t
  obtain ⟨d, e, f⟩ := u
  have e1 := itoa_inj ht.1 hu.1 h2.1.symm
  have e2 := itoa_inj ht.2.1 hu.2.1 h2.2.1.symm
  have e3 := itoa_inj ht.2.2 hu.2.2 h2.2.2.symm
  simp only at e1 e2 e3
  rw [e1, e2, e3]
/-- what a text is read as -/
def Parsed (s : List UInt8) (x y z e : Int) : Prop :=
  (e = 0 ∧ may ⟨x, y, z⟩ = true ∧ s = printS ⟨x, y, z⟩) ∨ (e = 4 ∧ x = 0 ∧ y = 0 ∧ z = 0 ∧ ∀ t, may t = true → s ≠ printS t)
theorem Parsed.one {s : List UInt8} {x y z e x' y' z' e' : Int} (h : Parsed s x y z e) (k : Parsed s x' y' z' e') : x = x' ∧ y = y' ∧ z = z' ∧ e = e' := by
  rcases h with ⟨rfl, h1, h2⟩ | ⟨rfl, rfl, rfl, rfl, h1⟩
  · rcases k with ⟨rfl, k1, k2⟩ | ⟨rfl, rfl, rfl, rfl, k1⟩
    · have := print_inj (may_in h1) (may_in k1) (h2.symm.trans k2)
      simp only [Stamp.mk.injEq] at this
      exact ⟨this.1, this.2.1, this.2.2, rfl⟩
    · exact absurd h2 (k1 _ h1)
  · rcases k with ⟨rfl, k1, k2⟩ | ⟨rfl, rfl, rfl, rfl, k1⟩
    · exact absurd k2 (h1 _ k1)
    · exact ⟨rfl, rfl, rfl, rfl⟩

/-! ### read by the numbers between the dots -/
def itoas (vs : List Int) : List (List UInt8) := vs.map Lib.itoa
theorem itoas_dot (vs : List Int) : ∀ v ∈ itoas vs, (46 : UInt8) ∉ v := fun v hv => by
  obtain ⟨n, -, rfl⟩ := List.mem_map.1 hv
  exact itoa_dot n
def arr (vs : List Int) : List Value := [.int .i64 (vs.getD 0 0), .int .i64 (vs.getD 1 0), .int .i64 (vs.getD 2 0)]
theorem arr_set {vs : List Int} (h : vs.length < 3) (v : Int) (k : Nat) (hk : k = vs.length) : (arr vs).set k (.int .i64 v) = arr (vs ++ [v]) := by
  subst hk
  match vs, h with
  | [], _ => rfl
  | [a], _ => rfl
  | [a, b], _ => rfl
  | _ :: _ :: _ :: _, h => simp only [List.length_cons] at h; omega
/-- how far it has been read -/
def Got (s : List UInt8) (vs : List Int) (from_ i : Nat) : Prop :=
  from_ ≤ i ∧ i ≤ s.length + 1 ∧ (s ++ [46]).take from_ = dots (itoas vs) ∧ (46 : UInt8) ∉ ((s ++ [46]).take i).drop from_
theorem Got.init (s : List UInt8) : Got s [] 0 0 := ⟨Nat.le_refl _, Nat.zero_le _, by simp [itoas, dots], by simp⟩
theorem Got.skip {s : List UInt8} {vs : List Int} {f i : Nat} (h : Got s vs f i) {b : UInt8} (hb : s[i]? = some b) (hne : b ≠ 46) : Got s vs f (i + 1) := by
  obtain ⟨h1, h2, h3, h4⟩ := h
  have hi := (List.getElem?_eq_some_iff.1 hb).1
  refine ⟨by omega, by omega, h3, ?_⟩
  have hu : (s ++ [46])[i]? = some b := by rw [List.getElem?_append_left hi]; exact hb
  obtain ⟨h5, h6⟩ := List.getElem?_eq_some_iff.1 hu
  rw [List.take_succ_eq_append_getElem h5, List.drop_append_of_le_length (by rw [List.length_take]; omega), List.mem_append, List.mem_singleton, h6]
  rintro (h9 | h9)
  · exact h4 h9
  · exact hne h9.symm
/-- the piece that ends at i -/
def pcs (s : List UInt8) (f i : Nat) : List UInt8 := (s.take i).drop f
theorem Got.piece {s : List UInt8} {vs : List Int} {f i : Nat} (h : Got s vs f i) (hi : i ≤ s.length) : (46 : UInt8) ∉ pcs s f i := by
  have h4 := h.2.2.2
  rw [List.take_append_of_le_length hi] at h4
  exact h4
theorem Got.dot {s : List UInt8} {vs : List Int} {f i : Nat} (h : Got s vs f i) (hi : i ≤ s.length) (hd : (s ++ [46])[i]? = some 46) : s ++ [46] = dots (itoas vs) ++ (pcs s f i ++ 46 :: (s ++ [46]).drop (i + 1)) := by
  obtain ⟨h1, h2, h3, h4⟩ := h
  obtain ⟨h5, h6⟩ := List.getElem?_eq_some_iff.1 hd
  rw [← h3]
  conv => lhs; rw [← List.take_append_drop i (s ++ [46]), List.drop_eq_getElem_cons h5, h6]
  rw [← List.append_assoc]
  congr 1
  unfold pcs
  rw [List.take_append_of_le_length hi, List.take_append_of_le_length (by omega)]
  conv => lhs; rw [← List.take_append_drop f (s.take i), List.take_take, Nat.min_eq_left h1]
theorem Got.next {s : List UInt8} {vs : List Int} {f i : Nat} (h : Got s vs f i) (hi : i ≤ s.length) (hd : (s ++ [46])[i]? = some 46) {v : Int} (hv : Lib.itoa v = pcs s f i) : Got s (vs ++ [v]) (i + 1) (i + 1) := by
  have h9 := h.dot hi hd
  obtain ⟨h1, h2, h3, h4⟩ := h
  have hl := (List.getElem?_eq_some_iff.1 hd).1
  refine ⟨Nat.le_refl _, by simp at hl; omega, ?_, by rw [List.drop_eq_nil_of_le (by rw [List.length_take]; omega)]; simp⟩
  have e : itoas (vs ++ [v]) = itoas vs ++ [Lib.itoa v] := by simp [itoas]
  rw [e, dots_snoc, hv]
  have h10 : dots (itoas vs) ++ (pcs s f i ++ [46]) ++ (s ++ [46]).drop (i + 1) = s ++ [46] := by
    conv => rhs; rw [h9]
    simp
  have h11 : (dots (itoas vs) ++ (pcs s f i ++ [46])).length = i + 1 := by
    have := congrArg List.length h10
    simp only [List.length_append, List.length_drop] at this ⊢
    simp only [List.length_append] at hl
    simp only [List.length_cons, List.length_nil] at this hl ⊢
    omega
  conv => lhs; rw [← h10]
  rw [List.take_left' h11]
/-- what is no numeral between dots is no stamp's -/
theorem Got.bad {s : List UInt8} {vs : List Int} {f i : Nat} (h : Got s vs f i) (hi : i ≤ s.length) (hd : (s ++ [46])[i]? = some 46) (hbad : 3 ≤ vs.length ∨ ∀ n, inInt n → Lib.itoa n ≠ pcs s f i) (t : Stamp) (ht : may t = true) : s ≠ printS t := fun hs => by
  have h9 := h.dot hi hd
  rw [hs, print_dots, ← hs] at h9
  obtain ⟨us, h1, h2⟩ := dots_split (itoas_dot vs) (three_dot _) h9.symm
  cases us with
  | nil => simp [dots] at h2
  | cons u us =>
    rw [dots_cons u us] at h2
    have hdu : (46 : UInt8) ∉ u := three_dot t u (by rw [h1]; simp)
    obtain ⟨h3, -⟩ := dot_head (h.piece hi) hdu h2
    have hl := congrArg List.length h1
    simp [itoas] at hl
    rcases hbad with h4 | h4
    · omega
    · have hmem : u ∈ [Lib.itoa t.wall, Lib.itoa t.logical, Lib.itoa t.node] := by rw [h1]; simp
      obtain ⟨m1, m2, m3⟩ := may_in ht
      simp at hmem
      rcases hmem with rfl | rfl | rfl
      · exact h4 _ m1 h3.symm
      · exact h4 _ m2 h3.symm
      · exact h4 _ m3 h3.symm
theorem Got.end {s : List UInt8} {vs : List Int} {f : Nat} (h : Got s vs f (s.length + 1)) (hf : f = s.length + 1) : s ++ [46] = dots (itoas vs) := by
  have h3 := h.2.2.1
  subst hf
  rw [List.take_of_length_le (by simp)] at h3
  exact h3
theorem Got.three {s : List UInt8} {vs : List Int} (h : s ++ [46] = dots (itoas vs)) (hin : ∀ v ∈ vs, inInt v) : (∀ t, may t = true → s = printS t → vs = [t.wall, t.logical, t.node]) ∧ ∀ a b c, vs = [a, b, c] → s = printS ⟨a, b, c⟩ := by
  refine ⟨fun t ht hs => ?_, fun a b c hv => ?_⟩
  · rw [hs, print_dots] at h
    obtain ⟨us, h1, h2⟩ := dots_split (rest := []) (itoas_dot vs) (three_dot _) (by rw [List.append_nil]; exact h.symm)
    have h4 : us = [] := by
      cases us with
      | nil => rfl
      | cons a b => rw [dots_cons] at h2; simp at h2
    subst h4
    rw [List.append_nil] at h1
    obtain ⟨m1, m2, m3⟩ := may_in ht
    match vs, h1, hin with
    | [], h1, _ => simp [itoas] at h1
    | [_], h1, _ => simp [itoas] at h1
    | [_, _], h1, _ => simp [itoas] at h1
    | [a, b, c], h1, hin =>
      simp [itoas] at h1
      rw [itoa_inj m1 (hin a (by simp)) h1.1, itoa_inj m2 (hin b (by simp)) h1.2.1, itoa_inj m3 (hin c (by simp)) h1.2.2]
    | _ :: _ :: _ :: _ :: _, h1, _ => simp [itoas] at h1
  · subst hv
    have : s ++ [46] = printS ⟨a, b, c⟩ ++ [46] := by rw [h, print_dots]; rfl
    exact List.append_cancel_right this

/-! ### read sign by sign -/
structure RS where
  k : Nat
  d : Nat
  ns : List Int
def rd (st : RS) (c : UInt8) : Option RS :=
  if c.toNat = 46 ∧ 0 < st.d ∧ st.k < 2 then some ⟨st.k + 1, 0, st.ns⟩
  else if (48 ≤ c.toNat ∧ c.toNat ≤ 57) ∧ st.d < 16 then some ⟨st.k, st.d + 1, st.ns.set st.k (10 * st.ns.getD st.k 0 + ((c.toNat - 48 : Nat) : Int))⟩
  else none
def rdAll (st : Option RS) (l : List UInt8) : Option RS := l.foldl (fun o c => o.bind fun st => rd st c) st
theorem rdAll_none (l : List UInt8) : rdAll none l = none := by
  unfold rdAll
  induction l with
  | nil => rfl
  | cons c l ih => simpa using ih
theorem rdAll_append (st : Option RS) (l m : List UInt8) : rdAll st (l ++ m) = rdAll (rdAll st l) m := by unfold rdAll; rw [List.foldl_append]
theorem rdAll_snoc {s : List UInt8} {i : Nat} {c : UInt8} (h : s[i]? = some c) (st : Option RS) : rdAll st (s.take (i + 1)) = (rdAll st (s.take i)).bind fun st => rd st c := by
  obtain ⟨hi, rfl⟩ := List.getElem?_eq_some_iff.1 h
  rw [List.take_succ_eq_append_getElem hi, rdAll_append]
  rfl
theorem rdAll_dead {s : List UInt8} {i : Nat} {c : UInt8} (h : s[i]? = some c) {st : Option RS} {q : RS} (hq : rdAll st (s.take i) = some q) (hd : rd q c = none) : rdAll st s = none := by
  have h1 := rdAll_snoc h st
  rw [hq] at h1
  simp only [Option.bind_some, hd] at h1
  conv => lhs; rw [← List.take_append_drop (i + 1) s]
  rw [rdAll_append, h1, rdAll_none]
theorem nd_le9 (b : Nat) : ∀ u : Nat, u < 10 ^ b → 0 < b → (Lib.decDigits u).length ≤ b := by
  induction b with
  | zero => intro u _ h; omega
  | succ b ih =>
    intro u hu _
    by_cases h : u < 10
    · rw [Lib.decDigits_one h]; simp
    · rw [Lib.decDigits, dif_neg h, List.length_append]
      rcases Nat.eq_zero_or_pos b with h0 | h0
      · subst h0; omega
      · have := ih (u / 10) (by rw [Nat.pow_succ] at hu; omega) h0
        simp only [List.length_cons, List.length_nil]; omega
theorem rd_dec (k : Nat) (ns : List Int) (hk : k < ns.length) (h0 : ns.getD k 0 = 0) (m : Nat) : (Lib.decDigits m).length ≤ 16 → rdAll (some ⟨k, 0, ns⟩) (Lib.decDigits m) = some ⟨k, (Lib.decDigits m).length, ns.set k (m : Int)⟩ := by
  induction m using Nat.strongRecOn with
  | _ m ih =>
    intro hl
    by_cases h : m < 10
    · rw [Lib.decDigits_one h]
      have hd := digit_of m h
      simp only [rdAll, List.foldl_cons, List.foldl_nil, Option.bind_some, rd, hd]
      rw [if_neg (by omega), if_pos (by omega), h0]
      simp
    · rw [Lib.decDigits, dif_neg h] at hl ⊢
      rw [rdAll_append, ih (m / 10) (by omega) (by rw [List.length_append] at hl; omega)]
      have hd := digit_of (m % 10) (by omega)
      simp only [rdAll, List.foldl_cons, List.foldl_nil, Option.bind_some, rd, hd]
      rw [List.length_append] at hl
      rw [if_neg (by omega), if_pos (by simp at hl; omega)]
      simp only [Option.some.injEq, RS.mk.injEq, true_and]
      refine ⟨by simp, ?_⟩
      rw [List.set_set]
      congr 1
      have : (ns.set k ((m / 10 : Nat) : Int)).getD k 0 = ((m / 10 : Nat) : Int) := by simp [List.getD, hk]
      rw [this]
      omega
theorem rd_print (t : Stamp) (ht : may t = true) : ∃ d, rdAll (some ⟨0, 0, [0, 0, 0]⟩) (printS t) = some ⟨2, d, [t.wall, t.logical, t.node]⟩ := by
  obtain ⟨a, b, c⟩ := t
  unfold may at ht
  simp only [decide_eq_true_eq] at ht
  obtain ⟨u, rfl⟩ : ∃ u : Nat, a = u := ⟨a.toNat, by omega⟩
  obtain ⟨v, rfl⟩ : ∃ u : Nat, b = u := ⟨b.toNat, by omega⟩
  obtain ⟨w, rfl⟩ : ∃ u : Nat, c = u := ⟨c.toNat, by omega⟩
  have hu := nd_le9 16 u (by omega) (by omega)
  have hv := nd_le9 16 v (by omega) (by omega)
  have hw := nd_le9 16 w (by omega) (by omega)
  have pu : 0 < (Lib.decDigits u).length := List.length_pos_iff.2 (dec_ne u)
  have pv : 0 < (Lib.decDigits v).length := List.length_pos_iff.2 (dec_ne v)
  have dot : ∀ k d ns, 0 < d → k < 2 → rdAll (some ⟨k, d, ns⟩) [46] = some ⟨k + 1, 0, ns⟩ := fun k d ns hd hk => by
    have e : (46 : UInt8).toNat = 46 := rfl
    simp [rdAll, rd, hd, hk, e]
  refine ⟨(Lib.decDigits w).length, ?_⟩
  unfold printS
  simp only [Lib.itoa_nonneg]
  rw [rdAll_append, rdAll_append, rdAll_append, rdAll_append, rd_dec 0 [0, 0, 0] (by simp) rfl u hu, dot _ _ _ pu (by omega), rd_dec 1 _ (by simp) rfl v hv, dot _ _ _ pv (by omega), rd_dec 2 _ (by simp) rfl w hw]
  rfl
theorem arr_set3 {ns : List Int} (h : ns.length = 3) (k : Nat) (hk : k < 3) (v : Int) : (arr ns).set k (.int .i64 v) = arr (ns.set k v) := by
  match ns, h, k, hk with
  | [a, b, c], _, 0, _ => rfl
  | [a, b, c], _, 1, _ => rfl
  | [a, b, c], _, 2, _ => rfl
  | [a, b, c], _, k + 3, hk => omega
theorem arr_get {ns : List Int} (k : Nat) (hk : k < 3) : (arr ns)[k]? = some (.int .i64 (ns.getD k 0)) := by
  match k, hk with
  | 0, _ => rfl
  | 1, _ => rfl
  | 2, _ => rfl
  | k + 3, hk => omega


end Go.Proofs.YtioebjimkainjaaDoor
