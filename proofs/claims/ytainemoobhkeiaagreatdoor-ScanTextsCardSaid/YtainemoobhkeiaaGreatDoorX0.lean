/- Texts between quotes, read, plainly. -/
import Derived.Test.YtainemoobhkeiaaGreatDoorN4
import Derived.Test.YtainemoobhkeiaaGreatDoorN0
import Derived.Test.YtainemoobhkeiaaGreatDoorX1
import Derived.Lib.Bytealg
set_option linter.unusedSimpArgs false
set_option linter.unusedVariables false
namespace Go.Proofs.YtainemoobhkeiaaGreatDoor
open Sx
theorem hex_inj : ∀ i < 16, ∀ j < 16, hexd.getD i 0 = hexd.getD j 0 → i = j := by decide
theorem hex_ne : ∀ i < 16, hexd.getD i 0 ≠ 34 ∧ hexd.getD i 0 ≠ 32 := by decide
theorem esc_plain {c : UInt8} (h : plainB c = true) : esc c = [c] := by unfold esc; rw [if_pos h]
theorem esc_code {c : UInt8} (h : plainB c = false) : esc c = [92, hexd.getD (c.toNat / 16) 0, hexd.getD (c.toNat % 16) 0] := by unfold esc; rw [if_neg (by simp [h])]
theorem plain_ne {c : UInt8} (h : plainB c = true) : c ≠ 92 ∧ c ≠ 34 := by
  unfold plainB at h
  rw [decide_eq_true_eq] at h
  refine ⟨fun h9 => ?_, fun h9 => ?_⟩ <;> (subst h9; revert h; decide)
theorem esc_same {c d : UInt8} {r s : List UInt8} (h : esc c ++ r = esc d ++ s) : c = d ∧ r = s := by
  cases hc : plainB c <;> cases hd : plainB d
  · rw [esc_code hc, esc_code hd] at h
    simp only [List.cons_append, List.nil_append, List.cons.injEq, true_and] at h
    obtain ⟨h1, h2, h3⟩ := h
    have b1 := c.toNat_lt
    have b2 := d.toNat_lt
    have e1 := hex_inj _ (by omega) _ (by omega) h1
    have e2 := hex_inj _ (by omega) _ (by omega) h2
    exact ⟨UInt8.toNat_inj.1 (by omega), h3⟩
  · rw [esc_code hc, esc_plain hd] at h
    simp only [List.cons_append, List.nil_append, List.cons.injEq] at h
    exact absurd h.1.symm (plain_ne hd).1
  · rw [esc_plain hc, esc_code hd] at h
    simp only [List.cons_append, List.nil_append, List.cons.injEq] at h
    exact absurd h.1 (plain_ne hc).1
  · rw [esc_plain hc, esc_plain hd] at h
    simpa using h
theorem esc_ne (c : UInt8) : ∃ x l, esc c = x :: l := by
  cases hc : plainB c
  · exact ⟨_, _, esc_code hc⟩
  · exact ⟨_, _, esc_plain hc⟩
theorem esc_cut {s t r : List UInt8} (h : s.flatMap esc ++ r = t.flatMap esc) : ∃ t', t = s ++ t' ∧ r = t'.flatMap esc := by
  induction s generalizing t with
  | nil => exact ⟨t, rfl, h⟩
  | cons c s ih =>
    cases t with
    | nil =>
      obtain ⟨x, l, hx⟩ := esc_ne c
      rw [List.flatMap_cons, hx] at h
      cases h
    | cons d t =>
      rw [List.flatMap_cons, List.flatMap_cons, List.append_assoc] at h
      obtain ⟨rfl, h2⟩ := esc_same h
      obtain ⟨t', rfl, h3⟩ := ih h2
      exact ⟨t', rfl, h3⟩
theorem esc_inj {s t : List UInt8} (h : s.flatMap esc = t.flatMap esc) : s = t := by
  obtain ⟨t', rfl, h2⟩ := esc_cut (s := s) (r := []) (t := t) (by rw [List.append_nil]; exact h)
  cases t' with
  | nil => simp
  | cons c t' =>
    obtain ⟨x, l, hx⟩ := esc_ne c
    rw [List.flatMap_cons, hx] at h2
    cases h2
theorem quote_inj {s t : List UInt8} (h : quote s = quote t) : s = t := by
  unfold quote at h
  simp only [List.cons_append, List.cons.injEq, true_and] at h
  exact esc_inj (List.append_cancel_right h)
open Classical in
noncomputable def unq (s : List UInt8) : List UInt8 × Int := if h : ∃ t, quote t = s then (h.choose, 0) else ([], 4)
theorem unq_yes {s t : List UInt8} (h : quote t = s) : unq s = (t, 0) := by
  have h1 : ∃ t, quote t = s := ⟨t, h⟩
  unfold unq
  rw [dif_pos h1, quote_inj (h1.choose_spec.trans h.symm)]
theorem unq_no {s : List UInt8} (h : ∀ t, quote t ≠ s) : unq s = ([], 4) := by
  unfold unq
  rw [dif_neg (fun h1 => h _ h1.choose_spec)]
theorem unq_quote (t : List UInt8) : unq (quote t) = (t, 0) := unq_yes rfl
theorem quote_len (t : List UInt8) : t.length + 2 ≤ (quote t).length := by
  unfold quote
  have h : ∀ l : List UInt8, l.length ≤ (l.flatMap esc).length := fun l => by
    induction l with
    | nil => simp
    | cons c l ih =>
      obtain ⟨x, r, hx⟩ := esc_ne c
      rw [List.flatMap_cons, List.length_append, hx]
      simp only [List.length_cons]
      omega
  have := h t
  simp only [List.length_cons, List.length_append, List.length_nil]
  omega
theorem unq_len (s : List UInt8) : (unq s).1.length ≤ s.length := by
  by_cases h : ∃ t, quote t = s
  · obtain ⟨t, rfl⟩ := h
    rw [unq_quote]
    have := quote_len t
    show t.length ≤ _
    omega
  · rw [unq_no (fun t ht => h ⟨t, ht⟩)]
    exact Nat.zero_le _
def inn (s : List UInt8) : List UInt8 := (s.drop 1).take (s.length - 2)
theorem inn_quote (t : List UInt8) : inn (quote t) = t.flatMap esc := by
  unfold inn quote
  simp
theorem quote_of {s : List UInt8} (h1 : 2 ≤ s.length) (h2 : s[0]? = some 34) (h3 : s[s.length - 1]? = some 34) : 34 :: inn s ++ [34] = s := by
  obtain ⟨c, l, rfl⟩ : ∃ c l, s = c :: l := by
    cases s with
    | nil => simp at h1
    | cons c l => exact ⟨c, l, rfl⟩
  simp only [List.getElem?_cons_zero, Option.some.injEq] at h2
  subst h2
  simp only [List.length_cons] at h1 h3
  obtain ⟨m, x, rfl⟩ : ∃ m x, l = m ++ [x] := ⟨l.dropLast, l.getLast (by intro h; subst h; simp at h1), (List.dropLast_concat_getLast _).symm⟩
  simp at h3
  subst h3
  unfold inn
  simp
theorem quote_at0 (t : List UInt8) : (quote t)[0]? = some 34 := rfl
theorem quote_atl (t : List UInt8) : (quote t)[(quote t).length - 1]? = some 34 := by
  unfold quote
  simp
def hexv (c : UInt8) : Int := if 48 ≤ c.toNat ∧ c.toNat ≤ 57 then (c.toNat : Int) - 48 else if 97 ≤ c.toNat ∧ c.toNat ≤ 102 then (c.toNat : Int) - 97 + 10 else -1
theorem hexv_hex : ∀ k < 16, hexv (hexd.getD k 0) = (k : Int) := by decide
theorem hexv_all : ∀ n < 256, hexv (UInt8.ofNat n) = -1 ∨ 0 ≤ hexv (UInt8.ofNat n) ∧ hexv (UInt8.ofNat n) < 16 ∧ hexd.getD (hexv (UInt8.ofNat n)).toNat 0 = UInt8.ofNat n := by decide +kernel
theorem hexv_of (c : UInt8) : hexv c = -1 ∨ 0 ≤ hexv c ∧ hexv c < 16 ∧ hexd.getD (hexv c).toNat 0 = c := by
  have h := hexv_all c.toNat c.toNat_lt
  rw [UInt8.ofNat_toNat] at h
  exact h
def hex2 (x y : UInt8) : UInt8 := UInt8.ofNat ((hexv x).toNat * 16 + (hexv y).toNat)
theorem hex2_esc {x y : UInt8} (hx : 0 ≤ hexv x) (hy : 0 ≤ hexv y) (hp : plainB (hex2 x y) = false) : esc (hex2 x y) = [92, x, y] := by
  rw [esc_code hp]
  rcases hexv_of x with h | ⟨-, h1, h2⟩
  · omega
  rcases hexv_of y with h | ⟨-, h3, h4⟩
  · omega
  have e : (hex2 x y).toNat = (hexv x).toNat * 16 + (hexv y).toNat := by
    unfold hex2
    rw [UInt8.toNat_ofNat_of_lt' (by show _ < 256; omega)]
  rw [e, show ((hexv x).toNat * 16 + (hexv y).toNat) / 16 = (hexv x).toNat from by omega, show ((hexv x).toNat * 16 + (hexv y).toNat) % 16 = (hexv y).toNat from by omega, h2, h4]
theorem hex2_hex (d : UInt8) : hex2 (hexd.getD (d.toNat / 16) 0) (hexd.getD (d.toNat % 16) 0) = d := by
  have b := d.toNat_lt
  unfold hex2
  rw [hexv_hex _ (by omega), hexv_hex _ (by omega)]
  apply UInt8.toNat_inj.1
  rw [UInt8.toNat_ofNat_of_lt' (by show _ < 256; omega)]
  omega
def Unq (m : List UInt8) (i : Nat) (t : List UInt8) : Prop := i ≤ m.length ∧ t.flatMap esc = m.take i
theorem Unq.start (m : List UInt8) : Unq m 0 [] := ⟨Nat.zero_le _, rfl⟩
theorem Unq.plain {m : List UInt8} {i : Nat} {t : List UInt8} {c : UInt8} (h : Unq m i t) (ho : m[i]? = some c) (hp : plainB c = true) : Unq m (i + 1) (t ++ [c]) := by
  obtain ⟨hi, rfl⟩ := List.getElem?_eq_some_iff.1 ho
  refine ⟨hi, ?_⟩
  rw [List.flatMap_append, h.2, List.take_succ_eq_append_getElem hi]
  simp [esc_plain hp]
theorem take3 {m : List UInt8} {i : Nat} {a b c : UInt8} (h0 : m[i]? = some a) (h1 : m[i + 1]? = some b) (h2 : m[i + 2]? = some c) : m.take (i + 3) = m.take i ++ [a, b, c] := by
  rw [List.take_add_one, List.take_add_one, List.take_add_one, h0, h1, h2]
  simp
theorem Unq.code {m : List UInt8} {i : Nat} {t : List UInt8} {x y : UInt8} (h : Unq m i t) (h0 : m[i]? = some 92) (h1 : m[i + 1]? = some x) (h2 : m[i + 2]? = some y) (hx : 0 ≤ hexv x) (hy : 0 ≤ hexv y) (hp : plainB (hex2 x y) = false) :
    Unq m (i + 3) (t ++ [hex2 x y]) := by
  obtain ⟨hi, -⟩ := List.getElem?_eq_some_iff.1 h2
  refine ⟨by omega, ?_⟩
  rw [List.flatMap_append, h.2, take3 h0 h1 h2]
  simp [hex2_esc hx hy hp]
theorem Unq.len {m : List UInt8} {i : Nat} {t : List UInt8} (h : Unq m i t) : t.length ≤ m.length := by
  have h1 := quote_len t
  have h2 : (quote t).length = (t.flatMap esc).length + 2 := by unfold quote; simp
  rw [h.2, List.length_take] at h2
  have := h.1
  omega
theorem Unq.next {s : List UInt8} {i : Nat} {t t' : List UInt8} {c : UInt8} (h : Unq (inn s) i t) (ho : (inn s)[i]? = some c) (hq : quote t' = s) :
    plainB c = true ∨ plainB c = false ∧ c = 92 ∧ ∃ d : UInt8, plainB d = false ∧ (inn s)[i + 1]? = some (hexd.getD (d.toNat / 16) 0) ∧ (inn s)[i + 2]? = some (hexd.getD (d.toNat % 16) 0) := by
  subst hq
  rw [inn_quote] at h ho ⊢
  have hi := (List.getElem?_eq_some_iff.1 ho).1
  obtain ⟨t2, rfl, h2⟩ := esc_cut (s := t) (t := t') (r := (t'.flatMap esc).drop i) (by rw [h.2, List.take_append_drop])
  have e : ∀ k, (List.flatMap esc (t ++ t2))[i + k]? = (t2.flatMap esc)[k]? := fun k => by rw [← h2, List.getElem?_drop]
  have e0 := e 0
  rw [Nat.add_zero, ho] at e0
  rw [e 1, e 2]
  cases t2 with
  | nil => simp at e0
  | cons d t2 =>
    cases hd : plainB d
    · rw [List.flatMap_cons, esc_code hd] at e0 ⊢
      simp at e0
      subst e0
      exact .inr ⟨by decide, rfl, d, hd, rfl, rfl⟩
    · rw [List.flatMap_cons, esc_plain hd] at e0
      simp at e0
      subst e0
      exact .inl hd
theorem Unq.end_ {s t : List UInt8} (h : Unq (inn s) (inn s).length t) (h1 : 2 ≤ s.length) (h2 : s[0]? = some 34) (h3 : s[s.length - 1]? = some 34) : unq s = (t, 0) :=
  unq_yes (by
    unfold quote
    rw [h.2, List.take_length]
    exact quote_of h1 h2 h3)
theorem inn_len {s : List UInt8} (h1 : 2 ≤ s.length) : (inn s).length = s.length - 2 := by
  unfold inn
  rw [List.length_take, List.length_drop]
  omega
def Unx (s : List UInt8) (i : Nat) (out : List UInt8) : Prop := ∀ t, quote t = s → ∃ k, k ≤ t.length ∧ i = 1 + ((t.take k).flatMap esc).length ∧ out = t.take k
theorem Unx.start (s : List UInt8) : Unx s 1 [] := fun t _ => ⟨0, Nat.zero_le _, rfl, rfl⟩
theorem Unx.at_ {s : List UInt8} {i : Nat} {out : List UInt8} {c : UInt8} {t : List UInt8} (h : Unx s i out) (hi : i < s.length - 1) (ho : s[i]? = some c) (hq : quote t = s) :
    ∃ k d, t[k]? = some d ∧ i = 1 + ((t.take k).flatMap esc).length ∧ out = t.take k ∧ (plainB d = true ∧ d = c ∨ plainB d = false ∧ c = 92 ∧ i + 3 < s.length ∧ s[i + 1]? = some (hexd.getD (d.toNat / 16) 0) ∧ s[i + 2]? = some (hexd.getD (d.toNat % 16) 0)) := by
  obtain ⟨k, hk, hi2, hout⟩ := h t hq
  have hs : s = 34 :: (t.take k).flatMap esc ++ ((t.drop k).flatMap esc ++ [34]) := by
    rw [← hq]
    unfold quote
    conv => lhs; rw [← List.take_append_drop k t, List.flatMap_append]
    simp
  have hkl : k < t.length := by
    rcases Nat.lt_or_ge k t.length with h9 | h9
    · exact h9
    · rw [List.drop_of_length_le h9] at hs
      have : s.length = ((t.take k).flatMap esc).length + 2 := by rw [hs]; simp only [List.length_append, List.length_cons, List.length_nil, List.flatMap_nil]
      omega
  have ho2 : t[k]? = some t[k] := List.getElem?_eq_getElem hkl
  have hd : t.drop k = t[k] :: t.drop (k + 1) := List.drop_eq_getElem_cons hkl
  have e : ∀ j, s[i + j]? = ((t.drop k).flatMap esc ++ [34])[j]? := fun j => by
    rw [hs, List.getElem?_append_right (by rw [List.length_cons]; omega)]
    congr 1
    rw [List.length_cons]
    omega
  refine ⟨k, t[k], ho2, hi2, hout, ?_⟩
  have e0 := e 0
  rw [Nat.add_zero, ho, hd, List.flatMap_cons] at e0
  cases hp : plainB t[k]
  · rw [esc_code hp] at e0
    simp at e0
    refine .inr ⟨rfl, e0, ?_, ?_, ?_⟩
    · have : s.length = 1 + ((t.take k).flatMap esc).length + ((t.drop k).flatMap esc).length + 1 := by
        rw [hs]; simp only [List.length_append, List.length_cons, List.length_nil]; omega
      rw [hd, List.flatMap_cons, esc_code hp] at this
      simp only [List.length_append, List.length_cons, List.length_nil] at this
      omega
    · rw [e 1, hd, List.flatMap_cons, esc_code hp]; rfl
    · rw [e 2, hd, List.flatMap_cons, esc_code hp]; rfl
  · rw [esc_plain hp] at e0
    simp at e0
    exact .inl ⟨rfl, e0.symm⟩
theorem Unx.byte {s : List UInt8} {i : Nat} {out : List UInt8} {c : UInt8} (h : Unx s i out) (hi : i < s.length - 1) (ho : s[i]? = some c) (hc : c ≠ 92) : Unx s (i + 1) (out ++ [c]) := fun t hq => by
  obtain ⟨k, d, hd, h2, h3, h4⟩ := h.at_ hi ho hq
  rcases h4 with ⟨hp, rfl⟩ | ⟨-, h9, -⟩
  · obtain ⟨hk, rfl⟩ := List.getElem?_eq_some_iff.1 hd
    refine ⟨k + 1, hk, ?_, ?_⟩
    · rw [List.take_succ_eq_append_getElem hk, List.flatMap_append, List.length_append, List.flatMap_cons, List.flatMap_nil, esc_plain hp]
      simp only [List.length_append, List.length_cons, List.length_nil]
      omega
    · rw [List.take_succ_eq_append_getElem hk, h3]
  · exact absurd h9 hc
theorem Unx.code {s : List UInt8} {i : Nat} {out : List UInt8} {x y : UInt8} (h : Unx s i out) (hi : i < s.length - 1) (ho : s[i]? = some 92) (h1 : s[i + 1]? = some x) (h2 : s[i + 2]? = some y) : Unx s (i + 3) (out ++ [hex2 x y]) := fun t hq => by
  obtain ⟨k, d, hd, e2, e3, h4⟩ := h.at_ hi ho hq
  rcases h4 with ⟨hp, rfl⟩ | ⟨hp, -, -, h5, h6⟩
  · exact absurd rfl (plain_ne hp).1
  · obtain ⟨hk, rfl⟩ := List.getElem?_eq_some_iff.1 hd
    rw [h1] at h5
    rw [h2] at h6
    cases h5
    cases h6
    rw [hex2_hex]
    refine ⟨k + 1, hk, ?_, ?_⟩
    · rw [List.take_succ_eq_append_getElem hk, List.flatMap_append, List.length_append, List.flatMap_cons, List.flatMap_nil, esc_code hp]
      simp only [List.length_append, List.length_cons, List.length_nil]
      omega
    · rw [List.take_succ_eq_append_getElem hk, e3]
theorem Unx.short {s : List UInt8} {i : Nat} {out : List UInt8} (h : Unx s i out) (hi : i < s.length - 1) (ho : s[i]? = some 92) (h9 : s.length ≤ i + 3) : unq s = ([], 4) := unq_no fun t hq => by
  obtain ⟨k, d, hd, e2, e3, h4⟩ := h.at_ hi ho hq
  rcases h4 with ⟨hp, rfl⟩ | ⟨hp, -, h5, -⟩
  · exact absurd rfl (plain_ne hp).1
  · omega
theorem Unx.bad {s : List UInt8} {i : Nat} {out : List UInt8} {x y : UInt8} (h : Unx s i out) (hi : i < s.length - 1) (ho : s[i]? = some 92) (h1 : s[i + 1]? = some x) (h2 : s[i + 2]? = some y) (h9 : hexv x < 0 ∨ hexv y < 0) : unq s = ([], 4) := unq_no fun t hq => by
  obtain ⟨k, d, hd, e2, e3, h4⟩ := h.at_ hi ho hq
  rcases h4 with ⟨hp, rfl⟩ | ⟨hp, -, -, h5, h6⟩
  · exact absurd rfl (plain_ne hp).1
  · rw [h1] at h5
    rw [h2] at h6
    cases h5
    cases h6
    have b := d.toNat_lt
    rw [hexv_hex _ (by omega), hexv_hex _ (by omega)] at h9
    omega
theorem Unx.end_ {s : List UInt8} {i : Nat} {out : List UInt8} (h : Unx s i out) (hi : ¬ i < s.length - 1) (h9 : quote out ≠ s) : unq s = ([], 4) := unq_no fun t hq => by
  obtain ⟨k, hk, h2, h3⟩ := h t hq
  have h4 : s.length = (t.flatMap esc).length + 2 := by rw [← hq]; unfold quote; simp
  have h5 := quote_len (t.drop k)
  have h6 : (quote (t.drop k)).length = ((t.drop k).flatMap esc).length + 2 := by unfold quote; simp
  have h7 : (t.flatMap esc).length = ((t.take k).flatMap esc).length + ((t.drop k).flatMap esc).length := by
    conv => lhs; rw [← List.take_append_drop k t, List.flatMap_append, List.length_append]
  have h8 : (t.drop k).length = t.length - k := List.length_drop
  obtain rfl : k = t.length := by omega
  rw [List.take_length] at h3
  exact h9 (by rw [h3]; exact hq)
theorem inn_eq (s : List UInt8) : (s.take (s.length - 1)).drop 1 = inn s := by
  unfold inn
  rw [List.drop_take]
  rfl
theorem unq_frame {s : List UInt8} (h : s.length < 2 ∨ s[0]? ≠ some 34 ∨ s[s.length - 1]? ≠ some 34) : unq s = ([], 4) := unq_no fun t hq => by
  subst hq
  rcases h with h | h | h
  · have := quote_len t
    omega
  · exact h (quote_at0 t)
  · exact h (quote_atl t)
theorem Unq.bad {s : List UInt8} {i : Nat} {t : List UInt8} {c : UInt8} (h : Unq (inn s) i t) (ho : (inn s)[i]? = some c) (hp : plainB c = false) (hb : c ≠ 92 ∨ (inn s).length < i + 3 ∨ (∃ x, (inn s)[i + 1]? = some x ∧ hexv x < 0) ∨ (∃ y, (inn s)[i + 2]? = some y ∧ hexv y < 0) ∨ ∃ x y, (inn s)[i + 1]? = some x ∧ (inn s)[i + 2]? = some y ∧ plainB (hex2 x y) = true) : unq s = ([], 4) := unq_no fun t' hq => by
  rcases h.next ho hq with h1 | ⟨-, h2, d, h3, h4, h5⟩
  · rw [hp] at h1; cases h1
  · have b := d.toNat_lt
    rcases hb with hb | hb | ⟨x, hx, hb⟩ | ⟨y, hy, hb⟩ | ⟨x, y, hx, hy, hb⟩
    · exact hb h2
    · have := (List.getElem?_eq_some_iff.1 h5).1
      omega
    · rw [h4] at hx
      cases hx
      rw [hexv_hex _ (by omega)] at hb
      omega
    · rw [h5] at hy
      cases hy
      rw [hexv_hex _ (by omega)] at hb
      omega
    · rw [h4] at hx
      rw [h5] at hy
      cases hx
      cases hy
      rw [hex2_hex, h3] at hb
      cases hb
theorem hexv_lt (c : UInt8) : hexv c < 16 ∧ -1 ≤ hexv c := by
  rcases hexv_of c with h | ⟨h1, h2, -⟩ <;> omega
theorem hex2_n (x y : UInt8) (hx : 0 ≤ hexv x) (hy : 0 ≤ hexv y) : (hex2 x y).toNat = (hexv x).toNat * 16 + (hexv y).toNat := by
  have h1 := hexv_lt x
  have h2 := hexv_lt y
  unfold hex2
  rw [UInt8.toNat_ofNat_of_lt' (by show _ < 256; omega)]
theorem or_nib {p q : Nat} (h : q < 16) : p * 2 ^ 4 ||| q = p * 16 + q := by
  rw [Nat.mul_comm, ← Nat.two_pow_add_eq_or_of_lt (i := 4) h p, Nat.mul_comm]
def hexw (c : UInt8) : Int := if hexv c < 0 then 16 else hexv c
theorem hexw_bd (c : UInt8) : 0 ≤ hexw c ∧ hexw c ≤ 16 ∧ (hexw c ≤ 15 ↔ 0 ≤ hexv c) ∧ (0 ≤ hexv c → hexw c = hexv c) := by
  have := hexv_lt c
  unfold hexw
  split <;> omega
theorem Unx.le {s : List UInt8} {i : Nat} (hi : i < s.length - 1) : i + 1 < s.length := by omega
theorem hexd_at (k : Nat) (h : k < 16) : (hexd.getD k 0).toNat = if k < 10 then 48 + k else 87 + k := by
  have h2 : ∀ k < 16, (hexd.getD k 0).toNat = if k < 10 then 48 + k else 87 + k := by decide
  exact h2 k h
theorem mayV_iff {v : Val} : mayV v = true ↔ v.kind = 0 ∧ v.num = 0 ∧ v.text = [] ∨ v.kind = 1 ∧ v.text = [] ∧ fcan v.num = v.num ∨ v.kind = 2 ∧ v.num = 0 ∧ v.text.length ≤ 64 := decide_eq_true_iff
/-! values as texts -/
def noneT : List UInt8 := [110, 111, 110, 101]
def zeroV : Val := ⟨0, 0, []⟩
def printV (v : Val) : List UInt8 := if mayV v = false then [63] else if v.kind = 1 then numP v.num else if v.kind = 2 then quote v.text else noneT
noncomputable def parseV (s : List UInt8) : Val × Int :=
  if s[0]? = some 34 then (if (unq s).2 = 0 then (if 64 < (unq s).1.length then (zeroV, 2) else (⟨2, 0, (unq s).1⟩, 0)) else (zeroV, (unq s).2))
  else if s = noneT then (zeroV, 0) else if (numR s).2 = 0 then (⟨1, (numR s).1, []⟩, 0) else (zeroV, (numR s).2)
theorem dec_no34 (u : Nat) (l : List UInt8) : (Lib.decDigits u ++ l)[0]? ≠ some 34 := by
  obtain ⟨h1, -⟩ := dec_all u
  have h2 := dec_ne u
  cases h : Lib.decDigits u with
  | nil => exact absurd h h2
  | cons c m =>
    rw [h] at h1
    have := h1 c (by simp)
    intro h9
    simp at h9
    subst h9
    exact absurd this.1 (by decide)
theorem numP_head {b : Nat} (h : Can b) : (numP b)[0]? ≠ some 34 ∧ numP b ≠ noneT := by
  rcases num_cases h.1 h.2 with ⟨e, -⟩ | ⟨e, -⟩ | ⟨e, -⟩ | ⟨e, -⟩ | ⟨e, -⟩ | ⟨n, m, x, r, g, -⟩
  · rw [e]; decide
  · rw [e]; decide
  · rw [e]; decide
  · rw [e]; decide
  · rw [e]; decide
  · have h1 := shape_form (shape_gen g)
    constructor
    · rw [g.1]
      cases n
      · exact dec_no34 _ _
      · show some (45 : UInt8) ≠ some 34
        decide
    · intro h9
      rw [h9] at h1
      revert h1
      decide
theorem mayV_num {v : Val} (h : mayV v = true) (h1 : v.kind = 1) : v.text = [] ∧ fcan v.num = v.num := by
  rw [mayV_iff] at h
  rcases h with ⟨h2, -⟩ | ⟨-, h2, h3⟩ | ⟨h2, -⟩
  · omega
  · exact ⟨h2, h3⟩
  · omega
theorem mayV_text {v : Val} (h : mayV v = true) (h1 : v.kind = 2) : v.num = 0 ∧ v.text.length ≤ 64 := by
  rw [mayV_iff] at h
  rcases h with ⟨h2, -⟩ | ⟨h2, -⟩ | ⟨-, h2, h3⟩
  · omega
  · omega
  · exact ⟨h2, h3⟩
theorem mayV_none {v : Val} (h : mayV v = true) (h1 : v.kind ≠ 1) (h2 : v.kind ≠ 2) : v = zeroV := by
  rw [mayV_iff] at h
  rcases h with ⟨a, b, c⟩ | ⟨a, -⟩ | ⟨a, -⟩
  · obtain ⟨k, n, t⟩ := v
    cases a; cases b; cases c
    rfl
  · exact absurd a h1
  · exact absurd a h2
theorem parse_print {v : Val} (h : mayV v = true) (hn : v.num < 18446744073709551616) : parseV (printV v) = (v, 0) := by
  unfold printV
  rw [if_neg (by simp [h])]
  by_cases h1 : v.kind = 1
  · obtain ⟨h2, h3⟩ := mayV_num h h1
    have hc : Can v.num := ⟨h3, hn⟩
    obtain ⟨h4, h5⟩ := numP_head hc
    rw [if_pos h1]
    unfold parseV
    rw [if_neg h4, if_neg h5, numR_print hc, if_pos rfl]
    obtain ⟨k, n, t⟩ := v
    cases h1; cases h2
    rfl
  · rw [if_neg h1]
    by_cases h2 : v.kind = 2
    · obtain ⟨h3, h4⟩ := mayV_text h h2
      rw [if_pos h2]
      unfold parseV
      rw [if_pos (quote_at0 _), unq_quote, if_pos rfl, if_neg (by show ¬ 64 < v.text.length; omega)]
      obtain ⟨k, n, t⟩ := v
      cases h2; cases h3
      rfl
    · rw [if_neg h2, mayV_none h h1 h2]
      rfl
theorem mayV_zero : mayV zeroV = true := by decide
theorem parse_may (s : List UInt8) : mayV (parseV s).1 = true ∧ (parseV s).1.num < 18446744073709551616 := by
  have hc := numR_can s
  have hz : mayV zeroV = true ∧ zeroV.num < 18446744073709551616 := ⟨mayV_zero, by decide⟩
  unfold parseV
  by_cases h1 : s[0]? = some 34
  · rw [if_pos h1]
    by_cases h2 : (unq s).2 = 0
    · rw [if_pos h2]
      by_cases h3 : 64 < (unq s).1.length
      · rw [if_pos h3]; exact hz
      · rw [if_neg h3]
        refine ⟨?_, by show 0 < _; decide⟩
        rw [mayV_iff]
        exact .inr (.inr ⟨rfl, rfl, by show (unq s).1.length ≤ 64; omega⟩)
    · rw [if_neg h2]; exact hz
  · rw [if_neg h1]
    by_cases h2 : s = noneT
    · rw [if_pos h2]; exact hz
    · rw [if_neg h2]
      by_cases h3 : (numR s).2 = 0
      · rw [if_pos h3]
        refine ⟨?_, hc.2⟩
        rw [mayV_iff]
        exact .inr (.inl ⟨rfl, rfl, hc.1⟩)
      · rw [if_neg h3]; exact hz
end Go.Proofs.YtainemoobhkeiaaGreatDoor
