/- Transactions' numbers as keys. -/
import Derived.Test.YtpnfpndhdnmhkaaGreatK1
set_option linter.unusedSimpArgs false
set_option linter.unusedVariables false
namespace Go.Proofs.YtpnfpndhdnmhkaaGreat
open Sx

/-! a transaction's number as a key: its bytes, which stand as the numbers do  -/
theorem slt_cons {x y : UInt8} {a b : Key} : slt (x :: a) (y :: b) ↔ x < y ∨ (x = y ∧ slt a b) := by
  simp only [slt, Op.bytesLess, Bool.or_eq_true, decide_eq_true_eq, Bool.and_eq_true, beq_iff_eq]
theorem bytesBE_succ (w n : Nat) : bytesBE (w + 1) n = bytesBE w (n / 256) ++ [UInt8.ofNat (n % 256)] := by
  show (UInt8.ofNat (n % 256) :: bytesLE w (n / 256)).reverse = _
  rw [List.reverse_cons]
  rfl
theorem bytesBE_len : ∀ (w n : Nat), (bytesBE w n).length = w
  | 0, _ => rfl
  | w + 1, n => by rw [bytesBE_succ, List.length_append, bytesBE_len w]; rfl
theorem be_lt : ∀ (w a b : Nat) (r s : Key), a < 256 ^ w → b < 256 ^ w → (slt (bytesBE w a ++ r) (bytesBE w b ++ s) ↔ a < b ∨ (a = b ∧ slt r s))
  | 0, a, b, r, s, ha, hb => by
    rw [Nat.pow_zero] at ha hb
    obtain rfl : a = 0 := by omega
    obtain rfl : b = 0 := by omega
    show slt r s ↔ _
    simp
  | w + 1, a, b, r, s, ha, hb => by
    rw [Nat.pow_succ] at ha hb
    rw [bytesBE_succ, bytesBE_succ, List.append_assoc, List.append_assoc, be_lt w (a / 256) (b / 256) _ _ (by omega) (by omega)]
    show a / 256 < b / 256 ∨ (a / 256 = b / 256 ∧ slt (UInt8.ofNat (a % 256) :: r) (UInt8.ofNat (b % 256) :: s)) ↔ _
    have h1 : (UInt8.ofNat (a % 256)).toNat = a % 256 := by rw [UInt8.toNat_ofNat']; omega
    have h2 : (UInt8.ofNat (b % 256)).toNat = b % 256 := by rw [UInt8.toNat_ofNat']; omega
    have h3 : UInt8.ofNat (a % 256) = UInt8.ofNat (b % 256) ↔ a % 256 = b % 256 := by rw [← UInt8.toNat_inj, h1, h2]
    rw [slt_cons, UInt8.lt_iff_toNat_lt, h1, h2, h3]
    constructor
    · rintro (h | ⟨h, h4 | ⟨h4, h5⟩⟩)
      · exact .inl (by omega)
      · exact .inl (by omega)
      · exact .inr ⟨by omega, h5⟩
    · rintro (h | ⟨h, h5⟩)
      · by_cases h6 : a / 256 < b / 256
        · exact .inl h6
        · exact .inr ⟨by omega, .inl (by omega)⟩
      · exact .inr ⟨by omega, .inr ⟨by omega, h5⟩⟩
theorem be_eq : ∀ (w a b : Nat) (r s : Key), a < 256 ^ w → b < 256 ^ w → bytesBE w a ++ r = bytesBE w b ++ s → a = b ∧ r = s
  | 0, a, b, r, s, ha, hb, h => by
    rw [Nat.pow_zero] at ha hb
    exact ⟨by omega, h⟩
  | w + 1, a, b, r, s, ha, hb, h => by
    rw [Nat.pow_succ] at ha hb
    rw [bytesBE_succ, bytesBE_succ, List.append_assoc, List.append_assoc] at h
    obtain ⟨h1, h2⟩ := be_eq w (a / 256) (b / 256) _ _ (by omega) (by omega) h
    obtain ⟨h3, h4⟩ := List.cons.inj (show UInt8.ofNat (a % 256) :: r = UInt8.ofNat (b % 256) :: s from h2)
    have h5 : (UInt8.ofNat (a % 256)).toNat = a % 256 := by rw [UInt8.toNat_ofNat']; omega
    have h6 : (UInt8.ofNat (b % 256)).toNat = b % 256 := by rw [UInt8.toNat_ofNat']; omega
    rw [h3, h6] at h5
    exact ⟨by omega, h4⟩
def u64 (n : Int) : Nat := (n % 2 ^ 64).toNat
theorem tb_eq (t : Tn) : tb t = bytesBE 8 (u64 t.co) ++ (bytesBE 8 (u64 t.li) ++ (bytesBE 8 (u64 t.sq) ++ [])) := by
  unfold tb keyBytes
  rw [List.flatMap_cons, List.flatMap_cons, List.flatMap_cons]
  rfl
theorem u64_lt (n : Int) : u64 n < 256 ^ 8 := by
  unfold u64
  have h1 : (256 : Nat) ^ 8 = 18446744073709551616 := by decide
  have h2 : (2 : Int) ^ 64 = 18446744073709551616 := by decide
  rw [h1, h2]
  omega
def tless (a b : Tn) : Prop := a.co < b.co ∨ (a.co = b.co ∧ (a.li < b.li ∨ (a.li = b.li ∧ a.sq < b.sq)))
instance (a b : Tn) : Decidable (tless a b) := by unfold tless; infer_instance
structure Tn.pos (t : Tn) : Prop where
  c : 1 ≤ t.co ∧ t.co ≤ 9223372036854775807
  l : 1 ≤ t.li ∧ t.li ≤ 9223372036854775807
  s : 1 ≤ t.sq ∧ t.sq ≤ 9223372036854775807
theorem u64_pos {n : Int} (h : 1 ≤ n ∧ n ≤ 9223372036854775807) : (u64 n : Int) = n := by
  unfold u64
  have h2 : (2 : Int) ^ 64 = 18446744073709551616 := by decide
  rw [h2]
  omega
theorem tb_lt {a b : Tn} (ha : a.pos) (hb : b.pos) : slt (tb a) (tb b) ↔ tless a b := by
  rw [tb_eq, tb_eq, be_lt 8 _ _ _ _ (u64_lt _) (u64_lt _), be_lt 8 _ _ _ _ (u64_lt _) (u64_lt _), be_lt 8 _ _ _ _ (u64_lt _) (u64_lt _)]
  have h1 := u64_pos ha.c; have h2 := u64_pos ha.l; have h3 := u64_pos ha.s
  have h4 := u64_pos hb.c; have h5 := u64_pos hb.l; have h6 := u64_pos hb.s
  have h7 : ¬ slt ([] : Key) [] := slt_irr []
  unfold tless
  constructor
  · rintro (h | ⟨h, h | ⟨h, h | ⟨_, h⟩⟩⟩)
    · exact .inl (by omega)
    · exact .inr ⟨by omega, .inl (by omega)⟩
    · exact .inr ⟨by omega, .inr ⟨by omega, by omega⟩⟩
    · exact absurd h h7
  · rintro (h | ⟨h, h | ⟨h8, h⟩⟩)
    · exact .inl (by omega)
    · exact .inr ⟨by omega, .inl (by omega)⟩
    · exact .inr ⟨by omega, .inr ⟨by omega, .inl (by omega)⟩⟩

structure Tn.wf (t : Tn) : Prop where
  c : -9223372036854775808 ≤ t.co ∧ t.co ≤ 9223372036854775807
  l : -9223372036854775808 ≤ t.li ∧ t.li ≤ 9223372036854775807
  s : -9223372036854775808 ≤ t.sq ∧ t.sq ≤ 9223372036854775807
theorem u64_inj {m n : Int} (h1 : -9223372036854775808 ≤ m ∧ m ≤ 9223372036854775807) (h2 : -9223372036854775808 ≤ n ∧ n ≤ 9223372036854775807) (h : u64 m = u64 n) : m = n := by
  unfold u64 at h
  have h3 : (2 : Int) ^ 64 = 18446744073709551616 := by decide
  rw [h3] at h
  omega
theorem tb_inj {a b : Tn} (ha : a.wf) (hb : b.wf) (h : tb a = tb b) : a = b := by
  rw [tb_eq, tb_eq] at h
  have e1 := be_eq 8 _ _ _ _ (u64_lt a.co) (u64_lt b.co) h
  have e2 := be_eq 8 _ _ _ _ (u64_lt a.li) (u64_lt b.li) e1.2
  have e3 := be_eq 8 _ _ _ _ (u64_lt a.sq) (u64_lt b.sq) e2.2
  obtain ⟨p, q, r⟩ := a
  obtain ⟨p2, q2, r2⟩ := b
  have r1 := u64_inj ha.c hb.c e1.1
  have r2 := u64_inj ha.l hb.l e2.1
  have r3 := u64_inj ha.s hb.s e3.1
  dsimp only at r1 r2 r3
  rw [r1, r2, r3]
theorem Tn.pos.wf {t : Tn} (h : t.pos) : t.wf := ⟨⟨by have := h.c; omega, h.c.2⟩, ⟨by have := h.l; omega, h.l.2⟩, ⟨by have := h.s; omega, h.s.2⟩⟩
theorem Tn.pos_of {t : Tn} (h : t.wf) (hm : mayT t = true) : t.pos := by
  unfold mayT at hm
  have hm := of_decide_eq_true hm
  exact ⟨⟨hm.1, h.c.2⟩, ⟨hm.2.2.1, h.l.2⟩, ⟨hm.2.2.2, h.s.2⟩⟩

end Go.Proofs.YtpnfpndhdnmhkaaGreat
