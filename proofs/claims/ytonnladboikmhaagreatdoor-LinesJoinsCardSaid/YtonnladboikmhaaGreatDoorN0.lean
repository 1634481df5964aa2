/- CRC-32C, plainly. -/
import Derived.Test.YtonnladboikmhaaGreatDoorSxN
set_option linter.unusedSimpArgs false
set_option linter.unusedVariables false
namespace Go.Proofs.YtonnladboikmhaaGreatDoor
open Sx
/-! CRC-32C -/
def poly:Nat:=2197175160
def crcS (c:Nat):Nat:=c / 2 ^^^ (if c % 2 = 1 then poly else 0)
def crcN:Nat→Nat→Nat
  | 0,c=>c
  | k + 1,c=>crcN k (crcS c)
def crcB (c x:Nat):Nat:=crcN 8 (c ^^^ x)
def crcF (l:List UInt8) (c:Nat):Nat:=l.foldl (fun c x=>crcB c x.toNat) c
def crc (l:List UInt8):Nat:=crcF l 4294967295 ^^^ 4294967295
theorem xlt {a b:Nat} (h:a < 4294967296) (h2:b < 4294967296):a ^^^ b < 4294967296:=Nat.xor_lt_two_pow (n:=32) h h2
theorem crcS_lt {c:Nat} (h:c < 4294967296):crcS c < 4294967296:=xlt (by omega) (by split <;> decide)
theorem crcN_lt:∀ (k:Nat) {c:Nat},c < 4294967296→crcN k c < 4294967296
  | 0,_,h=>h
  | k + 1,_,h=>crcN_lt k (crcS_lt h)
theorem crcN_snoc:∀ (k c:Nat),crcN (k + 1) c = crcS (crcN k c)
  | 0,_=>rfl
  | k + 1,c=>by
    show crcN (k + 1) (crcS c) = crcS (crcN k (crcS c))
    exact crcN_snoc k (crcS c)
theorem byte4 (x:UInt8):x.toNat < 4294967296:=Nat.lt_trans x.toNat_lt (by decide)
theorem crcB_lt {c:Nat} (h:c < 4294967296) (x:UInt8):crcB c x.toNat < 4294967296:=crcN_lt 8 (xlt h (byte4 x))
theorem crcF_lt {l:List UInt8}:∀ {c:Nat},c < 4294967296→crcF l c < 4294967296:=by
  induction l with
  | nil=>exact id
  | cons x l ih=>exact fun h=>ih (crcB_lt h x)
theorem crcF_snoc {l:List UInt8} {k:Nat} {x:UInt8} (h:l[k]? = some x) (c:Nat):crcF (l.take (k + 1)) c = crcB (crcF (l.take k) c) x.toNat:=by
  obtain ⟨hk,rfl⟩:=List.getElem?_eq_some_iff.1 h
  unfold crcF
  rw [List.take_succ_eq_append_getElem hk,List.foldl_append]
  rfl
theorem crc_lt (l:List UInt8):crc l < 4294967296:=xlt (crcF_lt (by decide)) (by decide)
/-! by a table -/
theorem crcS_xor (a b:Nat):crcS (a ^^^ b) = crcS a ^^^ crcS b:=by
  unfold crcS
  have h1:(a ^^^ b) / 2 = a / 2 ^^^ b / 2:=by
    have h9:=Nat.shiftRight_xor_distrib (i:=1) (a:=a) (b:=b)
    simpa only [Nat.shiftRight_eq_div_pow,Nat.pow_one] using h9
  have h2:(a ^^^ b) % 2 = 1 ↔ ¬ (a % 2 = 1 ↔ b % 2 = 1):=by
    have h3:=Nat.testBit_xor a b 0
    rw [Nat.testBit_zero,Nat.testBit_zero,Nat.testBit_zero] at h3
    by_cases ha:a % 2 = 1 <;> by_cases hb:b % 2 = 1 <;> simp [ha,hb] at h3 ⊢ <;> omega
  rw [h1]
  by_cases ha:a % 2 = 1 <;> by_cases hb:b % 2 = 1
  · rw [if_neg (by rw [h2];simp [ha,hb]),if_pos ha,if_pos hb,Nat.xor_zero,Nat.xor_assoc,Nat.xor_comm poly,Nat.xor_assoc,Nat.xor_self,Nat.xor_zero]
  · rw [if_pos (by rw [h2];simp [ha,hb]),if_pos ha,if_neg hb,Nat.xor_zero,Nat.xor_assoc,Nat.xor_comm (b / 2),← Nat.xor_assoc]
  · rw [if_pos (by rw [h2];simp [ha,hb]),if_neg ha,if_pos hb,Nat.xor_zero,Nat.xor_assoc]
  rw [if_neg (by rw [h2];simp [ha,hb]),if_neg ha,if_neg hb,Nat.xor_zero,Nat.xor_zero,Nat.xor_zero]
theorem crcN_xor:∀ (k a b:Nat),crcN k (a ^^^ b) = crcN k a ^^^ crcN k b
  | 0,_,_=>rfl
  | k + 1,a,b=>by
    show crcN k (crcS (a ^^^ b)) = crcN k (crcS a) ^^^ crcN k (crcS b)
    rw [crcS_xor,crcN_xor k]
theorem crcN_pow:∀ (k z:Nat),crcN k (z * 2 ^ k) = z
  | 0,z=>Nat.mul_one z
  | k + 1,z=>by
    have e:z * 2 ^ (k + 1) = 2 * (z * 2 ^ k):=by rw [Nat.pow_succ,← Nat.mul_assoc,Nat.mul_comm 2]
    show crcN k (crcS (z * 2 ^ (k + 1))) = z
    unfold crcS
    rw [e,if_neg (by omega),Nat.xor_zero,Nat.mul_div_cancel_left _ (by decide)]
    exact crcN_pow k z
theorem split8 (y:Nat):y = y / 256 * 2 ^ 8 ^^^ y % 256:=by
  apply Nat.eq_of_testBit_eq
  intro i
  rw [Nat.testBit_xor,Nat.testBit_mul_two_pow,show (256:Nat) = 2 ^ 8 from rfl,Nat.testBit_mod_two_pow,Nat.testBit_div_two_pow]
  by_cases h:i < 8
  · simp [h,Nat.not_le.2 h]
  rw [Nat.sub_add_cancel (Nat.not_lt.1 h)]
  simp [h,Nat.not_lt.1 h]
theorem crc_table (y:Nat):crcN 8 y = y / 256 ^^^ crcN 8 (y % 256):=by
  conv=>lhs;rw [split8 y,crcN_xor,crcN_pow]
end Go.Proofs.YtonnladboikmhaaGreatDoor
