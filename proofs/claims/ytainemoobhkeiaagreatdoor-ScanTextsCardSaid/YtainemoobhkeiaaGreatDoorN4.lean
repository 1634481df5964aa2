/- Texts between quotes, plainly. -/
import Derived.Test.YtainemoobhkeiaaGreatDoorN3
set_option linter.unusedSimpArgs false
set_option linter.unusedVariables false
namespace Go.Proofs.YtainemoobhkeiaaGreatDoor
open Sx
theorem Tryz.can39 : Sx.Can Tryz.prog 39 := ⟨_, Tryz.func39, by kernel_rfl, rfl⟩
def plainB (c : UInt8) : Bool := decide (32 ≤ c.toNat ∧ c.toNat ≤ 126 ∧ c.toNat ≠ 34 ∧ c.toNat ≠ 92)
def hexd : List UInt8 := [48, 49, 50, 51, 52, 53, 54, 55, 56, 57, 97, 98, 99, 100, 101, 102]
def esc (c : UInt8) : List UInt8 := if plainB c = true then [c] else [92, hexd.getD (c.toNat / 16) 0, hexd.getD (c.toNat % 16) 0]
def quote (s : List UInt8) : List UInt8 := 34 :: s.flatMap esc ++ [34]
theorem esc_len (c : UInt8) : (esc c).length ≤ 3 := by unfold esc; split <;> simp
theorem flat_len (s : List UInt8) : (s.flatMap esc).length ≤ 3 * s.length := by
  induction s with
  | nil => simp
  | cons c s ih =>
    have := esc_len c
    rw [List.flatMap_cons, List.length_append, List.length_cons]
    omega
theorem hex_get (k : Nat) (h : k < 16) : hexd[k]? = some (hexd.getD k 0) := by
  rw [List.getD_eq_getElem?_getD]
  cases hh : hexd[k]? with
  | some v => rfl
  | none => rw [List.getElem?_eq_none_iff] at hh; have : hexd.length = 16 := rfl; omega
theorem flat_snoc {s : List UInt8} {k : Nat} {c : UInt8} (h : s[k]? = some c) : (s.take (k + 1)).flatMap esc = (s.take k).flatMap esc ++ esc c := by
  obtain ⟨hk, rfl⟩ := List.getElem?_eq_some_iff.1 h
  rw [List.take_succ_eq_append_getElem hk, List.flatMap_append]
  simp
theorem plain_calls (c : UInt8) (w : World) : Calls Tryz.prog 39 #[.int .u8 c.toNat] w fun e w' => e = .returned (.bool (plainB c)) ∧ Ext No w w' := by
  refine Sx.calls_into Tryz.func39 rfl Tryz.ntmps39 rfl fun a hT => ?_; replace hT := hT.keep [0] rfl; have H : Sx.Hp w (Sx.No) w [] := Sx.Hp.start _ _; refine wp_seq_k fun K1 hK1 => ?_; refine Sx.wp_text [(0, .take)] rfl ?_; refine st_take hT rfl rfl rfl rfl (x_assign hT rfl rfl) ?_; clear hT; intro a hT; replace hT := hT.keep [2, 0] rfl; refine ser_nil ?_; refine Sx.then_normal (hK1 _ _ ?_); clear hK1; refine wp_seq_k fun K2 hK2 => ?_; refine Sx.wp_text [(0, .take), (1, .take), (2, .take), (3, .take), (4, .take), (5, .take), (6, .take), (7, .take), (8, .take), (9, .take), (10, .take), (11, .take), (12, .take), (13, .take), (14, .take)] rfl ?_; refine st_take hT rfl rfl rfl rfl (x_move hT rfl rfl) ?_; clear hT; intro a hT; refine st_take hT rfl rfl rfl rfl ((fun w => x_ge w hT rfl rfl rfl)) ?_; clear hT; intro a hT; refine st_take hT rfl rfl rfl rfl (x_move hT rfl rfl) ?_; clear hT; intro a hT; refine Sx.Sl.two hT 5 rfl (fun hc3 hT => ?_) (fun hc3 hT => ?_)
  · try simp only [bq] at hc3
    refine st_take hT rfl rfl rfl rfl (x_move hT rfl rfl) ?_; clear hT; intro a hT; refine st_take hT rfl rfl rfl rfl ((fun w => x_le w hT rfl rfl rfl)) ?_; clear hT; intro a hT; refine st_take hT rfl rfl rfl rfl (x_pick_t hT rfl rfl rfl) ?_; clear hT; intro a hT; refine st_take hT rfl rfl rfl rfl (x_move hT rfl rfl) ?_; clear hT; intro a hT; refine Sx.Sl.two hT 9 rfl (fun hc4 hT => ?_) (fun hc4 hT => ?_)
    · try simp only [bq] at hc4
      refine st_take hT rfl rfl rfl rfl (x_move hT rfl rfl) ?_; clear hT; intro a hT; refine st_take hT rfl rfl rfl rfl ((fun w => x_ne w hT rfl rfl rfl)) ?_; clear hT; intro a hT; refine st_take hT rfl rfl rfl rfl (x_pick_t hT rfl rfl rfl) ?_; clear hT; intro a hT; refine st_take hT rfl rfl rfl rfl (x_move hT rfl rfl) ?_; clear hT; intro a hT; refine Sx.Sl.two hT 13 rfl (fun hc5 hT => ?_) (fun hc5 hT => ?_)
      · try simp only [bq] at hc5
        refine st_take hT rfl rfl rfl rfl (x_move hT rfl rfl) ?_; clear hT; intro a hT; refine st_take hT rfl rfl rfl rfl ((fun w => x_ne w hT rfl rfl rfl)) ?_; clear hT; intro a hT; refine st_take hT rfl rfl rfl rfl (x_pick_t hT rfl rfl rfl) ?_; clear hT; intro a hT; refine st_take hT rfl rfl rfl rfl (x_assign hT rfl rfl) ?_; clear hT; intro a hT; replace hT := hT.keep [2, 0] rfl; refine ser_nil ?_; refine Sx.then_normal (hK2 _ _ ?_); clear hK2; refine wp_ret ?_; refine Sx.done1 (fn := Tryz.f39) hT rfl (.tmp (hT.get 2 _ rfl)) ?_; refine ⟨ret_b ?_, H.ext⟩; clear hT H; unfold plainB
        first | exact (decide_eq_false (by omega)).symm | (rw [Bool.eq_iff_iff]; simp only [Bool.not_eq_true', decide_eq_true_eq, decide_eq_false_iff_not]; omega)
      · try simp only [bq] at hc5
        refine st_skip hT rfl rfl rfl rfl ?_; clear hT; intro a hT; refine st_skip hT rfl rfl rfl rfl ?_; clear hT; intro a hT; refine st_take hT rfl rfl rfl rfl (x_pick_f hT rfl rfl rfl) ?_; clear hT; intro a hT; refine st_take hT rfl rfl rfl rfl (x_assign hT rfl rfl) ?_; clear hT; intro a hT; replace hT := hT.keep [2, 0] rfl; refine ser_nil ?_; refine Sx.then_normal (hK2 _ _ ?_); clear hK2; refine wp_ret ?_; refine Sx.done1 (fn := Tryz.f39) hT rfl (.tmp (hT.get 2 _ rfl)) ?_; refine ⟨ret_b ?_, H.ext⟩; clear hT H; unfold plainB
        first | exact (decide_eq_false (by omega)).symm | (rw [Bool.eq_iff_iff]; simp only [Bool.not_eq_true', decide_eq_true_eq, decide_eq_false_iff_not]; omega)
    · try simp only [bq] at hc4
      refine st_skip hT rfl rfl rfl rfl ?_; clear hT; intro a hT; refine st_skip hT rfl rfl rfl rfl ?_; clear hT; intro a hT; refine st_take hT rfl rfl rfl rfl (x_pick_f hT rfl rfl rfl) ?_; clear hT; intro a hT; refine st_take hT rfl rfl rfl rfl (x_move hT rfl rfl) ?_; clear hT; intro a hT; refine st_skip hT rfl rfl rfl rfl ?_; clear hT; intro a hT; refine st_skip hT rfl rfl rfl rfl ?_; clear hT; intro a hT; refine st_take hT rfl rfl rfl rfl (x_pick_f hT rfl rfl rfl) ?_; clear hT; intro a hT; refine st_take hT rfl rfl rfl rfl (x_assign hT rfl rfl) ?_; clear hT; intro a hT; replace hT := hT.keep [2, 0] rfl; refine ser_nil ?_; refine Sx.then_normal (hK2 _ _ ?_); clear hK2; refine wp_ret ?_; refine Sx.done1 (fn := Tryz.f39) hT rfl (.tmp (hT.get 2 _ rfl)) ?_; refine ⟨ret_b ?_, H.ext⟩; clear hT H; unfold plainB
      first | exact (decide_eq_false (by omega)).symm | (rw [Bool.eq_iff_iff]; simp only [Bool.not_eq_true', decide_eq_true_eq, decide_eq_false_iff_not]; omega)
  · try simp only [bq] at hc3
    refine st_skip hT rfl rfl rfl rfl ?_; clear hT; intro a hT; refine st_skip hT rfl rfl rfl rfl ?_; clear hT; intro a hT; refine st_take hT rfl rfl rfl rfl (x_pick_f hT rfl rfl rfl) ?_; clear hT; intro a hT; refine st_take hT rfl rfl rfl rfl (x_move hT rfl rfl) ?_; clear hT; intro a hT; refine st_skip hT rfl rfl rfl rfl ?_; clear hT; intro a hT; refine st_skip hT rfl rfl rfl rfl ?_; clear hT; intro a hT; refine st_take hT rfl rfl rfl rfl (x_pick_f hT rfl rfl rfl) ?_; clear hT; intro a hT; refine st_take hT rfl rfl rfl rfl (x_move hT rfl rfl) ?_; clear hT; intro a hT; refine st_skip hT rfl rfl rfl rfl ?_; clear hT; intro a hT; refine st_skip hT rfl rfl rfl rfl ?_; clear hT; intro a hT; refine st_take hT rfl rfl rfl rfl (x_pick_f hT rfl rfl rfl) ?_; clear hT; intro a hT; refine st_take hT rfl rfl rfl rfl (x_assign hT rfl rfl) ?_; clear hT; intro a hT; replace hT := hT.keep [2, 0] rfl; refine ser_nil ?_; refine Sx.then_normal (hK2 _ _ ?_); clear hK2; refine wp_ret ?_; refine Sx.done1 (fn := Tryz.f39) hT rfl (.tmp (hT.get 2 _ rfl)) ?_; refine ⟨ret_b ?_, H.ext⟩; clear hT H; unfold plainB
    first | exact (decide_eq_false (by omega)).symm | (rw [Bool.eq_iff_iff]; simp only [Bool.not_eq_true', decide_eq_true_eq, decide_eq_false_iff_not]; omega)
end Go.Proofs.YtainemoobhkeiaaGreatDoor
