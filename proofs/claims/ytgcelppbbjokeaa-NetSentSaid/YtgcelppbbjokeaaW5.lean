/- Walks: the helpers of the statements. -/
import Derived.Test.YtgcelppbbjokeaaW4
set_option linter.unusedSimpArgs false
set_option linter.unusedVariables false
namespace Go.Proofs.Ytgcelppbbjokeaa
open Sx

theorem few_calls (ad : Option Addr) (n c : Nat) (rs : List ROp) (os : List OpV) (w : World) (h : Ops w ad rs os) (hn : n = rs.length) :
    Calls Try.prog 9 #[.slice ad n c] w fun e w' => e = .returned (.bool (fewB os)) ∧ Ext No w w' := by
  subst hn
  have hl := h.all.length
  have hsm := h.small
  refine Sx.calls_into Try.func9 rfl Try.ntmps9 rfl fun a hT => ?_
  replace hT := hT.keep [0] rfl
  have X : Sx.Ext Sx.No w w := Sx.Ext.refl _ _
  refine wp_seq_k fun K1 hK1 => ?_
  -- region 0 (law.go:34)
  refine Sx.wp_text [(0, .take)] rfl ?_
  refine Sx.st_take hT rfl rfl rfl rfl (Sx.x_assign hT rfl rfl) ?_
  clear hT; intro a hT
  replace hT := hT.keep [2, 0] rfl
  refine Sx.ser_nil ?_
  refine Sx.then_normal (hK1 _ _ ?_)
  clear hK1
  refine wp_seq_k fun K2 hK2 => ?_
  -- region 1 (law.go:35)
  refine Sx.wp_text [(0, .take)] rfl ?_
  refine Sx.st_take hT rfl rfl rfl rfl (Sx.x_assign hT rfl rfl) ?_
  clear hT; intro a hT
  replace hT := hT.keep [3, 2, 0] rfl
  refine Sx.ser_nil ?_
  refine Sx.then_normal (hK2 _ _ ?_)
  clear hK2
  refine wp_seq_k fun K3 hK3 => ?_
  refine wp_seq_k fun K4 hK4 => ?_
  -- region 2 (law.go:36)
  refine Sx.wp_text [(0, .take)] rfl ?_
  refine Sx.st_take hT rfl rfl rfl rfl (Sx.x_assign hT rfl rfl) ?_
  clear hT; intro a hT
  replace hT := hT.keep [4, 3, 2, 0] rfl
  refine Sx.ser_nil ?_
  refine Sx.then_normal (hK4 _ _ ?_)
  clear hK4
  refine wp_block ?_
  -- loop 0
  refine Sx.wp_while (G := Nat) (fun k a w1 => k ≤ rs.length ∧ k ≤ 400 ∧ Ext No w w1 ∧ Sl 31 [(0, .slice ad rs.length c), (3, .int .i64 (sumTo os k)), (4, .int .i64 k)] a) (fun k => rs.length - k) 0 ?_ ?_
  · exact ⟨Nat.zero_le _, Nat.zero_le _, X, hT.keep [0, 3, 4] rfl⟩
  clear hT X
  intro k a w1 hI
  obtain ⟨hk, hk4, X, hT⟩ := hI
  have hsl := sumTo_le os k
  refine wp_seq_k fun K5 hK5 => ?_
  refine wp_seq_k fun K6 hK6 => ?_
  -- region 3 (law.go:36)
  refine Sx.wp_text [(0, .take), (1, .take), (2, .take), (3, .take), (4, .take), (5, .take), (6, .take), (7, .take)] rfl ?_
  refine Sx.st_take hT rfl rfl rfl rfl (Sx.x_move hT rfl rfl) ?_
  clear hT; intro a hT
  refine Sx.st_take hT rfl rfl rfl rfl (Sx.x_move hT rfl rfl) ?_
  clear hT; intro a hT
  refine Sx.st_take hT rfl rfl rfl rfl (Sx.x_len_slice hT rfl rfl Try.underlying22 rfl) ?_
  clear hT; intro a hT
  refine Sx.st_take hT rfl rfl rfl rfl ((fun w => Sx.x_lt w hT rfl rfl rfl)) ?_
  clear hT; intro a hT
  refine Sx.st_take hT rfl rfl rfl rfl (Sx.x_move hT rfl rfl) ?_
  clear hT; intro a hT
  -- guard (3, 4)
  refine Sx.Sl.two hT 9 rfl (fun hc7 hT => ?_) (fun hc7 hT => ?_)
  · try simp only [decide_eq_true_eq, decide_eq_false_iff_not, Bool.not_eq_true', Bool.not_eq_false', Bool.not_eq_true, Bool.not_eq_false, Bool.and_eq_true, Bool.or_eq_false_iff, beq_iff_eq, bne_iff_ne, Int.not_lt, Int.not_le, ne_eq] at hc7
    refine Sx.st_take hT rfl rfl rfl rfl (Sx.x_move hT rfl rfl) ?_
    clear hT; intro a hT
    refine Sx.st_take hT rfl rfl rfl rfl ((fun w => Sx.x_lt w hT rfl rfl rfl)) ?_
    clear hT; intro a hT
    refine Sx.st_take hT rfl rfl rfl rfl (Sx.x_pick_t hT rfl rfl rfl) ?_
    clear hT; intro a hT
    replace hT := hT.keep [12, 0, 3, 4] rfl
    refine Sx.ser_nil ?_
    refine Sx.then_normal (hK6 _ _ ?_)
    clear hK6
    -- cond 0
    refine Sx.wp_if hT rfl (fun hc8 => ?_) (fun hc8 => ?_)
    · try simp only [decide_eq_true_eq, decide_eq_false_iff_not, Bool.not_eq_true', Bool.not_eq_false', Bool.not_eq_true, Bool.not_eq_false, Bool.and_eq_true, Bool.or_eq_false_iff, beq_iff_eq, bne_iff_ne, Int.not_lt, Int.not_le, ne_eq] at hc8
      obtain ⟨o, ho⟩ : ∃ o, os[k]? = some o := ⟨_, List.getElem?_eq_getElem (by omega)⟩
      obtain ⟨r, hr, hor⟩ := h.all.get ho
      refine wp_skip ?_
      refine Sx.then_normal (hK5 _ _ ?_)
      clear hK5
      refine wp_seq_k fun K9 hK9 => ?_
      refine wp_block ?_
      -- region 5 (law.go:37)
      refine Sx.wp_text [(0, .take), (1, .take), (2, .take), (3, .take), (4, .take), (5, .run), (6, .take), (7, .take), (8, .take), (9, .take)] rfl ?_
      refine Sx.st_take hT rfl rfl rfl rfl (Sx.x_move hT rfl rfl) ?_
      clear hT; intro a hT
      refine Sx.st_take hT rfl rfl rfl rfl (Sx.x_move hT rfl rfl) ?_
      clear hT; intro a hT
      refine Sx.st_take hT rfl rfl rfl rfl (Sx.x_move hT rfl rfl) ?_
      clear hT; intro a hT
      refine Sx.st_take hT rfl rfl rfl rfl (Sx.x_index hT rfl Try.underlying22 Try.ti32 (by first | exact (h.ss.sv.ext_no X)) rfl rfl rfl (by omega)) ?_
      clear hT; intro a hT
      refine Sx.st_take hT rfl rfl rfl rfl (Sx.x_fieldAddr hT rfl Try.fa32_3 rfl) ?_
      clear hT; intro a hT
      refine Sx.st_run hT rfl rfl rfl rfl (Sx.x_load1 hT rfl Try.fl30 rfl (by first | exact (Ss.cell ROp.len (h.ss.ext_no X) hr rfl))) ?_
      clear hT; intro a hT
      refine Sx.st_take hT rfl rfl rfl rfl (Sx.x_len_slice hT rfl rfl Try.underlying30 rfl) ?_
      clear hT; intro a hT
      refine Sx.st_take hT rfl rfl rfl rfl (Sx.x_min hT rfl rfl rfl) ?_
      clear hT; intro a hT
      refine Sx.st_take hT rfl rfl rfl rfl ((fun w => Sx.x_add w hT rfl rfl rfl (Sx.wrap64 (by omega)))) ?_
      clear hT; intro a hT
      refine Sx.st_take hT rfl rfl rfl rfl (Sx.x_assign hT rfl rfl) ?_
      clear hT; intro a hT
      replace hT := hT.keep [3, 12, 0, 4] rfl
      refine Sx.ser_nil ?_
      refine Sx.block_normal ?_
      refine Sx.then_normal (hK9 _ _ ?_)
      clear hK9
      -- region 4 (law.go:36)
      refine Sx.wp_text [(0, .take), (1, .take), (2, .take)] rfl ?_
      refine Sx.st_take hT rfl rfl rfl rfl (Sx.x_move hT rfl rfl) ?_
      clear hT; intro a hT
      refine Sx.st_take hT rfl rfl rfl rfl ((fun w => Sx.x_add w hT rfl rfl rfl (Sx.wrap64 (by omega)))) ?_
      clear hT; intro a hT
      refine Sx.st_take hT rfl rfl rfl rfl (Sx.x_assign hT rfl rfl) ?_
      clear hT; intro a hT
      replace hT := hT.keep [4, 3, 12, 0] rfl
      refine Sx.ser_nil ?_
      refine Sx.then_normal ?_
      exact ⟨k + 1, ⟨by omega, by omega, X, (hT.keep [0, 3, 4] rfl).conv (by rw [sumTo_succ ho, hor.n]; simp; omega)⟩, by omega⟩
    · try simp only [decide_eq_true_eq, decide_eq_false_iff_not, Bool.not_eq_true', Bool.not_eq_false', Bool.not_eq_true, Bool.not_eq_false, Bool.and_eq_true, Bool.or_eq_false_iff, beq_iff_eq, bne_iff_ne, Int.not_lt, Int.not_le, ne_eq] at hc8
      refine wp_exit ?_
      refine Sx.then_exit ?_
      refine Sx.then_exit ?_
      refine Sx.block_exit ?_
      refine Sx.then_normal (hK3 _ _ ?_)
      clear hK3
      refine wp_seq_k fun K10 hK10 => ?_
      -- region 6 (law.go:39)
      refine Sx.wp_text [(0, .take), (1, .take), (2, .take), (3, .take), (4, .take), (5, .take), (6, .take), (7, .take)] rfl ?_
      refine Sx.st_take hT rfl rfl rfl rfl (Sx.x_move hT rfl rfl) ?_
      clear hT; intro a hT
      refine Sx.st_take hT rfl rfl rfl rfl (Sx.x_len_slice hT rfl rfl Try.underlying22 rfl) ?_
      clear hT; intro a hT
      refine Sx.st_take hT rfl rfl rfl rfl ((fun w => Sx.x_le w hT rfl rfl rfl)) ?_
      clear hT; intro a hT
      refine Sx.st_take hT rfl rfl rfl rfl (Sx.x_move hT rfl rfl) ?_
      clear hT; intro a hT
      -- guard (6, 3)
      refine Sx.Sl.two hT 27 rfl (fun hc11 hT => ?_) (fun hc11 hT => ?_)
      · try simp only [decide_eq_true_eq, decide_eq_false_iff_not, Bool.not_eq_true', Bool.not_eq_false', Bool.not_eq_true, Bool.not_eq_false, Bool.and_eq_true, Bool.or_eq_false_iff, beq_iff_eq, bne_iff_ne, Int.not_lt, Int.not_le, ne_eq] at hc11
        refine Sx.st_take hT rfl rfl rfl rfl (Sx.x_move hT rfl rfl) ?_
        clear hT; intro a hT
        refine Sx.st_take hT rfl rfl rfl rfl ((fun w => Sx.x_le w hT rfl rfl rfl)) ?_
        clear hT; intro a hT
        refine Sx.st_take hT rfl rfl rfl rfl (Sx.x_pick_t hT rfl rfl rfl) ?_
        clear hT; intro a hT
        refine Sx.st_take hT rfl rfl rfl rfl (Sx.x_assign hT rfl rfl) ?_
        clear hT; intro a hT
        replace hT := hT.keep [2, 12, 0, 3, 4] rfl
        refine Sx.ser_nil ?_
        refine Sx.then_normal (hK10 _ _ ?_)
        clear hK10
        refine wp_ret ?_
        refine Sx.done1 (fn := Try.f9) hT rfl (.tmp (hT.get 2 _ rfl)) ?_
        have hfin : sumTo os k = sumTo os 400 := by
          rcases Nat.lt_or_ge k 400 with h9 | h9
          · have : k = os.length := by omega
            rw [this]; exact (sumTo_all (by omega)).symm
          · rw [show k = 400 from by omega]
        refine ⟨congrArg (fun b => Ending.returned (.bool b)) ?_, X⟩
        unfold fewB
        rw [← hfin, ← hl, Bool.eq_iff_iff]
        simp only [Bool.and_eq_true, decide_eq_true_eq, Bool.false_eq_true, false_iff]
        omega
      · try simp only [decide_eq_true_eq, decide_eq_false_iff_not, Bool.not_eq_true', Bool.not_eq_false', Bool.not_eq_true, Bool.not_eq_false, Bool.and_eq_true, Bool.or_eq_false_iff, beq_iff_eq, bne_iff_ne, Int.not_lt, Int.not_le, ne_eq] at hc11
        refine Sx.st_skip hT rfl rfl rfl rfl ?_
        clear hT; intro a hT
        refine Sx.st_skip hT rfl rfl rfl rfl ?_
        clear hT; intro a hT
        refine Sx.st_take hT rfl rfl rfl rfl (Sx.x_pick_f hT rfl rfl rfl) ?_
        clear hT; intro a hT
        refine Sx.st_take hT rfl rfl rfl rfl (Sx.x_assign hT rfl rfl) ?_
        clear hT; intro a hT
        replace hT := hT.keep [2, 12, 0, 3, 4] rfl
        refine Sx.ser_nil ?_
        refine Sx.then_normal (hK10 _ _ ?_)
        clear hK10
        refine wp_ret ?_
        refine Sx.done1 (fn := Try.f9) hT rfl (.tmp (hT.get 2 _ rfl)) ?_
        have hfin : sumTo os k = sumTo os 400 := by
          rcases Nat.lt_or_ge k 400 with h9 | h9
          · have : k = os.length := by omega
            rw [this]; exact (sumTo_all (by omega)).symm
          · rw [show k = 400 from by omega]
        refine ⟨congrArg (fun b => Ending.returned (.bool b)) ?_, X⟩
        unfold fewB
        rw [← hfin, ← hl, Bool.eq_iff_iff]
        simp only [Bool.and_eq_true, decide_eq_true_eq, Bool.false_eq_true, false_iff]
        omega
  · try simp only [decide_eq_true_eq, decide_eq_false_iff_not, Bool.not_eq_true', Bool.not_eq_false', Bool.not_eq_true, Bool.not_eq_false, Bool.and_eq_true, Bool.or_eq_false_iff, beq_iff_eq, bne_iff_ne, Int.not_lt, Int.not_le, ne_eq] at hc7
    refine Sx.st_skip hT rfl rfl rfl rfl ?_
    clear hT; intro a hT
    refine Sx.st_skip hT rfl rfl rfl rfl ?_
    clear hT; intro a hT
    refine Sx.st_take hT rfl rfl rfl rfl (Sx.x_pick_f hT rfl rfl rfl) ?_
    clear hT; intro a hT
    replace hT := hT.keep [12, 0, 3, 4] rfl
    refine Sx.ser_nil ?_
    refine Sx.then_normal (hK6 _ _ ?_)
    clear hK6
    refine Sx.wp_if hT rfl (fun h => by cases h) (fun _ => ?_)
    refine wp_exit ?_
    refine Sx.then_exit ?_
    refine Sx.then_exit ?_
    refine Sx.block_exit ?_
    refine Sx.then_normal (hK3 _ _ ?_)
    clear hK3
    refine wp_seq_k fun K12 hK12 => ?_
    -- region 6 (law.go:39)
    refine Sx.wp_text [(0, .take), (1, .take), (2, .take), (3, .take), (4, .take), (5, .take), (6, .take), (7, .take)] rfl ?_
    refine Sx.st_take hT rfl rfl rfl rfl (Sx.x_move hT rfl rfl) ?_
    clear hT; intro a hT
    refine Sx.st_take hT rfl rfl rfl rfl (Sx.x_len_slice hT rfl rfl Try.underlying22 rfl) ?_
    clear hT; intro a hT
    refine Sx.st_take hT rfl rfl rfl rfl ((fun w => Sx.x_le w hT rfl rfl rfl)) ?_
    clear hT; intro a hT
    refine Sx.st_take hT rfl rfl rfl rfl (Sx.x_move hT rfl rfl) ?_
    clear hT; intro a hT
    -- guard (6, 3)
    refine Sx.Sl.two hT 27 rfl (fun hc13 hT => ?_) (fun hc13 hT => ?_)
    · try simp only [decide_eq_true_eq, decide_eq_false_iff_not, Bool.not_eq_true', Bool.not_eq_false', Bool.not_eq_true, Bool.not_eq_false, Bool.and_eq_true, Bool.or_eq_false_iff, beq_iff_eq, bne_iff_ne, Int.not_lt, Int.not_le, ne_eq] at hc13
      refine Sx.st_take hT rfl rfl rfl rfl (Sx.x_move hT rfl rfl) ?_
      clear hT; intro a hT
      refine Sx.st_take hT rfl rfl rfl rfl ((fun w => Sx.x_le w hT rfl rfl rfl)) ?_
      clear hT; intro a hT
      refine Sx.st_take hT rfl rfl rfl rfl (Sx.x_pick_t hT rfl rfl rfl) ?_
      clear hT; intro a hT
      refine Sx.st_take hT rfl rfl rfl rfl (Sx.x_assign hT rfl rfl) ?_
      clear hT; intro a hT
      replace hT := hT.keep [2, 12, 0, 3, 4] rfl
      refine Sx.ser_nil ?_
      refine Sx.then_normal (hK12 _ _ ?_)
      clear hK12
      refine wp_ret ?_
      refine Sx.done1 (fn := Try.f9) hT rfl (.tmp (hT.get 2 _ rfl)) ?_
      have hfin : sumTo os k = sumTo os 400 := by
        rcases Nat.lt_or_ge k 400 with h9 | h9
        · have : k = os.length := by omega
          rw [this]; exact (sumTo_all (by omega)).symm
        · rw [show k = 400 from by omega]
      refine ⟨congrArg (fun b => Ending.returned (.bool b)) ?_, X⟩
      unfold fewB
      rw [← hfin, ← hl, Bool.eq_iff_iff]
      simp only [Bool.and_eq_true, decide_eq_true_eq, Bool.false_eq_true, false_iff]
      omega
    · try simp only [decide_eq_true_eq, decide_eq_false_iff_not, Bool.not_eq_true', Bool.not_eq_false', Bool.not_eq_true, Bool.not_eq_false, Bool.and_eq_true, Bool.or_eq_false_iff, beq_iff_eq, bne_iff_ne, Int.not_lt, Int.not_le, ne_eq] at hc13
      refine Sx.st_skip hT rfl rfl rfl rfl ?_
      clear hT; intro a hT
      refine Sx.st_skip hT rfl rfl rfl rfl ?_
      clear hT; intro a hT
      refine Sx.st_take hT rfl rfl rfl rfl (Sx.x_pick_f hT rfl rfl rfl) ?_
      clear hT; intro a hT
      refine Sx.st_take hT rfl rfl rfl rfl (Sx.x_assign hT rfl rfl) ?_
      clear hT; intro a hT
      replace hT := hT.keep [2, 12, 0, 3, 4] rfl
      refine Sx.ser_nil ?_
      refine Sx.then_normal (hK12 _ _ ?_)
      clear hK12
      refine wp_ret ?_
      refine Sx.done1 (fn := Try.f9) hT rfl (.tmp (hT.get 2 _ rfl)) ?_
      have hfin : sumTo os k = sumTo os 400 := by
        rcases Nat.lt_or_ge k 400 with h9 | h9
        · have : k = os.length := by omega
          rw [this]; exact (sumTo_all (by omega)).symm
        · rw [show k = 400 from by omega]
      refine ⟨congrArg (fun b => Ending.returned (.bool b)) ?_, X⟩
      unfold fewB
      rw [← hfin, ← hl, Bool.eq_iff_iff]
      simp only [Bool.and_eq_true, decide_eq_true_eq, Bool.false_eq_true, false_iff]
      omega

theorem first_calls (w : World) : Calls Try.prog 7 #[] w fun e w' => e = .returned (.bool true) ∧ Ext No w w' := by
  show Calls Try.prog 7 ([] : List Value).toArray w _
  refine Sx.calls_into Try.func7 rfl Try.ntmps7 rfl fun a hT => ?_
  replace hT := hT.keep [] rfl
  have X : Sx.Ext Sx.No w w := Sx.Ext.refl _ _
  refine wp_seq_k fun K1 hK1 => ?_
  -- region 0 (law.go:14)
  refine Sx.wp_text [(0, .take)] rfl ?_
  refine Sx.st_take hT rfl rfl rfl rfl (Sx.x_assign hT rfl rfl) ?_
  clear hT; intro a hT
  replace hT := hT.keep [0] rfl
  refine Sx.ser_nil ?_
  refine Sx.then_normal (hK1 _ _ ?_)
  clear hK1
  refine wp_seq_k fun K2 hK2 => ?_
  -- region 1 (law.go:15)
  refine Sx.wp_text [(0, .run), (1, .take), (2, .take), (3, .take), (4, .take), (5, .take)] rfl ?_
  refine Sx.st_call hT rfl rfl rfl rfl rfl Try.can8 rfl (New_yes 2 _ (by omega)) ?_
  have hz1 := X.size
  rintro _ w1 ⟨p, rfl, hb, hnet0, E⟩
  refine ⟨_, rfl, ?_⟩
  clear hT; intro a hT
  replace X := X.step E
  obtain ⟨F0, hnet, hF0⟩ : ∃ F : Nat → Prop, Net _ p 2 [] F ∧ ∀ i, F i → w.heap.size ≤ i := ⟨_, hnet0, fun i hi => by unfold Sx.One at hi; omega⟩
  clear hnet0
  refine Sx.st_take hT rfl rfl rfl rfl (Sx.x_move hT rfl rfl) ?_
  clear hT; intro a hT
  refine Sx.st_take hT rfl rfl rfl rfl (Sx.x_extract hT rfl rfl rfl) ?_
  clear hT; intro a hT
  refine Sx.st_take hT rfl rfl rfl rfl (Sx.x_extract hT rfl rfl rfl) ?_
  clear hT; intro a hT
  refine Sx.st_take hT rfl rfl rfl rfl (Sx.x_assign hT rfl rfl) ?_
  clear hT; intro a hT
  refine Sx.st_take hT rfl rfl rfl rfl (Sx.x_assign hT rfl rfl) ?_
  clear hT; intro a hT
  replace hT := hT.keep [2, 1, 0] rfl
  refine Sx.ser_nil ?_
  refine Sx.then_normal (hK2 _ _ ?_)
  clear hK2
  refine wp_seq_k fun K3 hK3 => ?_
  refine wp_seq_k fun K4 hK4 => ?_
  -- region 2 (law.go:16)
  refine Sx.wp_text [(0, .take), (1, .take), (2, .take), (3, .take), (4, .take), (5, .take)] rfl ?_
  refine Sx.st_take hT rfl rfl rfl rfl (Sx.x_move hT rfl rfl) ?_
  clear hT; intro a hT
  refine Sx.st_take hT rfl rfl rfl rfl (Sx.x_eqnil_some hT rfl Try.underlying24 rfl rfl) ?_
  clear hT; intro a hT
  refine Sx.st_take hT rfl rfl rfl rfl (Sx.x_move hT rfl rfl) ?_
  clear hT; intro a hT
  refine Sx.st_take hT rfl rfl rfl rfl (Sx.x_move hT rfl rfl) ?_
  clear hT; intro a hT
  refine Sx.st_take hT rfl rfl rfl rfl ((fun w => Sx.x_ne w hT rfl rfl rfl)) ?_
  clear hT; intro a hT
  refine Sx.st_take hT rfl rfl rfl rfl (Sx.x_pick_f hT rfl rfl rfl) ?_
  clear hT; intro a hT
  replace hT := hT.keep [18, 2, 1, 0] rfl
  refine Sx.ser_nil ?_
  refine Sx.then_normal (hK4 _ _ ?_)
  clear hK4
  -- cond 0
  refine Sx.wp_if hT rfl (fun hc5 => ?_) (fun hc5 => ?_)
  · exfalso
    try simp only [decide_eq_true_eq, decide_eq_false_iff_not, Bool.not_eq_true', Bool.not_eq_false', Bool.not_eq_true, Bool.not_eq_false, Bool.and_eq_true, Bool.or_eq_false_iff, beq_iff_eq, bne_iff_ne, Int.not_lt, Int.not_le, ne_eq] at hc5
    first | omega | simp at hc5
  · try simp only [decide_eq_true_eq, decide_eq_false_iff_not, Bool.not_eq_true', Bool.not_eq_false', Bool.not_eq_true, Bool.not_eq_false, Bool.and_eq_true, Bool.or_eq_false_iff, beq_iff_eq, bne_iff_ne, Int.not_lt, Int.not_le, ne_eq] at hc5
    refine wp_skip ?_
    refine Sx.then_normal (hK3 _ _ ?_)
    clear hK3
    refine wp_seq_k fun K6 hK6 => ?_
    -- region 4 (law.go:19)
    refine Sx.wp_text [(0, .take), (1, .run), (2, .run), (3, .run), (4, .take)] rfl ?_
    refine Sx.st_take hT rfl rfl rfl rfl (Sx.x_move hT rfl rfl) ?_
    clear hT; intro a hT
    refine Sx.st_eff hT rfl rfl rfl rfl (Sx.y_slice1 hT rfl Try.underlying30 Try.ti5 rfl rfl rfl rfl rfl rfl _) ?_
    clear hT; rintro _ w2 ⟨b1, rfl, N⟩ a hT
    have hb1 : w.heap.size ≤ b1 := by rw [N.at_]; exact X.size
    have hf_b1 : ∀ k, F0 k → k < b1 := fun k hk => by have := hnet.lt k hk; have := N.at_; omega
    replace X := X.step N.ext
    replace hnet := hnet.ext_no N.ext
    have B1 := N.blk
    clear N
    refine Sx.st_eff hT rfl rfl rfl rfl (Sx.x_mark hT rfl Try.underlying30 Try.underlying5 rfl B1) ?_
    clear hT; rintro _ w3 ⟨rfl, hc, E, _⟩ a hT
    try rw [Sx.Own.one] at E
    replace X := X.fresh E (by omega)
    replace hnet := hnet.ext E (fun k hk h9 => by unfold Sx.One at h9; have := hf_b1 k hk; omega)
    have hbs : Bs _ (some ⟨b1, 0, none⟩) [97] := ⟨rfl, fun _ => rfl, hc⟩
    clear hc
    refine Sx.st_call hT rfl rfl rfl rfl rfl Try.can10 rfl (nSend_ok hnet 1 2 (some ⟨b1, 0, none⟩) 1 1 [97] (by simp) hbs rfl (fun h => by cases h) (by decide)) ?_
    have hz1 := X.size
    rintro _ w4 ⟨rfl, hnet2, E⟩
    refine ⟨_, rfl, ?_⟩
    clear hT; intro a hT
    replace X := X.trans E (fun i hi h9 => absurd hi (by have := hF0 i h9; omega))
    clear hnet hbs E
    obtain ⟨F1, hnet, hF1⟩ : ∃ F : Nat → Prop, Net _ p 2 [⟨1, 2, [97]⟩] F ∧ ∀ i, F i → w.heap.size ≤ i := ⟨_, hnet2, fun i hi => hi.elim (hF0 i) (fun h9 => by omega)⟩
    clear hnet2
    refine Sx.st_take hT rfl rfl rfl rfl (Sx.x_assign hT rfl rfl) ?_
    clear hT; intro a hT
    replace hT := hT.keep [3, 18, 2, 1, 0] rfl
    refine Sx.ser_nil ?_
    refine Sx.then_normal (hK6 _ _ ?_)
    clear hK6
    refine wp_seq_k fun K7 hK7 => ?_
    -- region 5 (law.go:20)
    refine Sx.wp_text [(0, .take), (1, .run), (2, .run), (3, .run), (4, .take)] rfl ?_
    refine Sx.st_take hT rfl rfl rfl rfl (Sx.x_move hT rfl rfl) ?_
    clear hT; intro a hT
    refine Sx.st_eff hT rfl rfl rfl rfl (Sx.y_slice1 hT rfl Try.underlying30 Try.ti5 rfl rfl rfl rfl rfl rfl _) ?_
    clear hT; rintro _ w5 ⟨b2, rfl, N⟩ a hT
    have hb2 : w.heap.size ≤ b2 := by rw [N.at_]; exact X.size
    have hf_b2 : ∀ k, F1 k → k < b2 := fun k hk => by have := hnet.lt k hk; have := N.at_; omega
    replace X := X.step N.ext
    replace hnet := hnet.ext_no N.ext
    have B2 := N.blk
    clear N
    refine Sx.st_eff hT rfl rfl rfl rfl (Sx.x_mark hT rfl Try.underlying30 Try.underlying5 rfl B2) ?_
    clear hT; rintro _ w6 ⟨rfl, hc, E, _⟩ a hT
    try rw [Sx.Own.one] at E
    replace X := X.fresh E (by omega)
    replace hnet := hnet.ext E (fun k hk h9 => by unfold Sx.One at h9; have := hf_b2 k hk; omega)
    have hbs : Bs _ (some ⟨b2, 0, none⟩) [98] := ⟨rfl, fun _ => rfl, hc⟩
    clear hc
    refine Sx.st_call hT rfl rfl rfl rfl rfl Try.can10 rfl (nSend_ok hnet 1 3 (some ⟨b2, 0, none⟩) 1 1 [98] (by simp) hbs rfl (fun h => by cases h) (by decide)) ?_
    have hz1 := X.size
    rintro _ w7 ⟨rfl, hnet2, E⟩
    refine ⟨_, rfl, ?_⟩
    clear hT; intro a hT
    replace X := X.trans E (fun i hi h9 => absurd hi (by have := hF1 i h9; omega))
    clear hnet hbs E
    obtain ⟨F2, hnet, hF2⟩ : ∃ F : Nat → Prop, Net _ p 2 [⟨1, 2, [97]⟩, ⟨1, 3, [98]⟩] F ∧ ∀ i, F i → w.heap.size ≤ i := ⟨_, hnet2, fun i hi => hi.elim (hF1 i) (fun h9 => by omega)⟩
    clear hnet2
    refine Sx.st_take hT rfl rfl rfl rfl (Sx.x_assign hT rfl rfl) ?_
    clear hT; intro a hT
    replace hT := hT.keep [4, 3, 18, 2, 1, 0] rfl
    refine Sx.ser_nil ?_
    refine Sx.then_normal (hK7 _ _ ?_)
    clear hK7
    refine wp_seq_k fun K8 hK8 => ?_
    -- region 6 (law.go:21)
    refine Sx.wp_text [(0, .take), (1, .run), (2, .run), (3, .run), (4, .take)] rfl ?_
    refine Sx.st_take hT rfl rfl rfl rfl (Sx.x_move hT rfl rfl) ?_
    clear hT; intro a hT
    refine Sx.st_eff hT rfl rfl rfl rfl (Sx.y_slice1 hT rfl Try.underlying30 Try.ti5 rfl rfl rfl rfl rfl rfl _) ?_
    clear hT; rintro _ w8 ⟨b3, rfl, N⟩ a hT
    have hb3 : w.heap.size ≤ b3 := by rw [N.at_]; exact X.size
    have hf_b3 : ∀ k, F2 k → k < b3 := fun k hk => by have := hnet.lt k hk; have := N.at_; omega
    replace X := X.step N.ext
    replace hnet := hnet.ext_no N.ext
    have B3 := N.blk
    clear N
    refine Sx.st_eff hT rfl rfl rfl rfl (Sx.x_mark hT rfl Try.underlying30 Try.underlying5 rfl B3) ?_
    clear hT; rintro _ w9 ⟨rfl, hc, E, _⟩ a hT
    try rw [Sx.Own.one] at E
    replace X := X.fresh E (by omega)
    replace hnet := hnet.ext E (fun k hk h9 => by unfold Sx.One at h9; have := hf_b3 k hk; omega)
    have hbs : Bs _ (some ⟨b3, 0, none⟩) [99] := ⟨rfl, fun _ => rfl, hc⟩
    clear hc
    refine Sx.st_call hT rfl rfl rfl rfl rfl Try.can10 rfl (nSend_full hnet 1 2 (some ⟨b3, 0, none⟩) 1 1 (by simp)) ?_
    rintro _ w10 ⟨rfl, E⟩
    refine ⟨_, rfl, ?_⟩
    clear hT; intro a hT
    replace X := X.step E
    replace hnet := hnet.ext_no E
    refine Sx.st_take hT rfl rfl rfl rfl (Sx.x_assign hT rfl rfl) ?_
    clear hT; intro a hT
    replace hT := hT.keep [5, 4, 3, 18, 2, 1, 0] rfl
    refine Sx.ser_nil ?_
    refine Sx.then_normal (hK8 _ _ ?_)
    clear hK8
    refine wp_seq_k fun K9 hK9 => ?_
    -- region 7 (law.go:22)
    refine Sx.wp_text [(0, .take), (1, .run), (2, .take)] rfl ?_
    refine Sx.st_take hT rfl rfl rfl rfl (Sx.x_move hT rfl rfl) ?_
    clear hT; intro a hT
    refine Sx.st_call hT rfl rfl rfl rfl rfl Try.can12 rfl (nMove_yes hnet 1 (-3) 1 ⟨1, 3, [98]⟩ rfl rfl) ?_
    have hz1 := X.size
    rintro _ w11 ⟨rfl, hnet2, E⟩
    refine ⟨_, rfl, ?_⟩
    clear hT; intro a hT
    replace X := X.trans E (fun i hi h9 => absurd hi (by have := hF2 i h9; omega))
    clear hnet E
    obtain ⟨F3, hnet, hF3⟩ : ∃ F : Nat → Prop, Net _ p 2 [⟨1, 3, [98]⟩, ⟨1, 2, [97]⟩] F ∧ ∀ i, F i → w.heap.size ≤ i := ⟨_, hnet2.cast (by decide), fun i hi => hi.elim (hF2 i) (fun h9 => by omega)⟩
    clear hnet2
    refine Sx.st_take hT rfl rfl rfl rfl (Sx.x_assign hT rfl rfl) ?_
    clear hT; intro a hT
    replace hT := hT.keep [6, 5, 4, 3, 18, 2, 1, 0] rfl
    refine Sx.ser_nil ?_
    refine Sx.then_normal (hK9 _ _ ?_)
    clear hK9
    refine wp_seq_k fun K10 hK10 => ?_
    -- region 8 (law.go:23)
    refine Sx.wp_text [(0, .take), (1, .run), (2, .take), (3, .take), (4, .take), (5, .run), (6, .run), (7, .take)] rfl ?_
    refine Sx.st_take hT rfl rfl rfl rfl (Sx.x_move hT rfl rfl) ?_
    clear hT; intro a hT
    refine Sx.st_call hT rfl rfl rfl rfl rfl Try.can11 rfl (nAt_yes hnet 0 0 ⟨1, 3, [98]⟩ rfl rfl) ?_
    rintro _ w12 ⟨ad2, c2, rfl, hto, E⟩
    refine ⟨_, rfl, ?_⟩
    clear hT; intro a hT
    replace X := X.step E
    replace hnet := hnet.ext_no E
    refine Sx.st_take hT rfl rfl rfl rfl (Sx.x_move hT rfl rfl) ?_
    clear hT; intro a hT
    refine Sx.st_take hT rfl rfl rfl rfl (Sx.x_extract hT rfl rfl rfl) ?_
    clear hT; intro a hT
    refine Sx.st_take hT rfl rfl rfl rfl (Sx.x_extract hT rfl rfl rfl) ?_
    clear hT; intro a hT
    refine Sx.st_eff hT rfl rfl rfl rfl (Sx.y_alloc hT rfl Try.ti34 rfl _) ?_
    clear hT; rintro _ w13 ⟨b4, rfl, N⟩ a hT
    have hb4 : w.heap.size ≤ b4 := by rw [N.at_]; exact X.size
    have hf_b4 : ∀ k, F3 k → k < b4 := fun k hk => by have := hnet.lt k hk; have := N.at_; omega
    have hdl4 := fun h0 => Nat.lt_of_lt_of_le (hto.bs.lt h0) (Nat.le_of_eq N.at_.symm)
    replace X := X.step N.ext
    replace hnet := hnet.ext_no N.ext
    replace hto := hto.ext_no N.ext
    have B4 := N.blk
    clear N
    refine Sx.st_act hT rfl rfl rfl (Sx.y_storeS hT rfl Try.ti34 rfl rfl rfl rfl rfl B4 rfl) ?_
    rintro w14 ⟨NB4, E, z⟩
    replace X := X.fresh E (by omega)
    replace hnet := hnet.ext E (fun k hk h9 => by unfold Sx.One at h9; have := hf_b4 k hk; omega)
    replace hto := hto.ext E (fun h0 h9 => by unfold Sx.One at h9; have := hdl4 h0; omega)
    replace B4 := NB4; clear NB4 E
    refine Sx.st_take hT rfl rfl rfl rfl (Sx.x_assign hT rfl rfl) ?_
    clear hT; intro a hT
    replace hT := hT.keep [8, 7, 6, 5, 4, 3, 18, 2, 1, 0] rfl
    refine Sx.ser_nil ?_
    refine Sx.then_normal (hK10 _ _ ?_)
    clear hK10
    refine wp_seq_k fun K11 hK11 => ?_
    -- region 9 (law.go:24)
    refine Sx.wp_text [(0, .take), (1, .take), (2, .take), (3, .take), (4, .take), (5, .take), (6, .take), (7, .take), (8, .take), (9, .take), (10, .take), (11, .take), (12, .take), (13, .take), (14, .take), (15, .take), (16, .take), (17, .take), (18, .run), (19, .take), (20, .take), (21, .take), (22, .take), (23, .run), (24, .run), (25, .take), (26, .take), (27, .take), (28, .take), (29, .run), (30, .take), (31, .take), (32, .take), (33, .take), (34, .run), (35, .take), (36, .take), (37, .take)] rfl ?_
    refine Sx.st_take hT rfl rfl rfl rfl (Sx.x_move hT rfl rfl) ?_
    clear hT; intro a hT
    refine Sx.st_take hT rfl rfl rfl rfl ((fun w => Sx.x_eq w hT rfl rfl rfl)) ?_
    clear hT; intro a hT
    refine Sx.st_take hT rfl rfl rfl rfl (Sx.x_move hT rfl rfl) ?_
    clear hT; intro a hT
    -- guard (9, 2)
    refine Sx.Sl.two hT 40 rfl (fun hc12 hT => ?_) (fun hc12 hT => ?_)
    · try simp only [decide_eq_true_eq, decide_eq_false_iff_not, Bool.not_eq_true', Bool.not_eq_false', Bool.not_eq_true, Bool.not_eq_false, Bool.and_eq_true, Bool.or_eq_false_iff, beq_iff_eq, bne_iff_ne, Int.not_lt, Int.not_le, ne_eq] at hc12
      refine Sx.st_take hT rfl rfl rfl rfl (Sx.x_move hT rfl rfl) ?_
      clear hT; intro a hT
      refine Sx.st_take hT rfl rfl rfl rfl ((fun w => Sx.x_eq w hT rfl rfl rfl)) ?_
      clear hT; intro a hT
      refine Sx.st_take hT rfl rfl rfl rfl (Sx.x_pick_t hT rfl rfl rfl) ?_
      clear hT; intro a hT
      refine Sx.st_take hT rfl rfl rfl rfl (Sx.x_move hT rfl rfl) ?_
      clear hT; intro a hT
      -- guard (9, 6)
      refine Sx.Sl.two hT 44 rfl (fun hc13 hT => ?_) (fun hc13 hT => ?_)
      · try simp only [decide_eq_true_eq, decide_eq_false_iff_not, Bool.not_eq_true', Bool.not_eq_false', Bool.not_eq_true, Bool.not_eq_false, Bool.and_eq_true, Bool.or_eq_false_iff, beq_iff_eq, bne_iff_ne, Int.not_lt, Int.not_le, ne_eq] at hc13
        refine Sx.st_take hT rfl rfl rfl rfl (Sx.x_move hT rfl rfl) ?_
        clear hT; intro a hT
        refine Sx.st_take hT rfl rfl rfl rfl ((fun w => Sx.x_eq w hT rfl rfl rfl)) ?_
        clear hT; intro a hT
        refine Sx.st_take hT rfl rfl rfl rfl (Sx.x_pick_t hT rfl rfl rfl) ?_
        clear hT; intro a hT
        refine Sx.st_take hT rfl rfl rfl rfl (Sx.x_move hT rfl rfl) ?_
        clear hT; intro a hT
        -- guard (9, 10)
        refine Sx.Sl.two hT 48 rfl (fun hc14 hT => ?_) (fun hc14 hT => ?_)
        · try simp only [decide_eq_true_eq, decide_eq_false_iff_not, Bool.not_eq_true', Bool.not_eq_false', Bool.not_eq_true, Bool.not_eq_false, Bool.and_eq_true, Bool.or_eq_false_iff, beq_iff_eq, bne_iff_ne, Int.not_lt, Int.not_le, ne_eq] at hc14
          refine Sx.st_take hT rfl rfl rfl rfl (Sx.x_move hT rfl rfl) ?_
          clear hT; intro a hT
          refine Sx.st_take hT rfl rfl rfl rfl (Sx.x_pick_t hT rfl rfl rfl) ?_
          clear hT; intro a hT
          refine Sx.st_take hT rfl rfl rfl rfl (Sx.x_move hT rfl rfl) ?_
          clear hT; intro a hT
          refine Sx.st_take hT rfl rfl rfl rfl (Sx.x_move hT rfl rfl) ?_
          clear hT; intro a hT
          refine Sx.st_take hT rfl rfl rfl rfl (Sx.x_pick_t hT rfl rfl rfl) ?_
          clear hT; intro a hT
          refine Sx.st_take hT rfl rfl rfl rfl (Sx.x_move hT rfl rfl) ?_
          clear hT; intro a hT
          refine Sx.st_take hT rfl rfl rfl rfl (Sx.x_fieldAddr hT rfl Try.fa34_1 rfl) ?_
          clear hT; intro a hT
          refine Sx.st_run hT rfl rfl rfl rfl (Sx.x_load1 hT rfl Try.fl3 rfl (by first | exact (B4).nth rfl)) ?_
          clear hT; intro a hT
          refine Sx.st_take hT rfl rfl rfl rfl ((fun w => Sx.x_eq w hT rfl rfl rfl)) ?_
          clear hT; intro a hT
          refine Sx.st_take hT rfl rfl rfl rfl (Sx.x_pick_t hT rfl rfl rfl) ?_
          clear hT; intro a hT
          refine Sx.st_take hT rfl rfl rfl rfl (Sx.x_move hT rfl rfl) ?_
          clear hT; intro a hT
          -- guard (9, 21)
          refine Sx.Sl.two hT 59 rfl (fun hc15 hT => ?_) (fun hc15 hT => ?_)
          · try simp only [decide_eq_true_eq, decide_eq_false_iff_not, Bool.not_eq_true', Bool.not_eq_false', Bool.not_eq_true, Bool.not_eq_false, Bool.and_eq_true, Bool.or_eq_false_iff, beq_iff_eq, bne_iff_ne, Int.not_lt, Int.not_le, ne_eq] at hc15
            refine Sx.st_take hT rfl rfl rfl rfl (Sx.x_fieldAddr hT rfl Try.fa34_2 rfl) ?_
            clear hT; intro a hT
            refine Sx.st_run hT rfl rfl rfl rfl (Sx.x_load1 hT rfl Try.fl30 rfl (by first | exact (B4).nth rfl)) ?_
            clear hT; intro a hT
            refine Sx.st_run hT rfl rfl rfl rfl (Sx.x_bytes_string hT rfl (by first | exact hto.bs) Try.underlying30 Try.underlying5 Try.underlying9 rfl rfl) ?_
            clear hT; intro a hT
            refine Sx.st_take hT rfl rfl rfl rfl ((fun w => Sx.x_streq w hT rfl rfl rfl)) ?_
            clear hT; intro a hT
            refine Sx.st_take hT rfl rfl rfl rfl (Sx.x_pick_t hT rfl rfl rfl) ?_
            clear hT; intro a hT
            refine Sx.st_take hT rfl rfl rfl rfl (Sx.x_move hT rfl rfl) ?_
            clear hT; intro a hT
            -- guard (9, 27)
            refine Sx.Sl.two hT 65 rfl (fun hc16 hT => ?_) (fun hc16 hT => ?_)
            · try simp only [decide_eq_true_eq, decide_eq_false_iff_not, Bool.not_eq_true', Bool.not_eq_false', Bool.not_eq_true, Bool.not_eq_false, Bool.and_eq_true, Bool.or_eq_false_iff, beq_iff_eq, bne_iff_ne, Int.not_lt, Int.not_le, ne_eq] at hc16
              refine Sx.st_take hT rfl rfl rfl rfl (Sx.x_move hT rfl rfl) ?_
              clear hT; intro a hT
              refine Sx.st_call hT rfl rfl rfl rfl rfl Try.can15 rfl (nCount_calls hnet 2) ?_
              rintro _ w15 ⟨rfl, E⟩
              refine ⟨_, rfl, ?_⟩
              clear hT; intro a hT
              replace X := X.step E
              replace B4 := B4.ext_no E
              replace hnet := hnet.ext_no E
              replace hto := hto.ext_no E
              refine Sx.st_take hT rfl rfl rfl rfl ((fun w => Sx.x_eq w hT rfl rfl rfl)) ?_
              clear hT; intro a hT
              refine Sx.st_take hT rfl rfl rfl rfl (Sx.x_pick_t hT rfl rfl rfl) ?_
              clear hT; intro a hT
              refine Sx.st_take hT rfl rfl rfl rfl (Sx.x_move hT rfl rfl) ?_
              clear hT; intro a hT
              -- guard (9, 32)
              refine Sx.Sl.two hT 70 rfl (fun hc17 hT => ?_) (fun hc17 hT => ?_)
              · try simp only [decide_eq_true_eq, decide_eq_false_iff_not, Bool.not_eq_true', Bool.not_eq_false', Bool.not_eq_true, Bool.not_eq_false, Bool.and_eq_true, Bool.or_eq_false_iff, beq_iff_eq, bne_iff_ne, Int.not_lt, Int.not_le, ne_eq] at hc17
                refine Sx.st_take hT rfl rfl rfl rfl (Sx.x_move hT rfl rfl) ?_
                clear hT; intro a hT
                refine Sx.st_call hT rfl rfl rfl rfl rfl Try.can13 rfl (nLen_calls hnet) ?_
                rintro _ w16 ⟨rfl, E⟩
                refine ⟨_, rfl, ?_⟩
                clear hT; intro a hT
                replace X := X.step E
                replace B4 := B4.ext_no E
                replace hnet := hnet.ext_no E
                replace hto := hto.ext_no E
                refine Sx.st_take hT rfl rfl rfl rfl ((fun w => Sx.x_eq w hT rfl rfl rfl)) ?_
                clear hT; intro a hT
                refine Sx.st_take hT rfl rfl rfl rfl (Sx.x_pick_t hT rfl rfl rfl) ?_
                clear hT; intro a hT
                refine Sx.st_take hT rfl rfl rfl rfl (Sx.x_assign hT rfl rfl) ?_
                clear hT; intro a hT
                replace hT := hT.keep [0, 8, 7, 6, 5, 4, 3, 18, 2, 1] rfl
                refine Sx.ser_nil ?_
                refine Sx.then_normal (hK11 _ _ ?_)
                clear hK11
                refine wp_ret ?_
                refine Sx.done1 (fn := Try.f7) hT rfl (.tmp (hT.get 0 _ rfl)) ?_
                exact ⟨congrArg (fun b => Ending.returned (.bool b)) (by decide), X⟩
              · exfalso
                try simp only [decide_eq_true_eq, decide_eq_false_iff_not, Bool.not_eq_true', Bool.not_eq_false', Bool.not_eq_true, Bool.not_eq_false, Bool.and_eq_true, Bool.or_eq_false_iff, beq_iff_eq, bne_iff_ne, Int.not_lt, Int.not_le, ne_eq] at hc17
                first | omega | exact hc17 rfl | exact hc17 (by decide) | simp at hc17
            · exfalso
              try simp only [decide_eq_true_eq, decide_eq_false_iff_not, Bool.not_eq_true', Bool.not_eq_false', Bool.not_eq_true, Bool.not_eq_false, Bool.and_eq_true, Bool.or_eq_false_iff, beq_iff_eq, bne_iff_ne, Int.not_lt, Int.not_le, ne_eq] at hc16
              first | omega | exact hc16 rfl | exact hc16 (by decide) | simp at hc16
          · exfalso
            try simp only [decide_eq_true_eq, decide_eq_false_iff_not, Bool.not_eq_true', Bool.not_eq_false', Bool.not_eq_true, Bool.not_eq_false, Bool.and_eq_true, Bool.or_eq_false_iff, beq_iff_eq, bne_iff_ne, Int.not_lt, Int.not_le, ne_eq] at hc15
            first | omega | exact hc15 rfl | exact hc15 (by decide) | simp at hc15
        · exfalso
          try simp only [decide_eq_true_eq, decide_eq_false_iff_not, Bool.not_eq_true', Bool.not_eq_false', Bool.not_eq_true, Bool.not_eq_false, Bool.and_eq_true, Bool.or_eq_false_iff, beq_iff_eq, bne_iff_ne, Int.not_lt, Int.not_le, ne_eq] at hc14
          first | omega | exact hc14 rfl | exact hc14 (by decide) | simp at hc14
      · exfalso
        try simp only [decide_eq_true_eq, decide_eq_false_iff_not, Bool.not_eq_true', Bool.not_eq_false', Bool.not_eq_true, Bool.not_eq_false, Bool.and_eq_true, Bool.or_eq_false_iff, beq_iff_eq, bne_iff_ne, Int.not_lt, Int.not_le, ne_eq] at hc13
        first | omega | exact hc13 rfl | exact hc13 (by decide) | simp at hc13
    · exfalso
      try simp only [decide_eq_true_eq, decide_eq_false_iff_not, Bool.not_eq_true', Bool.not_eq_false', Bool.not_eq_true, Bool.not_eq_false, Bool.and_eq_true, Bool.or_eq_false_iff, beq_iff_eq, bne_iff_ne, Int.not_lt, Int.not_le, ne_eq] at hc12
      first | omega | exact hc12 rfl | exact hc12 (by decide) | simp at hc12

end Go.Proofs.Ytgcelppbbjokeaa
