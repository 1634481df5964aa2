/- Walks: floats, ranges. -/
import Derived.Test.YtakohabmcgponaaTy
import Derived.Test.YtakohabmcgponaaN0
set_option linter.unusedSimpArgs false
set_option linter.unusedVariables false
namespace Go.Proofs.Ytakohabmcgponaa
open Sx
theorem Try.ti3 : Sx.TI Try.prog 3 (.int .i64 0) 1 8 := .mk' (by kernel_rfl)
theorem Try.ti35 : Sx.TI Try.prog 35 (.float .f64 0) 1 8 := .mk' (by kernel_rfl)
theorem Try.ti37 : Sx.TI Try.prog 37 (.agg #[.int .i64 0, .int .i64 0, .float .f64 0, .float .f64 0]) 4 32 := .mk' (by kernel_rfl)
theorem Try.fl3 : Sx.Flat Try.prog 3 := ⟨_, Try.underlying3, trivial⟩
theorem Try.fl35 : Sx.Flat Try.prog 35 := ⟨_, Try.underlying35, trivial⟩
theorem Try.fa37_0 : Sx.FA Try.prog 37 0 0 := ⟨_, _, _, _, _, Try.underlying37, rfl, rfl, Try.ti3, by decide⟩
theorem Try.fa37_1 : Sx.FA Try.prog 37 1 1 := ⟨_, _, _, _, _, Try.underlying37, rfl, rfl, Try.ti3, by decide⟩
theorem Try.fa37_2 : Sx.FA Try.prog 37 2 2 := ⟨_, _, _, _, _, Try.underlying37, rfl, rfl, Try.ti35, by decide⟩
theorem Try.fa37_3 : Sx.FA Try.prog 37 3 3 := ⟨_, _, _, _, _, Try.underlying37, rfl, rfl, Try.ti35, by decide⟩
theorem Try.can31 : Sx.Can Try.prog 31 := ⟨_, Try.func31, by kernel_rfl, rfl⟩
theorem Try.can38 : Sx.Can Try.prog 38 := ⟨_, Try.func38, by kernel_rfl, rfl⟩
theorem Try.can45 : Sx.Can Try.prog 45 := ⟨_, Try.func45, by kernel_rfl, rfl⟩
theorem Try.can53 : Sx.Can Try.prog 53 := ⟨_, Try.func53, by kernel_rfl, rfl⟩
theorem Try.can57 : Sx.Can Try.prog 57 := ⟨_, Try.func57, by kernel_rfl, rfl⟩
theorem Try.can69 : Sx.Can Try.prog 69 := ⟨_, Try.func69, by kernel_rfl, rfl⟩
theorem Canon_calls (b : Nat) (w : World) : Calls Try.prog 69 #[.float .f64 b] w fun e w' => e = .returned (.float .f64 (fcan b)) ∧ Ext No w w' := by
  refine Sx.calls_into Try.func69 rfl Try.ntmps69 rfl fun a hT => ?_
  replace hT := hT.keep [0] rfl
  have H : Sx.Hp w (Sx.No) w [] := Sx.Hp.start _ _
  refine wp_seq_k fun K1 hK1 => ?_
  -- region 0 (num.go:19)
  refine Sx.wp_text [(0, .take)] rfl ?_
  refine Sx.st_take hT rfl rfl rfl rfl (Sx.x_assign hT rfl rfl) ?_
  clear hT; intro a hT
  replace hT := hT.keep [2, 0] rfl
  refine Sx.ser_nil ?_
  refine Sx.then_normal (hK1 _ _ ?_)
  clear hK1
  refine wp_seq_k fun K2 hK2 => ?_
  refine wp_seq_k fun K3 hK3 => ?_
  -- region 1 (num.go:20)
  refine Sx.wp_text [(0, .take), (1, .take), (2, .take)] rfl ?_
  refine Sx.st_take hT rfl rfl rfl rfl (Sx.x_move hT rfl rfl) ?_
  clear hT; intro a hT
  refine Sx.st_take hT rfl rfl rfl rfl (Sx.x_move hT rfl rfl) ?_
  clear hT; intro a hT
  refine Sx.st_take hT rfl rfl rfl rfl (Sx.x_fne hT rfl rfl rfl) ?_
  clear hT; intro a hT
  replace hT := hT.keep [5, 2, 0] rfl
  refine Sx.ser_nil ?_
  refine Sx.then_normal (hK3 _ _ ?_)
  clear hK3
  -- cond 0
  refine Sx.wp_if hT rfl (fun hc4 => ?_) (fun hc4 => ?_)
  · try simp only [decide_eq_true_eq, decide_eq_false_iff_not, Bool.not_eq_true', Bool.not_eq_false', Bool.not_eq_true, Bool.not_eq_false, Bool.and_eq_true, Bool.or_eq_false_iff, beq_iff_eq, bne_iff_ne, Int.not_lt, Int.not_le, ne_eq] at hc4
    refine wp_seq_k fun K5 hK5 => ?_
    -- region 2 (num.go:21)
    refine Sx.wp_text [(0, .run), (1, .take)] rfl ?_
    refine Sx.st_run hT rfl rfl rfl rfl (Sx.x_extern hT rfl rfl Try.func76 (by kernel_rfl) (by kernel_rfl) (by kernel_rfl) (by kernel_rfl) _ (Sx.run_f64frombits _ _)) ?_
    clear hT; intro a hT
    refine Sx.st_take hT rfl rfl rfl rfl (Sx.x_assign hT rfl rfl) ?_
    clear hT; intro a hT
    replace hT := hT.keep [2, 5, 0] rfl
    refine Sx.ser_nil ?_
    refine Sx.then_normal (hK5 _ _ ?_)
    clear hK5
    refine wp_ret ?_
    refine Sx.then_ret ?_
    refine Sx.done1 (fn := Try.f69) hT rfl (.tmp (hT.get 2 _ rfl)) ?_
    exact ⟨by unfold fcan fnan; (try unfold fnum); simp_all, H.ext⟩
  · try simp only [decide_eq_true_eq, decide_eq_false_iff_not, Bool.not_eq_true', Bool.not_eq_false', Bool.not_eq_true, Bool.not_eq_false, Bool.and_eq_true, Bool.or_eq_false_iff, beq_iff_eq, bne_iff_ne, Int.not_lt, Int.not_le, ne_eq] at hc4
    refine wp_skip ?_
    refine Sx.then_normal (hK2 _ _ ?_)
    clear hK2
    refine wp_seq_k fun K6 hK6 => ?_
    -- region 3 (num.go:23)
    refine Sx.wp_text [(0, .take), (1, .take)] rfl ?_
    refine Sx.st_take hT rfl rfl rfl rfl (Sx.x_move hT rfl rfl) ?_
    clear hT; intro a hT
    refine Sx.st_take hT rfl rfl rfl rfl (Sx.x_assign hT rfl rfl) ?_
    clear hT; intro a hT
    replace hT := hT.keep [2, 5, 0] rfl
    refine Sx.ser_nil ?_
    refine Sx.then_normal (hK6 _ _ ?_)
    clear hK6
    refine wp_ret ?_
    refine Sx.done1 (fn := Try.f69) hT rfl (.tmp (hT.get 2 _ rfl)) ?_
    exact ⟨by unfold fcan fnan; (try unfold fnum); simp_all, H.ext⟩

theorem Bits_calls (b : Nat) (w : World) : Calls Try.prog 57 #[.float .f64 b] w fun e w' => e = .returned (.int .u64 (fcan b)) ∧ Ext No w w' := by
  refine Sx.calls_into Try.func57 rfl Try.ntmps57 rfl fun a hT => ?_
  replace hT := hT.keep [0] rfl
  have H : Sx.Hp w (Sx.No) w [] := Sx.Hp.start _ _
  refine wp_seq_k fun K1 hK1 => ?_
  -- region 0 (num.go:27)
  refine Sx.wp_text [(0, .take)] rfl ?_
  refine Sx.st_take hT rfl rfl rfl rfl (Sx.x_assign hT rfl rfl) ?_
  clear hT; intro a hT
  replace hT := hT.keep [2, 0] rfl
  refine Sx.ser_nil ?_
  refine Sx.then_normal (hK1 _ _ ?_)
  clear hK1
  refine wp_seq_k fun K2 hK2 => ?_
  -- region 1 (num.go:27)
  refine Sx.wp_text [(0, .take), (1, .run), (2, .run), (3, .take)] rfl ?_
  refine Sx.st_take hT rfl rfl rfl rfl (Sx.x_move hT rfl rfl) ?_
  clear hT; intro a hT
  refine Sx.st_call hT rfl rfl rfl rfl rfl Try.can69 rfl (Canon_calls _ _) ?_
  rintro _ w1 ⟨rfl, E⟩
  refine ⟨_, rfl, ?_⟩
  clear hT; intro a hT
  replace H := H.pure E; clear E
  refine Sx.st_run hT rfl rfl rfl rfl (Sx.x_extern hT rfl rfl Try.func50 (by kernel_rfl) (by kernel_rfl) (by kernel_rfl) (by kernel_rfl) _ (Sx.run_f64bits _ _)) ?_
  clear hT; intro a hT
  refine Sx.st_take hT rfl rfl rfl rfl (Sx.x_assign hT rfl rfl) ?_
  clear hT; intro a hT
  replace hT := hT.keep [2, 0] rfl
  refine Sx.ser_nil ?_
  refine Sx.then_normal (hK2 _ _ ?_)
  clear hK2
  refine wp_ret ?_
  refine Sx.done1 (fn := Try.f57) hT rfl (.tmp (hT.get 2 _ rfl)) ?_
  exact ⟨rfl, H.ext⟩

theorem same_calls (b c : Nat) (w : World) : Calls Try.prog 38 #[.float .f64 b, .float .f64 c] w fun e w' => e = .returned (.bool (decide (c = b))) ∧ Ext No w w' := by
  refine Sx.calls_into Try.func38 rfl Try.ntmps38 rfl fun a hT => ?_
  replace hT := hT.keep [0, 1] rfl
  have H : Sx.Hp w (Sx.No) w [] := Sx.Hp.start _ _
  refine wp_seq_k fun K1 hK1 => ?_
  -- region 0 (same.go:11)
  refine Sx.wp_text [(0, .take)] rfl ?_
  refine Sx.st_take hT rfl rfl rfl rfl (Sx.x_assign hT rfl rfl) ?_
  clear hT; intro a hT
  replace hT := hT.keep [4, 0, 1] rfl
  refine Sx.ser_nil ?_
  refine Sx.then_normal (hK1 _ _ ?_)
  clear hK1
  refine wp_seq_k fun K2 hK2 => ?_
  -- region 1 (same.go:11)
  refine Sx.wp_text [(0, .take), (1, .run), (2, .take), (3, .run), (4, .take), (5, .take)] rfl ?_
  refine Sx.st_take hT rfl rfl rfl rfl (Sx.x_move hT rfl rfl) ?_
  clear hT; intro a hT
  refine Sx.st_run hT rfl rfl rfl rfl (Sx.x_extern hT rfl rfl Try.func50 (by kernel_rfl) (by kernel_rfl) (by kernel_rfl) (by kernel_rfl) _ (Sx.run_f64bits _ _)) ?_
  clear hT; intro a hT
  refine Sx.st_take hT rfl rfl rfl rfl (Sx.x_move hT rfl rfl) ?_
  clear hT; intro a hT
  refine Sx.st_run hT rfl rfl rfl rfl (Sx.x_extern hT rfl rfl Try.func50 (by kernel_rfl) (by kernel_rfl) (by kernel_rfl) (by kernel_rfl) _ (Sx.run_f64bits _ _)) ?_
  clear hT; intro a hT
  refine Sx.st_take hT rfl rfl rfl rfl ((fun w => Sx.x_eq w hT rfl rfl rfl)) ?_
  clear hT; intro a hT
  refine Sx.st_take hT rfl rfl rfl rfl (Sx.x_assign hT rfl rfl) ?_
  clear hT; intro a hT
  replace hT := hT.keep [4, 0, 1] rfl
  refine Sx.ser_nil ?_
  refine Sx.then_normal (hK2 _ _ ?_)
  clear hK2
  refine wp_ret ?_
  refine Sx.done1 (fn := Try.f38) hT rfl (.tmp (hT.get 4 _ rfl)) ?_
  exact ⟨by simp [Int.ofNat_inj, eq_comm], H.ext⟩

theorem Class_calls (b : Nat) (w : World) : Calls Try.prog 53 #[.float .f64 b] w fun e w' => e = .returned (.int .i64 (classF (fcan b))) ∧ Ext No w w' := by
  refine Sx.calls_into Try.func53 rfl Try.ntmps53 rfl fun a hT => ?_
  replace hT := hT.keep [0] rfl
  have H : Sx.Hp w (Sx.No) w [] := Sx.Hp.start _ _
  refine wp_seq_k fun K1 hK1 => ?_
  -- region 0 (num.go:33)
  refine Sx.wp_text [(0, .take)] rfl ?_
  refine Sx.st_take hT rfl rfl rfl rfl (Sx.x_assign hT rfl rfl) ?_
  clear hT; intro a hT
  replace hT := hT.keep [2, 0] rfl
  refine Sx.ser_nil ?_
  refine Sx.then_normal (hK1 _ _ ?_)
  clear hK1
  refine wp_seq_k fun K2 hK2 => ?_
  -- region 1 (num.go:34)
  refine Sx.wp_text [(0, .take), (1, .run), (2, .take)] rfl ?_
  refine Sx.st_take hT rfl rfl rfl rfl (Sx.x_move hT rfl rfl) ?_
  clear hT; intro a hT
  refine Sx.st_call hT rfl rfl rfl rfl rfl Try.can57 rfl (Bits_calls _ _) ?_
  rintro _ w1 ⟨rfl, E⟩
  refine ⟨_, rfl, ?_⟩
  clear hT; intro a hT
  replace H := H.pure E; clear E
  refine Sx.st_take hT rfl rfl rfl rfl (Sx.x_assign hT rfl rfl) ?_
  clear hT; intro a hT
  replace hT := hT.keep [3, 2, 0] rfl
  refine Sx.ser_nil ?_
  refine Sx.then_normal (hK2 _ _ ?_)
  clear hK2
  refine wp_seq_k fun K3 hK3 => ?_
  -- region 2 (num.go:35)
  refine Sx.wp_text [(0, .take), (1, .take), (2, .take), (3, .take), (4, .take), (5, .take), (6, .take)] rfl ?_
  refine Sx.st_take hT rfl rfl rfl rfl (Sx.x_move hT rfl rfl) ?_
  clear hT; intro a hT
  refine Sx.st_take hT rfl rfl rfl rfl (Sx.x_ushr (s := 52) hT rfl rfl rfl (by omega)) ?_
  clear hT; intro a hT
  refine Sx.st_take hT rfl rfl rfl rfl (Sx.x_uand hT rfl rfl rfl) ?_
  clear hT; intro a hT
  rw [show (2047 : Int) = ((2 ^ 11 - 1 : Nat) : Int) from rfl, uand_mask _ 11 (by omega)] at hT
  refine Sx.st_take hT rfl rfl rfl rfl (Sx.x_move hT rfl rfl) ?_
  clear hT; intro a hT
  refine Sx.st_take hT rfl rfl rfl rfl (Sx.x_uand hT rfl rfl rfl) ?_
  clear hT; intro a hT
  rw [show (4503599627370495 : Int) = ((2 ^ 52 - 1 : Nat) : Int) from rfl, uand_mask _ 52 (by omega)] at hT
  refine Sx.st_take hT rfl rfl rfl rfl (Sx.x_assign hT rfl rfl) ?_
  clear hT; intro a hT
  refine Sx.st_take hT rfl rfl rfl rfl (Sx.x_assign hT rfl rfl) ?_
  clear hT; intro a hT
  replace hT := hT.keep [5, 4, 3, 2, 0] rfl
  refine Sx.ser_nil ?_
  refine Sx.then_normal (hK3 _ _ ?_)
  clear hK3
  refine wp_seq_k fun K4 hK4 => ?_
  -- region 3 (num.go:36)
  refine Sx.wp_text [(0, .take)] rfl ?_
  refine Sx.st_take hT rfl rfl rfl rfl (Sx.x_assign hT rfl rfl) ?_
  clear hT; intro a hT
  replace hT := hT.keep [6, 5, 4, 3, 2, 0] rfl
  refine Sx.ser_nil ?_
  refine Sx.then_normal (hK4 _ _ ?_)
  clear hK4
  refine wp_seq_k fun K5 hK5 => ?_
  refine wp_block ?_
  refine wp_seq_k fun K6 hK6 => ?_
  -- region 5 (num.go:38)
  refine Sx.wp_text [(0, .take), (1, .take), (2, .take), (3, .take), (4, .take), (5, .take), (6, .take)] rfl ?_
  refine Sx.st_take hT rfl rfl rfl rfl (Sx.x_move hT rfl rfl) ?_
  clear hT; intro a hT
  refine Sx.st_take hT rfl rfl rfl rfl ((fun w => Sx.x_eq w hT rfl rfl rfl)) ?_
  clear hT; intro a hT
  refine Sx.st_take hT rfl rfl rfl rfl (Sx.x_move hT rfl rfl) ?_
  clear hT; intro a hT
  -- guard (5, 2)
  refine Sx.Sl.two hT 17 rfl (fun hc7 hT => ?_) (fun hc7 hT => ?_)
  · try simp only [decide_eq_true_eq, decide_eq_false_iff_not, Bool.not_eq_true', Bool.not_eq_false', Bool.not_eq_true, Bool.not_eq_false, Bool.and_eq_true, Bool.or_eq_false_iff, beq_iff_eq, bne_iff_ne, Int.not_lt, Int.not_le, ne_eq] at hc7
    refine Sx.st_take hT rfl rfl rfl rfl (Sx.x_move hT rfl rfl) ?_
    clear hT; intro a hT
    refine Sx.st_take hT rfl rfl rfl rfl ((fun w => Sx.x_ne w hT rfl rfl rfl)) ?_
    clear hT; intro a hT
    refine Sx.st_take hT rfl rfl rfl rfl (Sx.x_pick_t hT rfl rfl rfl) ?_
    clear hT; intro a hT
    refine Sx.st_take hT rfl rfl rfl rfl (Sx.x_assign hT rfl rfl) ?_
    clear hT; intro a hT
    replace hT := hT.keep [14, 6, 5, 4, 3, 2, 0] rfl
    refine Sx.ser_nil ?_
    refine Sx.then_normal (hK6 _ _ ?_)
    clear hK6
    -- cond 0
    refine Sx.wp_if hT rfl (fun hc8 => ?_) (fun hc8 => ?_)
    · try simp only [decide_eq_true_eq, decide_eq_false_iff_not, Bool.not_eq_true', Bool.not_eq_false', Bool.not_eq_true, Bool.not_eq_false, Bool.and_eq_true, Bool.or_eq_false_iff, beq_iff_eq, bne_iff_ne, Int.not_lt, Int.not_le, ne_eq] at hc8
      refine wp_seq_k fun K9 hK9 => ?_
      -- region 6 (num.go:39)
      refine Sx.wp_text [(0, .take)] rfl ?_
      refine Sx.st_take hT rfl rfl rfl rfl (Sx.x_assign hT rfl rfl) ?_
      clear hT; intro a hT
      replace hT := hT.keep [2, 14, 6, 5, 4, 3, 0] rfl
      refine Sx.ser_nil ?_
      refine Sx.then_normal (hK9 _ _ ?_)
      clear hK9
      refine wp_ret ?_
      refine Sx.block_ret ?_
      refine Sx.then_ret ?_
      clear hK5
      refine Sx.done1 (fn := Try.f53) hT rfl (.tmp (hT.get 2 _ rfl)) ?_
      refine ⟨ret_i ?_, H.ext⟩
      clear hT H
      unfold classF fexp ffrac sgn
      (repeat' split) <;> first | rfl | omega | (exfalso; omega) | skip
    · try simp only [decide_eq_true_eq, decide_eq_false_iff_not, Bool.not_eq_true', Bool.not_eq_false', Bool.not_eq_true, Bool.not_eq_false, Bool.and_eq_true, Bool.or_eq_false_iff, beq_iff_eq, bne_iff_ne, Int.not_lt, Int.not_le, ne_eq] at hc8
      refine wp_seq_k fun K10 hK10 => ?_
      -- region 7 (num.go:40)
      refine Sx.wp_text [(0, .take), (1, .take), (2, .take)] rfl ?_
      refine Sx.st_take hT rfl rfl rfl rfl (Sx.x_move hT rfl rfl) ?_
      clear hT; intro a hT
      refine Sx.st_take hT rfl rfl rfl rfl ((fun w => Sx.x_eq w hT rfl rfl rfl)) ?_
      clear hT; intro a hT
      refine Sx.st_take hT rfl rfl rfl rfl (Sx.x_assign hT rfl rfl) ?_
      clear hT; intro a hT
      replace hT := hT.keep [21, 14, 6, 5, 4, 3, 2, 0] rfl
      refine Sx.ser_nil ?_
      refine Sx.then_normal (hK10 _ _ ?_)
      clear hK10
      -- cond 1
      refine Sx.wp_if hT rfl (fun hc11 => ?_) (fun hc11 => ?_)
      · try simp only [decide_eq_true_eq, decide_eq_false_iff_not, Bool.not_eq_true', Bool.not_eq_false', Bool.not_eq_true, Bool.not_eq_false, Bool.and_eq_true, Bool.or_eq_false_iff, beq_iff_eq, bne_iff_ne, Int.not_lt, Int.not_le, ne_eq] at hc11
        -- region 8 (num.go:41)
        refine Sx.wp_text [(0, .take)] rfl ?_
        refine Sx.st_take hT rfl rfl rfl rfl (Sx.x_assign hT rfl rfl) ?_
        clear hT; intro a hT
        replace hT := hT.keep [6, 21, 14, 5, 4, 3, 2, 0] rfl
        refine Sx.ser_nil ?_
        refine Sx.block_normal ?_
        refine Sx.then_normal (hK5 _ _ ?_)
        clear hK5
        refine wp_seq_k fun K12 hK12 => ?_
        refine wp_seq_k fun K13 hK13 => ?_
        -- region 13 (num.go:49)
        refine Sx.wp_text [(0, .take), (1, .take), (2, .take)] rfl ?_
        refine Sx.st_take hT rfl rfl rfl rfl (Sx.x_move hT rfl rfl) ?_
        clear hT; intro a hT
        refine Sx.st_take hT rfl rfl rfl rfl (Sx.x_uand hT rfl rfl rfl) ?_
        clear hT; intro a hT
        refine Sx.st_take hT rfl rfl rfl rfl ((fun w => Sx.x_ne w hT rfl rfl rfl)) ?_
        clear hT; intro a hT
        replace hT := hT.keep [32, 6, 21, 14, 5, 4, 3, 2, 0] rfl
        refine Sx.ser_nil ?_
        refine Sx.then_normal (hK13 _ _ ?_)
        clear hK13
        -- cond 4
        refine Sx.wp_if hT rfl (fun hc14 => ?_) (fun hc14 => ?_)
        · try simp only [decide_eq_true_eq, decide_eq_false_iff_not, Bool.not_eq_true', Bool.not_eq_false', Bool.not_eq_true, Bool.not_eq_false, Bool.and_eq_true, Bool.or_eq_false_iff, beq_iff_eq, bne_iff_ne, Int.not_lt, Int.not_le, ne_eq] at hc14
          refine wp_seq_k fun K15 hK15 => ?_
          -- region 14 (num.go:50)
          refine Sx.wp_text [(0, .take), (1, .take), (2, .take)] rfl ?_
          refine Sx.st_take hT rfl rfl rfl rfl (Sx.x_move hT rfl rfl) ?_
          clear hT; intro a hT
          refine Sx.st_take hT rfl rfl rfl rfl ((fun w => Sx.x_sub w hT rfl rfl rfl (Sx.wrap64 (by omega)))) ?_
          clear hT; intro a hT
          refine Sx.st_take hT rfl rfl rfl rfl (Sx.x_assign hT rfl rfl) ?_
          clear hT; intro a hT
          replace hT := hT.keep [2, 32, 6, 21, 14, 5, 4, 3, 0] rfl
          refine Sx.ser_nil ?_
          refine Sx.then_normal (hK15 _ _ ?_)
          clear hK15
          refine wp_ret ?_
          refine Sx.then_ret ?_
          clear hK12
          refine Sx.done1 (fn := Try.f53) hT rfl (.tmp (hT.get 2 _ rfl)) ?_
          refine ⟨ret_i ?_, H.ext⟩
          clear hT H
          unfold classF fexp ffrac sgn
          (repeat' split) <;> first | rfl | omega | (exfalso; omega) | skip
        · try simp only [decide_eq_true_eq, decide_eq_false_iff_not, Bool.not_eq_true', Bool.not_eq_false', Bool.not_eq_true, Bool.not_eq_false, Bool.and_eq_true, Bool.or_eq_false_iff, beq_iff_eq, bne_iff_ne, Int.not_lt, Int.not_le, ne_eq] at hc14
          refine wp_skip ?_
          refine Sx.then_normal (hK12 _ _ ?_)
          clear hK12
          refine wp_seq_k fun K16 hK16 => ?_
          -- region 15 (num.go:52)
          refine Sx.wp_text [(0, .take), (1, .take)] rfl ?_
          refine Sx.st_take hT rfl rfl rfl rfl (Sx.x_move hT rfl rfl) ?_
          clear hT; intro a hT
          refine Sx.st_take hT rfl rfl rfl rfl (Sx.x_assign hT rfl rfl) ?_
          clear hT; intro a hT
          replace hT := hT.keep [2, 32, 6, 21, 14, 5, 4, 3, 0] rfl
          refine Sx.ser_nil ?_
          refine Sx.then_normal (hK16 _ _ ?_)
          clear hK16
          refine wp_ret ?_
          refine Sx.done1 (fn := Try.f53) hT rfl (.tmp (hT.get 2 _ rfl)) ?_
          refine ⟨ret_i ?_, H.ext⟩
          clear hT H
          unfold classF fexp ffrac sgn
          (repeat' split) <;> first | rfl | omega | (exfalso; omega) | skip
      · try simp only [decide_eq_true_eq, decide_eq_false_iff_not, Bool.not_eq_true', Bool.not_eq_false', Bool.not_eq_true, Bool.not_eq_false, Bool.and_eq_true, Bool.or_eq_false_iff, beq_iff_eq, bne_iff_ne, Int.not_lt, Int.not_le, ne_eq] at hc11
        refine wp_seq_k fun K17 hK17 => ?_
        -- region 9 (num.go:42)
        refine Sx.wp_text [(0, .take), (1, .take), (2, .take)] rfl ?_
        refine Sx.st_take hT rfl rfl rfl rfl (Sx.x_move hT rfl rfl) ?_
        clear hT; intro a hT
        refine Sx.st_take hT rfl rfl rfl rfl ((fun w => Sx.x_gt w hT rfl rfl rfl)) ?_
        clear hT; intro a hT
        refine Sx.st_take hT rfl rfl rfl rfl (Sx.x_assign hT rfl rfl) ?_
        clear hT; intro a hT
        replace hT := hT.keep [24, 21, 14, 6, 5, 4, 3, 2, 0] rfl
        refine Sx.ser_nil ?_
        refine Sx.then_normal (hK17 _ _ ?_)
        clear hK17
        -- cond 2
        refine Sx.wp_if hT rfl (fun hc18 => ?_) (fun hc18 => ?_)
        · try simp only [decide_eq_true_eq, decide_eq_false_iff_not, Bool.not_eq_true', Bool.not_eq_false', Bool.not_eq_true, Bool.not_eq_false, Bool.and_eq_true, Bool.or_eq_false_iff, beq_iff_eq, bne_iff_ne, Int.not_lt, Int.not_le, ne_eq] at hc18
          -- region 10 (num.go:43)
          refine Sx.wp_text [(0, .take)] rfl ?_
          refine Sx.st_take hT rfl rfl rfl rfl (Sx.x_assign hT rfl rfl) ?_
          clear hT; intro a hT
          replace hT := hT.keep [6, 24, 21, 14, 5, 4, 3, 2, 0] rfl
          refine Sx.ser_nil ?_
          refine Sx.block_normal ?_
          refine Sx.then_normal (hK5 _ _ ?_)
          clear hK5
          refine wp_seq_k fun K19 hK19 => ?_
          refine wp_seq_k fun K20 hK20 => ?_
          -- region 13 (num.go:49)
          refine Sx.wp_text [(0, .take), (1, .take), (2, .take)] rfl ?_
          refine Sx.st_take hT rfl rfl rfl rfl (Sx.x_move hT rfl rfl) ?_
          clear hT; intro a hT
          refine Sx.st_take hT rfl rfl rfl rfl (Sx.x_uand hT rfl rfl rfl) ?_
          clear hT; intro a hT
          refine Sx.st_take hT rfl rfl rfl rfl ((fun w => Sx.x_ne w hT rfl rfl rfl)) ?_
          clear hT; intro a hT
          replace hT := hT.keep [32, 6, 24, 21, 14, 5, 4, 3, 2, 0] rfl
          refine Sx.ser_nil ?_
          refine Sx.then_normal (hK20 _ _ ?_)
          clear hK20
          -- cond 4
          refine Sx.wp_if hT rfl (fun hc21 => ?_) (fun hc21 => ?_)
          · try simp only [decide_eq_true_eq, decide_eq_false_iff_not, Bool.not_eq_true', Bool.not_eq_false', Bool.not_eq_true, Bool.not_eq_false, Bool.and_eq_true, Bool.or_eq_false_iff, beq_iff_eq, bne_iff_ne, Int.not_lt, Int.not_le, ne_eq] at hc21
            refine wp_seq_k fun K22 hK22 => ?_
            -- region 14 (num.go:50)
            refine Sx.wp_text [(0, .take), (1, .take), (2, .take)] rfl ?_
            refine Sx.st_take hT rfl rfl rfl rfl (Sx.x_move hT rfl rfl) ?_
            clear hT; intro a hT
            refine Sx.st_take hT rfl rfl rfl rfl ((fun w => Sx.x_sub w hT rfl rfl rfl (Sx.wrap64 (by omega)))) ?_
            clear hT; intro a hT
            refine Sx.st_take hT rfl rfl rfl rfl (Sx.x_assign hT rfl rfl) ?_
            clear hT; intro a hT
            replace hT := hT.keep [2, 32, 6, 24, 21, 14, 5, 4, 3, 0] rfl
            refine Sx.ser_nil ?_
            refine Sx.then_normal (hK22 _ _ ?_)
            clear hK22
            refine wp_ret ?_
            refine Sx.then_ret ?_
            clear hK19
            refine Sx.done1 (fn := Try.f53) hT rfl (.tmp (hT.get 2 _ rfl)) ?_
            refine ⟨ret_i ?_, H.ext⟩
            clear hT H
            unfold classF fexp ffrac sgn
            (repeat' split) <;> first | rfl | omega | (exfalso; omega) | skip
          · try simp only [decide_eq_true_eq, decide_eq_false_iff_not, Bool.not_eq_true', Bool.not_eq_false', Bool.not_eq_true, Bool.not_eq_false, Bool.and_eq_true, Bool.or_eq_false_iff, beq_iff_eq, bne_iff_ne, Int.not_lt, Int.not_le, ne_eq] at hc21
            refine wp_skip ?_
            refine Sx.then_normal (hK19 _ _ ?_)
            clear hK19
            refine wp_seq_k fun K23 hK23 => ?_
            -- region 15 (num.go:52)
            refine Sx.wp_text [(0, .take), (1, .take)] rfl ?_
            refine Sx.st_take hT rfl rfl rfl rfl (Sx.x_move hT rfl rfl) ?_
            clear hT; intro a hT
            refine Sx.st_take hT rfl rfl rfl rfl (Sx.x_assign hT rfl rfl) ?_
            clear hT; intro a hT
            replace hT := hT.keep [2, 32, 6, 24, 21, 14, 5, 4, 3, 0] rfl
            refine Sx.ser_nil ?_
            refine Sx.then_normal (hK23 _ _ ?_)
            clear hK23
            refine wp_ret ?_
            refine Sx.done1 (fn := Try.f53) hT rfl (.tmp (hT.get 2 _ rfl)) ?_
            refine ⟨ret_i ?_, H.ext⟩
            clear hT H
            unfold classF fexp ffrac sgn
            (repeat' split) <;> first | rfl | omega | (exfalso; omega) | skip
        · try simp only [decide_eq_true_eq, decide_eq_false_iff_not, Bool.not_eq_true', Bool.not_eq_false', Bool.not_eq_true, Bool.not_eq_false, Bool.and_eq_true, Bool.or_eq_false_iff, beq_iff_eq, bne_iff_ne, Int.not_lt, Int.not_le, ne_eq] at hc18
          refine wp_seq_k fun K24 hK24 => ?_
          -- region 11 (num.go:44)
          refine Sx.wp_text [(0, .take), (1, .take), (2, .take)] rfl ?_
          refine Sx.st_take hT rfl rfl rfl rfl (Sx.x_move hT rfl rfl) ?_
          clear hT; intro a hT
          refine Sx.st_take hT rfl rfl rfl rfl ((fun w => Sx.x_gt w hT rfl rfl rfl)) ?_
          clear hT; intro a hT
          refine Sx.st_take hT rfl rfl rfl rfl (Sx.x_assign hT rfl rfl) ?_
          clear hT; intro a hT
          replace hT := hT.keep [27, 24, 21, 14, 6, 5, 4, 3, 2, 0] rfl
          refine Sx.ser_nil ?_
          refine Sx.then_normal (hK24 _ _ ?_)
          clear hK24
          -- cond 3
          refine Sx.wp_if hT rfl (fun hc25 => ?_) (fun hc25 => ?_)
          · try simp only [decide_eq_true_eq, decide_eq_false_iff_not, Bool.not_eq_true', Bool.not_eq_false', Bool.not_eq_true, Bool.not_eq_false, Bool.and_eq_true, Bool.or_eq_false_iff, beq_iff_eq, bne_iff_ne, Int.not_lt, Int.not_le, ne_eq] at hc25
            -- region 12 (num.go:45)
            refine Sx.wp_text [(0, .take)] rfl ?_
            refine Sx.st_take hT rfl rfl rfl rfl (Sx.x_assign hT rfl rfl) ?_
            clear hT; intro a hT
            replace hT := hT.keep [6, 27, 24, 21, 14, 5, 4, 3, 2, 0] rfl
            refine Sx.ser_nil ?_
            refine Sx.block_normal ?_
            refine Sx.then_normal (hK5 _ _ ?_)
            clear hK5
            refine wp_seq_k fun K26 hK26 => ?_
            refine wp_seq_k fun K27 hK27 => ?_
            -- region 13 (num.go:49)
            refine Sx.wp_text [(0, .take), (1, .take), (2, .take)] rfl ?_
            refine Sx.st_take hT rfl rfl rfl rfl (Sx.x_move hT rfl rfl) ?_
            clear hT; intro a hT
            refine Sx.st_take hT rfl rfl rfl rfl (Sx.x_uand hT rfl rfl rfl) ?_
            clear hT; intro a hT
            refine Sx.st_take hT rfl rfl rfl rfl ((fun w => Sx.x_ne w hT rfl rfl rfl)) ?_
            clear hT; intro a hT
            replace hT := hT.keep [32, 6, 27, 24, 21, 14, 5, 4, 3, 2, 0] rfl
            refine Sx.ser_nil ?_
            refine Sx.then_normal (hK27 _ _ ?_)
            clear hK27
            -- cond 4
            refine Sx.wp_if hT rfl (fun hc28 => ?_) (fun hc28 => ?_)
            · try simp only [decide_eq_true_eq, decide_eq_false_iff_not, Bool.not_eq_true', Bool.not_eq_false', Bool.not_eq_true, Bool.not_eq_false, Bool.and_eq_true, Bool.or_eq_false_iff, beq_iff_eq, bne_iff_ne, Int.not_lt, Int.not_le, ne_eq] at hc28
              refine wp_seq_k fun K29 hK29 => ?_
              -- region 14 (num.go:50)
              refine Sx.wp_text [(0, .take), (1, .take), (2, .take)] rfl ?_
              refine Sx.st_take hT rfl rfl rfl rfl (Sx.x_move hT rfl rfl) ?_
              clear hT; intro a hT
              refine Sx.st_take hT rfl rfl rfl rfl ((fun w => Sx.x_sub w hT rfl rfl rfl (Sx.wrap64 (by omega)))) ?_
              clear hT; intro a hT
              refine Sx.st_take hT rfl rfl rfl rfl (Sx.x_assign hT rfl rfl) ?_
              clear hT; intro a hT
              replace hT := hT.keep [2, 32, 6, 27, 24, 21, 14, 5, 4, 3, 0] rfl
              refine Sx.ser_nil ?_
              refine Sx.then_normal (hK29 _ _ ?_)
              clear hK29
              refine wp_ret ?_
              refine Sx.then_ret ?_
              clear hK26
              refine Sx.done1 (fn := Try.f53) hT rfl (.tmp (hT.get 2 _ rfl)) ?_
              refine ⟨ret_i ?_, H.ext⟩
              clear hT H
              unfold classF fexp ffrac sgn
              (repeat' split) <;> first | rfl | omega | (exfalso; omega) | skip
            · try simp only [decide_eq_true_eq, decide_eq_false_iff_not, Bool.not_eq_true', Bool.not_eq_false', Bool.not_eq_true, Bool.not_eq_false, Bool.and_eq_true, Bool.or_eq_false_iff, beq_iff_eq, bne_iff_ne, Int.not_lt, Int.not_le, ne_eq] at hc28
              refine wp_skip ?_
              refine Sx.then_normal (hK26 _ _ ?_)
              clear hK26
              refine wp_seq_k fun K30 hK30 => ?_
              -- region 15 (num.go:52)
              refine Sx.wp_text [(0, .take), (1, .take)] rfl ?_
              refine Sx.st_take hT rfl rfl rfl rfl (Sx.x_move hT rfl rfl) ?_
              clear hT; intro a hT
              refine Sx.st_take hT rfl rfl rfl rfl (Sx.x_assign hT rfl rfl) ?_
              clear hT; intro a hT
              replace hT := hT.keep [2, 32, 6, 27, 24, 21, 14, 5, 4, 3, 0] rfl
              refine Sx.ser_nil ?_
              refine Sx.then_normal (hK30 _ _ ?_)
              clear hK30
              refine wp_ret ?_
              refine Sx.done1 (fn := Try.f53) hT rfl (.tmp (hT.get 2 _ rfl)) ?_
              refine ⟨ret_i ?_, H.ext⟩
              clear hT H
              unfold classF fexp ffrac sgn
              (repeat' split) <;> first | rfl | omega | (exfalso; omega) | skip
          · try simp only [decide_eq_true_eq, decide_eq_false_iff_not, Bool.not_eq_true', Bool.not_eq_false', Bool.not_eq_true, Bool.not_eq_false, Bool.and_eq_true, Bool.or_eq_false_iff, beq_iff_eq, bne_iff_ne, Int.not_lt, Int.not_le, ne_eq] at hc25
            -- region 4 (num.go:47)
            refine Sx.wp_text [(0, .take)] rfl ?_
            refine Sx.st_take hT rfl rfl rfl rfl (Sx.x_assign hT rfl rfl) ?_
            clear hT; intro a hT
            replace hT := hT.keep [6, 27, 24, 21, 14, 5, 4, 3, 2, 0] rfl
            refine Sx.ser_nil ?_
            refine Sx.block_normal ?_
            refine Sx.then_normal (hK5 _ _ ?_)
            clear hK5
            refine wp_seq_k fun K31 hK31 => ?_
            refine wp_seq_k fun K32 hK32 => ?_
            -- region 13 (num.go:49)
            refine Sx.wp_text [(0, .take), (1, .take), (2, .take)] rfl ?_
            refine Sx.st_take hT rfl rfl rfl rfl (Sx.x_move hT rfl rfl) ?_
            clear hT; intro a hT
            refine Sx.st_take hT rfl rfl rfl rfl (Sx.x_uand hT rfl rfl rfl) ?_
            clear hT; intro a hT
            refine Sx.st_take hT rfl rfl rfl rfl ((fun w => Sx.x_ne w hT rfl rfl rfl)) ?_
            clear hT; intro a hT
            replace hT := hT.keep [32, 6, 27, 24, 21, 14, 5, 4, 3, 2, 0] rfl
            refine Sx.ser_nil ?_
            refine Sx.then_normal (hK32 _ _ ?_)
            clear hK32
            -- cond 4
            refine Sx.wp_if hT rfl (fun hc33 => ?_) (fun hc33 => ?_)
            · try simp only [decide_eq_true_eq, decide_eq_false_iff_not, Bool.not_eq_true', Bool.not_eq_false', Bool.not_eq_true, Bool.not_eq_false, Bool.and_eq_true, Bool.or_eq_false_iff, beq_iff_eq, bne_iff_ne, Int.not_lt, Int.not_le, ne_eq] at hc33
              refine wp_seq_k fun K34 hK34 => ?_
              -- region 14 (num.go:50)
              refine Sx.wp_text [(0, .take), (1, .take), (2, .take)] rfl ?_
              refine Sx.st_take hT rfl rfl rfl rfl (Sx.x_move hT rfl rfl) ?_
              clear hT; intro a hT
              refine Sx.st_take hT rfl rfl rfl rfl ((fun w => Sx.x_sub w hT rfl rfl rfl (Sx.wrap64 (by omega)))) ?_
              clear hT; intro a hT
              refine Sx.st_take hT rfl rfl rfl rfl (Sx.x_assign hT rfl rfl) ?_
              clear hT; intro a hT
              replace hT := hT.keep [2, 32, 6, 27, 24, 21, 14, 5, 4, 3, 0] rfl
              refine Sx.ser_nil ?_
              refine Sx.then_normal (hK34 _ _ ?_)
              clear hK34
              refine wp_ret ?_
              refine Sx.then_ret ?_
              clear hK31
              refine Sx.done1 (fn := Try.f53) hT rfl (.tmp (hT.get 2 _ rfl)) ?_
              refine ⟨ret_i ?_, H.ext⟩
              clear hT H
              unfold classF fexp ffrac sgn
              (repeat' split) <;> first | rfl | omega | (exfalso; omega) | skip
            · try simp only [decide_eq_true_eq, decide_eq_false_iff_not, Bool.not_eq_true', Bool.not_eq_false', Bool.not_eq_true, Bool.not_eq_false, Bool.and_eq_true, Bool.or_eq_false_iff, beq_iff_eq, bne_iff_ne, Int.not_lt, Int.not_le, ne_eq] at hc33
              refine wp_skip ?_
              refine Sx.then_normal (hK31 _ _ ?_)
              clear hK31
              refine wp_seq_k fun K35 hK35 => ?_
              -- region 15 (num.go:52)
              refine Sx.wp_text [(0, .take), (1, .take)] rfl ?_
              refine Sx.st_take hT rfl rfl rfl rfl (Sx.x_move hT rfl rfl) ?_
              clear hT; intro a hT
              refine Sx.st_take hT rfl rfl rfl rfl (Sx.x_assign hT rfl rfl) ?_
              clear hT; intro a hT
              replace hT := hT.keep [2, 32, 6, 27, 24, 21, 14, 5, 4, 3, 0] rfl
              refine Sx.ser_nil ?_
              refine Sx.then_normal (hK35 _ _ ?_)
              clear hK35
              refine wp_ret ?_
              refine Sx.done1 (fn := Try.f53) hT rfl (.tmp (hT.get 2 _ rfl)) ?_
              refine ⟨ret_i ?_, H.ext⟩
              clear hT H
              unfold classF fexp ffrac sgn
              (repeat' split) <;> first | rfl | omega | (exfalso; omega) | skip
  · try simp only [decide_eq_true_eq, decide_eq_false_iff_not, Bool.not_eq_true', Bool.not_eq_false', Bool.not_eq_true, Bool.not_eq_false, Bool.and_eq_true, Bool.or_eq_false_iff, beq_iff_eq, bne_iff_ne, Int.not_lt, Int.not_le, ne_eq] at hc7
    refine Sx.st_skip hT rfl rfl rfl rfl ?_
    clear hT; intro a hT
    refine Sx.st_skip hT rfl rfl rfl rfl ?_
    clear hT; intro a hT
    refine Sx.st_take hT rfl rfl rfl rfl (Sx.x_pick_f hT rfl rfl rfl) ?_
    clear hT; intro a hT
    refine Sx.st_take hT rfl rfl rfl rfl (Sx.x_assign hT rfl rfl) ?_
    clear hT; intro a hT
    replace hT := hT.keep [14, 6, 5, 4, 3, 2, 0] rfl
    refine Sx.ser_nil ?_
    refine Sx.then_normal (hK6 _ _ ?_)
    clear hK6
    refine Sx.wp_if hT rfl (fun h => by cases h) (fun _ => ?_)
    refine wp_seq_k fun K36 hK36 => ?_
    -- region 7 (num.go:40)
    refine Sx.wp_text [(0, .take), (1, .take), (2, .take)] rfl ?_
    refine Sx.st_take hT rfl rfl rfl rfl (Sx.x_move hT rfl rfl) ?_
    clear hT; intro a hT
    refine Sx.st_take hT rfl rfl rfl rfl ((fun w => Sx.x_eq w hT rfl rfl rfl)) ?_
    clear hT; intro a hT
    refine Sx.st_take hT rfl rfl rfl rfl (Sx.x_assign hT rfl rfl) ?_
    clear hT; intro a hT
    replace hT := hT.keep [21, 14, 6, 5, 4, 3, 2, 0] rfl
    refine Sx.ser_nil ?_
    refine Sx.then_normal (hK36 _ _ ?_)
    clear hK36
    -- cond 1
    refine Sx.wp_if hT rfl (fun hc37 => ?_) (fun hc37 => ?_)
    · try simp only [decide_eq_true_eq, decide_eq_false_iff_not, Bool.not_eq_true', Bool.not_eq_false', Bool.not_eq_true, Bool.not_eq_false, Bool.and_eq_true, Bool.or_eq_false_iff, beq_iff_eq, bne_iff_ne, Int.not_lt, Int.not_le, ne_eq] at hc37
      -- region 8 (num.go:41)
      refine Sx.wp_text [(0, .take)] rfl ?_
      refine Sx.st_take hT rfl rfl rfl rfl (Sx.x_assign hT rfl rfl) ?_
      clear hT; intro a hT
      replace hT := hT.keep [6, 21, 14, 5, 4, 3, 2, 0] rfl
      refine Sx.ser_nil ?_
      refine Sx.block_normal ?_
      refine Sx.then_normal (hK5 _ _ ?_)
      clear hK5
      refine wp_seq_k fun K38 hK38 => ?_
      refine wp_seq_k fun K39 hK39 => ?_
      -- region 13 (num.go:49)
      refine Sx.wp_text [(0, .take), (1, .take), (2, .take)] rfl ?_
      refine Sx.st_take hT rfl rfl rfl rfl (Sx.x_move hT rfl rfl) ?_
      clear hT; intro a hT
      refine Sx.st_take hT rfl rfl rfl rfl (Sx.x_uand hT rfl rfl rfl) ?_
      clear hT; intro a hT
      refine Sx.st_take hT rfl rfl rfl rfl ((fun w => Sx.x_ne w hT rfl rfl rfl)) ?_
      clear hT; intro a hT
      replace hT := hT.keep [32, 6, 21, 14, 5, 4, 3, 2, 0] rfl
      refine Sx.ser_nil ?_
      refine Sx.then_normal (hK39 _ _ ?_)
      clear hK39
      -- cond 4
      refine Sx.wp_if hT rfl (fun hc40 => ?_) (fun hc40 => ?_)
      · try simp only [decide_eq_true_eq, decide_eq_false_iff_not, Bool.not_eq_true', Bool.not_eq_false', Bool.not_eq_true, Bool.not_eq_false, Bool.and_eq_true, Bool.or_eq_false_iff, beq_iff_eq, bne_iff_ne, Int.not_lt, Int.not_le, ne_eq] at hc40
        refine wp_seq_k fun K41 hK41 => ?_
        -- region 14 (num.go:50)
        refine Sx.wp_text [(0, .take), (1, .take), (2, .take)] rfl ?_
        refine Sx.st_take hT rfl rfl rfl rfl (Sx.x_move hT rfl rfl) ?_
        clear hT; intro a hT
        refine Sx.st_take hT rfl rfl rfl rfl ((fun w => Sx.x_sub w hT rfl rfl rfl (Sx.wrap64 (by omega)))) ?_
        clear hT; intro a hT
        refine Sx.st_take hT rfl rfl rfl rfl (Sx.x_assign hT rfl rfl) ?_
        clear hT; intro a hT
        replace hT := hT.keep [2, 32, 6, 21, 14, 5, 4, 3, 0] rfl
        refine Sx.ser_nil ?_
        refine Sx.then_normal (hK41 _ _ ?_)
        clear hK41
        refine wp_ret ?_
        refine Sx.then_ret ?_
        clear hK38
        refine Sx.done1 (fn := Try.f53) hT rfl (.tmp (hT.get 2 _ rfl)) ?_
        refine ⟨ret_i ?_, H.ext⟩
        clear hT H
        unfold classF fexp ffrac sgn
        (repeat' split) <;> first | rfl | omega | (exfalso; omega) | skip
      · try simp only [decide_eq_true_eq, decide_eq_false_iff_not, Bool.not_eq_true', Bool.not_eq_false', Bool.not_eq_true, Bool.not_eq_false, Bool.and_eq_true, Bool.or_eq_false_iff, beq_iff_eq, bne_iff_ne, Int.not_lt, Int.not_le, ne_eq] at hc40
        refine wp_skip ?_
        refine Sx.then_normal (hK38 _ _ ?_)
        clear hK38
        refine wp_seq_k fun K42 hK42 => ?_
        -- region 15 (num.go:52)
        refine Sx.wp_text [(0, .take), (1, .take)] rfl ?_
        refine Sx.st_take hT rfl rfl rfl rfl (Sx.x_move hT rfl rfl) ?_
        clear hT; intro a hT
        refine Sx.st_take hT rfl rfl rfl rfl (Sx.x_assign hT rfl rfl) ?_
        clear hT; intro a hT
        replace hT := hT.keep [2, 32, 6, 21, 14, 5, 4, 3, 0] rfl
        refine Sx.ser_nil ?_
        refine Sx.then_normal (hK42 _ _ ?_)
        clear hK42
        refine wp_ret ?_
        refine Sx.done1 (fn := Try.f53) hT rfl (.tmp (hT.get 2 _ rfl)) ?_
        refine ⟨ret_i ?_, H.ext⟩
        clear hT H
        unfold classF fexp ffrac sgn
        (repeat' split) <;> first | rfl | omega | (exfalso; omega) | skip
    · try simp only [decide_eq_true_eq, decide_eq_false_iff_not, Bool.not_eq_true', Bool.not_eq_false', Bool.not_eq_true, Bool.not_eq_false, Bool.and_eq_true, Bool.or_eq_false_iff, beq_iff_eq, bne_iff_ne, Int.not_lt, Int.not_le, ne_eq] at hc37
      refine wp_seq_k fun K43 hK43 => ?_
      -- region 9 (num.go:42)
      refine Sx.wp_text [(0, .take), (1, .take), (2, .take)] rfl ?_
      refine Sx.st_take hT rfl rfl rfl rfl (Sx.x_move hT rfl rfl) ?_
      clear hT; intro a hT
      refine Sx.st_take hT rfl rfl rfl rfl ((fun w => Sx.x_gt w hT rfl rfl rfl)) ?_
      clear hT; intro a hT
      refine Sx.st_take hT rfl rfl rfl rfl (Sx.x_assign hT rfl rfl) ?_
      clear hT; intro a hT
      replace hT := hT.keep [24, 21, 14, 6, 5, 4, 3, 2, 0] rfl
      refine Sx.ser_nil ?_
      refine Sx.then_normal (hK43 _ _ ?_)
      clear hK43
      -- cond 2
      refine Sx.wp_if hT rfl (fun hc44 => ?_) (fun hc44 => ?_)
      · try simp only [decide_eq_true_eq, decide_eq_false_iff_not, Bool.not_eq_true', Bool.not_eq_false', Bool.not_eq_true, Bool.not_eq_false, Bool.and_eq_true, Bool.or_eq_false_iff, beq_iff_eq, bne_iff_ne, Int.not_lt, Int.not_le, ne_eq] at hc44
        -- region 10 (num.go:43)
        refine Sx.wp_text [(0, .take)] rfl ?_
        refine Sx.st_take hT rfl rfl rfl rfl (Sx.x_assign hT rfl rfl) ?_
        clear hT; intro a hT
        replace hT := hT.keep [6, 24, 21, 14, 5, 4, 3, 2, 0] rfl
        refine Sx.ser_nil ?_
        refine Sx.block_normal ?_
        refine Sx.then_normal (hK5 _ _ ?_)
        clear hK5
        refine wp_seq_k fun K45 hK45 => ?_
        refine wp_seq_k fun K46 hK46 => ?_
        -- region 13 (num.go:49)
        refine Sx.wp_text [(0, .take), (1, .take), (2, .take)] rfl ?_
        refine Sx.st_take hT rfl rfl rfl rfl (Sx.x_move hT rfl rfl) ?_
        clear hT; intro a hT
        refine Sx.st_take hT rfl rfl rfl rfl (Sx.x_uand hT rfl rfl rfl) ?_
        clear hT; intro a hT
        refine Sx.st_take hT rfl rfl rfl rfl ((fun w => Sx.x_ne w hT rfl rfl rfl)) ?_
        clear hT; intro a hT
        replace hT := hT.keep [32, 6, 24, 21, 14, 5, 4, 3, 2, 0] rfl
        refine Sx.ser_nil ?_
        refine Sx.then_normal (hK46 _ _ ?_)
        clear hK46
        -- cond 4
        refine Sx.wp_if hT rfl (fun hc47 => ?_) (fun hc47 => ?_)
        · try simp only [decide_eq_true_eq, decide_eq_false_iff_not, Bool.not_eq_true', Bool.not_eq_false', Bool.not_eq_true, Bool.not_eq_false, Bool.and_eq_true, Bool.or_eq_false_iff, beq_iff_eq, bne_iff_ne, Int.not_lt, Int.not_le, ne_eq] at hc47
          refine wp_seq_k fun K48 hK48 => ?_
          -- region 14 (num.go:50)
          refine Sx.wp_text [(0, .take), (1, .take), (2, .take)] rfl ?_
          refine Sx.st_take hT rfl rfl rfl rfl (Sx.x_move hT rfl rfl) ?_
          clear hT; intro a hT
          refine Sx.st_take hT rfl rfl rfl rfl ((fun w => Sx.x_sub w hT rfl rfl rfl (Sx.wrap64 (by omega)))) ?_
          clear hT; intro a hT
          refine Sx.st_take hT rfl rfl rfl rfl (Sx.x_assign hT rfl rfl) ?_
          clear hT; intro a hT
          replace hT := hT.keep [2, 32, 6, 24, 21, 14, 5, 4, 3, 0] rfl
          refine Sx.ser_nil ?_
          refine Sx.then_normal (hK48 _ _ ?_)
          clear hK48
          refine wp_ret ?_
          refine Sx.then_ret ?_
          clear hK45
          refine Sx.done1 (fn := Try.f53) hT rfl (.tmp (hT.get 2 _ rfl)) ?_
          refine ⟨ret_i ?_, H.ext⟩
          clear hT H
          unfold classF fexp ffrac sgn
          (repeat' split) <;> first | rfl | omega | (exfalso; omega) | skip
        · try simp only [decide_eq_true_eq, decide_eq_false_iff_not, Bool.not_eq_true', Bool.not_eq_false', Bool.not_eq_true, Bool.not_eq_false, Bool.and_eq_true, Bool.or_eq_false_iff, beq_iff_eq, bne_iff_ne, Int.not_lt, Int.not_le, ne_eq] at hc47
          refine wp_skip ?_
          refine Sx.then_normal (hK45 _ _ ?_)
          clear hK45
          refine wp_seq_k fun K49 hK49 => ?_
          -- region 15 (num.go:52)
          refine Sx.wp_text [(0, .take), (1, .take)] rfl ?_
          refine Sx.st_take hT rfl rfl rfl rfl (Sx.x_move hT rfl rfl) ?_
          clear hT; intro a hT
          refine Sx.st_take hT rfl rfl rfl rfl (Sx.x_assign hT rfl rfl) ?_
          clear hT; intro a hT
          replace hT := hT.keep [2, 32, 6, 24, 21, 14, 5, 4, 3, 0] rfl
          refine Sx.ser_nil ?_
          refine Sx.then_normal (hK49 _ _ ?_)
          clear hK49
          refine wp_ret ?_
          refine Sx.done1 (fn := Try.f53) hT rfl (.tmp (hT.get 2 _ rfl)) ?_
          refine ⟨ret_i ?_, H.ext⟩
          clear hT H
          unfold classF fexp ffrac sgn
          (repeat' split) <;> first | rfl | omega | (exfalso; omega) | skip
      · try simp only [decide_eq_true_eq, decide_eq_false_iff_not, Bool.not_eq_true', Bool.not_eq_false', Bool.not_eq_true, Bool.not_eq_false, Bool.and_eq_true, Bool.or_eq_false_iff, beq_iff_eq, bne_iff_ne, Int.not_lt, Int.not_le, ne_eq] at hc44
        refine wp_seq_k fun K50 hK50 => ?_
        -- region 11 (num.go:44)
        refine Sx.wp_text [(0, .take), (1, .take), (2, .take)] rfl ?_
        refine Sx.st_take hT rfl rfl rfl rfl (Sx.x_move hT rfl rfl) ?_
        clear hT; intro a hT
        refine Sx.st_take hT rfl rfl rfl rfl ((fun w => Sx.x_gt w hT rfl rfl rfl)) ?_
        clear hT; intro a hT
        refine Sx.st_take hT rfl rfl rfl rfl (Sx.x_assign hT rfl rfl) ?_
        clear hT; intro a hT
        replace hT := hT.keep [27, 24, 21, 14, 6, 5, 4, 3, 2, 0] rfl
        refine Sx.ser_nil ?_
        refine Sx.then_normal (hK50 _ _ ?_)
        clear hK50
        -- cond 3
        refine Sx.wp_if hT rfl (fun hc51 => ?_) (fun hc51 => ?_)
        · try simp only [decide_eq_true_eq, decide_eq_false_iff_not, Bool.not_eq_true', Bool.not_eq_false', Bool.not_eq_true, Bool.not_eq_false, Bool.and_eq_true, Bool.or_eq_false_iff, beq_iff_eq, bne_iff_ne, Int.not_lt, Int.not_le, ne_eq] at hc51
          -- region 12 (num.go:45)
          refine Sx.wp_text [(0, .take)] rfl ?_
          refine Sx.st_take hT rfl rfl rfl rfl (Sx.x_assign hT rfl rfl) ?_
          clear hT; intro a hT
          replace hT := hT.keep [6, 27, 24, 21, 14, 5, 4, 3, 2, 0] rfl
          refine Sx.ser_nil ?_
          refine Sx.block_normal ?_
          refine Sx.then_normal (hK5 _ _ ?_)
          clear hK5
          refine wp_seq_k fun K52 hK52 => ?_
          refine wp_seq_k fun K53 hK53 => ?_
          -- region 13 (num.go:49)
          refine Sx.wp_text [(0, .take), (1, .take), (2, .take)] rfl ?_
          refine Sx.st_take hT rfl rfl rfl rfl (Sx.x_move hT rfl rfl) ?_
          clear hT; intro a hT
          refine Sx.st_take hT rfl rfl rfl rfl (Sx.x_uand hT rfl rfl rfl) ?_
          clear hT; intro a hT
          refine Sx.st_take hT rfl rfl rfl rfl ((fun w => Sx.x_ne w hT rfl rfl rfl)) ?_
          clear hT; intro a hT
          replace hT := hT.keep [32, 6, 27, 24, 21, 14, 5, 4, 3, 2, 0] rfl
          refine Sx.ser_nil ?_
          refine Sx.then_normal (hK53 _ _ ?_)
          clear hK53
          -- cond 4
          refine Sx.wp_if hT rfl (fun hc54 => ?_) (fun hc54 => ?_)
          · try simp only [decide_eq_true_eq, decide_eq_false_iff_not, Bool.not_eq_true', Bool.not_eq_false', Bool.not_eq_true, Bool.not_eq_false, Bool.and_eq_true, Bool.or_eq_false_iff, beq_iff_eq, bne_iff_ne, Int.not_lt, Int.not_le, ne_eq] at hc54
            refine wp_seq_k fun K55 hK55 => ?_
            -- region 14 (num.go:50)
            refine Sx.wp_text [(0, .take), (1, .take), (2, .take)] rfl ?_
            refine Sx.st_take hT rfl rfl rfl rfl (Sx.x_move hT rfl rfl) ?_
            clear hT; intro a hT
            refine Sx.st_take hT rfl rfl rfl rfl ((fun w => Sx.x_sub w hT rfl rfl rfl (Sx.wrap64 (by omega)))) ?_
            clear hT; intro a hT
            refine Sx.st_take hT rfl rfl rfl rfl (Sx.x_assign hT rfl rfl) ?_
            clear hT; intro a hT
            replace hT := hT.keep [2, 32, 6, 27, 24, 21, 14, 5, 4, 3, 0] rfl
            refine Sx.ser_nil ?_
            refine Sx.then_normal (hK55 _ _ ?_)
            clear hK55
            refine wp_ret ?_
            refine Sx.then_ret ?_
            clear hK52
            refine Sx.done1 (fn := Try.f53) hT rfl (.tmp (hT.get 2 _ rfl)) ?_
            refine ⟨ret_i ?_, H.ext⟩
            clear hT H
            unfold classF fexp ffrac sgn
            (repeat' split) <;> first | rfl | omega | (exfalso; omega) | skip
          · try simp only [decide_eq_true_eq, decide_eq_false_iff_not, Bool.not_eq_true', Bool.not_eq_false', Bool.not_eq_true, Bool.not_eq_false, Bool.and_eq_true, Bool.or_eq_false_iff, beq_iff_eq, bne_iff_ne, Int.not_lt, Int.not_le, ne_eq] at hc54
            refine wp_skip ?_
            refine Sx.then_normal (hK52 _ _ ?_)
            clear hK52
            refine wp_seq_k fun K56 hK56 => ?_
            -- region 15 (num.go:52)
            refine Sx.wp_text [(0, .take), (1, .take)] rfl ?_
            refine Sx.st_take hT rfl rfl rfl rfl (Sx.x_move hT rfl rfl) ?_
            clear hT; intro a hT
            refine Sx.st_take hT rfl rfl rfl rfl (Sx.x_assign hT rfl rfl) ?_
            clear hT; intro a hT
            replace hT := hT.keep [2, 32, 6, 27, 24, 21, 14, 5, 4, 3, 0] rfl
            refine Sx.ser_nil ?_
            refine Sx.then_normal (hK56 _ _ ?_)
            clear hK56
            refine wp_ret ?_
            refine Sx.done1 (fn := Try.f53) hT rfl (.tmp (hT.get 2 _ rfl)) ?_
            refine ⟨ret_i ?_, H.ext⟩
            clear hT H
            unfold classF fexp ffrac sgn
            (repeat' split) <;> first | rfl | omega | (exfalso; omega) | skip
        · try simp only [decide_eq_true_eq, decide_eq_false_iff_not, Bool.not_eq_true', Bool.not_eq_false', Bool.not_eq_true, Bool.not_eq_false, Bool.and_eq_true, Bool.or_eq_false_iff, beq_iff_eq, bne_iff_ne, Int.not_lt, Int.not_le, ne_eq] at hc51
          -- region 4 (num.go:47)
          refine Sx.wp_text [(0, .take)] rfl ?_
          refine Sx.st_take hT rfl rfl rfl rfl (Sx.x_assign hT rfl rfl) ?_
          clear hT; intro a hT
          replace hT := hT.keep [6, 27, 24, 21, 14, 5, 4, 3, 2, 0] rfl
          refine Sx.ser_nil ?_
          refine Sx.block_normal ?_
          refine Sx.then_normal (hK5 _ _ ?_)
          clear hK5
          refine wp_seq_k fun K57 hK57 => ?_
          refine wp_seq_k fun K58 hK58 => ?_
          -- region 13 (num.go:49)
          refine Sx.wp_text [(0, .take), (1, .take), (2, .take)] rfl ?_
          refine Sx.st_take hT rfl rfl rfl rfl (Sx.x_move hT rfl rfl) ?_
          clear hT; intro a hT
          refine Sx.st_take hT rfl rfl rfl rfl (Sx.x_uand hT rfl rfl rfl) ?_
          clear hT; intro a hT
          refine Sx.st_take hT rfl rfl rfl rfl ((fun w => Sx.x_ne w hT rfl rfl rfl)) ?_
          clear hT; intro a hT
          replace hT := hT.keep [32, 6, 27, 24, 21, 14, 5, 4, 3, 2, 0] rfl
          refine Sx.ser_nil ?_
          refine Sx.then_normal (hK58 _ _ ?_)
          clear hK58
          -- cond 4
          refine Sx.wp_if hT rfl (fun hc59 => ?_) (fun hc59 => ?_)
          · try simp only [decide_eq_true_eq, decide_eq_false_iff_not, Bool.not_eq_true', Bool.not_eq_false', Bool.not_eq_true, Bool.not_eq_false, Bool.and_eq_true, Bool.or_eq_false_iff, beq_iff_eq, bne_iff_ne, Int.not_lt, Int.not_le, ne_eq] at hc59
            refine wp_seq_k fun K60 hK60 => ?_
            -- region 14 (num.go:50)
            refine Sx.wp_text [(0, .take), (1, .take), (2, .take)] rfl ?_
            refine Sx.st_take hT rfl rfl rfl rfl (Sx.x_move hT rfl rfl) ?_
            clear hT; intro a hT
            refine Sx.st_take hT rfl rfl rfl rfl ((fun w => Sx.x_sub w hT rfl rfl rfl (Sx.wrap64 (by omega)))) ?_
            clear hT; intro a hT
            refine Sx.st_take hT rfl rfl rfl rfl (Sx.x_assign hT rfl rfl) ?_
            clear hT; intro a hT
            replace hT := hT.keep [2, 32, 6, 27, 24, 21, 14, 5, 4, 3, 0] rfl
            refine Sx.ser_nil ?_
            refine Sx.then_normal (hK60 _ _ ?_)
            clear hK60
            refine wp_ret ?_
            refine Sx.then_ret ?_
            clear hK57
            refine Sx.done1 (fn := Try.f53) hT rfl (.tmp (hT.get 2 _ rfl)) ?_
            refine ⟨ret_i ?_, H.ext⟩
            clear hT H
            unfold classF fexp ffrac sgn
            (repeat' split) <;> first | rfl | omega | (exfalso; omega) | skip
          · try simp only [decide_eq_true_eq, decide_eq_false_iff_not, Bool.not_eq_true', Bool.not_eq_false', Bool.not_eq_true, Bool.not_eq_false, Bool.and_eq_true, Bool.or_eq_false_iff, beq_iff_eq, bne_iff_ne, Int.not_lt, Int.not_le, ne_eq] at hc59
            refine wp_skip ?_
            refine Sx.then_normal (hK57 _ _ ?_)
            clear hK57
            refine wp_seq_k fun K61 hK61 => ?_
            -- region 15 (num.go:52)
            refine Sx.wp_text [(0, .take), (1, .take)] rfl ?_
            refine Sx.st_take hT rfl rfl rfl rfl (Sx.x_move hT rfl rfl) ?_
            clear hT; intro a hT
            refine Sx.st_take hT rfl rfl rfl rfl (Sx.x_assign hT rfl rfl) ?_
            clear hT; intro a hT
            replace hT := hT.keep [2, 32, 6, 27, 24, 21, 14, 5, 4, 3, 0] rfl
            refine Sx.ser_nil ?_
            refine Sx.then_normal (hK61 _ _ ?_)
            clear hK61
            refine wp_ret ?_
            refine Sx.done1 (fn := Try.f53) hT rfl (.tmp (hT.get 2 _ rfl)) ?_
            refine ⟨ret_i ?_, H.ext⟩
            clear hT H
            unfold classF fexp ffrac sgn
            (repeat' split) <;> first | rfl | omega | (exfalso; omega) | skip

theorem point_calls (b : Nat) (w : World) : Calls Try.prog 45 #[.float .f64 b] w fun e w' => e = .returned (.bool (pointF b)) ∧ Ext No w w' := by
  refine Sx.calls_into Try.func45 rfl Try.ntmps45 rfl fun a hT => ?_
  replace hT := hT.keep [0] rfl
  have H : Sx.Hp w (Sx.No) w [] := Sx.Hp.start _ _
  refine wp_seq_k fun K1 hK1 => ?_
  -- region 0 (place.go:29)
  refine Sx.wp_text [(0, .take)] rfl ?_
  refine Sx.st_take hT rfl rfl rfl rfl (Sx.x_assign hT rfl rfl) ?_
  clear hT; intro a hT
  replace hT := hT.keep [2, 0] rfl
  refine Sx.ser_nil ?_
  refine Sx.then_normal (hK1 _ _ ?_)
  clear hK1
  refine wp_seq_k fun K2 hK2 => ?_
  -- region 1 (place.go:29)
  refine Sx.wp_text [(0, .take), (1, .run), (2, .take), (3, .take), (4, .take), (5, .take), (6, .take), (7, .take)] rfl ?_
  refine Sx.st_take hT rfl rfl rfl rfl (Sx.x_move hT rfl rfl) ?_
  clear hT; intro a hT
  refine Sx.st_call hT rfl rfl rfl rfl rfl Try.can53 rfl (Class_calls _ _) ?_
  rintro _ w1 ⟨rfl, E⟩
  refine ⟨_, rfl, ?_⟩
  clear hT; intro a hT
  replace H := H.pure E; clear E
  refine Sx.st_take hT rfl rfl rfl rfl ((fun w => Sx.x_ge w hT rfl rfl rfl)) ?_
  clear hT; intro a hT
  refine Sx.st_take hT rfl rfl rfl rfl (Sx.x_move hT rfl rfl) ?_
  clear hT; intro a hT
  -- guard (1, 3)
  refine Sx.Sl.two hT 6 rfl (fun hc3 hT => ?_) (fun hc3 hT => ?_)
  · try simp only [decide_eq_true_eq, decide_eq_false_iff_not, Bool.not_eq_true', Bool.not_eq_false', Bool.not_eq_true, Bool.not_eq_false, Bool.and_eq_true, Bool.or_eq_false_iff, beq_iff_eq, bne_iff_ne, Int.not_lt, Int.not_le, ne_eq] at hc3
    refine Sx.st_take hT rfl rfl rfl rfl (Sx.x_move hT rfl rfl) ?_
    clear hT; intro a hT
    refine Sx.st_take hT rfl rfl rfl rfl (Sx.x_fle hT rfl rfl rfl) ?_
    clear hT; intro a hT
    refine Sx.st_take hT rfl rfl rfl rfl (Sx.x_pick_t hT rfl rfl rfl) ?_
    clear hT; intro a hT
    refine Sx.st_take hT rfl rfl rfl rfl (Sx.x_assign hT rfl rfl) ?_
    clear hT; intro a hT
    replace hT := hT.keep [2, 0] rfl
    refine Sx.ser_nil ?_
    refine Sx.then_normal (hK2 _ _ ?_)
    clear hK2
    refine wp_ret ?_
    refine Sx.done1 (fn := Try.f45) hT rfl (.tmp (hT.get 2 _ rfl)) ?_
    refine ⟨ret_b ?_, H.ext⟩
    clear hT H
    unfold pointF fone
    simp_all <;> first | omega | (intro h9; omega)
  · try simp only [decide_eq_true_eq, decide_eq_false_iff_not, Bool.not_eq_true', Bool.not_eq_false', Bool.not_eq_true, Bool.not_eq_false, Bool.and_eq_true, Bool.or_eq_false_iff, beq_iff_eq, bne_iff_ne, Int.not_lt, Int.not_le, ne_eq] at hc3
    refine Sx.st_skip hT rfl rfl rfl rfl ?_
    clear hT; intro a hT
    refine Sx.st_skip hT rfl rfl rfl rfl ?_
    clear hT; intro a hT
    refine Sx.st_take hT rfl rfl rfl rfl (Sx.x_pick_f hT rfl rfl rfl) ?_
    clear hT; intro a hT
    refine Sx.st_take hT rfl rfl rfl rfl (Sx.x_assign hT rfl rfl) ?_
    clear hT; intro a hT
    replace hT := hT.keep [2, 0] rfl
    refine Sx.ser_nil ?_
    refine Sx.then_normal (hK2 _ _ ?_)
    clear hK2
    refine wp_ret ?_
    refine Sx.done1 (fn := Try.f45) hT rfl (.tmp (hT.get 2 _ rfl)) ?_
    refine ⟨ret_b ?_, H.ext⟩
    clear hT H
    unfold pointF fone
    simp_all <;> first | omega | (intro h9; omega)

theorem May_calls (r : Rg) (w : World) : Calls Try.prog 31 #[.agg #[.int .i64 r.id, .int .i64 r.epoch, .float .f64 r.lo, .float .f64 r.hi]] w fun e w' => e = .returned (.bool (mayR r)) ∧ Ext No w w' := by
  refine Sx.calls_into Try.func31 rfl Try.ntmps31 rfl fun a hT => ?_
  replace hT := hT.keep [0] rfl
  have H : Sx.Hp w (Sx.No) w [] := Sx.Hp.start _ _
  refine wp_seq_k fun K1 hK1 => ?_
  -- region 0 (place.go:59)
  refine Sx.wp_text [(0, .run), (1, .take)] rfl ?_
  refine Sx.st_eff hT rfl rfl rfl rfl (Sx.y_box hT rfl rfl rfl _) ?_
  clear hT; rintro _ w1 ⟨b1, rfl, N⟩ a hT
  replace H := H.new N; clear N
  refine Sx.st_take hT rfl rfl rfl rfl (Sx.x_assign hT rfl rfl) ?_
  clear hT; intro a hT
  replace hT := hT.keep [2, 1, 0] rfl
  refine Sx.ser_nil ?_
  refine Sx.then_normal (hK1 _ _ ?_)
  clear hK1
  refine wp_seq_k fun K2 hK2 => ?_
  -- region 1 (place.go:60)
  refine Sx.wp_text [(0, .take), (1, .run), (2, .take), (3, .take), (4, .take), (5, .run), (6, .take), (7, .take), (8, .take), (9, .take), (10, .run), (11, .take), (12, .take), (13, .take), (14, .take), (15, .run), (16, .run), (17, .take), (18, .take), (19, .take), (20, .run), (21, .run), (22, .take), (23, .take), (24, .take), (25, .run), (26, .take), (27, .run), (28, .take), (29, .take), (30, .take)] rfl ?_
  refine Sx.st_take hT rfl rfl rfl rfl (Sx.x_fieldAddr hT rfl Try.fa37_0 rfl) ?_
  clear hT; intro a hT
  refine Sx.st_run hT rfl rfl rfl rfl (Sx.x_load1 hT rfl Try.fl3 rfl ((H.blk 0 rfl).nth rfl)) ?_
  clear hT; intro a hT
  refine Sx.st_take hT rfl rfl rfl rfl ((fun w => Sx.x_ge w hT rfl rfl rfl)) ?_
  clear hT; intro a hT
  refine Sx.st_take hT rfl rfl rfl rfl (Sx.x_move hT rfl rfl) ?_
  clear hT; intro a hT
  -- guard (1, 3)
  refine Sx.Sl.two hT 6 rfl (fun hc3 hT => ?_) (fun hc3 hT => ?_)
  · try simp only [decide_eq_true_eq, decide_eq_false_iff_not, Bool.not_eq_true', Bool.not_eq_false', Bool.not_eq_true, Bool.not_eq_false, Bool.and_eq_true, Bool.or_eq_false_iff, beq_iff_eq, bne_iff_ne, Int.not_lt, Int.not_le, ne_eq] at hc3
    refine Sx.st_take hT rfl rfl rfl rfl (Sx.x_fieldAddr hT rfl Try.fa37_0 rfl) ?_
    clear hT; intro a hT
    refine Sx.st_run hT rfl rfl rfl rfl (Sx.x_load1 hT rfl Try.fl3 rfl ((H.blk 0 rfl).nth rfl)) ?_
    clear hT; intro a hT
    refine Sx.st_take hT rfl rfl rfl rfl ((fun w => Sx.x_le w hT rfl rfl rfl)) ?_
    clear hT; intro a hT
    refine Sx.st_take hT rfl rfl rfl rfl (Sx.x_pick_t hT rfl rfl rfl) ?_
    clear hT; intro a hT
    refine Sx.st_take hT rfl rfl rfl rfl (Sx.x_move hT rfl rfl) ?_
    clear hT; intro a hT
    -- guard (1, 8)
    refine Sx.Sl.two hT 11 rfl (fun hc4 hT => ?_) (fun hc4 hT => ?_)
    · try simp only [decide_eq_true_eq, decide_eq_false_iff_not, Bool.not_eq_true', Bool.not_eq_false', Bool.not_eq_true, Bool.not_eq_false, Bool.and_eq_true, Bool.or_eq_false_iff, beq_iff_eq, bne_iff_ne, Int.not_lt, Int.not_le, ne_eq] at hc4
      refine Sx.st_take hT rfl rfl rfl rfl (Sx.x_fieldAddr hT rfl Try.fa37_1 rfl) ?_
      clear hT; intro a hT
      refine Sx.st_run hT rfl rfl rfl rfl (Sx.x_load1 hT rfl Try.fl3 rfl ((H.blk 0 rfl).nth rfl)) ?_
      clear hT; intro a hT
      refine Sx.st_take hT rfl rfl rfl rfl ((fun w => Sx.x_ge w hT rfl rfl rfl)) ?_
      clear hT; intro a hT
      refine Sx.st_take hT rfl rfl rfl rfl (Sx.x_pick_t hT rfl rfl rfl) ?_
      clear hT; intro a hT
      refine Sx.st_take hT rfl rfl rfl rfl (Sx.x_move hT rfl rfl) ?_
      clear hT; intro a hT
      -- guard (1, 13)
      refine Sx.Sl.two hT 16 rfl (fun hc5 hT => ?_) (fun hc5 hT => ?_)
      · try simp only [decide_eq_true_eq, decide_eq_false_iff_not, Bool.not_eq_true', Bool.not_eq_false', Bool.not_eq_true, Bool.not_eq_false, Bool.and_eq_true, Bool.or_eq_false_iff, beq_iff_eq, bne_iff_ne, Int.not_lt, Int.not_le, ne_eq] at hc5
        refine Sx.st_take hT rfl rfl rfl rfl (Sx.x_fieldAddr hT rfl Try.fa37_2 rfl) ?_
        clear hT; intro a hT
        refine Sx.st_run hT rfl rfl rfl rfl (Sx.x_load1 hT rfl Try.fl35 rfl ((H.blk 0 rfl).nth rfl)) ?_
        clear hT; intro a hT
        refine Sx.st_call hT rfl rfl rfl rfl rfl Try.can45 rfl (point_calls _ _) ?_
        rintro _ w2 ⟨rfl, E⟩
        refine ⟨_, rfl, ?_⟩
        clear hT; intro a hT
        replace H := H.pure E; clear E
        refine Sx.st_take hT rfl rfl rfl rfl (Sx.x_pick_t hT rfl rfl rfl) ?_
        clear hT; intro a hT
        refine Sx.st_take hT rfl rfl rfl rfl (Sx.x_move hT rfl rfl) ?_
        clear hT; intro a hT
        -- guard (1, 18)
        refine Sx.Sl.two hT 21 rfl (fun hc6 hT => ?_) (fun hc6 hT => ?_)
        · try simp only [decide_eq_true_eq, decide_eq_false_iff_not, Bool.not_eq_true', Bool.not_eq_false', Bool.not_eq_true, Bool.not_eq_false, Bool.and_eq_true, Bool.or_eq_false_iff, beq_iff_eq, bne_iff_ne, Int.not_lt, Int.not_le, ne_eq] at hc6
          refine Sx.st_take hT rfl rfl rfl rfl (Sx.x_fieldAddr hT rfl Try.fa37_3 rfl) ?_
          clear hT; intro a hT
          refine Sx.st_run hT rfl rfl rfl rfl (Sx.x_load1 hT rfl Try.fl35 rfl ((H.blk 0 rfl).nth rfl)) ?_
          clear hT; intro a hT
          refine Sx.st_call hT rfl rfl rfl rfl rfl Try.can45 rfl (point_calls _ _) ?_
          rintro _ w3 ⟨rfl, E⟩
          refine ⟨_, rfl, ?_⟩
          clear hT; intro a hT
          replace H := H.pure E; clear E
          refine Sx.st_take hT rfl rfl rfl rfl (Sx.x_pick_t hT rfl rfl rfl) ?_
          clear hT; intro a hT
          refine Sx.st_take hT rfl rfl rfl rfl (Sx.x_move hT rfl rfl) ?_
          clear hT; intro a hT
          -- guard (1, 23)
          refine Sx.Sl.two hT 26 rfl (fun hc7 hT => ?_) (fun hc7 hT => ?_)
          · try simp only [decide_eq_true_eq, decide_eq_false_iff_not, Bool.not_eq_true', Bool.not_eq_false', Bool.not_eq_true, Bool.not_eq_false, Bool.and_eq_true, Bool.or_eq_false_iff, beq_iff_eq, bne_iff_ne, Int.not_lt, Int.not_le, ne_eq] at hc7
            refine Sx.st_take hT rfl rfl rfl rfl (Sx.x_fieldAddr hT rfl Try.fa37_2 rfl) ?_
            clear hT; intro a hT
            refine Sx.st_run hT rfl rfl rfl rfl (Sx.x_load1 hT rfl Try.fl35 rfl ((H.blk 0 rfl).nth rfl)) ?_
            clear hT; intro a hT
            refine Sx.st_take hT rfl rfl rfl rfl (Sx.x_fieldAddr hT rfl Try.fa37_3 rfl) ?_
            clear hT; intro a hT
            refine Sx.st_run hT rfl rfl rfl rfl (Sx.x_load1 hT rfl Try.fl35 rfl ((H.blk 0 rfl).nth rfl)) ?_
            clear hT; intro a hT
            refine Sx.st_take hT rfl rfl rfl rfl (Sx.x_flt hT rfl rfl rfl) ?_
            clear hT; intro a hT
            refine Sx.st_take hT rfl rfl rfl rfl (Sx.x_pick_t hT rfl rfl rfl) ?_
            clear hT; intro a hT
            refine Sx.st_take hT rfl rfl rfl rfl (Sx.x_assign hT rfl rfl) ?_
            clear hT; intro a hT
            replace hT := hT.keep [2, 1, 0] rfl
            refine Sx.ser_nil ?_
            refine Sx.then_normal (hK2 _ _ ?_)
            clear hK2
            refine wp_ret ?_
            refine Sx.done1 (fn := Try.f31) hT rfl (.tmp (hT.get 2 _ rfl)) ?_
            refine ⟨ret_b ?_, H.ext⟩
            clear hT H
            unfold mayR
            simp_all <;> first | omega | (intros; omega)
          · try simp only [decide_eq_true_eq, decide_eq_false_iff_not, Bool.not_eq_true', Bool.not_eq_false', Bool.not_eq_true, Bool.not_eq_false, Bool.and_eq_true, Bool.or_eq_false_iff, beq_iff_eq, bne_iff_ne, Int.not_lt, Int.not_le, ne_eq] at hc7
            refine Sx.st_skip hT rfl rfl rfl rfl ?_
            clear hT; intro a hT
            refine Sx.st_runskip hT rfl rfl rfl rfl ?_
            clear hT; intro a hT
            refine Sx.st_skip hT rfl rfl rfl rfl ?_
            clear hT; intro a hT
            refine Sx.st_runskip hT rfl rfl rfl rfl ?_
            clear hT; intro a hT
            refine Sx.st_skip hT rfl rfl rfl rfl ?_
            clear hT; intro a hT
            refine Sx.st_take hT rfl rfl rfl rfl (Sx.x_pick_f hT rfl rfl rfl) ?_
            clear hT; intro a hT
            refine Sx.st_take hT rfl rfl rfl rfl (Sx.x_assign hT rfl rfl) ?_
            clear hT; intro a hT
            replace hT := hT.keep [2, 1, 0] rfl
            refine Sx.ser_nil ?_
            refine Sx.then_normal (hK2 _ _ ?_)
            clear hK2
            refine wp_ret ?_
            refine Sx.done1 (fn := Try.f31) hT rfl (.tmp (hT.get 2 _ rfl)) ?_
            refine ⟨ret_b ?_, H.ext⟩
            clear hT H
            unfold mayR
            simp_all <;> first | omega | (intros; omega)
        · try simp only [decide_eq_true_eq, decide_eq_false_iff_not, Bool.not_eq_true', Bool.not_eq_false', Bool.not_eq_true, Bool.not_eq_false, Bool.and_eq_true, Bool.or_eq_false_iff, beq_iff_eq, bne_iff_ne, Int.not_lt, Int.not_le, ne_eq] at hc6
          refine Sx.st_skip hT rfl rfl rfl rfl ?_
          clear hT; intro a hT
          refine Sx.st_runskip hT rfl rfl rfl rfl ?_
          clear hT; intro a hT
          refine Sx.st_runskip hT rfl rfl rfl rfl ?_
          clear hT; intro a hT
          refine Sx.st_take hT rfl rfl rfl rfl (Sx.x_pick_f hT rfl rfl rfl) ?_
          clear hT; intro a hT
          refine Sx.st_take hT rfl rfl rfl rfl (Sx.x_move hT rfl rfl) ?_
          clear hT; intro a hT
          refine Sx.st_skip hT rfl rfl rfl rfl ?_
          clear hT; intro a hT
          refine Sx.st_runskip hT rfl rfl rfl rfl ?_
          clear hT; intro a hT
          refine Sx.st_skip hT rfl rfl rfl rfl ?_
          clear hT; intro a hT
          refine Sx.st_runskip hT rfl rfl rfl rfl ?_
          clear hT; intro a hT
          refine Sx.st_skip hT rfl rfl rfl rfl ?_
          clear hT; intro a hT
          refine Sx.st_take hT rfl rfl rfl rfl (Sx.x_pick_f hT rfl rfl rfl) ?_
          clear hT; intro a hT
          refine Sx.st_take hT rfl rfl rfl rfl (Sx.x_assign hT rfl rfl) ?_
          clear hT; intro a hT
          replace hT := hT.keep [2, 1, 0] rfl
          refine Sx.ser_nil ?_
          refine Sx.then_normal (hK2 _ _ ?_)
          clear hK2
          refine wp_ret ?_
          refine Sx.done1 (fn := Try.f31) hT rfl (.tmp (hT.get 2 _ rfl)) ?_
          refine ⟨ret_b ?_, H.ext⟩
          clear hT H
          unfold mayR
          simp_all <;> first | omega | (intros; omega)
      · try simp only [decide_eq_true_eq, decide_eq_false_iff_not, Bool.not_eq_true', Bool.not_eq_false', Bool.not_eq_true, Bool.not_eq_false, Bool.and_eq_true, Bool.or_eq_false_iff, beq_iff_eq, bne_iff_ne, Int.not_lt, Int.not_le, ne_eq] at hc5
        refine Sx.st_skip hT rfl rfl rfl rfl ?_
        clear hT; intro a hT
        refine Sx.st_runskip hT rfl rfl rfl rfl ?_
        clear hT; intro a hT
        refine Sx.st_runskip hT rfl rfl rfl rfl ?_
        clear hT; intro a hT
        refine Sx.st_take hT rfl rfl rfl rfl (Sx.x_pick_f hT rfl rfl rfl) ?_
        clear hT; intro a hT
        refine Sx.st_take hT rfl rfl rfl rfl (Sx.x_move hT rfl rfl) ?_
        clear hT; intro a hT
        refine Sx.st_skip hT rfl rfl rfl rfl ?_
        clear hT; intro a hT
        refine Sx.st_runskip hT rfl rfl rfl rfl ?_
        clear hT; intro a hT
        refine Sx.st_runskip hT rfl rfl rfl rfl ?_
        clear hT; intro a hT
        refine Sx.st_take hT rfl rfl rfl rfl (Sx.x_pick_f hT rfl rfl rfl) ?_
        clear hT; intro a hT
        refine Sx.st_take hT rfl rfl rfl rfl (Sx.x_move hT rfl rfl) ?_
        clear hT; intro a hT
        refine Sx.st_skip hT rfl rfl rfl rfl ?_
        clear hT; intro a hT
        refine Sx.st_runskip hT rfl rfl rfl rfl ?_
        clear hT; intro a hT
        refine Sx.st_skip hT rfl rfl rfl rfl ?_
        clear hT; intro a hT
        refine Sx.st_runskip hT rfl rfl rfl rfl ?_
        clear hT; intro a hT
        refine Sx.st_skip hT rfl rfl rfl rfl ?_
        clear hT; intro a hT
        refine Sx.st_take hT rfl rfl rfl rfl (Sx.x_pick_f hT rfl rfl rfl) ?_
        clear hT; intro a hT
        refine Sx.st_take hT rfl rfl rfl rfl (Sx.x_assign hT rfl rfl) ?_
        clear hT; intro a hT
        replace hT := hT.keep [2, 1, 0] rfl
        refine Sx.ser_nil ?_
        refine Sx.then_normal (hK2 _ _ ?_)
        clear hK2
        refine wp_ret ?_
        refine Sx.done1 (fn := Try.f31) hT rfl (.tmp (hT.get 2 _ rfl)) ?_
        refine ⟨ret_b ?_, H.ext⟩
        clear hT H
        unfold mayR
        simp_all <;> first | omega | (intros; omega)
    · try simp only [decide_eq_true_eq, decide_eq_false_iff_not, Bool.not_eq_true', Bool.not_eq_false', Bool.not_eq_true, Bool.not_eq_false, Bool.and_eq_true, Bool.or_eq_false_iff, beq_iff_eq, bne_iff_ne, Int.not_lt, Int.not_le, ne_eq] at hc4
      refine Sx.st_skip hT rfl rfl rfl rfl ?_
      clear hT; intro a hT
      refine Sx.st_runskip hT rfl rfl rfl rfl ?_
      clear hT; intro a hT
      refine Sx.st_skip hT rfl rfl rfl rfl ?_
      clear hT; intro a hT
      refine Sx.st_take hT rfl rfl rfl rfl (Sx.x_pick_f hT rfl rfl rfl) ?_
      clear hT; intro a hT
      refine Sx.st_take hT rfl rfl rfl rfl (Sx.x_move hT rfl rfl) ?_
      clear hT; intro a hT
      refine Sx.st_skip hT rfl rfl rfl rfl ?_
      clear hT; intro a hT
      refine Sx.st_runskip hT rfl rfl rfl rfl ?_
      clear hT; intro a hT
      refine Sx.st_runskip hT rfl rfl rfl rfl ?_
      clear hT; intro a hT
      refine Sx.st_take hT rfl rfl rfl rfl (Sx.x_pick_f hT rfl rfl rfl) ?_
      clear hT; intro a hT
      refine Sx.st_take hT rfl rfl rfl rfl (Sx.x_move hT rfl rfl) ?_
      clear hT; intro a hT
      refine Sx.st_skip hT rfl rfl rfl rfl ?_
      clear hT; intro a hT
      refine Sx.st_runskip hT rfl rfl rfl rfl ?_
      clear hT; intro a hT
      refine Sx.st_runskip hT rfl rfl rfl rfl ?_
      clear hT; intro a hT
      refine Sx.st_take hT rfl rfl rfl rfl (Sx.x_pick_f hT rfl rfl rfl) ?_
      clear hT; intro a hT
      refine Sx.st_take hT rfl rfl rfl rfl (Sx.x_move hT rfl rfl) ?_
      clear hT; intro a hT
      refine Sx.st_skip hT rfl rfl rfl rfl ?_
      clear hT; intro a hT
      refine Sx.st_runskip hT rfl rfl rfl rfl ?_
      clear hT; intro a hT
      refine Sx.st_skip hT rfl rfl rfl rfl ?_
      clear hT; intro a hT
      refine Sx.st_runskip hT rfl rfl rfl rfl ?_
      clear hT; intro a hT
      refine Sx.st_skip hT rfl rfl rfl rfl ?_
      clear hT; intro a hT
      refine Sx.st_take hT rfl rfl rfl rfl (Sx.x_pick_f hT rfl rfl rfl) ?_
      clear hT; intro a hT
      refine Sx.st_take hT rfl rfl rfl rfl (Sx.x_assign hT rfl rfl) ?_
      clear hT; intro a hT
      replace hT := hT.keep [2, 1, 0] rfl
      refine Sx.ser_nil ?_
      refine Sx.then_normal (hK2 _ _ ?_)
      clear hK2
      refine wp_ret ?_
      refine Sx.done1 (fn := Try.f31) hT rfl (.tmp (hT.get 2 _ rfl)) ?_
      refine ⟨ret_b ?_, H.ext⟩
      clear hT H
      unfold mayR
      simp_all <;> first | omega | (intros; omega)
  · try simp only [decide_eq_true_eq, decide_eq_false_iff_not, Bool.not_eq_true', Bool.not_eq_false', Bool.not_eq_true, Bool.not_eq_false, Bool.and_eq_true, Bool.or_eq_false_iff, beq_iff_eq, bne_iff_ne, Int.not_lt, Int.not_le, ne_eq] at hc3
    refine Sx.st_skip hT rfl rfl rfl rfl ?_
    clear hT; intro a hT
    refine Sx.st_runskip hT rfl rfl rfl rfl ?_
    clear hT; intro a hT
    refine Sx.st_skip hT rfl rfl rfl rfl ?_
    clear hT; intro a hT
    refine Sx.st_take hT rfl rfl rfl rfl (Sx.x_pick_f hT rfl rfl rfl) ?_
    clear hT; intro a hT
    refine Sx.st_take hT rfl rfl rfl rfl (Sx.x_move hT rfl rfl) ?_
    clear hT; intro a hT
    refine Sx.st_skip hT rfl rfl rfl rfl ?_
    clear hT; intro a hT
    refine Sx.st_runskip hT rfl rfl rfl rfl ?_
    clear hT; intro a hT
    refine Sx.st_skip hT rfl rfl rfl rfl ?_
    clear hT; intro a hT
    refine Sx.st_take hT rfl rfl rfl rfl (Sx.x_pick_f hT rfl rfl rfl) ?_
    clear hT; intro a hT
    refine Sx.st_take hT rfl rfl rfl rfl (Sx.x_move hT rfl rfl) ?_
    clear hT; intro a hT
    refine Sx.st_skip hT rfl rfl rfl rfl ?_
    clear hT; intro a hT
    refine Sx.st_runskip hT rfl rfl rfl rfl ?_
    clear hT; intro a hT
    refine Sx.st_runskip hT rfl rfl rfl rfl ?_
    clear hT; intro a hT
    refine Sx.st_take hT rfl rfl rfl rfl (Sx.x_pick_f hT rfl rfl rfl) ?_
    clear hT; intro a hT
    refine Sx.st_take hT rfl rfl rfl rfl (Sx.x_move hT rfl rfl) ?_
    clear hT; intro a hT
    refine Sx.st_skip hT rfl rfl rfl rfl ?_
    clear hT; intro a hT
    refine Sx.st_runskip hT rfl rfl rfl rfl ?_
    clear hT; intro a hT
    refine Sx.st_runskip hT rfl rfl rfl rfl ?_
    clear hT; intro a hT
    refine Sx.st_take hT rfl rfl rfl rfl (Sx.x_pick_f hT rfl rfl rfl) ?_
    clear hT; intro a hT
    refine Sx.st_take hT rfl rfl rfl rfl (Sx.x_move hT rfl rfl) ?_
    clear hT; intro a hT
    refine Sx.st_skip hT rfl rfl rfl rfl ?_
    clear hT; intro a hT
    refine Sx.st_runskip hT rfl rfl rfl rfl ?_
    clear hT; intro a hT
    refine Sx.st_skip hT rfl rfl rfl rfl ?_
    clear hT; intro a hT
    refine Sx.st_runskip hT rfl rfl rfl rfl ?_
    clear hT; intro a hT
    refine Sx.st_skip hT rfl rfl rfl rfl ?_
    clear hT; intro a hT
    refine Sx.st_take hT rfl rfl rfl rfl (Sx.x_pick_f hT rfl rfl rfl) ?_
    clear hT; intro a hT
    refine Sx.st_take hT rfl rfl rfl rfl (Sx.x_assign hT rfl rfl) ?_
    clear hT; intro a hT
    replace hT := hT.keep [2, 1, 0] rfl
    refine Sx.ser_nil ?_
    refine Sx.then_normal (hK2 _ _ ?_)
    clear hK2
    refine wp_ret ?_
    refine Sx.done1 (fn := Try.f31) hT rfl (.tmp (hT.get 2 _ rfl)) ?_
    refine ⟨ret_b ?_, H.ext⟩
    clear hT H
    unfold mayR
    simp_all <;> first | omega | (intros; omega)

end Go.Proofs.Ytakohabmcgponaa
