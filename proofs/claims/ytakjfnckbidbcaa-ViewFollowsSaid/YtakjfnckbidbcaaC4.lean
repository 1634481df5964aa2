/- Walks: floats in their order, sums. -/
import Derived.Test.YtakjfnckbidbcaaC2
import Derived.Test.YtakjfnckbidbcaaC3
set_option linter.unusedSimpArgs false
set_option linter.unusedVariables false
namespace Go.Proofs.Ytakjfnckbidbcaa
open Sx
theorem Try.can47 : Sx.Can Try.prog 47 := ⟨_, Try.func47, by kernel_rfl, rfl⟩
theorem Try.can48 : Sx.Can Try.prog 48 := ⟨_, Try.func48, by kernel_rfl, rfl⟩
theorem Try.can49 : Sx.Can Try.prog 49 := ⟨_, Try.func49, by kernel_rfl, rfl⟩
theorem Try.can69 : Sx.Can Try.prog 69 := ⟨_, Try.func69, by kernel_rfl, rfl⟩
theorem Try.can70 : Sx.Can Try.prog 70 := ⟨_, Try.func70, by kernel_rfl, rfl⟩
theorem Try.can71 : Sx.Can Try.prog 71 := ⟨_, Try.func71, by kernel_rfl, rfl⟩
theorem Try.can72 : Sx.Can Try.prog 72 := ⟨_, Try.func72, by kernel_rfl, rfl⟩
theorem Try.can79 : Sx.Can Try.prog 79 := ⟨_, Try.func79, by kernel_rfl, rfl⟩
theorem Try.can80 : Sx.Can Try.prog 80 := ⟨_, Try.func80, by kernel_rfl, rfl⟩
theorem Try.can92 : Sx.Can Try.prog 92 := ⟨_, Try.func92, by kernel_rfl, rfl⟩
theorem Rank_calls (b : Nat) (w : World) : Calls Try.prog 92 #[.float .f64 b] w fun e w' => e = .returned (.int .u64 (rank b)) ∧ Ext No w w' := by
  refine Sx.calls_into Try.func92 rfl Try.ntmps92 rfl fun a hT => ?_
  replace hT := hT.keep [0] rfl
  have H : Sx.Hp w (Sx.No) w [] := Sx.Hp.start _ _
  refine wp_seq_k fun K1 hK1 => ?_
  -- region 0 (num.go:56)
  refine Sx.wp_text [(0, .take)] rfl ?_
  refine Sx.st_take hT rfl rfl rfl rfl (Sx.x_assign hT rfl rfl) ?_
  clear hT; intro a hT
  replace hT := hT.keep [2, 0] rfl
  refine Sx.ser_nil ?_
  refine Sx.then_normal (hK1 _ _ ?_)
  clear hK1
  refine wp_seq_k fun K2 hK2 => ?_
  -- region 1 (num.go:57)
  refine Sx.wp_text [(0, .take), (1, .run), (2, .take)] rfl ?_
  refine Sx.st_take hT rfl rfl rfl rfl (Sx.x_move hT rfl rfl) ?_
  clear hT; intro a hT
  refine Sx.st_call hT rfl rfl rfl rfl rfl Try.can67 rfl (Bits_calls _ _) ?_
  rintro _ w1 ⟨rfl, E⟩
  refine ⟨_, rfl, ?_⟩
  clear hT; intro a hT
  replace H := H.pure E; clear E
  refine Sx.st_take hT rfl rfl rfl rfl (Sx.x_assign hT rfl rfl) ?_
  clear hT; intro a hT
  replace hT := hT.keep [3, 2, 0] rfl
  refine Sx.ser_nil ?_
  refine Sx.then_normal (hK2 _ _ ?_)
  clear hK2
  refine wp_seq_k fun K3 hK3 => ?_
  refine wp_seq_k fun K4 hK4 => ?_
  -- region 2 (num.go:58)
  refine Sx.wp_text [(0, .take), (1, .take), (2, .take)] rfl ?_
  refine Sx.st_take hT rfl rfl rfl rfl (Sx.x_move hT rfl rfl) ?_
  clear hT; intro a hT
  refine Sx.st_take hT rfl rfl rfl rfl (Sx.x_uand hT rfl rfl rfl) ?_
  clear hT; intro a hT
  refine Sx.st_take hT rfl rfl rfl rfl ((fun w => Sx.x_ne w hT rfl rfl rfl)) ?_
  clear hT; intro a hT
  replace hT := hT.keep [8, 3, 2, 0] rfl
  refine Sx.ser_nil ?_
  refine Sx.then_normal (hK4 _ _ ?_)
  clear hK4
  -- cond 0
  refine Sx.wp_if hT rfl (fun hc5 => ?_) (fun hc5 => ?_)
  · try simp only [decide_eq_true_eq, decide_eq_false_iff_not, Bool.not_eq_true', Bool.not_eq_false', Bool.not_eq_true, Bool.not_eq_false, Bool.and_eq_true, Bool.or_eq_false_iff, beq_iff_eq, bne_iff_ne, Int.not_lt, Int.not_le, ne_eq] at hc5
    refine wp_seq_k fun K6 hK6 => ?_
    -- region 3 (num.go:59)
    refine Sx.wp_text [(0, .take), (1, .take), (2, .take)] rfl ?_
    refine Sx.st_take hT rfl rfl rfl rfl (Sx.x_move hT rfl rfl) ?_
    clear hT; intro a hT
    refine Sx.st_take hT rfl rfl rfl rfl (Sx.x_unot hT rfl rfl) ?_
    clear hT; intro a hT
    refine Sx.st_take hT rfl rfl rfl rfl (Sx.x_assign hT rfl rfl) ?_
    clear hT; intro a hT
    replace hT := hT.keep [2, 8, 3, 0] rfl
    refine Sx.ser_nil ?_
    refine Sx.then_normal (hK6 _ _ ?_)
    clear hK6
    refine wp_ret ?_
    refine Sx.then_ret ?_
    refine Sx.done1 (fn := Try.f92) hT rfl (.tmp (hT.get 2 _ rfl)) ?_
    exact ⟨by unfold rank sgn; simp_all, H.ext⟩
  · try simp only [decide_eq_true_eq, decide_eq_false_iff_not, Bool.not_eq_true', Bool.not_eq_false', Bool.not_eq_true, Bool.not_eq_false, Bool.and_eq_true, Bool.or_eq_false_iff, beq_iff_eq, bne_iff_ne, Int.not_lt, Int.not_le, ne_eq] at hc5
    refine wp_skip ?_
    refine Sx.then_normal (hK3 _ _ ?_)
    clear hK3
    refine wp_seq_k fun K7 hK7 => ?_
    -- region 4 (num.go:61)
    refine Sx.wp_text [(0, .take), (1, .take), (2, .take)] rfl ?_
    refine Sx.st_take hT rfl rfl rfl rfl (Sx.x_move hT rfl rfl) ?_
    clear hT; intro a hT
    refine Sx.st_take hT rfl rfl rfl rfl (Sx.x_uor hT rfl rfl rfl) ?_
    clear hT; intro a hT
    refine Sx.st_take hT rfl rfl rfl rfl (Sx.x_assign hT rfl rfl) ?_
    clear hT; intro a hT
    replace hT := hT.keep [2, 8, 3, 0] rfl
    refine Sx.ser_nil ?_
    refine Sx.then_normal (hK7 _ _ ?_)
    clear hK7
    refine wp_ret ?_
    refine Sx.done1 (fn := Try.f92) hT rfl (.tmp (hT.get 2 _ rfl)) ?_
    exact ⟨by unfold rank sgn; simp_all, H.ext⟩

theorem Cmp_calls (b c : Nat) (w : World) : Calls Try.prog 79 #[.float .f64 b, .float .f64 c] w fun e w' => e = .returned (.int .i64 (cmpF b c)) ∧ Ext No w w' := by
  refine Sx.calls_into Try.func79 rfl Try.ntmps79 rfl fun a hT => ?_
  replace hT := hT.keep [0, 1] rfl
  have H : Sx.Hp w (Sx.No) w [] := Sx.Hp.start _ _
  refine wp_seq_k fun K1 hK1 => ?_
  -- region 0 (num.go:73)
  refine Sx.wp_text [(0, .take)] rfl ?_
  refine Sx.st_take hT rfl rfl rfl rfl (Sx.x_assign hT rfl rfl) ?_
  clear hT; intro a hT
  replace hT := hT.keep [4, 0, 1] rfl
  refine Sx.ser_nil ?_
  refine Sx.then_normal (hK1 _ _ ?_)
  clear hK1
  refine wp_seq_k fun K2 hK2 => ?_
  -- region 1 (num.go:74)
  refine Sx.wp_text [(0, .take), (1, .run), (2, .take), (3, .run), (4, .take), (5, .take)] rfl ?_
  refine Sx.st_take hT rfl rfl rfl rfl (Sx.x_move hT rfl rfl) ?_
  clear hT; intro a hT
  refine Sx.st_call hT rfl rfl rfl rfl rfl Try.can92 rfl (Rank_calls _ _) ?_
  rintro _ w1 ⟨rfl, E⟩
  refine ⟨_, rfl, ?_⟩
  clear hT; intro a hT
  replace H := H.pure E; clear E
  refine Sx.st_take hT rfl rfl rfl rfl (Sx.x_move hT rfl rfl) ?_
  clear hT; intro a hT
  refine Sx.st_call hT rfl rfl rfl rfl rfl Try.can92 rfl (Rank_calls _ _) ?_
  rintro _ w2 ⟨rfl, E⟩
  refine ⟨_, rfl, ?_⟩
  clear hT; intro a hT
  replace H := H.pure E; clear E
  refine Sx.st_take hT rfl rfl rfl rfl (Sx.x_assign hT rfl rfl) ?_
  clear hT; intro a hT
  refine Sx.st_take hT rfl rfl rfl rfl (Sx.x_assign hT rfl rfl) ?_
  clear hT; intro a hT
  replace hT := hT.keep [6, 5, 4, 0, 1] rfl
  refine Sx.ser_nil ?_
  refine Sx.then_normal (hK2 _ _ ?_)
  clear hK2
  refine wp_seq_k fun K3 hK3 => ?_
  refine wp_block ?_
  refine wp_seq_k fun K4 hK4 => ?_
  -- region 2 (num.go:76)
  refine Sx.wp_text [(0, .take), (1, .take), (2, .take), (3, .take)] rfl ?_
  refine Sx.st_take hT rfl rfl rfl rfl (Sx.x_move hT rfl rfl) ?_
  clear hT; intro a hT
  refine Sx.st_take hT rfl rfl rfl rfl (Sx.x_move hT rfl rfl) ?_
  clear hT; intro a hT
  refine Sx.st_take hT rfl rfl rfl rfl ((fun w => Sx.x_lt w hT rfl rfl rfl)) ?_
  clear hT; intro a hT
  refine Sx.st_take hT rfl rfl rfl rfl (Sx.x_assign hT rfl rfl) ?_
  clear hT; intro a hT
  replace hT := hT.keep [11, 6, 5, 4, 0, 1] rfl
  refine Sx.ser_nil ?_
  refine Sx.then_normal (hK4 _ _ ?_)
  clear hK4
  -- cond 0
  refine Sx.wp_if hT rfl (fun hc5 => ?_) (fun hc5 => ?_)
  · try simp only [decide_eq_true_eq, decide_eq_false_iff_not, Bool.not_eq_true', Bool.not_eq_false', Bool.not_eq_true, Bool.not_eq_false, Bool.and_eq_true, Bool.or_eq_false_iff, beq_iff_eq, bne_iff_ne, Int.not_lt, Int.not_le, ne_eq] at hc5
    refine wp_seq_k fun K6 hK6 => ?_
    -- region 3 (num.go:77)
    refine Sx.wp_text [(0, .take)] rfl ?_
    refine Sx.st_take hT rfl rfl rfl rfl (Sx.x_assign hT rfl rfl) ?_
    clear hT; intro a hT
    replace hT := hT.keep [4, 11, 6, 5, 0, 1] rfl
    refine Sx.ser_nil ?_
    refine Sx.then_normal (hK6 _ _ ?_)
    clear hK6
    refine wp_ret ?_
    refine Sx.block_ret ?_
    refine Sx.then_ret ?_
    refine Sx.done1 (fn := Try.f79) hT rfl (.tmp (hT.get 4 _ rfl)) ?_
    exact ⟨by unfold cmpF ordI; (repeat' split) <;> first | rfl | omega, H.ext⟩
  · try simp only [decide_eq_true_eq, decide_eq_false_iff_not, Bool.not_eq_true', Bool.not_eq_false', Bool.not_eq_true, Bool.not_eq_false, Bool.and_eq_true, Bool.or_eq_false_iff, beq_iff_eq, bne_iff_ne, Int.not_lt, Int.not_le, ne_eq] at hc5
    refine wp_seq_k fun K7 hK7 => ?_
    -- region 4 (num.go:78)
    refine Sx.wp_text [(0, .take), (1, .take), (2, .take), (3, .take)] rfl ?_
    refine Sx.st_take hT rfl rfl rfl rfl (Sx.x_move hT rfl rfl) ?_
    clear hT; intro a hT
    refine Sx.st_take hT rfl rfl rfl rfl (Sx.x_move hT rfl rfl) ?_
    clear hT; intro a hT
    refine Sx.st_take hT rfl rfl rfl rfl ((fun w => Sx.x_gt w hT rfl rfl rfl)) ?_
    clear hT; intro a hT
    refine Sx.st_take hT rfl rfl rfl rfl (Sx.x_assign hT rfl rfl) ?_
    clear hT; intro a hT
    replace hT := hT.keep [15, 11, 6, 5, 4, 0, 1] rfl
    refine Sx.ser_nil ?_
    refine Sx.then_normal (hK7 _ _ ?_)
    clear hK7
    -- cond 1
    refine Sx.wp_if hT rfl (fun hc8 => ?_) (fun hc8 => ?_)
    · try simp only [decide_eq_true_eq, decide_eq_false_iff_not, Bool.not_eq_true', Bool.not_eq_false', Bool.not_eq_true, Bool.not_eq_false, Bool.and_eq_true, Bool.or_eq_false_iff, beq_iff_eq, bne_iff_ne, Int.not_lt, Int.not_le, ne_eq] at hc8
      refine wp_seq_k fun K9 hK9 => ?_
      -- region 5 (num.go:79)
      refine Sx.wp_text [(0, .take)] rfl ?_
      refine Sx.st_take hT rfl rfl rfl rfl (Sx.x_assign hT rfl rfl) ?_
      clear hT; intro a hT
      replace hT := hT.keep [4, 15, 11, 6, 5, 0, 1] rfl
      refine Sx.ser_nil ?_
      refine Sx.then_normal (hK9 _ _ ?_)
      clear hK9
      refine wp_ret ?_
      refine Sx.block_ret ?_
      refine Sx.then_ret ?_
      refine Sx.done1 (fn := Try.f79) hT rfl (.tmp (hT.get 4 _ rfl)) ?_
      exact ⟨by unfold cmpF ordI; (repeat' split) <;> first | rfl | omega, H.ext⟩
    · try simp only [decide_eq_true_eq, decide_eq_false_iff_not, Bool.not_eq_true', Bool.not_eq_false', Bool.not_eq_true, Bool.not_eq_false, Bool.and_eq_true, Bool.or_eq_false_iff, beq_iff_eq, bne_iff_ne, Int.not_lt, Int.not_le, ne_eq] at hc8
      refine wp_skip ?_
      refine Sx.block_normal ?_
      refine Sx.then_normal (hK3 _ _ ?_)
      clear hK3
      refine wp_seq_k fun K10 hK10 => ?_
      -- region 6 (num.go:81)
      refine Sx.wp_text [(0, .take)] rfl ?_
      refine Sx.st_take hT rfl rfl rfl rfl (Sx.x_assign hT rfl rfl) ?_
      clear hT; intro a hT
      replace hT := hT.keep [4, 15, 11, 6, 5, 0, 1] rfl
      refine Sx.ser_nil ?_
      refine Sx.then_normal (hK10 _ _ ?_)
      clear hK10
      refine wp_ret ?_
      refine Sx.done1 (fn := Try.f79) hT rfl (.tmp (hT.get 4 _ rfl)) ?_
      exact ⟨by unfold cmpF ordI; (repeat' split) <;> first | rfl | omega, H.ext⟩

theorem xRank_calls (b : Nat) (w : World) : Calls Try.prog 80 #[.float .f64 b] w fun e w' => e = .returned (.int .u64 (rank b)) ∧ Ext No w w' := by
  refine Sx.calls_into Try.func80 rfl Try.ntmps80 rfl fun a hT => ?_
  replace hT := hT.keep [0] rfl
  have H : Sx.Hp w (Sx.No) w [] := Sx.Hp.start _ _
  refine wp_seq_k fun K1 hK1 => ?_
  -- region 0 (ref.go:52)
  refine Sx.wp_text [(0, .take)] rfl ?_
  refine Sx.st_take hT rfl rfl rfl rfl (Sx.x_assign hT rfl rfl) ?_
  clear hT; intro a hT
  replace hT := hT.keep [2, 0] rfl
  refine Sx.ser_nil ?_
  refine Sx.then_normal (hK1 _ _ ?_)
  clear hK1
  refine wp_seq_k fun K2 hK2 => ?_
  -- region 1 (ref.go:53)
  refine Sx.wp_text [(0, .take), (1, .run), (2, .take)] rfl ?_
  refine Sx.st_take hT rfl rfl rfl rfl (Sx.x_move hT rfl rfl) ?_
  clear hT; intro a hT
  refine Sx.st_call hT rfl rfl rfl rfl rfl Try.can74 rfl (xBits_calls _ _) ?_
  rintro _ w1 ⟨rfl, E⟩
  refine ⟨_, rfl, ?_⟩
  clear hT; intro a hT
  replace H := H.pure E; clear E
  refine Sx.st_take hT rfl rfl rfl rfl (Sx.x_assign hT rfl rfl) ?_
  clear hT; intro a hT
  replace hT := hT.keep [3, 2, 0] rfl
  refine Sx.ser_nil ?_
  refine Sx.then_normal (hK2 _ _ ?_)
  clear hK2
  refine wp_seq_k fun K3 hK3 => ?_
  refine wp_seq_k fun K4 hK4 => ?_
  -- region 2 (ref.go:54)
  refine Sx.wp_text [(0, .take), (1, .take), (2, .take)] rfl ?_
  refine Sx.st_take hT rfl rfl rfl rfl (Sx.x_move hT rfl rfl) ?_
  clear hT; intro a hT
  refine Sx.st_take hT rfl rfl rfl rfl (Sx.x_uand hT rfl rfl rfl) ?_
  clear hT; intro a hT
  refine Sx.st_take hT rfl rfl rfl rfl ((fun w => Sx.x_ne w hT rfl rfl rfl)) ?_
  clear hT; intro a hT
  replace hT := hT.keep [8, 3, 2, 0] rfl
  refine Sx.ser_nil ?_
  refine Sx.then_normal (hK4 _ _ ?_)
  clear hK4
  -- cond 0
  refine Sx.wp_if hT rfl (fun hc5 => ?_) (fun hc5 => ?_)
  · try simp only [decide_eq_true_eq, decide_eq_false_iff_not, Bool.not_eq_true', Bool.not_eq_false', Bool.not_eq_true, Bool.not_eq_false, Bool.and_eq_true, Bool.or_eq_false_iff, beq_iff_eq, bne_iff_ne, Int.not_lt, Int.not_le, ne_eq] at hc5
    refine wp_seq_k fun K6 hK6 => ?_
    -- region 3 (ref.go:55)
    refine Sx.wp_text [(0, .take), (1, .take), (2, .take)] rfl ?_
    refine Sx.st_take hT rfl rfl rfl rfl (Sx.x_move hT rfl rfl) ?_
    clear hT; intro a hT
    refine Sx.st_take hT rfl rfl rfl rfl (Sx.x_unot hT rfl rfl) ?_
    clear hT; intro a hT
    refine Sx.st_take hT rfl rfl rfl rfl (Sx.x_assign hT rfl rfl) ?_
    clear hT; intro a hT
    replace hT := hT.keep [2, 8, 3, 0] rfl
    refine Sx.ser_nil ?_
    refine Sx.then_normal (hK6 _ _ ?_)
    clear hK6
    refine wp_ret ?_
    refine Sx.then_ret ?_
    refine Sx.done1 (fn := Try.f80) hT rfl (.tmp (hT.get 2 _ rfl)) ?_
    exact ⟨by unfold rank sgn; simp_all, H.ext⟩
  · try simp only [decide_eq_true_eq, decide_eq_false_iff_not, Bool.not_eq_true', Bool.not_eq_false', Bool.not_eq_true, Bool.not_eq_false, Bool.and_eq_true, Bool.or_eq_false_iff, beq_iff_eq, bne_iff_ne, Int.not_lt, Int.not_le, ne_eq] at hc5
    refine wp_skip ?_
    refine Sx.then_normal (hK3 _ _ ?_)
    clear hK3
    refine wp_seq_k fun K7 hK7 => ?_
    -- region 4 (ref.go:57)
    refine Sx.wp_text [(0, .take), (1, .take), (2, .take)] rfl ?_
    refine Sx.st_take hT rfl rfl rfl rfl (Sx.x_move hT rfl rfl) ?_
    clear hT; intro a hT
    refine Sx.st_take hT rfl rfl rfl rfl (Sx.x_uor hT rfl rfl rfl) ?_
    clear hT; intro a hT
    refine Sx.st_take hT rfl rfl rfl rfl (Sx.x_assign hT rfl rfl) ?_
    clear hT; intro a hT
    replace hT := hT.keep [2, 8, 3, 0] rfl
    refine Sx.ser_nil ?_
    refine Sx.then_normal (hK7 _ _ ?_)
    clear hK7
    refine wp_ret ?_
    refine Sx.done1 (fn := Try.f80) hT rfl (.tmp (hT.get 2 _ rfl)) ?_
    exact ⟨by unfold rank sgn; simp_all, H.ext⟩

theorem xCmp_calls (b c : Nat) (w : World) : Calls Try.prog 72 #[.float .f64 b, .float .f64 c] w fun e w' => e = .returned (.int .i64 (cmpF b c)) ∧ Ext No w w' := by
  refine Sx.calls_into Try.func72 rfl Try.ntmps72 rfl fun a hT => ?_
  replace hT := hT.keep [0, 1] rfl
  have H : Sx.Hp w (Sx.No) w [] := Sx.Hp.start _ _
  refine wp_seq_k fun K1 hK1 => ?_
  -- region 0 (ref.go:69)
  refine Sx.wp_text [(0, .take)] rfl ?_
  refine Sx.st_take hT rfl rfl rfl rfl (Sx.x_assign hT rfl rfl) ?_
  clear hT; intro a hT
  replace hT := hT.keep [4, 0, 1] rfl
  refine Sx.ser_nil ?_
  refine Sx.then_normal (hK1 _ _ ?_)
  clear hK1
  refine wp_seq_k fun K2 hK2 => ?_
  -- region 1 (ref.go:70)
  refine Sx.wp_text [(0, .take), (1, .run), (2, .take), (3, .run), (4, .take), (5, .take)] rfl ?_
  refine Sx.st_take hT rfl rfl rfl rfl (Sx.x_move hT rfl rfl) ?_
  clear hT; intro a hT
  refine Sx.st_call hT rfl rfl rfl rfl rfl Try.can80 rfl (xRank_calls _ _) ?_
  rintro _ w1 ⟨rfl, E⟩
  refine ⟨_, rfl, ?_⟩
  clear hT; intro a hT
  replace H := H.pure E; clear E
  refine Sx.st_take hT rfl rfl rfl rfl (Sx.x_move hT rfl rfl) ?_
  clear hT; intro a hT
  refine Sx.st_call hT rfl rfl rfl rfl rfl Try.can80 rfl (xRank_calls _ _) ?_
  rintro _ w2 ⟨rfl, E⟩
  refine ⟨_, rfl, ?_⟩
  clear hT; intro a hT
  replace H := H.pure E; clear E
  refine Sx.st_take hT rfl rfl rfl rfl (Sx.x_assign hT rfl rfl) ?_
  clear hT; intro a hT
  refine Sx.st_take hT rfl rfl rfl rfl (Sx.x_assign hT rfl rfl) ?_
  clear hT; intro a hT
  replace hT := hT.keep [6, 5, 4, 0, 1] rfl
  refine Sx.ser_nil ?_
  refine Sx.then_normal (hK2 _ _ ?_)
  clear hK2
  refine wp_seq_k fun K3 hK3 => ?_
  refine wp_seq_k fun K4 hK4 => ?_
  -- region 2 (ref.go:71)
  refine Sx.wp_text [(0, .take), (1, .take), (2, .take)] rfl ?_
  refine Sx.st_take hT rfl rfl rfl rfl (Sx.x_move hT rfl rfl) ?_
  clear hT; intro a hT
  refine Sx.st_take hT rfl rfl rfl rfl (Sx.x_move hT rfl rfl) ?_
  clear hT; intro a hT
  refine Sx.st_take hT rfl rfl rfl rfl ((fun w => Sx.x_lt w hT rfl rfl rfl)) ?_
  clear hT; intro a hT
  replace hT := hT.keep [13, 6, 5, 4, 0, 1] rfl
  refine Sx.ser_nil ?_
  refine Sx.then_normal (hK4 _ _ ?_)
  clear hK4
  -- cond 0
  refine Sx.wp_if hT rfl (fun hc5 => ?_) (fun hc5 => ?_)
  · try simp only [decide_eq_true_eq, decide_eq_false_iff_not, Bool.not_eq_true', Bool.not_eq_false', Bool.not_eq_true, Bool.not_eq_false, Bool.and_eq_true, Bool.or_eq_false_iff, beq_iff_eq, bne_iff_ne, Int.not_lt, Int.not_le, ne_eq] at hc5
    refine wp_seq_k fun K6 hK6 => ?_
    -- region 3 (ref.go:72)
    refine Sx.wp_text [(0, .take)] rfl ?_
    refine Sx.st_take hT rfl rfl rfl rfl (Sx.x_assign hT rfl rfl) ?_
    clear hT; intro a hT
    replace hT := hT.keep [4, 13, 6, 5, 0, 1] rfl
    refine Sx.ser_nil ?_
    refine Sx.then_normal (hK6 _ _ ?_)
    clear hK6
    refine wp_ret ?_
    refine Sx.then_ret ?_
    refine Sx.done1 (fn := Try.f72) hT rfl (.tmp (hT.get 4 _ rfl)) ?_
    exact ⟨by unfold cmpF ordI; (repeat' split) <;> first | rfl | omega, H.ext⟩
  · try simp only [decide_eq_true_eq, decide_eq_false_iff_not, Bool.not_eq_true', Bool.not_eq_false', Bool.not_eq_true, Bool.not_eq_false, Bool.and_eq_true, Bool.or_eq_false_iff, beq_iff_eq, bne_iff_ne, Int.not_lt, Int.not_le, ne_eq] at hc5
    refine wp_skip ?_
    refine Sx.then_normal (hK3 _ _ ?_)
    clear hK3
    refine wp_seq_k fun K7 hK7 => ?_
    refine wp_seq_k fun K8 hK8 => ?_
    -- region 4 (ref.go:74)
    refine Sx.wp_text [(0, .take), (1, .take), (2, .take)] rfl ?_
    refine Sx.st_take hT rfl rfl rfl rfl (Sx.x_move hT rfl rfl) ?_
    clear hT; intro a hT
    refine Sx.st_take hT rfl rfl rfl rfl (Sx.x_move hT rfl rfl) ?_
    clear hT; intro a hT
    refine Sx.st_take hT rfl rfl rfl rfl ((fun w => Sx.x_gt w hT rfl rfl rfl)) ?_
    clear hT; intro a hT
    replace hT := hT.keep [16, 13, 6, 5, 4, 0, 1] rfl
    refine Sx.ser_nil ?_
    refine Sx.then_normal (hK8 _ _ ?_)
    clear hK8
    -- cond 1
    refine Sx.wp_if hT rfl (fun hc9 => ?_) (fun hc9 => ?_)
    · try simp only [decide_eq_true_eq, decide_eq_false_iff_not, Bool.not_eq_true', Bool.not_eq_false', Bool.not_eq_true, Bool.not_eq_false, Bool.and_eq_true, Bool.or_eq_false_iff, beq_iff_eq, bne_iff_ne, Int.not_lt, Int.not_le, ne_eq] at hc9
      refine wp_seq_k fun K10 hK10 => ?_
      -- region 5 (ref.go:75)
      refine Sx.wp_text [(0, .take)] rfl ?_
      refine Sx.st_take hT rfl rfl rfl rfl (Sx.x_assign hT rfl rfl) ?_
      clear hT; intro a hT
      replace hT := hT.keep [4, 16, 13, 6, 5, 0, 1] rfl
      refine Sx.ser_nil ?_
      refine Sx.then_normal (hK10 _ _ ?_)
      clear hK10
      refine wp_ret ?_
      refine Sx.then_ret ?_
      refine Sx.done1 (fn := Try.f72) hT rfl (.tmp (hT.get 4 _ rfl)) ?_
      exact ⟨by unfold cmpF ordI; (repeat' split) <;> first | rfl | omega, H.ext⟩
    · try simp only [decide_eq_true_eq, decide_eq_false_iff_not, Bool.not_eq_true', Bool.not_eq_false', Bool.not_eq_true, Bool.not_eq_false, Bool.and_eq_true, Bool.or_eq_false_iff, beq_iff_eq, bne_iff_ne, Int.not_lt, Int.not_le, ne_eq] at hc9
      refine wp_skip ?_
      refine Sx.then_normal (hK7 _ _ ?_)
      clear hK7
      refine wp_seq_k fun K11 hK11 => ?_
      -- region 6 (ref.go:77)
      refine Sx.wp_text [(0, .take)] rfl ?_
      refine Sx.st_take hT rfl rfl rfl rfl (Sx.x_assign hT rfl rfl) ?_
      clear hT; intro a hT
      replace hT := hT.keep [4, 16, 13, 6, 5, 0, 1] rfl
      refine Sx.ser_nil ?_
      refine Sx.then_normal (hK11 _ _ ?_)
      clear hK11
      refine wp_ret ?_
      refine Sx.done1 (fn := Try.f72) hT rfl (.tmp (hT.get 4 _ rfl)) ?_
      exact ⟨by unfold cmpF ordI; (repeat' split) <;> first | rfl | omega, H.ext⟩

theorem Add_calls (b c : Nat) (w : World) : Calls Try.prog 71 #[.float .f64 b, .float .f64 c] w fun e w' => e = .returned (.float .f64 (fop .add b c)) ∧ Ext No w w' := by
  refine Sx.calls_into Try.func71 rfl Try.ntmps71 rfl fun a hT => ?_
  replace hT := hT.keep [0, 1] rfl
  have H : Sx.Hp w (Sx.No) w [] := Sx.Hp.start _ _
  refine wp_seq_k fun K1 hK1 => ?_
  -- region 0 (num.go:85)
  refine Sx.wp_text [(0, .take)] rfl ?_
  refine Sx.st_take hT rfl rfl rfl rfl (Sx.x_assign hT rfl rfl) ?_
  clear hT; intro a hT
  replace hT := hT.keep [4, 0, 1] rfl
  refine Sx.ser_nil ?_
  refine Sx.then_normal (hK1 _ _ ?_)
  clear hK1
  refine wp_seq_k fun K2 hK2 => ?_
  -- region 1 (num.go:85)
  refine Sx.wp_text [(0, .take), (1, .take), (2, .run), (3, .run), (4, .take)] rfl ?_
  refine Sx.st_take hT rfl rfl rfl rfl (Sx.x_move hT rfl rfl) ?_
  clear hT; intro a hT
  refine Sx.st_take hT rfl rfl rfl rfl (Sx.x_move hT rfl rfl) ?_
  clear hT; intro a hT
  refine Sx.st_eff hT rfl rfl rfl rfl (Sx.x_farith hT rfl rfl rfl (by simp) _) ?_
  rintro _ w1 ⟨fv1_2, rfl, hf1_2, E⟩
  clear hT; intro a hT
  replace H := H.pure E; clear E
  refine Sx.st_call hT rfl rfl rfl rfl rfl Try.can68 rfl (Canon_calls _ _) ?_
  rintro _ w2 ⟨rfl, E⟩
  refine ⟨_, rfl, ?_⟩
  clear hT; intro a hT
  replace H := H.pure E; clear E
  refine Sx.st_take hT rfl rfl rfl rfl (Sx.x_assign hT rfl rfl) ?_
  clear hT; intro a hT
  replace hT := hT.keep [4, 0, 1] rfl
  refine Sx.ser_nil ?_
  refine Sx.then_normal (hK2 _ _ ?_)
  clear hK2
  refine wp_ret ?_
  refine Sx.done1 (fn := Try.f71) hT rfl (.tmp (hT.get 4 _ rfl)) ?_
  exact ⟨ret_f (by assumption), H.ext⟩

theorem Least_calls (b c : Nat) (w : World) : Calls Try.prog 69 #[.float .f64 b, .float .f64 c] w fun e w' => e = .returned (.float .f64 (leastF b c)) ∧ Ext No w w' := by
  refine Sx.calls_into Try.func69 rfl Try.ntmps69 rfl fun a hT => ?_
  replace hT := hT.keep [0, 1] rfl
  have H : Sx.Hp w (Sx.No) w [] := Sx.Hp.start _ _
  refine wp_seq_k fun K1 hK1 => ?_
  -- region 0 (num.go:97)
  refine Sx.wp_text [(0, .take)] rfl ?_
  refine Sx.st_take hT rfl rfl rfl rfl (Sx.x_assign hT rfl rfl) ?_
  clear hT; intro a hT
  replace hT := hT.keep [4, 0, 1] rfl
  refine Sx.ser_nil ?_
  refine Sx.then_normal (hK1 _ _ ?_)
  clear hK1
  refine wp_seq_k fun K2 hK2 => ?_
  refine wp_seq_k fun K3 hK3 => ?_
  -- region 1 (num.go:98)
  refine Sx.wp_text [(0, .take), (1, .take), (2, .run), (3, .take)] rfl ?_
  refine Sx.st_take hT rfl rfl rfl rfl (Sx.x_move hT rfl rfl) ?_
  clear hT; intro a hT
  refine Sx.st_take hT rfl rfl rfl rfl (Sx.x_move hT rfl rfl) ?_
  clear hT; intro a hT
  refine Sx.st_call hT rfl rfl rfl rfl rfl Try.can79 rfl (Cmp_calls _ _ _) ?_
  rintro _ w1 ⟨rfl, E⟩
  refine ⟨_, rfl, ?_⟩
  clear hT; intro a hT
  replace H := H.pure E; clear E
  refine Sx.st_take hT rfl rfl rfl rfl ((fun w => Sx.x_gt w hT rfl rfl rfl)) ?_
  clear hT; intro a hT
  replace hT := hT.keep [8, 4, 0, 1] rfl
  refine Sx.ser_nil ?_
  refine Sx.then_normal (hK3 _ _ ?_)
  clear hK3
  -- cond 0
  refine Sx.wp_if hT rfl (fun hc4 => ?_) (fun hc4 => ?_)
  · try simp only [decide_eq_true_eq, decide_eq_false_iff_not, Bool.not_eq_true', Bool.not_eq_false', Bool.not_eq_true, Bool.not_eq_false, Bool.and_eq_true, Bool.or_eq_false_iff, beq_iff_eq, bne_iff_ne, Int.not_lt, Int.not_le, ne_eq] at hc4
    refine wp_seq_k fun K5 hK5 => ?_
    -- region 2 (num.go:99)
    refine Sx.wp_text [(0, .take), (1, .run), (2, .take)] rfl ?_
    refine Sx.st_take hT rfl rfl rfl rfl (Sx.x_move hT rfl rfl) ?_
    clear hT; intro a hT
    refine Sx.st_call hT rfl rfl rfl rfl rfl Try.can68 rfl (Canon_calls _ _) ?_
    rintro _ w2 ⟨rfl, E⟩
    refine ⟨_, rfl, ?_⟩
    clear hT; intro a hT
    replace H := H.pure E; clear E
    refine Sx.st_take hT rfl rfl rfl rfl (Sx.x_assign hT rfl rfl) ?_
    clear hT; intro a hT
    replace hT := hT.keep [4, 8, 0, 1] rfl
    refine Sx.ser_nil ?_
    refine Sx.then_normal (hK5 _ _ ?_)
    clear hK5
    refine wp_ret ?_
    refine Sx.then_ret ?_
    refine Sx.done1 (fn := Try.f69) hT rfl (.tmp (hT.get 4 _ rfl)) ?_
    refine ⟨ret_f ?_, H.ext⟩
    clear hT H
    unfold leastF
    first | rw [if_pos (by omega)] | rw [if_neg (by omega)]
  · try simp only [decide_eq_true_eq, decide_eq_false_iff_not, Bool.not_eq_true', Bool.not_eq_false', Bool.not_eq_true, Bool.not_eq_false, Bool.and_eq_true, Bool.or_eq_false_iff, beq_iff_eq, bne_iff_ne, Int.not_lt, Int.not_le, ne_eq] at hc4
    refine wp_skip ?_
    refine Sx.then_normal (hK2 _ _ ?_)
    clear hK2
    refine wp_seq_k fun K6 hK6 => ?_
    -- region 3 (num.go:101)
    refine Sx.wp_text [(0, .take), (1, .run), (2, .take)] rfl ?_
    refine Sx.st_take hT rfl rfl rfl rfl (Sx.x_move hT rfl rfl) ?_
    clear hT; intro a hT
    refine Sx.st_call hT rfl rfl rfl rfl rfl Try.can68 rfl (Canon_calls _ _) ?_
    rintro _ w3 ⟨rfl, E⟩
    refine ⟨_, rfl, ?_⟩
    clear hT; intro a hT
    replace H := H.pure E; clear E
    refine Sx.st_take hT rfl rfl rfl rfl (Sx.x_assign hT rfl rfl) ?_
    clear hT; intro a hT
    replace hT := hT.keep [4, 8, 0, 1] rfl
    refine Sx.ser_nil ?_
    refine Sx.then_normal (hK6 _ _ ?_)
    clear hK6
    refine wp_ret ?_
    refine Sx.done1 (fn := Try.f69) hT rfl (.tmp (hT.get 4 _ rfl)) ?_
    refine ⟨ret_f ?_, H.ext⟩
    clear hT H
    unfold leastF
    first | rw [if_pos (by omega)] | rw [if_neg (by omega)]

theorem Most_calls (b c : Nat) (w : World) : Calls Try.prog 70 #[.float .f64 b, .float .f64 c] w fun e w' => e = .returned (.float .f64 (mostF b c)) ∧ Ext No w w' := by
  refine Sx.calls_into Try.func70 rfl Try.ntmps70 rfl fun a hT => ?_
  replace hT := hT.keep [0, 1] rfl
  have H : Sx.Hp w (Sx.No) w [] := Sx.Hp.start _ _
  refine wp_seq_k fun K1 hK1 => ?_
  -- region 0 (num.go:105)
  refine Sx.wp_text [(0, .take)] rfl ?_
  refine Sx.st_take hT rfl rfl rfl rfl (Sx.x_assign hT rfl rfl) ?_
  clear hT; intro a hT
  replace hT := hT.keep [4, 0, 1] rfl
  refine Sx.ser_nil ?_
  refine Sx.then_normal (hK1 _ _ ?_)
  clear hK1
  refine wp_seq_k fun K2 hK2 => ?_
  refine wp_seq_k fun K3 hK3 => ?_
  -- region 1 (num.go:106)
  refine Sx.wp_text [(0, .take), (1, .take), (2, .run), (3, .take)] rfl ?_
  refine Sx.st_take hT rfl rfl rfl rfl (Sx.x_move hT rfl rfl) ?_
  clear hT; intro a hT
  refine Sx.st_take hT rfl rfl rfl rfl (Sx.x_move hT rfl rfl) ?_
  clear hT; intro a hT
  refine Sx.st_call hT rfl rfl rfl rfl rfl Try.can79 rfl (Cmp_calls _ _ _) ?_
  rintro _ w1 ⟨rfl, E⟩
  refine ⟨_, rfl, ?_⟩
  clear hT; intro a hT
  replace H := H.pure E; clear E
  refine Sx.st_take hT rfl rfl rfl rfl ((fun w => Sx.x_lt w hT rfl rfl rfl)) ?_
  clear hT; intro a hT
  replace hT := hT.keep [8, 4, 0, 1] rfl
  refine Sx.ser_nil ?_
  refine Sx.then_normal (hK3 _ _ ?_)
  clear hK3
  -- cond 0
  refine Sx.wp_if hT rfl (fun hc4 => ?_) (fun hc4 => ?_)
  · try simp only [decide_eq_true_eq, decide_eq_false_iff_not, Bool.not_eq_true', Bool.not_eq_false', Bool.not_eq_true, Bool.not_eq_false, Bool.and_eq_true, Bool.or_eq_false_iff, beq_iff_eq, bne_iff_ne, Int.not_lt, Int.not_le, ne_eq] at hc4
    refine wp_seq_k fun K5 hK5 => ?_
    -- region 2 (num.go:107)
    refine Sx.wp_text [(0, .take), (1, .run), (2, .take)] rfl ?_
    refine Sx.st_take hT rfl rfl rfl rfl (Sx.x_move hT rfl rfl) ?_
    clear hT; intro a hT
    refine Sx.st_call hT rfl rfl rfl rfl rfl Try.can68 rfl (Canon_calls _ _) ?_
    rintro _ w2 ⟨rfl, E⟩
    refine ⟨_, rfl, ?_⟩
    clear hT; intro a hT
    replace H := H.pure E; clear E
    refine Sx.st_take hT rfl rfl rfl rfl (Sx.x_assign hT rfl rfl) ?_
    clear hT; intro a hT
    replace hT := hT.keep [4, 8, 0, 1] rfl
    refine Sx.ser_nil ?_
    refine Sx.then_normal (hK5 _ _ ?_)
    clear hK5
    refine wp_ret ?_
    refine Sx.then_ret ?_
    refine Sx.done1 (fn := Try.f70) hT rfl (.tmp (hT.get 4 _ rfl)) ?_
    refine ⟨ret_f ?_, H.ext⟩
    clear hT H
    unfold mostF
    first | rw [if_pos (by omega)] | rw [if_neg (by omega)]
  · try simp only [decide_eq_true_eq, decide_eq_false_iff_not, Bool.not_eq_true', Bool.not_eq_false', Bool.not_eq_true, Bool.not_eq_false, Bool.and_eq_true, Bool.or_eq_false_iff, beq_iff_eq, bne_iff_ne, Int.not_lt, Int.not_le, ne_eq] at hc4
    refine wp_skip ?_
    refine Sx.then_normal (hK2 _ _ ?_)
    clear hK2
    refine wp_seq_k fun K6 hK6 => ?_
    -- region 3 (num.go:109)
    refine Sx.wp_text [(0, .take), (1, .run), (2, .take)] rfl ?_
    refine Sx.st_take hT rfl rfl rfl rfl (Sx.x_move hT rfl rfl) ?_
    clear hT; intro a hT
    refine Sx.st_call hT rfl rfl rfl rfl rfl Try.can68 rfl (Canon_calls _ _) ?_
    rintro _ w3 ⟨rfl, E⟩
    refine ⟨_, rfl, ?_⟩
    clear hT; intro a hT
    replace H := H.pure E; clear E
    refine Sx.st_take hT rfl rfl rfl rfl (Sx.x_assign hT rfl rfl) ?_
    clear hT; intro a hT
    replace hT := hT.keep [4, 8, 0, 1] rfl
    refine Sx.ser_nil ?_
    refine Sx.then_normal (hK6 _ _ ?_)
    clear hK6
    refine wp_ret ?_
    refine Sx.done1 (fn := Try.f70) hT rfl (.tmp (hT.get 4 _ rfl)) ?_
    refine ⟨ret_f ?_, H.ext⟩
    clear hT H
    unfold mostF
    first | rw [if_pos (by omega)] | rw [if_neg (by omega)]

theorem Does_calls (op : Int) (b c : Nat) (w : World) : Calls Try.prog 48 #[.int .i64 op, .float .f64 b, .float .f64 c] w fun e w' => e = .returned (.float .f64 (doesF op b c)) ∧ Ext No w w' := by
  refine Sx.calls_into Try.func48 rfl Try.ntmps48 rfl fun a hT => ?_
  replace hT := hT.keep [0, 1, 2] rfl
  have H : Sx.Hp w (Sx.No) w [] := Sx.Hp.start _ _
  refine wp_seq_k fun K1 hK1 => ?_
  -- region 0 (ref.go:81)
  refine Sx.wp_text [(0, .take)] rfl ?_
  refine Sx.st_take hT rfl rfl rfl rfl (Sx.x_assign hT rfl rfl) ?_
  clear hT; intro a hT
  replace hT := hT.keep [6, 0, 1, 2] rfl
  refine Sx.ser_nil ?_
  refine Sx.then_normal (hK1 _ _ ?_)
  clear hK1
  refine wp_seq_k fun K2 hK2 => ?_
  refine wp_seq_k fun K3 hK3 => ?_
  -- region 1 (ref.go:82)
  refine Sx.wp_text [(0, .take)] rfl ?_
  refine Sx.st_take hT rfl rfl rfl rfl (Sx.x_move hT rfl rfl) ?_
  clear hT; intro a hT
  replace hT := hT.keep [7, 6, 0, 1, 2] rfl
  refine Sx.ser_nil ?_
  refine Sx.then_normal (hK3 _ _ ?_)
  clear hK3
  refine wp_block ?_
  refine wp_seq_k fun K4 hK4 => ?_
  -- region 2 (ref.go:83)
  refine Sx.wp_text [(0, .take), (1, .take)] rfl ?_
  refine Sx.st_take hT rfl rfl rfl rfl ((fun w => Sx.x_eq w hT rfl rfl rfl)) ?_
  clear hT; intro a hT
  refine Sx.st_take hT rfl rfl rfl rfl (Sx.x_assign hT rfl rfl) ?_
  clear hT; intro a hT
  replace hT := hT.keep [8, 7, 6, 0, 1, 2] rfl
  refine Sx.ser_nil ?_
  refine Sx.then_normal (hK4 _ _ ?_)
  clear hK4
  -- cond 0
  refine Sx.wp_if hT rfl (fun hc5 => ?_) (fun hc5 => ?_)
  · try simp only [decide_eq_true_eq, decide_eq_false_iff_not, Bool.not_eq_true', Bool.not_eq_false', Bool.not_eq_true, Bool.not_eq_false, Bool.and_eq_true, Bool.or_eq_false_iff, beq_iff_eq, bne_iff_ne, Int.not_lt, Int.not_le, ne_eq] at hc5
    refine wp_seq_k fun K6 hK6 => ?_
    -- region 3 (ref.go:84)
    refine Sx.wp_text [(0, .take), (1, .take), (2, .run), (3, .run), (4, .take)] rfl ?_
    refine Sx.st_take hT rfl rfl rfl rfl (Sx.x_move hT rfl rfl) ?_
    clear hT; intro a hT
    refine Sx.st_take hT rfl rfl rfl rfl (Sx.x_move hT rfl rfl) ?_
    clear hT; intro a hT
    refine Sx.st_eff hT rfl rfl rfl rfl (Sx.x_farith hT rfl rfl rfl (by simp) _) ?_
    rintro _ w1 ⟨fv3_2, rfl, hf3_2, E⟩
    clear hT; intro a hT
    replace H := H.pure E; clear E
    refine Sx.st_call hT rfl rfl rfl rfl rfl Try.can51 rfl (xCanon_calls _ _) ?_
    rintro _ w2 ⟨rfl, E⟩
    refine ⟨_, rfl, ?_⟩
    clear hT; intro a hT
    replace H := H.pure E; clear E
    refine Sx.st_take hT rfl rfl rfl rfl (Sx.x_assign hT rfl rfl) ?_
    clear hT; intro a hT
    replace hT := hT.keep [6, 8, 7, 0, 1, 2] rfl
    refine Sx.ser_nil ?_
    refine Sx.then_normal (hK6 _ _ ?_)
    clear hK6
    refine wp_ret ?_
    refine Sx.block_ret ?_
    refine Sx.then_ret ?_
    clear hK2
    refine Sx.done1 (fn := Try.f48) hT rfl (.tmp (hT.get 6 _ rfl)) ?_
    refine ⟨ret_f ?_, H.ext⟩
    clear hT H
    unfold doesF
    simp_all <;> (try omega)
  · try simp only [decide_eq_true_eq, decide_eq_false_iff_not, Bool.not_eq_true', Bool.not_eq_false', Bool.not_eq_true, Bool.not_eq_false, Bool.and_eq_true, Bool.or_eq_false_iff, beq_iff_eq, bne_iff_ne, Int.not_lt, Int.not_le, ne_eq] at hc5
    refine wp_seq_k fun K7 hK7 => ?_
    -- region 4 (ref.go:85)
    refine Sx.wp_text [(0, .take), (1, .take)] rfl ?_
    refine Sx.st_take hT rfl rfl rfl rfl ((fun w => Sx.x_eq w hT rfl rfl rfl)) ?_
    clear hT; intro a hT
    refine Sx.st_take hT rfl rfl rfl rfl (Sx.x_assign hT rfl rfl) ?_
    clear hT; intro a hT
    replace hT := hT.keep [14, 8, 7, 6, 0, 1, 2] rfl
    refine Sx.ser_nil ?_
    refine Sx.then_normal (hK7 _ _ ?_)
    clear hK7
    -- cond 1
    refine Sx.wp_if hT rfl (fun hc8 => ?_) (fun hc8 => ?_)
    · try simp only [decide_eq_true_eq, decide_eq_false_iff_not, Bool.not_eq_true', Bool.not_eq_false', Bool.not_eq_true, Bool.not_eq_false, Bool.and_eq_true, Bool.or_eq_false_iff, beq_iff_eq, bne_iff_ne, Int.not_lt, Int.not_le, ne_eq] at hc8
      refine wp_seq_k fun K9 hK9 => ?_
      -- region 5 (ref.go:86)
      refine Sx.wp_text [(0, .take), (1, .take), (2, .run), (3, .run), (4, .take)] rfl ?_
      refine Sx.st_take hT rfl rfl rfl rfl (Sx.x_move hT rfl rfl) ?_
      clear hT; intro a hT
      refine Sx.st_take hT rfl rfl rfl rfl (Sx.x_move hT rfl rfl) ?_
      clear hT; intro a hT
      refine Sx.st_eff hT rfl rfl rfl rfl (Sx.x_farith hT rfl rfl rfl (by simp) _) ?_
      rintro _ w3 ⟨fv5_2, rfl, hf5_2, E⟩
      clear hT; intro a hT
      replace H := H.pure E; clear E
      refine Sx.st_call hT rfl rfl rfl rfl rfl Try.can51 rfl (xCanon_calls _ _) ?_
      rintro _ w4 ⟨rfl, E⟩
      refine ⟨_, rfl, ?_⟩
      clear hT; intro a hT
      replace H := H.pure E; clear E
      refine Sx.st_take hT rfl rfl rfl rfl (Sx.x_assign hT rfl rfl) ?_
      clear hT; intro a hT
      replace hT := hT.keep [6, 14, 8, 7, 0, 1, 2] rfl
      refine Sx.ser_nil ?_
      refine Sx.then_normal (hK9 _ _ ?_)
      clear hK9
      refine wp_ret ?_
      refine Sx.block_ret ?_
      refine Sx.then_ret ?_
      clear hK2
      refine Sx.done1 (fn := Try.f48) hT rfl (.tmp (hT.get 6 _ rfl)) ?_
      refine ⟨ret_f ?_, H.ext⟩
      clear hT H
      unfold doesF
      simp_all <;> (try omega)
    · try simp only [decide_eq_true_eq, decide_eq_false_iff_not, Bool.not_eq_true', Bool.not_eq_false', Bool.not_eq_true, Bool.not_eq_false, Bool.and_eq_true, Bool.or_eq_false_iff, beq_iff_eq, bne_iff_ne, Int.not_lt, Int.not_le, ne_eq] at hc8
      refine wp_seq_k fun K10 hK10 => ?_
      -- region 6 (ref.go:87)
      refine Sx.wp_text [(0, .take), (1, .take)] rfl ?_
      refine Sx.st_take hT rfl rfl rfl rfl ((fun w => Sx.x_eq w hT rfl rfl rfl)) ?_
      clear hT; intro a hT
      refine Sx.st_take hT rfl rfl rfl rfl (Sx.x_assign hT rfl rfl) ?_
      clear hT; intro a hT
      replace hT := hT.keep [20, 14, 8, 7, 6, 0, 1, 2] rfl
      refine Sx.ser_nil ?_
      refine Sx.then_normal (hK10 _ _ ?_)
      clear hK10
      -- cond 2
      refine Sx.wp_if hT rfl (fun hc11 => ?_) (fun hc11 => ?_)
      · try simp only [decide_eq_true_eq, decide_eq_false_iff_not, Bool.not_eq_true', Bool.not_eq_false', Bool.not_eq_true, Bool.not_eq_false, Bool.and_eq_true, Bool.or_eq_false_iff, beq_iff_eq, bne_iff_ne, Int.not_lt, Int.not_le, ne_eq] at hc11
        refine wp_seq_k fun K12 hK12 => ?_
        -- region 7 (ref.go:88)
        refine Sx.wp_text [(0, .take), (1, .take), (2, .run), (3, .run), (4, .take)] rfl ?_
        refine Sx.st_take hT rfl rfl rfl rfl (Sx.x_move hT rfl rfl) ?_
        clear hT; intro a hT
        refine Sx.st_take hT rfl rfl rfl rfl (Sx.x_move hT rfl rfl) ?_
        clear hT; intro a hT
        refine Sx.st_eff hT rfl rfl rfl rfl (Sx.x_farith hT rfl rfl rfl (by simp) _) ?_
        rintro _ w5 ⟨fv7_2, rfl, hf7_2, E⟩
        clear hT; intro a hT
        replace H := H.pure E; clear E
        refine Sx.st_call hT rfl rfl rfl rfl rfl Try.can51 rfl (xCanon_calls _ _) ?_
        rintro _ w6 ⟨rfl, E⟩
        refine ⟨_, rfl, ?_⟩
        clear hT; intro a hT
        replace H := H.pure E; clear E
        refine Sx.st_take hT rfl rfl rfl rfl (Sx.x_assign hT rfl rfl) ?_
        clear hT; intro a hT
        replace hT := hT.keep [6, 20, 14, 8, 7, 0, 1, 2] rfl
        refine Sx.ser_nil ?_
        refine Sx.then_normal (hK12 _ _ ?_)
        clear hK12
        refine wp_ret ?_
        refine Sx.block_ret ?_
        refine Sx.then_ret ?_
        clear hK2
        refine Sx.done1 (fn := Try.f48) hT rfl (.tmp (hT.get 6 _ rfl)) ?_
        refine ⟨ret_f ?_, H.ext⟩
        clear hT H
        unfold doesF
        simp_all <;> (try omega)
      · try simp only [decide_eq_true_eq, decide_eq_false_iff_not, Bool.not_eq_true', Bool.not_eq_false', Bool.not_eq_true, Bool.not_eq_false, Bool.and_eq_true, Bool.or_eq_false_iff, beq_iff_eq, bne_iff_ne, Int.not_lt, Int.not_le, ne_eq] at hc11
        refine wp_seq_k fun K13 hK13 => ?_
        -- region 8 (ref.go:89)
        refine Sx.wp_text [(0, .take), (1, .take)] rfl ?_
        refine Sx.st_take hT rfl rfl rfl rfl ((fun w => Sx.x_eq w hT rfl rfl rfl)) ?_
        clear hT; intro a hT
        refine Sx.st_take hT rfl rfl rfl rfl (Sx.x_assign hT rfl rfl) ?_
        clear hT; intro a hT
        replace hT := hT.keep [26, 20, 14, 8, 7, 6, 0, 1, 2] rfl
        refine Sx.ser_nil ?_
        refine Sx.then_normal (hK13 _ _ ?_)
        clear hK13
        -- cond 3
        refine Sx.wp_if hT rfl (fun hc14 => ?_) (fun hc14 => ?_)
        · try simp only [decide_eq_true_eq, decide_eq_false_iff_not, Bool.not_eq_true', Bool.not_eq_false', Bool.not_eq_true, Bool.not_eq_false, Bool.and_eq_true, Bool.or_eq_false_iff, beq_iff_eq, bne_iff_ne, Int.not_lt, Int.not_le, ne_eq] at hc14
          refine wp_seq_k fun K15 hK15 => ?_
          -- region 9 (ref.go:90)
          refine Sx.wp_text [(0, .take), (1, .take), (2, .run), (3, .run), (4, .take)] rfl ?_
          refine Sx.st_take hT rfl rfl rfl rfl (Sx.x_move hT rfl rfl) ?_
          clear hT; intro a hT
          refine Sx.st_take hT rfl rfl rfl rfl (Sx.x_move hT rfl rfl) ?_
          clear hT; intro a hT
          refine Sx.st_eff hT rfl rfl rfl rfl (Sx.x_farith hT rfl rfl rfl (by simp) _) ?_
          rintro _ w7 ⟨fv9_2, rfl, hf9_2, E⟩
          clear hT; intro a hT
          replace H := H.pure E; clear E
          refine Sx.st_call hT rfl rfl rfl rfl rfl Try.can51 rfl (xCanon_calls _ _) ?_
          rintro _ w8 ⟨rfl, E⟩
          refine ⟨_, rfl, ?_⟩
          clear hT; intro a hT
          replace H := H.pure E; clear E
          refine Sx.st_take hT rfl rfl rfl rfl (Sx.x_assign hT rfl rfl) ?_
          clear hT; intro a hT
          replace hT := hT.keep [6, 26, 20, 14, 8, 7, 0, 1, 2] rfl
          refine Sx.ser_nil ?_
          refine Sx.then_normal (hK15 _ _ ?_)
          clear hK15
          refine wp_ret ?_
          refine Sx.block_ret ?_
          refine Sx.then_ret ?_
          clear hK2
          refine Sx.done1 (fn := Try.f48) hT rfl (.tmp (hT.get 6 _ rfl)) ?_
          refine ⟨ret_f ?_, H.ext⟩
          clear hT H
          unfold doesF
          simp_all <;> (try omega)
        · try simp only [decide_eq_true_eq, decide_eq_false_iff_not, Bool.not_eq_true', Bool.not_eq_false', Bool.not_eq_true, Bool.not_eq_false, Bool.and_eq_true, Bool.or_eq_false_iff, beq_iff_eq, bne_iff_ne, Int.not_lt, Int.not_le, ne_eq] at hc14
          refine wp_seq_k fun K16 hK16 => ?_
          -- region 10 (ref.go:91)
          refine Sx.wp_text [(0, .take), (1, .take)] rfl ?_
          refine Sx.st_take hT rfl rfl rfl rfl ((fun w => Sx.x_eq w hT rfl rfl rfl)) ?_
          clear hT; intro a hT
          refine Sx.st_take hT rfl rfl rfl rfl (Sx.x_assign hT rfl rfl) ?_
          clear hT; intro a hT
          replace hT := hT.keep [32, 26, 20, 14, 8, 7, 6, 0, 1, 2] rfl
          refine Sx.ser_nil ?_
          refine Sx.then_normal (hK16 _ _ ?_)
          clear hK16
          -- cond 4
          refine Sx.wp_if hT rfl (fun hc17 => ?_) (fun hc17 => ?_)
          · try simp only [decide_eq_true_eq, decide_eq_false_iff_not, Bool.not_eq_true', Bool.not_eq_false', Bool.not_eq_true, Bool.not_eq_false, Bool.and_eq_true, Bool.or_eq_false_iff, beq_iff_eq, bne_iff_ne, Int.not_lt, Int.not_le, ne_eq] at hc17
            refine wp_seq_k fun K18 hK18 => ?_
            refine wp_seq_k fun K19 hK19 => ?_
            -- region 11 (ref.go:92)
            refine Sx.wp_text [(0, .take), (1, .take), (2, .run), (3, .take)] rfl ?_
            refine Sx.st_take hT rfl rfl rfl rfl (Sx.x_move hT rfl rfl) ?_
            clear hT; intro a hT
            refine Sx.st_take hT rfl rfl rfl rfl (Sx.x_move hT rfl rfl) ?_
            clear hT; intro a hT
            refine Sx.st_call hT rfl rfl rfl rfl rfl Try.can72 rfl (xCmp_calls _ _ _) ?_
            rintro _ w9 ⟨rfl, E⟩
            refine ⟨_, rfl, ?_⟩
            clear hT; intro a hT
            replace H := H.pure E; clear E
            refine Sx.st_take hT rfl rfl rfl rfl ((fun w => Sx.x_le w hT rfl rfl rfl)) ?_
            clear hT; intro a hT
            replace hT := hT.keep [37, 32, 26, 20, 14, 8, 7, 6, 0, 1, 2] rfl
            refine Sx.ser_nil ?_
            refine Sx.then_normal (hK19 _ _ ?_)
            clear hK19
            -- cond 5
            refine Sx.wp_if hT rfl (fun hc20 => ?_) (fun hc20 => ?_)
            · try simp only [decide_eq_true_eq, decide_eq_false_iff_not, Bool.not_eq_true', Bool.not_eq_false', Bool.not_eq_true, Bool.not_eq_false, Bool.and_eq_true, Bool.or_eq_false_iff, beq_iff_eq, bne_iff_ne, Int.not_lt, Int.not_le, ne_eq] at hc20
              refine wp_seq_k fun K21 hK21 => ?_
              -- region 12 (ref.go:93)
              refine Sx.wp_text [(0, .take), (1, .run), (2, .take)] rfl ?_
              refine Sx.st_take hT rfl rfl rfl rfl (Sx.x_move hT rfl rfl) ?_
              clear hT; intro a hT
              refine Sx.st_call hT rfl rfl rfl rfl rfl Try.can51 rfl (xCanon_calls _ _) ?_
              rintro _ w10 ⟨rfl, E⟩
              refine ⟨_, rfl, ?_⟩
              clear hT; intro a hT
              replace H := H.pure E; clear E
              refine Sx.st_take hT rfl rfl rfl rfl (Sx.x_assign hT rfl rfl) ?_
              clear hT; intro a hT
              replace hT := hT.keep [6, 37, 32, 26, 20, 14, 8, 7, 0, 1, 2] rfl
              refine Sx.ser_nil ?_
              refine Sx.then_normal (hK21 _ _ ?_)
              clear hK21
              refine wp_ret ?_
              refine Sx.then_ret ?_
              refine Sx.block_ret ?_
              refine Sx.then_ret ?_
              clear hK18 hK2
              refine Sx.done1 (fn := Try.f48) hT rfl (.tmp (hT.get 6 _ rfl)) ?_
              refine ⟨ret_f ?_, H.ext⟩
              clear hT H
              unfold doesF
              simp_all <;> (try omega)
            · try simp only [decide_eq_true_eq, decide_eq_false_iff_not, Bool.not_eq_true', Bool.not_eq_false', Bool.not_eq_true, Bool.not_eq_false, Bool.and_eq_true, Bool.or_eq_false_iff, beq_iff_eq, bne_iff_ne, Int.not_lt, Int.not_le, ne_eq] at hc20
              refine wp_skip ?_
              refine Sx.then_normal (hK18 _ _ ?_)
              clear hK18
              refine wp_seq_k fun K22 hK22 => ?_
              -- region 13 (ref.go:95)
              refine Sx.wp_text [(0, .take), (1, .run), (2, .take)] rfl ?_
              refine Sx.st_take hT rfl rfl rfl rfl (Sx.x_move hT rfl rfl) ?_
              clear hT; intro a hT
              refine Sx.st_call hT rfl rfl rfl rfl rfl Try.can51 rfl (xCanon_calls _ _) ?_
              rintro _ w11 ⟨rfl, E⟩
              refine ⟨_, rfl, ?_⟩
              clear hT; intro a hT
              replace H := H.pure E; clear E
              refine Sx.st_take hT rfl rfl rfl rfl (Sx.x_assign hT rfl rfl) ?_
              clear hT; intro a hT
              replace hT := hT.keep [6, 37, 32, 26, 20, 14, 8, 7, 0, 1, 2] rfl
              refine Sx.ser_nil ?_
              refine Sx.then_normal (hK22 _ _ ?_)
              clear hK22
              refine wp_ret ?_
              refine Sx.block_ret ?_
              refine Sx.then_ret ?_
              clear hK2
              refine Sx.done1 (fn := Try.f48) hT rfl (.tmp (hT.get 6 _ rfl)) ?_
              refine ⟨ret_f ?_, H.ext⟩
              clear hT H
              unfold doesF
              simp_all <;> (try omega)
          · try simp only [decide_eq_true_eq, decide_eq_false_iff_not, Bool.not_eq_true', Bool.not_eq_false', Bool.not_eq_true, Bool.not_eq_false, Bool.and_eq_true, Bool.or_eq_false_iff, beq_iff_eq, bne_iff_ne, Int.not_lt, Int.not_le, ne_eq] at hc17
            refine wp_skip ?_
            refine Sx.block_normal ?_
            refine Sx.then_normal (hK2 _ _ ?_)
            clear hK2
            refine wp_seq_k fun K23 hK23 => ?_
            refine wp_seq_k fun K24 hK24 => ?_
            -- region 14 (ref.go:97)
            refine Sx.wp_text [(0, .take), (1, .take), (2, .run), (3, .take)] rfl ?_
            refine Sx.st_take hT rfl rfl rfl rfl (Sx.x_move hT rfl rfl) ?_
            clear hT; intro a hT
            refine Sx.st_take hT rfl rfl rfl rfl (Sx.x_move hT rfl rfl) ?_
            clear hT; intro a hT
            refine Sx.st_call hT rfl rfl rfl rfl rfl Try.can72 rfl (xCmp_calls _ _ _) ?_
            rintro _ w12 ⟨rfl, E⟩
            refine ⟨_, rfl, ?_⟩
            clear hT; intro a hT
            replace H := H.pure E; clear E
            refine Sx.st_take hT rfl rfl rfl rfl ((fun w => Sx.x_ge w hT rfl rfl rfl)) ?_
            clear hT; intro a hT
            replace hT := hT.keep [45, 32, 26, 20, 14, 8, 7, 6, 0, 1, 2] rfl
            refine Sx.ser_nil ?_
            refine Sx.then_normal (hK24 _ _ ?_)
            clear hK24
            -- cond 6
            refine Sx.wp_if hT rfl (fun hc25 => ?_) (fun hc25 => ?_)
            · try simp only [decide_eq_true_eq, decide_eq_false_iff_not, Bool.not_eq_true', Bool.not_eq_false', Bool.not_eq_true, Bool.not_eq_false, Bool.and_eq_true, Bool.or_eq_false_iff, beq_iff_eq, bne_iff_ne, Int.not_lt, Int.not_le, ne_eq] at hc25
              refine wp_seq_k fun K26 hK26 => ?_
              -- region 15 (ref.go:98)
              refine Sx.wp_text [(0, .take), (1, .run), (2, .take)] rfl ?_
              refine Sx.st_take hT rfl rfl rfl rfl (Sx.x_move hT rfl rfl) ?_
              clear hT; intro a hT
              refine Sx.st_call hT rfl rfl rfl rfl rfl Try.can51 rfl (xCanon_calls _ _) ?_
              rintro _ w13 ⟨rfl, E⟩
              refine ⟨_, rfl, ?_⟩
              clear hT; intro a hT
              replace H := H.pure E; clear E
              refine Sx.st_take hT rfl rfl rfl rfl (Sx.x_assign hT rfl rfl) ?_
              clear hT; intro a hT
              replace hT := hT.keep [6, 45, 32, 26, 20, 14, 8, 7, 0, 1, 2] rfl
              refine Sx.ser_nil ?_
              refine Sx.then_normal (hK26 _ _ ?_)
              clear hK26
              refine wp_ret ?_
              refine Sx.then_ret ?_
              clear hK23
              refine Sx.done1 (fn := Try.f48) hT rfl (.tmp (hT.get 6 _ rfl)) ?_
              refine ⟨ret_f ?_, H.ext⟩
              clear hT H
              unfold doesF
              simp_all <;> (try omega)
            · try simp only [decide_eq_true_eq, decide_eq_false_iff_not, Bool.not_eq_true', Bool.not_eq_false', Bool.not_eq_true, Bool.not_eq_false, Bool.and_eq_true, Bool.or_eq_false_iff, beq_iff_eq, bne_iff_ne, Int.not_lt, Int.not_le, ne_eq] at hc25
              refine wp_skip ?_
              refine Sx.then_normal (hK23 _ _ ?_)
              clear hK23
              refine wp_seq_k fun K27 hK27 => ?_
              -- region 16 (ref.go:100)
              refine Sx.wp_text [(0, .take), (1, .run), (2, .take)] rfl ?_
              refine Sx.st_take hT rfl rfl rfl rfl (Sx.x_move hT rfl rfl) ?_
              clear hT; intro a hT
              refine Sx.st_call hT rfl rfl rfl rfl rfl Try.can51 rfl (xCanon_calls _ _) ?_
              rintro _ w14 ⟨rfl, E⟩
              refine ⟨_, rfl, ?_⟩
              clear hT; intro a hT
              replace H := H.pure E; clear E
              refine Sx.st_take hT rfl rfl rfl rfl (Sx.x_assign hT rfl rfl) ?_
              clear hT; intro a hT
              replace hT := hT.keep [6, 45, 32, 26, 20, 14, 8, 7, 0, 1, 2] rfl
              refine Sx.ser_nil ?_
              refine Sx.then_normal (hK27 _ _ ?_)
              clear hK27
              refine wp_ret ?_
              refine Sx.done1 (fn := Try.f48) hT rfl (.tmp (hT.get 6 _ rfl)) ?_
              refine ⟨ret_f ?_, H.ext⟩
              clear hT H
              unfold doesF
              simp_all <;> (try omega)

theorem Sum_calls {ad : Option Addr} {c : Nat} (l : List Nat) {w : World} (hs : Ss w ad fcell 1 l) (hl : l.length ≤ 1000000) : Calls Try.prog 47 #[.slice ad l.length c] w fun e w' => e = .returned (.float .f64 (fsum l)) ∧ Ext No w w' := by
  have R : Ro w No _ := Ro.of fun w' x => hs.ext_no x
  refine Sx.calls_into Try.func47 rfl Try.ntmps47 rfl fun a hT => ?_
  replace hT := hT.keep [0] rfl
  have H : Sx.Hp w (Sx.No) w [] := Sx.Hp.start _ _
  refine wp_seq_k fun K1 hK1 => ?_
  -- region 0 (num.go:113)
  refine Sx.wp_text [(0, .take)] rfl ?_
  refine Sx.st_take hT rfl rfl rfl rfl (Sx.x_assign hT rfl rfl) ?_
  clear hT; intro a hT
  replace hT := hT.keep [2, 0] rfl
  refine Sx.ser_nil ?_
  refine Sx.then_normal (hK1 _ _ ?_)
  clear hK1
  refine wp_seq_k fun K2 hK2 => ?_
  -- region 1 (num.go:114)
  refine Sx.wp_text [(0, .take)] rfl ?_
  refine Sx.st_take hT rfl rfl rfl rfl (Sx.x_assign hT rfl rfl) ?_
  clear hT; intro a hT
  replace hT := hT.keep [3, 2, 0] rfl
  refine Sx.ser_nil ?_
  refine Sx.then_normal (hK2 _ _ ?_)
  clear hK2
  refine wp_seq_k fun K3 hK3 => ?_
  refine wp_seq_k fun K4 hK4 => ?_
  -- region 2 (num.go:115)
  refine Sx.wp_text [(0, .take), (1, .take), (2, .take)] rfl ?_
  refine Sx.st_take hT rfl rfl rfl rfl (Sx.x_move hT rfl rfl) ?_
  clear hT; intro a hT
  refine Sx.st_take hT rfl rfl rfl rfl (Sx.x_len_slice hT rfl rfl Try.underlying101 rfl) ?_
  clear hT; intro a hT
  refine Sx.st_take hT rfl rfl rfl rfl (Sx.x_move hT rfl rfl) ?_
  clear hT; intro a hT
  replace hT := hT.keep [8, 7, 6, 3, 2, 0] rfl
  refine Sx.ser_nil ?_
  refine Sx.then_normal (hK4 _ _ ?_)
  clear hK4
  refine wp_block ?_
  -- loop 0
  refine Sx.wp_loopH (G := Nat) (fun k => [(8, .int .i64 (k : Int)), (3, .float .f64 (fsum (l.take k)))]) (fun k => []) (fun k => k ≤ l.length) (fun k => l.length - k) 0 (hT.keep [8, 3, 7, 6, 2, 0] rfl) (H.keep [] rfl rfl) (Nat.zero_le _) ?_
  clear hT H
  rintro k a w1 hJ hT H
  replace hT := hT.keep [8, 3, 7, 6, 2, 0] rfl
  replace H := H.keep [] rfl rfl
  have hk : k ≤ l.length := hJ
  refine wp_seq_k fun K5 hK5 => ?_
  -- region 3 (num.go:115)
  refine Sx.wp_text [(0, .take)] rfl ?_
  refine Sx.st_take hT rfl rfl rfl rfl ((fun w => Sx.x_lt w hT rfl rfl rfl)) ?_
  clear hT; intro a hT
  replace hT := hT.keep [9, 8, 3, 7, 6, 2, 0] rfl
  refine Sx.ser_nil ?_
  refine Sx.then_normal (hK5 _ _ ?_)
  clear hK5
  refine wp_seq_k fun K6 hK6 => ?_
  -- cond 0
  refine Sx.wp_if hT rfl (fun hc7 => ?_) (fun hc7 => ?_)
  · try simp only [decide_eq_true_eq, decide_eq_false_iff_not, Bool.not_eq_true', Bool.not_eq_false', Bool.not_eq_true, Bool.not_eq_false, Bool.and_eq_true, Bool.or_eq_false_iff, beq_iff_eq, bne_iff_ne, Int.not_lt, Int.not_le, ne_eq] at hc7
    obtain ⟨o, ho⟩ : ∃ o, l[k]? = some o := ⟨_, List.getElem?_eq_getElem (by omega)⟩
    refine wp_skip ?_
    refine Sx.then_normal (hK6 _ _ ?_)
    clear hK6
    refine wp_seq_k fun K8 hK8 => ?_
    refine wp_block ?_
    refine wp_seq_k fun K9 hK9 => ?_
    -- region 4 (num.go:115)
    refine Sx.wp_text [(0, .take), (1, .take), (2, .run), (3, .take), (4, .take)] rfl ?_
    refine Sx.st_take hT rfl rfl rfl rfl (Sx.x_move hT rfl rfl) ?_
    clear hT; intro a hT
    refine Sx.st_take hT rfl rfl rfl rfl (Sx.x_index (k := k) hT rfl Try.underlying101 Try.ti46 (R.at H.ext).sv rfl rfl (by first | rfl | omega) (by omega)) ?_
    clear hT; intro a hT
    refine Sx.st_run hT rfl rfl rfl rfl (Sx.x_load1 hT rfl Try.fl46 rfl ((R.at H.ext).cell (j := 0) fcell_len ho rfl)) ?_
    clear hT; intro a hT
    refine Sx.st_take hT rfl rfl rfl rfl (Sx.x_assign hT rfl rfl) ?_
    clear hT; intro a hT
    refine Sx.st_take hT rfl rfl rfl rfl (Sx.x_assign hT rfl rfl) ?_
    clear hT; intro a hT
    replace hT := hT.keep [5, 4, 9, 8, 3, 7, 6, 2, 0] rfl
    refine Sx.ser_nil ?_
    refine Sx.then_normal (hK9 _ _ ?_)
    clear hK9
    refine wp_seq_k fun K10 hK10 => ?_
    refine wp_seq_k fun K11 hK11 => ?_
    -- region 5 (num.go:116)
    refine Sx.wp_text [(0, .take), (1, .take)] rfl ?_
    refine Sx.st_take hT rfl rfl rfl rfl (Sx.x_move hT rfl rfl) ?_
    clear hT; intro a hT
    refine Sx.st_take hT rfl rfl rfl rfl ((fun w => Sx.x_eq w hT rfl rfl rfl)) ?_
    clear hT; intro a hT
    replace hT := hT.keep [14, 5, 4, 9, 8, 3, 7, 6, 2, 0] rfl
    refine Sx.ser_nil ?_
    refine Sx.then_normal (hK11 _ _ ?_)
    clear hK11
    -- cond 1
    refine Sx.wp_if hT rfl (fun hc12 => ?_) (fun hc12 => ?_)
    · try simp only [decide_eq_true_eq, decide_eq_false_iff_not, Bool.not_eq_true', Bool.not_eq_false', Bool.not_eq_true, Bool.not_eq_false, Bool.and_eq_true, Bool.or_eq_false_iff, beq_iff_eq, bne_iff_ne, Int.not_lt, Int.not_le, ne_eq] at hc12
      have hk0 : k = 0 := by omega
      refine wp_seq_k fun K13 hK13 => ?_
      -- region 6 (num.go:117)
      refine Sx.wp_text [(0, .take), (1, .run), (2, .take)] rfl ?_
      refine Sx.st_take hT rfl rfl rfl rfl (Sx.x_move hT rfl rfl) ?_
      clear hT; intro a hT
      refine Sx.st_call hT rfl rfl rfl rfl rfl Try.can68 rfl (Canon_calls _ _) ?_
      rintro _ w2 ⟨rfl, E⟩
      refine ⟨_, rfl, ?_⟩
      clear hT; intro a hT
      replace H := H.pure E; clear E
      refine Sx.st_take hT rfl rfl rfl rfl (Sx.x_assign hT rfl rfl) ?_
      clear hT; intro a hT
      replace hT := hT.keep [3, 14, 5, 4, 9, 8, 7, 6, 2, 0] rfl
      refine Sx.ser_nil ?_
      refine Sx.then_normal (hK13 _ _ ?_)
      clear hK13
      refine wp_exit ?_
      refine Sx.then_exit ?_
      refine Sx.block_exit ?_
      refine Sx.then_normal (hK8 _ _ ?_)
      clear hK8
      -- region 8 (num.go:115)
      refine Sx.wp_text [(0, .take), (1, .take)] rfl ?_
      refine Sx.st_take hT rfl rfl rfl rfl ((fun w => Sx.x_add w hT rfl rfl rfl (Sx.wrap64 (by omega)))) ?_
      clear hT; intro a hT
      refine Sx.st_take hT rfl rfl rfl rfl (Sx.x_move hT rfl rfl) ?_
      clear hT; intro a hT
      replace hT := hT.keep [8, 3, 14, 5, 4, 9, 7, 6, 2, 0] rfl
      refine Sx.ser_nil ?_
      refine Sx.then_normal ?_
      rw [← fsum_one (show l[0]? = some o from by rw [← hk0]; exact ho)] at hT
      exact ⟨k + 1, (by omega), ((hT.keep [8, 3, 7, 6, 2, 0] rfl).conv (by rw [hk0]; rfl)), (H.keep [] rfl rfl), by omega⟩
    · try simp only [decide_eq_true_eq, decide_eq_false_iff_not, Bool.not_eq_true', Bool.not_eq_false', Bool.not_eq_true, Bool.not_eq_false, Bool.and_eq_true, Bool.or_eq_false_iff, beq_iff_eq, bne_iff_ne, Int.not_lt, Int.not_le, ne_eq] at hc12
      have hk0 : k ≠ 0 := by omega
      refine wp_skip ?_
      refine Sx.then_normal (hK10 _ _ ?_)
      clear hK10
      -- region 7 (num.go:120)
      refine Sx.wp_text [(0, .take), (1, .take), (2, .run), (3, .take)] rfl ?_
      refine Sx.st_take hT rfl rfl rfl rfl (Sx.x_move hT rfl rfl) ?_
      clear hT; intro a hT
      refine Sx.st_take hT rfl rfl rfl rfl (Sx.x_move hT rfl rfl) ?_
      clear hT; intro a hT
      refine Sx.st_call hT rfl rfl rfl rfl rfl Try.can71 rfl (Add_calls _ _ _) ?_
      rintro _ w3 ⟨rfl, E⟩
      refine ⟨_, rfl, ?_⟩
      clear hT; intro a hT
      replace H := H.pure E; clear E
      refine Sx.st_take hT rfl rfl rfl rfl (Sx.x_assign hT rfl rfl) ?_
      clear hT; intro a hT
      replace hT := hT.keep [3, 14, 5, 4, 9, 8, 7, 6, 2, 0] rfl
      refine Sx.ser_nil ?_
      refine Sx.block_normal ?_
      refine Sx.then_normal (hK8 _ _ ?_)
      clear hK8
      -- region 8 (num.go:115)
      refine Sx.wp_text [(0, .take), (1, .take)] rfl ?_
      refine Sx.st_take hT rfl rfl rfl rfl ((fun w => Sx.x_add w hT rfl rfl rfl (Sx.wrap64 (by omega)))) ?_
      clear hT; intro a hT
      refine Sx.st_take hT rfl rfl rfl rfl (Sx.x_move hT rfl rfl) ?_
      clear hT; intro a hT
      replace hT := hT.keep [8, 3, 14, 5, 4, 9, 7, 6, 2, 0] rfl
      refine Sx.ser_nil ?_
      refine Sx.then_normal ?_
      rw [← fsum_snoc ho hk0] at hT
      exact ⟨k + 1, (by omega), ((hT.keep [8, 3, 7, 6, 2, 0] rfl).conv (by rfl)), (H.keep [] rfl rfl), by omega⟩
  · try simp only [decide_eq_true_eq, decide_eq_false_iff_not, Bool.not_eq_true', Bool.not_eq_false', Bool.not_eq_true, Bool.not_eq_false, Bool.and_eq_true, Bool.or_eq_false_iff, beq_iff_eq, bne_iff_ne, Int.not_lt, Int.not_le, ne_eq] at hc7
    obtain rfl : k = l.length := by omega
    rw [List.take_length] at hT
    refine wp_exit ?_
    refine Sx.then_exit ?_
    refine Sx.then_exit ?_
    refine Sx.block_exit ?_
    refine Sx.then_normal (hK3 _ _ ?_)
    clear hK3
    refine wp_seq_k fun K14 hK14 => ?_
    -- region 9 (num.go:122)
    refine Sx.wp_text [(0, .take), (1, .take)] rfl ?_
    refine Sx.st_take hT rfl rfl rfl rfl (Sx.x_move hT rfl rfl) ?_
    clear hT; intro a hT
    refine Sx.st_take hT rfl rfl rfl rfl (Sx.x_assign hT rfl rfl) ?_
    clear hT; intro a hT
    replace hT := hT.keep [2, 9, 8, 3, 7, 6, 0] rfl
    refine Sx.ser_nil ?_
    refine Sx.then_normal (hK14 _ _ ?_)
    clear hK14
    refine wp_ret ?_
    refine Sx.done1 (fn := Try.f47) hT rfl (.tmp (hT.get 2 _ rfl)) ?_
    exact ⟨rfl, H.ext⟩

theorem xSum_calls {ad : Option Addr} {c : Nat} (l : List Nat) {w : World} (hs : Ss w ad fcell 1 l) (hl : l.length ≤ 1000000) : Calls Try.prog 49 #[.slice ad l.length c] w fun e w' => e = .returned (.float .f64 (fsum l)) ∧ Ext No w w' := by
  have R : Ro w No _ := Ro.of fun w' x => hs.ext_no x
  refine Sx.calls_into Try.func49 rfl Try.ntmps49 rfl fun a hT => ?_
  replace hT := hT.keep [0] rfl
  have H : Sx.Hp w (Sx.No) w [] := Sx.Hp.start _ _
  refine wp_seq_k fun K1 hK1 => ?_
  -- region 0 (ref.go:104)
  refine Sx.wp_text [(0, .take)] rfl ?_
  refine Sx.st_take hT rfl rfl rfl rfl (Sx.x_assign hT rfl rfl) ?_
  clear hT; intro a hT
  replace hT := hT.keep [2, 0] rfl
  refine Sx.ser_nil ?_
  refine Sx.then_normal (hK1 _ _ ?_)
  clear hK1
  refine wp_seq_k fun K2 hK2 => ?_
  refine wp_seq_k fun K3 hK3 => ?_
  -- region 1 (ref.go:105)
  refine Sx.wp_text [(0, .take), (1, .take), (2, .take)] rfl ?_
  refine Sx.st_take hT rfl rfl rfl rfl (Sx.x_move hT rfl rfl) ?_
  clear hT; intro a hT
  refine Sx.st_take hT rfl rfl rfl rfl (Sx.x_len_slice hT rfl rfl Try.underlying101 rfl) ?_
  clear hT; intro a hT
  refine Sx.st_take hT rfl rfl rfl rfl ((fun w => Sx.x_eq w hT rfl rfl rfl)) ?_
  clear hT; intro a hT
  replace hT := hT.keep [7, 2, 0] rfl
  refine Sx.ser_nil ?_
  refine Sx.then_normal (hK3 _ _ ?_)
  clear hK3
  -- cond 0
  refine Sx.wp_if hT rfl (fun hc4 => ?_) (fun hc4 => ?_)
  · try simp only [decide_eq_true_eq, decide_eq_false_iff_not, Bool.not_eq_true', Bool.not_eq_false', Bool.not_eq_true, Bool.not_eq_false, Bool.and_eq_true, Bool.or_eq_false_iff, beq_iff_eq, bne_iff_ne, Int.not_lt, Int.not_le, ne_eq] at hc4
    refine wp_seq_k fun K5 hK5 => ?_
    -- region 2 (ref.go:106)
    refine Sx.wp_text [(0, .take)] rfl ?_
    refine Sx.st_take hT rfl rfl rfl rfl (Sx.x_assign hT rfl rfl) ?_
    clear hT; intro a hT
    replace hT := hT.keep [2, 7, 0] rfl
    refine Sx.ser_nil ?_
    refine Sx.then_normal (hK5 _ _ ?_)
    clear hK5
    refine wp_ret ?_
    refine Sx.then_ret ?_
    refine Sx.done1 (fn := Try.f49) hT rfl (.tmp (hT.get 2 _ rfl)) ?_
    obtain rfl : l = [] := List.eq_nil_of_length_eq_zero (by omega)
    exact ⟨rfl, H.ext⟩
  · try simp only [decide_eq_true_eq, decide_eq_false_iff_not, Bool.not_eq_true', Bool.not_eq_false', Bool.not_eq_true, Bool.not_eq_false, Bool.and_eq_true, Bool.or_eq_false_iff, beq_iff_eq, bne_iff_ne, Int.not_lt, Int.not_le, ne_eq] at hc4
    obtain ⟨o, ho⟩ : ∃ o, l[0]? = some o := ⟨_, List.getElem?_eq_getElem (by omega)⟩
    refine wp_skip ?_
    refine Sx.then_normal (hK2 _ _ ?_)
    clear hK2
    refine wp_seq_k fun K6 hK6 => ?_
    -- region 3 (ref.go:108)
    refine Sx.wp_text [(0, .take), (1, .take), (2, .run), (3, .run), (4, .take)] rfl ?_
    refine Sx.st_take hT rfl rfl rfl rfl (Sx.x_move hT rfl rfl) ?_
    clear hT; intro a hT
    refine Sx.st_take hT rfl rfl rfl rfl (Sx.x_index (k := 0) hT rfl Try.underlying101 Try.ti46 (R.at H.ext).sv rfl rfl (by first | rfl | omega) (by omega)) ?_
    clear hT; intro a hT
    refine Sx.st_run hT rfl rfl rfl rfl (Sx.x_load1 hT rfl Try.fl46 rfl ((R.at H.ext).cell (j := 0) fcell_len ho rfl)) ?_
    clear hT; intro a hT
    refine Sx.st_call hT rfl rfl rfl rfl rfl Try.can51 rfl (xCanon_calls _ _) ?_
    rintro _ w1 ⟨rfl, E⟩
    refine ⟨_, rfl, ?_⟩
    clear hT; intro a hT
    replace H := H.pure E; clear E
    refine Sx.st_take hT rfl rfl rfl rfl (Sx.x_assign hT rfl rfl) ?_
    clear hT; intro a hT
    replace hT := hT.keep [3, 7, 2, 0] rfl
    refine Sx.ser_nil ?_
    refine Sx.then_normal (hK6 _ _ ?_)
    clear hK6
    refine wp_seq_k fun K7 hK7 => ?_
    refine wp_seq_k fun K8 hK8 => ?_
    -- region 4 (ref.go:109)
    refine Sx.wp_text [(0, .take)] rfl ?_
    refine Sx.st_take hT rfl rfl rfl rfl (Sx.x_assign hT rfl rfl) ?_
    clear hT; intro a hT
    replace hT := hT.keep [4, 3, 7, 2, 0] rfl
    refine Sx.ser_nil ?_
    refine Sx.then_normal (hK8 _ _ ?_)
    clear hK8
    refine wp_block ?_
    rw [← fsum_one ho] at hT
    -- loop 0
    refine Sx.wp_loopH (G := Nat) (fun k => [(4, .int .i64 ((k : Int) + 1)), (3, .float .f64 (fsum (l.take (k + 1))))]) (fun k => []) (fun k => k + 1 ≤ l.length) (fun k => l.length - k) 0 (hT.keep [4, 3, 7, 2, 0] rfl) (H.keep [] rfl rfl) ((by omega)) ?_
    clear hT H
    rintro k a w2 hJ hT H
    replace hT := hT.keep [4, 3, 7, 2, 0] rfl
    replace H := H.keep [] rfl rfl
    have hk : k + 1 ≤ l.length := hJ
    refine wp_seq_k fun K9 hK9 => ?_
    refine wp_seq_k fun K10 hK10 => ?_
    -- region 5 (ref.go:109)
    refine Sx.wp_text [(0, .take), (1, .take), (2, .take), (3, .take)] rfl ?_
    refine Sx.st_take hT rfl rfl rfl rfl (Sx.x_move hT rfl rfl) ?_
    clear hT; intro a hT
    refine Sx.st_take hT rfl rfl rfl rfl (Sx.x_move hT rfl rfl) ?_
    clear hT; intro a hT
    refine Sx.st_take hT rfl rfl rfl rfl (Sx.x_len_slice hT rfl rfl Try.underlying101 rfl) ?_
    clear hT; intro a hT
    refine Sx.st_take hT rfl rfl rfl rfl ((fun w => Sx.x_lt w hT rfl rfl rfl)) ?_
    clear hT; intro a hT
    replace hT := hT.keep [15, 4, 3, 7, 2, 0] rfl
    refine Sx.ser_nil ?_
    refine Sx.then_normal (hK10 _ _ ?_)
    clear hK10
    -- cond 1
    refine Sx.wp_if hT rfl (fun hc11 => ?_) (fun hc11 => ?_)
    · try simp only [decide_eq_true_eq, decide_eq_false_iff_not, Bool.not_eq_true', Bool.not_eq_false', Bool.not_eq_true, Bool.not_eq_false, Bool.and_eq_true, Bool.or_eq_false_iff, beq_iff_eq, bne_iff_ne, Int.not_lt, Int.not_le, ne_eq] at hc11
      obtain ⟨o, ho⟩ : ∃ o, l[k + 1]? = some o := ⟨_, List.getElem?_eq_getElem (by omega)⟩
      refine wp_skip ?_
      refine Sx.then_normal (hK9 _ _ ?_)
      clear hK9
      refine wp_seq_k fun K12 hK12 => ?_
      refine wp_block ?_
      -- region 7 (ref.go:110)
      refine Sx.wp_text [(0, .take), (1, .take), (2, .take), (3, .take), (4, .run), (5, .run), (6, .take)] rfl ?_
      refine Sx.st_take hT rfl rfl rfl rfl (Sx.x_move hT rfl rfl) ?_
      clear hT; intro a hT
      refine Sx.st_take hT rfl rfl rfl rfl (Sx.x_move hT rfl rfl) ?_
      clear hT; intro a hT
      refine Sx.st_take hT rfl rfl rfl rfl (Sx.x_move hT rfl rfl) ?_
      clear hT; intro a hT
      refine Sx.st_take hT rfl rfl rfl rfl (Sx.x_index (k := k + 1) hT rfl Try.underlying101 Try.ti46 (R.at H.ext).sv rfl rfl (by first | rfl | omega) (by omega)) ?_
      clear hT; intro a hT
      refine Sx.st_run hT rfl rfl rfl rfl (Sx.x_load1 hT rfl Try.fl46 rfl ((R.at H.ext).cell (j := 0) fcell_len ho rfl)) ?_
      clear hT; intro a hT
      refine Sx.st_call hT rfl rfl rfl rfl rfl Try.can48 rfl (Does_calls _ _ _ _) ?_
      rintro _ w3 ⟨rfl, E⟩
      refine ⟨_, rfl, ?_⟩
      clear hT; intro a hT
      replace H := H.pure E; clear E
      refine Sx.st_take hT rfl rfl rfl rfl (Sx.x_assign hT rfl rfl) ?_
      clear hT; intro a hT
      replace hT := hT.keep [3, 15, 4, 7, 2, 0] rfl
      refine Sx.ser_nil ?_
      refine Sx.block_normal ?_
      refine Sx.then_normal (hK12 _ _ ?_)
      clear hK12
      -- region 6 (ref.go:109)
      refine Sx.wp_text [(0, .take), (1, .take), (2, .take)] rfl ?_
      refine Sx.st_take hT rfl rfl rfl rfl (Sx.x_move hT rfl rfl) ?_
      clear hT; intro a hT
      refine Sx.st_take hT rfl rfl rfl rfl ((fun w => Sx.x_add w hT rfl rfl rfl (Sx.wrap64 (by omega)))) ?_
      clear hT; intro a hT
      refine Sx.st_take hT rfl rfl rfl rfl (Sx.x_assign hT rfl rfl) ?_
      clear hT; intro a hT
      replace hT := hT.keep [4, 3, 15, 7, 2, 0] rfl
      refine Sx.ser_nil ?_
      refine Sx.then_normal ?_
      exact ⟨k + 1, (by omega), ((hT.keep [4, 3, 7, 2, 0] rfl).conv (by rw [fsum_snoc ho (by omega)]; rfl)), (H.keep [] rfl rfl), by omega⟩
    · try simp only [decide_eq_true_eq, decide_eq_false_iff_not, Bool.not_eq_true', Bool.not_eq_false', Bool.not_eq_true, Bool.not_eq_false, Bool.and_eq_true, Bool.or_eq_false_iff, beq_iff_eq, bne_iff_ne, Int.not_lt, Int.not_le, ne_eq] at hc11
      have hkl : k + 1 = l.length := by omega
      rw [hkl, List.take_length] at hT
      refine wp_exit ?_
      refine Sx.then_exit ?_
      refine Sx.then_exit ?_
      refine Sx.block_exit ?_
      refine Sx.then_normal (hK7 _ _ ?_)
      clear hK7
      refine wp_seq_k fun K13 hK13 => ?_
      -- region 8 (ref.go:112)
      refine Sx.wp_text [(0, .take), (1, .take)] rfl ?_
      refine Sx.st_take hT rfl rfl rfl rfl (Sx.x_move hT rfl rfl) ?_
      clear hT; intro a hT
      refine Sx.st_take hT rfl rfl rfl rfl (Sx.x_assign hT rfl rfl) ?_
      clear hT; intro a hT
      replace hT := hT.keep [2, 15, 4, 3, 7, 0] rfl
      refine Sx.ser_nil ?_
      refine Sx.then_normal (hK13 _ _ ?_)
      clear hK13
      refine wp_ret ?_
      refine Sx.done1 (fn := Try.f49) hT rfl (.tmp (hT.get 2 _ rfl)) ?_
      exact ⟨rfl, H.ext⟩

end Go.Proofs.Ytakjfnckbidbcaa
