/- Walks: the reference's ranges. -/
import Derived.Test.YtakohabmcgponaaW9
import Derived.Test.YtakohabmcgponaaN5
set_option linter.unusedSimpArgs false
set_option linter.unusedVariables false
namespace Go.Proofs.Ytakohabmcgponaa
open Sx
theorem Try.can11 : Sx.Can Try.prog 11 := ⟨_, Try.func11, by kernel_rfl, rfl⟩
theorem Try.can13 : Sx.Can Try.prog 13 := ⟨_, Try.func13, by kernel_rfl, rfl⟩
theorem Try.can14 : Sx.Can Try.prog 14 := ⟨_, Try.func14, by kernel_rfl, rfl⟩
theorem Try.can18 : Sx.Can Try.prog 18 := ⟨_, Try.func18, by kernel_rfl, rfl⟩
theorem Try.can29 : Sx.Can Try.prog 29 := ⟨_, Try.func29, by kernel_rfl, rfl⟩
theorem Try.can30 : Sx.Can Try.prog 30 := ⟨_, Try.func30, by kernel_rfl, rfl⟩
theorem Try.can32 : Sx.Can Try.prog 32 := ⟨_, Try.func32, by kernel_rfl, rfl⟩
theorem is_calls (b : Nat) (w : World) : Calls Try.prog 30 #[.float .f64 b] w fun e w' => e = .returned (.bool (isF b)) ∧ Ext No w w' := by
  refine Sx.calls_into Try.func30 rfl Try.ntmps30 rfl fun a hT => ?_
  replace hT := hT.keep [0] rfl
  have H : Sx.Hp w (Sx.No) w [] := Sx.Hp.start _ _
  refine wp_seq_k fun K1 hK1 => ?_
  -- region 0 (ref.go:24)
  refine Sx.wp_text [(0, .take)] rfl ?_
  refine Sx.st_take hT rfl rfl rfl rfl (Sx.x_assign hT rfl rfl) ?_
  clear hT; intro a hT
  replace hT := hT.keep [2, 0] rfl
  refine Sx.ser_nil ?_
  refine Sx.then_normal (hK1 _ _ ?_)
  clear hK1
  refine wp_seq_k fun K2 hK2 => ?_
  -- region 1 (ref.go:24)
  refine Sx.wp_text [(0, .take), (1, .run), (2, .take), (3, .take), (4, .take), (5, .take), (6, .take), (7, .take), (8, .take), (9, .take), (10, .take)] rfl ?_
  refine Sx.st_take hT rfl rfl rfl rfl (Sx.x_move hT rfl rfl) ?_
  clear hT; intro a hT
  refine Sx.st_call hT rfl rfl rfl rfl rfl Try.can38 rfl (same_calls _ _ _) ?_
  rintro _ w1 ⟨rfl, E⟩
  refine ⟨_, rfl, ?_⟩
  clear hT; intro a hT
  replace H := H.pure E; clear E
  rw [show decide (0 = b) = decide (b = 0) from decide_eq_decide.2 eq_comm] at hT
  refine Sx.st_take hT rfl rfl rfl rfl (Sx.x_move hT rfl rfl) ?_
  clear hT; intro a hT
  -- guard (1, 2)
  refine Sx.Sl.two hT 5 rfl (fun hc3 hT => ?_) (fun hc3 hT => ?_)
  · try simp only [decide_eq_true_eq, decide_eq_false_iff_not, Bool.not_eq_true', Bool.not_eq_false', Bool.not_eq_true, Bool.not_eq_false, Bool.and_eq_true, Bool.or_eq_false_iff, beq_iff_eq, bne_iff_ne, Int.not_lt, Int.not_le, ne_eq] at hc3
    refine Sx.st_skip hT rfl rfl rfl rfl ?_
    clear hT; intro a hT
    refine Sx.st_skip hT rfl rfl rfl rfl ?_
    clear hT; intro a hT
    refine Sx.st_skip hT rfl rfl rfl rfl ?_
    clear hT; intro a hT
    refine Sx.st_skip hT rfl rfl rfl rfl ?_
    clear hT; intro a hT
    refine Sx.st_skip hT rfl rfl rfl rfl ?_
    clear hT; intro a hT
    refine Sx.st_skip hT rfl rfl rfl rfl ?_
    clear hT; intro a hT
    refine Sx.st_take hT rfl rfl rfl rfl (Sx.x_pick_t hT rfl rfl rfl) ?_
    clear hT; intro a hT
    refine Sx.st_take hT rfl rfl rfl rfl (Sx.x_assign hT rfl rfl) ?_
    clear hT; intro a hT
    replace hT := hT.keep [2, 0] rfl
    refine Sx.ser_nil ?_
    refine Sx.then_normal (hK2 _ _ ?_)
    clear hK2
    refine wp_ret ?_
    refine Sx.done1 (fn := Try.f30) hT rfl (.tmp (hT.get 2 _ rfl)) ?_
    refine ⟨ret_b ?_, H.ext⟩
    clear hT H
    unfold isF fone
    simp_all
  · try simp only [decide_eq_true_eq, decide_eq_false_iff_not, Bool.not_eq_true', Bool.not_eq_false', Bool.not_eq_true, Bool.not_eq_false, Bool.and_eq_true, Bool.or_eq_false_iff, beq_iff_eq, bne_iff_ne, Int.not_lt, Int.not_le, ne_eq] at hc3
    refine Sx.st_take hT rfl rfl rfl rfl (Sx.x_move hT rfl rfl) ?_
    clear hT; intro a hT
    refine Sx.st_take hT rfl rfl rfl rfl (Sx.x_fgt hT rfl rfl rfl) ?_
    clear hT; intro a hT
    refine Sx.st_take hT rfl rfl rfl rfl (Sx.x_move hT rfl rfl) ?_
    clear hT; intro a hT
    -- guard (1, 5)
    refine Sx.Sl.two hT 8 rfl (fun hc4 hT => ?_) (fun hc4 hT => ?_)
    · try simp only [decide_eq_true_eq, decide_eq_false_iff_not, Bool.not_eq_true', Bool.not_eq_false', Bool.not_eq_true, Bool.not_eq_false, Bool.and_eq_true, Bool.or_eq_false_iff, beq_iff_eq, bne_iff_ne, Int.not_lt, Int.not_le, ne_eq] at hc4
      refine Sx.st_take hT rfl rfl rfl rfl (Sx.x_move hT rfl rfl) ?_
      clear hT; intro a hT
      refine Sx.st_take hT rfl rfl rfl rfl (Sx.x_fle hT rfl rfl rfl) ?_
      clear hT; intro a hT
      refine Sx.st_take hT rfl rfl rfl rfl (Sx.x_pick_t hT rfl rfl rfl) ?_
      clear hT; intro a hT
      refine Sx.st_take hT rfl rfl rfl rfl (Sx.x_pick_f hT rfl rfl rfl) ?_
      clear hT; intro a hT
      refine Sx.st_take hT rfl rfl rfl rfl (Sx.x_assign hT rfl rfl) ?_
      clear hT; intro a hT
      replace hT := hT.keep [2, 0] rfl
      refine Sx.ser_nil ?_
      refine Sx.then_normal (hK2 _ _ ?_)
      clear hK2
      refine wp_ret ?_
      refine Sx.done1 (fn := Try.f30) hT rfl (.tmp (hT.get 2 _ rfl)) ?_
      refine ⟨ret_b ?_, H.ext⟩
      clear hT H
      unfold isF fone
      simp_all
    · try simp only [decide_eq_true_eq, decide_eq_false_iff_not, Bool.not_eq_true', Bool.not_eq_false', Bool.not_eq_true, Bool.not_eq_false, Bool.and_eq_true, Bool.or_eq_false_iff, beq_iff_eq, bne_iff_ne, Int.not_lt, Int.not_le, ne_eq] at hc4
      refine Sx.st_skip hT rfl rfl rfl rfl ?_
      clear hT; intro a hT
      refine Sx.st_skip hT rfl rfl rfl rfl ?_
      clear hT; intro a hT
      refine Sx.st_take hT rfl rfl rfl rfl (Sx.x_pick_f hT rfl rfl rfl) ?_
      clear hT; intro a hT
      refine Sx.st_take hT rfl rfl rfl rfl (Sx.x_pick_f hT rfl rfl rfl) ?_
      clear hT; intro a hT
      refine Sx.st_take hT rfl rfl rfl rfl (Sx.x_assign hT rfl rfl) ?_
      clear hT; intro a hT
      replace hT := hT.keep [2, 0] rfl
      refine Sx.ser_nil ?_
      refine Sx.then_normal (hK2 _ _ ?_)
      clear hK2
      refine wp_ret ?_
      refine Sx.done1 (fn := Try.f30) hT rfl (.tmp (hT.get 2 _ rfl)) ?_
      refine ⟨ret_b ?_, H.ext⟩
      clear hT H
      unfold isF fone
      simp_all

theorem May4_calls (r : Rg) (hw : r.wf) (w : World) : Calls Try.prog 29 #[.agg #[.int .i64 r.id, .int .i64 r.epoch, .float .f64 r.lo, .float .f64 r.hi]] w fun e w' => e = .returned (.bool (mayR r)) ∧ Ext No w w' := by
  obtain ⟨-, -, -, -, hlo, hhi⟩ := hw
  refine Sx.calls_into Try.func29 rfl Try.ntmps29 rfl fun a hT => ?_
  replace hT := hT.keep [0] rfl
  have H : Sx.Hp w (Sx.No) w [] := Sx.Hp.start _ _
  refine wp_seq_k fun K1 hK1 => ?_
  -- region 0 (ref.go:55)
  refine Sx.wp_text [(0, .run), (1, .take)] rfl ?_
  refine Sx.st_eff hT rfl rfl rfl rfl (Sx.y_box hT rfl rfl rfl _) ?_
  clear hT; rintro _ w1 ⟨b1, rfl, N⟩ a hT
  replace H := H.new N; clear N
  refine Sx.st_take hT rfl rfl rfl rfl (Sx.x_assign hT rfl rfl) ?_
  clear hT; intro a hT
  replace hT := hT.keep [2, 1, 0] rfl
  refine Sx.ser_nil ?_
  refine Sx.then_normal (hK1 _ _ ?_)
  clear hK1
  refine wp_seq_k fun K2 hK2 => ?_
  -- region 1 (ref.go:56)
  refine Sx.wp_text [(0, .take), (1, .run), (2, .take), (3, .take), (4, .take), (5, .run), (6, .take), (7, .take), (8, .take), (9, .take), (10, .run), (11, .take), (12, .take), (13, .take), (14, .take), (15, .run), (16, .run), (17, .take), (18, .take), (19, .take), (20, .run), (21, .run), (22, .take), (23, .take), (24, .take), (25, .run), (26, .take), (27, .run), (28, .take), (29, .take), (30, .take)] rfl ?_
  refine Sx.st_take hT rfl rfl rfl rfl (Sx.x_fieldAddr hT rfl Try.fa37_0 rfl) ?_
  clear hT; intro a hT
  refine Sx.st_run hT rfl rfl rfl rfl (Sx.x_load1 hT rfl Try.fl3 rfl ((H.blk 0 rfl).nth rfl)) ?_
  clear hT; intro a hT
  refine Sx.st_take hT rfl rfl rfl rfl ((fun w => Sx.x_ge w hT rfl rfl rfl)) ?_
  clear hT; intro a hT
  refine Sx.st_take hT rfl rfl rfl rfl (Sx.x_move hT rfl rfl) ?_
  clear hT; intro a hT
  -- guard (1, 3)
  refine Sx.Sl.two hT 6 rfl (fun hc3 hT => ?_) (fun hc3 hT => ?_)
  · try simp only [decide_eq_true_eq, decide_eq_false_iff_not, Bool.not_eq_true', Bool.not_eq_false', Bool.not_eq_true, Bool.not_eq_false, Bool.and_eq_true, Bool.or_eq_false_iff, beq_iff_eq, bne_iff_ne, Int.not_lt, Int.not_le, ne_eq] at hc3
    refine Sx.st_take hT rfl rfl rfl rfl (Sx.x_fieldAddr hT rfl Try.fa37_0 rfl) ?_
    clear hT; intro a hT
    refine Sx.st_run hT rfl rfl rfl rfl (Sx.x_load1 hT rfl Try.fl3 rfl ((H.blk 0 rfl).nth rfl)) ?_
    clear hT; intro a hT
    refine Sx.st_take hT rfl rfl rfl rfl ((fun w => Sx.x_le w hT rfl rfl rfl)) ?_
    clear hT; intro a hT
    refine Sx.st_take hT rfl rfl rfl rfl (Sx.x_pick_t hT rfl rfl rfl) ?_
    clear hT; intro a hT
    refine Sx.st_take hT rfl rfl rfl rfl (Sx.x_move hT rfl rfl) ?_
    clear hT; intro a hT
    -- guard (1, 8)
    refine Sx.Sl.two hT 11 rfl (fun hc4 hT => ?_) (fun hc4 hT => ?_)
    · try simp only [decide_eq_true_eq, decide_eq_false_iff_not, Bool.not_eq_true', Bool.not_eq_false', Bool.not_eq_true, Bool.not_eq_false, Bool.and_eq_true, Bool.or_eq_false_iff, beq_iff_eq, bne_iff_ne, Int.not_lt, Int.not_le, ne_eq] at hc4
      refine Sx.st_take hT rfl rfl rfl rfl (Sx.x_fieldAddr hT rfl Try.fa37_1 rfl) ?_
      clear hT; intro a hT
      refine Sx.st_run hT rfl rfl rfl rfl (Sx.x_load1 hT rfl Try.fl3 rfl ((H.blk 0 rfl).nth rfl)) ?_
      clear hT; intro a hT
      refine Sx.st_take hT rfl rfl rfl rfl ((fun w => Sx.x_ge w hT rfl rfl rfl)) ?_
      clear hT; intro a hT
      refine Sx.st_take hT rfl rfl rfl rfl (Sx.x_pick_t hT rfl rfl rfl) ?_
      clear hT; intro a hT
      refine Sx.st_take hT rfl rfl rfl rfl (Sx.x_move hT rfl rfl) ?_
      clear hT; intro a hT
      -- guard (1, 13)
      refine Sx.Sl.two hT 16 rfl (fun hc5 hT => ?_) (fun hc5 hT => ?_)
      · try simp only [decide_eq_true_eq, decide_eq_false_iff_not, Bool.not_eq_true', Bool.not_eq_false', Bool.not_eq_true, Bool.not_eq_false, Bool.and_eq_true, Bool.or_eq_false_iff, beq_iff_eq, bne_iff_ne, Int.not_lt, Int.not_le, ne_eq] at hc5
        refine Sx.st_take hT rfl rfl rfl rfl (Sx.x_fieldAddr hT rfl Try.fa37_2 rfl) ?_
        clear hT; intro a hT
        refine Sx.st_run hT rfl rfl rfl rfl (Sx.x_load1 hT rfl Try.fl35 rfl ((H.blk 0 rfl).nth rfl)) ?_
        clear hT; intro a hT
        refine Sx.st_call hT rfl rfl rfl rfl rfl Try.can30 rfl (is_calls _ _) ?_
        rintro _ w2 ⟨rfl, E⟩
        refine ⟨_, rfl, ?_⟩
        clear hT; intro a hT
        replace H := H.pure E; clear E
        rw [isF_point hlo] at hT
        refine Sx.st_take hT rfl rfl rfl rfl (Sx.x_pick_t hT rfl rfl rfl) ?_
        clear hT; intro a hT
        refine Sx.st_take hT rfl rfl rfl rfl (Sx.x_move hT rfl rfl) ?_
        clear hT; intro a hT
        -- guard (1, 18)
        refine Sx.Sl.two hT 21 rfl (fun hc6 hT => ?_) (fun hc6 hT => ?_)
        · try simp only [decide_eq_true_eq, decide_eq_false_iff_not, Bool.not_eq_true', Bool.not_eq_false', Bool.not_eq_true, Bool.not_eq_false, Bool.and_eq_true, Bool.or_eq_false_iff, beq_iff_eq, bne_iff_ne, Int.not_lt, Int.not_le, ne_eq] at hc6
          refine Sx.st_take hT rfl rfl rfl rfl (Sx.x_fieldAddr hT rfl Try.fa37_3 rfl) ?_
          clear hT; intro a hT
          refine Sx.st_run hT rfl rfl rfl rfl (Sx.x_load1 hT rfl Try.fl35 rfl ((H.blk 0 rfl).nth rfl)) ?_
          clear hT; intro a hT
          refine Sx.st_call hT rfl rfl rfl rfl rfl Try.can30 rfl (is_calls _ _) ?_
          rintro _ w3 ⟨rfl, E⟩
          refine ⟨_, rfl, ?_⟩
          clear hT; intro a hT
          replace H := H.pure E; clear E
          rw [isF_point hhi] at hT
          refine Sx.st_take hT rfl rfl rfl rfl (Sx.x_pick_t hT rfl rfl rfl) ?_
          clear hT; intro a hT
          refine Sx.st_take hT rfl rfl rfl rfl (Sx.x_move hT rfl rfl) ?_
          clear hT; intro a hT
          -- guard (1, 23)
          refine Sx.Sl.two hT 26 rfl (fun hc7 hT => ?_) (fun hc7 hT => ?_)
          · try simp only [decide_eq_true_eq, decide_eq_false_iff_not, Bool.not_eq_true', Bool.not_eq_false', Bool.not_eq_true, Bool.not_eq_false, Bool.and_eq_true, Bool.or_eq_false_iff, beq_iff_eq, bne_iff_ne, Int.not_lt, Int.not_le, ne_eq] at hc7
            refine Sx.st_take hT rfl rfl rfl rfl (Sx.x_fieldAddr hT rfl Try.fa37_2 rfl) ?_
            clear hT; intro a hT
            refine Sx.st_run hT rfl rfl rfl rfl (Sx.x_load1 hT rfl Try.fl35 rfl ((H.blk 0 rfl).nth rfl)) ?_
            clear hT; intro a hT
            refine Sx.st_take hT rfl rfl rfl rfl (Sx.x_fieldAddr hT rfl Try.fa37_3 rfl) ?_
            clear hT; intro a hT
            refine Sx.st_run hT rfl rfl rfl rfl (Sx.x_load1 hT rfl Try.fl35 rfl ((H.blk 0 rfl).nth rfl)) ?_
            clear hT; intro a hT
            refine Sx.st_take hT rfl rfl rfl rfl (Sx.x_flt hT rfl rfl rfl) ?_
            clear hT; intro a hT
            refine Sx.st_take hT rfl rfl rfl rfl (Sx.x_pick_t hT rfl rfl rfl) ?_
            clear hT; intro a hT
            refine Sx.st_take hT rfl rfl rfl rfl (Sx.x_assign hT rfl rfl) ?_
            clear hT; intro a hT
            replace hT := hT.keep [2, 1, 0] rfl
            refine Sx.ser_nil ?_
            refine Sx.then_normal (hK2 _ _ ?_)
            clear hK2
            refine wp_ret ?_
            refine Sx.done1 (fn := Try.f29) hT rfl (.tmp (hT.get 2 _ rfl)) ?_
            refine ⟨ret_b ?_, H.ext⟩
            clear hT H
            unfold mayR
            simp_all <;> first | omega | (intros; omega)
          · try simp only [decide_eq_true_eq, decide_eq_false_iff_not, Bool.not_eq_true', Bool.not_eq_false', Bool.not_eq_true, Bool.not_eq_false, Bool.and_eq_true, Bool.or_eq_false_iff, beq_iff_eq, bne_iff_ne, Int.not_lt, Int.not_le, ne_eq] at hc7
            refine Sx.st_skip hT rfl rfl rfl rfl ?_
            clear hT; intro a hT
            refine Sx.st_runskip hT rfl rfl rfl rfl ?_
            clear hT; intro a hT
            refine Sx.st_skip hT rfl rfl rfl rfl ?_
            clear hT; intro a hT
            refine Sx.st_runskip hT rfl rfl rfl rfl ?_
            clear hT; intro a hT
            refine Sx.st_skip hT rfl rfl rfl rfl ?_
            clear hT; intro a hT
            refine Sx.st_take hT rfl rfl rfl rfl (Sx.x_pick_f hT rfl rfl rfl) ?_
            clear hT; intro a hT
            refine Sx.st_take hT rfl rfl rfl rfl (Sx.x_assign hT rfl rfl) ?_
            clear hT; intro a hT
            replace hT := hT.keep [2, 1, 0] rfl
            refine Sx.ser_nil ?_
            refine Sx.then_normal (hK2 _ _ ?_)
            clear hK2
            refine wp_ret ?_
            refine Sx.done1 (fn := Try.f29) hT rfl (.tmp (hT.get 2 _ rfl)) ?_
            refine ⟨ret_b ?_, H.ext⟩
            clear hT H
            unfold mayR
            simp_all <;> first | omega | (intros; omega)
        · try simp only [decide_eq_true_eq, decide_eq_false_iff_not, Bool.not_eq_true', Bool.not_eq_false', Bool.not_eq_true, Bool.not_eq_false, Bool.and_eq_true, Bool.or_eq_false_iff, beq_iff_eq, bne_iff_ne, Int.not_lt, Int.not_le, ne_eq] at hc6
          refine Sx.st_skip hT rfl rfl rfl rfl ?_
          clear hT; intro a hT
          refine Sx.st_runskip hT rfl rfl rfl rfl ?_
          clear hT; intro a hT
          refine Sx.st_runskip hT rfl rfl rfl rfl ?_
          clear hT; intro a hT
          refine Sx.st_take hT rfl rfl rfl rfl (Sx.x_pick_f hT rfl rfl rfl) ?_
          clear hT; intro a hT
          refine Sx.st_take hT rfl rfl rfl rfl (Sx.x_move hT rfl rfl) ?_
          clear hT; intro a hT
          refine Sx.st_skip hT rfl rfl rfl rfl ?_
          clear hT; intro a hT
          refine Sx.st_runskip hT rfl rfl rfl rfl ?_
          clear hT; intro a hT
          refine Sx.st_skip hT rfl rfl rfl rfl ?_
          clear hT; intro a hT
          refine Sx.st_runskip hT rfl rfl rfl rfl ?_
          clear hT; intro a hT
          refine Sx.st_skip hT rfl rfl rfl rfl ?_
          clear hT; intro a hT
          refine Sx.st_take hT rfl rfl rfl rfl (Sx.x_pick_f hT rfl rfl rfl) ?_
          clear hT; intro a hT
          refine Sx.st_take hT rfl rfl rfl rfl (Sx.x_assign hT rfl rfl) ?_
          clear hT; intro a hT
          replace hT := hT.keep [2, 1, 0] rfl
          refine Sx.ser_nil ?_
          refine Sx.then_normal (hK2 _ _ ?_)
          clear hK2
          refine wp_ret ?_
          refine Sx.done1 (fn := Try.f29) hT rfl (.tmp (hT.get 2 _ rfl)) ?_
          refine ⟨ret_b ?_, H.ext⟩
          clear hT H
          unfold mayR
          simp_all <;> first | omega | (intros; omega)
      · try simp only [decide_eq_true_eq, decide_eq_false_iff_not, Bool.not_eq_true', Bool.not_eq_false', Bool.not_eq_true, Bool.not_eq_false, Bool.and_eq_true, Bool.or_eq_false_iff, beq_iff_eq, bne_iff_ne, Int.not_lt, Int.not_le, ne_eq] at hc5
        refine Sx.st_skip hT rfl rfl rfl rfl ?_
        clear hT; intro a hT
        refine Sx.st_runskip hT rfl rfl rfl rfl ?_
        clear hT; intro a hT
        refine Sx.st_runskip hT rfl rfl rfl rfl ?_
        clear hT; intro a hT
        refine Sx.st_take hT rfl rfl rfl rfl (Sx.x_pick_f hT rfl rfl rfl) ?_
        clear hT; intro a hT
        refine Sx.st_take hT rfl rfl rfl rfl (Sx.x_move hT rfl rfl) ?_
        clear hT; intro a hT
        refine Sx.st_skip hT rfl rfl rfl rfl ?_
        clear hT; intro a hT
        refine Sx.st_runskip hT rfl rfl rfl rfl ?_
        clear hT; intro a hT
        refine Sx.st_runskip hT rfl rfl rfl rfl ?_
        clear hT; intro a hT
        refine Sx.st_take hT rfl rfl rfl rfl (Sx.x_pick_f hT rfl rfl rfl) ?_
        clear hT; intro a hT
        refine Sx.st_take hT rfl rfl rfl rfl (Sx.x_move hT rfl rfl) ?_
        clear hT; intro a hT
        refine Sx.st_skip hT rfl rfl rfl rfl ?_
        clear hT; intro a hT
        refine Sx.st_runskip hT rfl rfl rfl rfl ?_
        clear hT; intro a hT
        refine Sx.st_skip hT rfl rfl rfl rfl ?_
        clear hT; intro a hT
        refine Sx.st_runskip hT rfl rfl rfl rfl ?_
        clear hT; intro a hT
        refine Sx.st_skip hT rfl rfl rfl rfl ?_
        clear hT; intro a hT
        refine Sx.st_take hT rfl rfl rfl rfl (Sx.x_pick_f hT rfl rfl rfl) ?_
        clear hT; intro a hT
        refine Sx.st_take hT rfl rfl rfl rfl (Sx.x_assign hT rfl rfl) ?_
        clear hT; intro a hT
        replace hT := hT.keep [2, 1, 0] rfl
        refine Sx.ser_nil ?_
        refine Sx.then_normal (hK2 _ _ ?_)
        clear hK2
        refine wp_ret ?_
        refine Sx.done1 (fn := Try.f29) hT rfl (.tmp (hT.get 2 _ rfl)) ?_
        refine ⟨ret_b ?_, H.ext⟩
        clear hT H
        unfold mayR
        simp_all <;> first | omega | (intros; omega)
    · try simp only [decide_eq_true_eq, decide_eq_false_iff_not, Bool.not_eq_true', Bool.not_eq_false', Bool.not_eq_true, Bool.not_eq_false, Bool.and_eq_true, Bool.or_eq_false_iff, beq_iff_eq, bne_iff_ne, Int.not_lt, Int.not_le, ne_eq] at hc4
      refine Sx.st_skip hT rfl rfl rfl rfl ?_
      clear hT; intro a hT
      refine Sx.st_runskip hT rfl rfl rfl rfl ?_
      clear hT; intro a hT
      refine Sx.st_skip hT rfl rfl rfl rfl ?_
      clear hT; intro a hT
      refine Sx.st_take hT rfl rfl rfl rfl (Sx.x_pick_f hT rfl rfl rfl) ?_
      clear hT; intro a hT
      refine Sx.st_take hT rfl rfl rfl rfl (Sx.x_move hT rfl rfl) ?_
      clear hT; intro a hT
      refine Sx.st_skip hT rfl rfl rfl rfl ?_
      clear hT; intro a hT
      refine Sx.st_runskip hT rfl rfl rfl rfl ?_
      clear hT; intro a hT
      refine Sx.st_runskip hT rfl rfl rfl rfl ?_
      clear hT; intro a hT
      refine Sx.st_take hT rfl rfl rfl rfl (Sx.x_pick_f hT rfl rfl rfl) ?_
      clear hT; intro a hT
      refine Sx.st_take hT rfl rfl rfl rfl (Sx.x_move hT rfl rfl) ?_
      clear hT; intro a hT
      refine Sx.st_skip hT rfl rfl rfl rfl ?_
      clear hT; intro a hT
      refine Sx.st_runskip hT rfl rfl rfl rfl ?_
      clear hT; intro a hT
      refine Sx.st_runskip hT rfl rfl rfl rfl ?_
      clear hT; intro a hT
      refine Sx.st_take hT rfl rfl rfl rfl (Sx.x_pick_f hT rfl rfl rfl) ?_
      clear hT; intro a hT
      refine Sx.st_take hT rfl rfl rfl rfl (Sx.x_move hT rfl rfl) ?_
      clear hT; intro a hT
      refine Sx.st_skip hT rfl rfl rfl rfl ?_
      clear hT; intro a hT
      refine Sx.st_runskip hT rfl rfl rfl rfl ?_
      clear hT; intro a hT
      refine Sx.st_skip hT rfl rfl rfl rfl ?_
      clear hT; intro a hT
      refine Sx.st_runskip hT rfl rfl rfl rfl ?_
      clear hT; intro a hT
      refine Sx.st_skip hT rfl rfl rfl rfl ?_
      clear hT; intro a hT
      refine Sx.st_take hT rfl rfl rfl rfl (Sx.x_pick_f hT rfl rfl rfl) ?_
      clear hT; intro a hT
      refine Sx.st_take hT rfl rfl rfl rfl (Sx.x_assign hT rfl rfl) ?_
      clear hT; intro a hT
      replace hT := hT.keep [2, 1, 0] rfl
      refine Sx.ser_nil ?_
      refine Sx.then_normal (hK2 _ _ ?_)
      clear hK2
      refine wp_ret ?_
      refine Sx.done1 (fn := Try.f29) hT rfl (.tmp (hT.get 2 _ rfl)) ?_
      refine ⟨ret_b ?_, H.ext⟩
      clear hT H
      unfold mayR
      simp_all <;> first | omega | (intros; omega)
  · try simp only [decide_eq_true_eq, decide_eq_false_iff_not, Bool.not_eq_true', Bool.not_eq_false', Bool.not_eq_true, Bool.not_eq_false, Bool.and_eq_true, Bool.or_eq_false_iff, beq_iff_eq, bne_iff_ne, Int.not_lt, Int.not_le, ne_eq] at hc3
    refine Sx.st_skip hT rfl rfl rfl rfl ?_
    clear hT; intro a hT
    refine Sx.st_runskip hT rfl rfl rfl rfl ?_
    clear hT; intro a hT
    refine Sx.st_skip hT rfl rfl rfl rfl ?_
    clear hT; intro a hT
    refine Sx.st_take hT rfl rfl rfl rfl (Sx.x_pick_f hT rfl rfl rfl) ?_
    clear hT; intro a hT
    refine Sx.st_take hT rfl rfl rfl rfl (Sx.x_move hT rfl rfl) ?_
    clear hT; intro a hT
    refine Sx.st_skip hT rfl rfl rfl rfl ?_
    clear hT; intro a hT
    refine Sx.st_runskip hT rfl rfl rfl rfl ?_
    clear hT; intro a hT
    refine Sx.st_skip hT rfl rfl rfl rfl ?_
    clear hT; intro a hT
    refine Sx.st_take hT rfl rfl rfl rfl (Sx.x_pick_f hT rfl rfl rfl) ?_
    clear hT; intro a hT
    refine Sx.st_take hT rfl rfl rfl rfl (Sx.x_move hT rfl rfl) ?_
    clear hT; intro a hT
    refine Sx.st_skip hT rfl rfl rfl rfl ?_
    clear hT; intro a hT
    refine Sx.st_runskip hT rfl rfl rfl rfl ?_
    clear hT; intro a hT
    refine Sx.st_runskip hT rfl rfl rfl rfl ?_
    clear hT; intro a hT
    refine Sx.st_take hT rfl rfl rfl rfl (Sx.x_pick_f hT rfl rfl rfl) ?_
    clear hT; intro a hT
    refine Sx.st_take hT rfl rfl rfl rfl (Sx.x_move hT rfl rfl) ?_
    clear hT; intro a hT
    refine Sx.st_skip hT rfl rfl rfl rfl ?_
    clear hT; intro a hT
    refine Sx.st_runskip hT rfl rfl rfl rfl ?_
    clear hT; intro a hT
    refine Sx.st_runskip hT rfl rfl rfl rfl ?_
    clear hT; intro a hT
    refine Sx.st_take hT rfl rfl rfl rfl (Sx.x_pick_f hT rfl rfl rfl) ?_
    clear hT; intro a hT
    refine Sx.st_take hT rfl rfl rfl rfl (Sx.x_move hT rfl rfl) ?_
    clear hT; intro a hT
    refine Sx.st_skip hT rfl rfl rfl rfl ?_
    clear hT; intro a hT
    refine Sx.st_runskip hT rfl rfl rfl rfl ?_
    clear hT; intro a hT
    refine Sx.st_skip hT rfl rfl rfl rfl ?_
    clear hT; intro a hT
    refine Sx.st_runskip hT rfl rfl rfl rfl ?_
    clear hT; intro a hT
    refine Sx.st_skip hT rfl rfl rfl rfl ?_
    clear hT; intro a hT
    refine Sx.st_take hT rfl rfl rfl rfl (Sx.x_pick_f hT rfl rfl rfl) ?_
    clear hT; intro a hT
    refine Sx.st_take hT rfl rfl rfl rfl (Sx.x_assign hT rfl rfl) ?_
    clear hT; intro a hT
    replace hT := hT.keep [2, 1, 0] rfl
    refine Sx.ser_nil ?_
    refine Sx.then_normal (hK2 _ _ ?_)
    clear hK2
    refine wp_ret ?_
    refine Sx.done1 (fn := Try.f29) hT rfl (.tmp (hT.get 2 _ rfl)) ?_
    refine ⟨ret_b ?_, H.ext⟩
    clear hT H
    unfold mayR
    simp_all <;> first | omega | (intros; omega)

theorem In4_calls (r : Rg) (x : Nat) (w : World) : Calls Try.prog 13 #[.agg #[.int .i64 r.id, .int .i64 r.epoch, .float .f64 r.lo, .float .f64 r.hi], .float .f64 x] w fun e w' => e = .returned (.bool (inF r x)) ∧ Ext No w w' := by
  refine Sx.calls_into Try.func13 rfl Try.ntmps13 rfl fun a hT => ?_
  replace hT := hT.keep [0, 1] rfl
  have H : Sx.Hp w (Sx.No) w [] := Sx.Hp.start _ _
  refine wp_seq_k fun K1 hK1 => ?_
  -- region 0 (ref.go:52)
  refine Sx.wp_text [(0, .run), (1, .take)] rfl ?_
  refine Sx.st_eff hT rfl rfl rfl rfl (Sx.y_box hT rfl rfl rfl _) ?_
  clear hT; rintro _ w1 ⟨b1, rfl, N⟩ a hT
  replace H := H.new N; clear N
  refine Sx.st_take hT rfl rfl rfl rfl (Sx.x_assign hT rfl rfl) ?_
  clear hT; intro a hT
  replace hT := hT.keep [4, 2, 0, 1] rfl
  refine Sx.ser_nil ?_
  refine Sx.then_normal (hK1 _ _ ?_)
  clear hK1
  refine wp_seq_k fun K2 hK2 => ?_
  -- region 1 (ref.go:52)
  refine Sx.wp_text [(0, .take), (1, .take), (2, .run), (3, .take), (4, .take), (5, .take), (6, .take), (7, .run), (8, .take), (9, .take), (10, .take)] rfl ?_
  refine Sx.st_take hT rfl rfl rfl rfl (Sx.x_move hT rfl rfl) ?_
  clear hT; intro a hT
  refine Sx.st_take hT rfl rfl rfl rfl (Sx.x_fieldAddr hT rfl Try.fa37_2 rfl) ?_
  clear hT; intro a hT
  refine Sx.st_run hT rfl rfl rfl rfl (Sx.x_load1 hT rfl Try.fl35 rfl ((H.blk 0 rfl).nth rfl)) ?_
  clear hT; intro a hT
  refine Sx.st_take hT rfl rfl rfl rfl (Sx.x_fge hT rfl rfl rfl) ?_
  clear hT; intro a hT
  refine Sx.st_take hT rfl rfl rfl rfl (Sx.x_move hT rfl rfl) ?_
  clear hT; intro a hT
  -- guard (1, 4)
  refine Sx.Sl.two hT 9 rfl (fun hc3 hT => ?_) (fun hc3 hT => ?_)
  · try simp only [decide_eq_true_eq, decide_eq_false_iff_not, Bool.not_eq_true', Bool.not_eq_false', Bool.not_eq_true, Bool.not_eq_false, Bool.and_eq_true, Bool.or_eq_false_iff, beq_iff_eq, bne_iff_ne, Int.not_lt, Int.not_le, ne_eq] at hc3
    refine Sx.st_take hT rfl rfl rfl rfl (Sx.x_move hT rfl rfl) ?_
    clear hT; intro a hT
    refine Sx.st_take hT rfl rfl rfl rfl (Sx.x_fieldAddr hT rfl Try.fa37_3 rfl) ?_
    clear hT; intro a hT
    refine Sx.st_run hT rfl rfl rfl rfl (Sx.x_load1 hT rfl Try.fl35 rfl ((H.blk 0 rfl).nth rfl)) ?_
    clear hT; intro a hT
    refine Sx.st_take hT rfl rfl rfl rfl (Sx.x_flt hT rfl rfl rfl) ?_
    clear hT; intro a hT
    refine Sx.st_take hT rfl rfl rfl rfl (Sx.x_pick_t hT rfl rfl rfl) ?_
    clear hT; intro a hT
    refine Sx.st_take hT rfl rfl rfl rfl (Sx.x_assign hT rfl rfl) ?_
    clear hT; intro a hT
    replace hT := hT.keep [4, 2, 0, 1] rfl
    refine Sx.ser_nil ?_
    refine Sx.then_normal (hK2 _ _ ?_)
    clear hK2
    refine wp_ret ?_
    refine Sx.done1 (fn := Try.f13) hT rfl (.tmp (hT.get 4 _ rfl)) ?_
    refine ⟨ret_b ?_, H.ext⟩
    clear hT H
    unfold inF
    simp_all
  · try simp only [decide_eq_true_eq, decide_eq_false_iff_not, Bool.not_eq_true', Bool.not_eq_false', Bool.not_eq_true, Bool.not_eq_false, Bool.and_eq_true, Bool.or_eq_false_iff, beq_iff_eq, bne_iff_ne, Int.not_lt, Int.not_le, ne_eq] at hc3
    refine Sx.st_skip hT rfl rfl rfl rfl ?_
    clear hT; intro a hT
    refine Sx.st_skip hT rfl rfl rfl rfl ?_
    clear hT; intro a hT
    refine Sx.st_runskip hT rfl rfl rfl rfl ?_
    clear hT; intro a hT
    refine Sx.st_skip hT rfl rfl rfl rfl ?_
    clear hT; intro a hT
    refine Sx.st_take hT rfl rfl rfl rfl (Sx.x_pick_f hT rfl rfl rfl) ?_
    clear hT; intro a hT
    refine Sx.st_take hT rfl rfl rfl rfl (Sx.x_assign hT rfl rfl) ?_
    clear hT; intro a hT
    replace hT := hT.keep [4, 2, 0, 1] rfl
    refine Sx.ser_nil ?_
    refine Sx.then_normal (hK2 _ _ ?_)
    clear hK2
    refine wp_ret ?_
    refine Sx.done1 (fn := Try.f13) hT rfl (.tmp (hT.get 4 _ rfl)) ?_
    refine ⟨ret_b ?_, H.ext⟩
    clear hT H
    unfold inF
    simp_all

theorem Hash4_calls (l : List UInt8) (hl : l.length ≤ 9223372036854775807) (w : World) : Calls Try.prog 32 #[.string ⟨l.toArray⟩] w fun e w' => e = .returned (.int .u64 (hashF l : Int)) ∧ Ext No w w' := by
  refine Sx.calls_into Try.func32 rfl Try.ntmps32 rfl fun a hT => ?_
  replace hT := hT.keep [0] rfl
  have H : Sx.Hp w (Sx.No) w [] := Sx.Hp.start _ _
  refine wp_seq_k fun K1 hK1 => ?_
  -- region 0 (ref.go:10)
  refine Sx.wp_text [(0, .take)] rfl ?_
  refine Sx.st_take hT rfl rfl rfl rfl (Sx.x_assign hT rfl rfl) ?_
  clear hT; intro a hT
  replace hT := hT.keep [2, 0] rfl
  refine Sx.ser_nil ?_
  refine Sx.then_normal (hK1 _ _ ?_)
  clear hK1
  refine wp_seq_k fun K2 hK2 => ?_
  -- region 1 (ref.go:11)
  refine Sx.wp_text [(0, .take)] rfl ?_
  refine Sx.st_take hT rfl rfl rfl rfl (Sx.x_assign hT rfl rfl) ?_
  clear hT; intro a hT
  replace hT := hT.keep [3, 2, 0] rfl
  refine Sx.ser_nil ?_
  refine Sx.then_normal (hK2 _ _ ?_)
  clear hK2
  refine wp_seq_k fun K3 hK3 => ?_
  refine wp_seq_k fun K4 hK4 => ?_
  -- region 2 (ref.go:12)
  refine Sx.wp_text [(0, .take)] rfl ?_
  refine Sx.st_take hT rfl rfl rfl rfl (Sx.x_assign hT rfl rfl) ?_
  clear hT; intro a hT
  replace hT := hT.keep [4, 3, 2, 0] rfl
  refine Sx.ser_nil ?_
  refine Sx.then_normal (hK4 _ _ ?_)
  clear hK4
  refine wp_block ?_
  -- loop 0
  refine Sx.wp_loopH (G := Nat) (fun k => [(4, .int .i64 (k : Int)), (3, .int .u64 ((hbase (l.take k) : Nat) : Int))]) (fun k => []) (fun k => k ≤ l.length) (fun k => l.length - k) 0 (hT.keep [4, 3, 2, 0] rfl) (H.keep [] rfl rfl) (Nat.zero_le _) ?_
  clear hT H
  rintro k a w1 hJ hT H
  replace hT := hT.keep [4, 3, 2, 0] rfl
  replace H := H.keep [] rfl rfl
  have hk : k ≤ l.length := hJ
  refine wp_seq_k fun K5 hK5 => ?_
  refine wp_seq_k fun K6 hK6 => ?_
  -- region 3 (ref.go:12)
  refine Sx.wp_text [(0, .take), (1, .take), (2, .take), (3, .take)] rfl ?_
  refine Sx.st_take hT rfl rfl rfl rfl (Sx.x_move hT rfl rfl) ?_
  clear hT; intro a hT
  refine Sx.st_take hT rfl rfl rfl rfl (Sx.x_move hT rfl rfl) ?_
  clear hT; intro a hT
  refine Sx.st_take hT rfl rfl rfl rfl (Sx.x_lenStr hT rfl rfl Try.underlying9 rfl) ?_
  clear hT; intro a hT
  refine Sx.st_take hT rfl rfl rfl rfl ((fun w => Sx.x_lt w hT rfl rfl rfl)) ?_
  clear hT; intro a hT
  replace hT := hT.keep [8, 4, 3, 2, 0] rfl
  refine Sx.ser_nil ?_
  refine Sx.then_normal (hK6 _ _ ?_)
  clear hK6
  -- cond 0
  refine Sx.wp_if hT rfl (fun hc7 => ?_) (fun hc7 => ?_)
  · try simp only [decide_eq_true_eq, decide_eq_false_iff_not, Bool.not_eq_true', Bool.not_eq_false', Bool.not_eq_true, Bool.not_eq_false, Bool.and_eq_true, Bool.or_eq_false_iff, beq_iff_eq, bne_iff_ne, Int.not_lt, Int.not_le, ne_eq] at hc7
    obtain ⟨b, hb⟩ : ∃ o, l[k]? = some o := ⟨_, List.getElem?_eq_getElem (by omega)⟩
    have hb8 := UInt8.toNat_lt b
    refine wp_skip ?_
    refine Sx.then_normal (hK5 _ _ ?_)
    clear hK5
    refine wp_seq_k fun K8 hK8 => ?_
    refine wp_block ?_
    -- region 5 (ref.go:13)
    refine Sx.wp_text [(0, .take), (1, .take), (2, .take), (3, .take), (4, .take), (5, .take), (6, .take), (7, .take)] rfl ?_
    refine Sx.st_take hT rfl rfl rfl rfl (Sx.x_move hT rfl rfl) ?_
    clear hT; intro a hT
    refine Sx.st_take hT rfl rfl rfl rfl (Sx.x_move hT rfl rfl) ?_
    clear hT; intro a hT
    refine Sx.st_take hT rfl rfl rfl rfl (Sx.x_move hT rfl rfl) ?_
    clear hT; intro a hT
    refine Sx.st_take hT rfl rfl rfl rfl (Sx.x_indexStr (k := k) hT rfl Try.underlying9 rfl rfl rfl hb) ?_
    clear hT; intro a hT
    refine Sx.st_take hT rfl rfl rfl rfl ((fun w => Sx.x_toint w hT rfl Try.underlying5 Try.underlying75 rfl (Sx.wrap_u64 (by omega) (by omega)))) ?_
    clear hT; intro a hT
    refine Sx.st_take hT rfl rfl rfl rfl (Sx.x_uxor hT rfl rfl rfl) ?_
    clear hT; intro a hT
    refine Sx.st_take hT rfl rfl rfl rfl ((fun w => Sx.x_mul w hT rfl rfl rfl (Sx.wrap_umul _ 1099511628211))) ?_
    clear hT; intro a hT
    refine Sx.st_take hT rfl rfl rfl rfl (Sx.x_assign hT rfl rfl) ?_
    clear hT; intro a hT
    replace hT := hT.keep [3, 8, 4, 2, 0] rfl
    refine Sx.ser_nil ?_
    refine Sx.block_normal ?_
    refine Sx.then_normal (hK8 _ _ ?_)
    clear hK8
    -- region 4 (ref.go:12)
    refine Sx.wp_text [(0, .take), (1, .take), (2, .take)] rfl ?_
    refine Sx.st_take hT rfl rfl rfl rfl (Sx.x_move hT rfl rfl) ?_
    clear hT; intro a hT
    refine Sx.st_take hT rfl rfl rfl rfl ((fun w => Sx.x_add w hT rfl rfl rfl (Sx.wrap64 (by omega)))) ?_
    clear hT; intro a hT
    refine Sx.st_take hT rfl rfl rfl rfl (Sx.x_assign hT rfl rfl) ?_
    clear hT; intro a hT
    replace hT := hT.keep [4, 3, 8, 2, 0] rfl
    refine Sx.ser_nil ?_
    refine Sx.then_normal ?_
    exact ⟨k + 1, (by omega), ((hT.keep [4, 3, 2, 0] rfl).conv (by rw [hbase_snoc hb, hround_eq]; try rfl)), (H.keep [] rfl rfl), by omega⟩
  · try simp only [decide_eq_true_eq, decide_eq_false_iff_not, Bool.not_eq_true', Bool.not_eq_false', Bool.not_eq_true, Bool.not_eq_false, Bool.and_eq_true, Bool.or_eq_false_iff, beq_iff_eq, bne_iff_ne, Int.not_lt, Int.not_le, ne_eq] at hc7
    have hkl : k = l.length := by omega
    rw [hkl, List.take_length] at hT
    refine wp_exit ?_
    refine Sx.then_exit ?_
    refine Sx.then_exit ?_
    refine Sx.block_exit ?_
    refine Sx.then_normal (hK3 _ _ ?_)
    clear hK3
    refine wp_seq_k fun K9 hK9 => ?_
    -- region 6 (ref.go:15)
    refine Sx.wp_text [(0, .take), (1, .take), (2, .take), (3, .take), (4, .take), (5, .take)] rfl ?_
    refine Sx.st_take hT rfl rfl rfl rfl (Sx.x_move hT rfl rfl) ?_
    clear hT; intro a hT
    refine Sx.st_take hT rfl rfl rfl rfl (Sx.x_move hT rfl rfl) ?_
    clear hT; intro a hT
    refine Sx.st_take hT rfl rfl rfl rfl (Sx.x_ushr (s := 33) hT rfl rfl rfl (by omega)) ?_
    clear hT; intro a hT
    refine Sx.st_take hT rfl rfl rfl rfl (Sx.x_uxor hT rfl rfl rfl) ?_
    clear hT; intro a hT
    refine Sx.st_take hT rfl rfl rfl rfl ((fun w => Sx.x_mul w hT rfl rfl rfl (Sx.wrap_umul _ (hmul 0)))) ?_
    clear hT; intro a hT
    rw [show xr (hbase l) (hbase l / 2 ^ 33) * hmul 0 % 2 ^ 64 = hstage l 1 from (hmix_eq _ _).symm.trans (hstage_succ l 0).symm] at hT
    refine Sx.st_take hT rfl rfl rfl rfl (Sx.x_assign hT rfl rfl) ?_
    clear hT; intro a hT
    replace hT := hT.keep [3, 8, 4, 2, 0] rfl
    refine Sx.ser_nil ?_
    refine Sx.then_normal (hK9 _ _ ?_)
    clear hK9
    refine wp_seq_k fun K10 hK10 => ?_
    -- region 7 (ref.go:16)
    refine Sx.wp_text [(0, .take), (1, .take), (2, .take), (3, .take), (4, .take), (5, .take)] rfl ?_
    refine Sx.st_take hT rfl rfl rfl rfl (Sx.x_move hT rfl rfl) ?_
    clear hT; intro a hT
    refine Sx.st_take hT rfl rfl rfl rfl (Sx.x_move hT rfl rfl) ?_
    clear hT; intro a hT
    refine Sx.st_take hT rfl rfl rfl rfl (Sx.x_ushr (s := 33) hT rfl rfl rfl (by omega)) ?_
    clear hT; intro a hT
    refine Sx.st_take hT rfl rfl rfl rfl (Sx.x_uxor hT rfl rfl rfl) ?_
    clear hT; intro a hT
    refine Sx.st_take hT rfl rfl rfl rfl ((fun w => Sx.x_mul w hT rfl rfl rfl (Sx.wrap_umul _ (hmul 1)))) ?_
    clear hT; intro a hT
    rw [show xr (hstage l 1) (hstage l 1 / 2 ^ 33) * hmul 1 % 2 ^ 64 = hstage l 2 from (hmix_eq _ _).symm.trans (hstage_succ l 1).symm] at hT
    refine Sx.st_take hT rfl rfl rfl rfl (Sx.x_assign hT rfl rfl) ?_
    clear hT; intro a hT
    replace hT := hT.keep [3, 8, 4, 2, 0] rfl
    refine Sx.ser_nil ?_
    refine Sx.then_normal (hK10 _ _ ?_)
    clear hK10
    refine wp_seq_k fun K11 hK11 => ?_
    -- region 8 (ref.go:17)
    refine Sx.wp_text [(0, .take), (1, .take), (2, .take), (3, .take), (4, .take)] rfl ?_
    refine Sx.st_take hT rfl rfl rfl rfl (Sx.x_move hT rfl rfl) ?_
    clear hT; intro a hT
    refine Sx.st_take hT rfl rfl rfl rfl (Sx.x_move hT rfl rfl) ?_
    clear hT; intro a hT
    refine Sx.st_take hT rfl rfl rfl rfl (Sx.x_ushr (s := 33) hT rfl rfl rfl (by omega)) ?_
    clear hT; intro a hT
    refine Sx.st_take hT rfl rfl rfl rfl (Sx.x_uxor hT rfl rfl rfl) ?_
    clear hT; intro a hT
    refine Sx.st_take hT rfl rfl rfl rfl (Sx.x_assign hT rfl rfl) ?_
    clear hT; intro a hT
    replace hT := hT.keep [2, 3, 8, 4, 0] rfl
    refine Sx.ser_nil ?_
    refine Sx.then_normal (hK11 _ _ ?_)
    clear hK11
    refine wp_ret ?_
    refine Sx.done1 (fn := Try.f32) hT rfl (.tmp (hT.get 2 _ rfl)) ?_
    refine ⟨?_, H.ext⟩
    unfold hashF
    try rfl

theorem Of4_calls (l : List UInt8) (hl : l.length ≤ 9223372036854775807) (w : World) : Calls Try.prog 14 #[.string ⟨l.toArray⟩] w fun e w' => e = .returned (.float .f64 (ofF l)) ∧ Ext No w w' := by
  refine Sx.calls_into Try.func14 rfl Try.ntmps14 rfl fun a hT => ?_
  replace hT := hT.keep [0] rfl
  have H : Sx.Hp w (Sx.No) w [] := Sx.Hp.start _ _
  refine wp_seq_k fun K1 hK1 => ?_
  -- region 0 (ref.go:21)
  refine Sx.wp_text [(0, .take)] rfl ?_
  refine Sx.st_take hT rfl rfl rfl rfl (Sx.x_assign hT rfl rfl) ?_
  clear hT; intro a hT
  replace hT := hT.keep [2, 0] rfl
  refine Sx.ser_nil ?_
  refine Sx.then_normal (hK1 _ _ ?_)
  clear hK1
  refine wp_seq_k fun K2 hK2 => ?_
  -- region 1 (ref.go:21)
  refine Sx.wp_text [(0, .take), (1, .run), (2, .take), (3, .take), (4, .run), (5, .take)] rfl ?_
  refine Sx.st_take hT rfl rfl rfl rfl (Sx.x_move hT rfl rfl) ?_
  clear hT; intro a hT
  refine Sx.st_call hT rfl rfl rfl rfl rfl Try.can32 rfl (Hash4_calls l hl _) ?_
  rintro _ w1 ⟨rfl, E⟩
  refine ⟨_, rfl, ?_⟩
  clear hT; intro a hT
  replace H := H.pure E; clear E
  refine Sx.st_take hT rfl rfl rfl rfl (Sx.x_ushr (s := 11) hT rfl rfl rfl (by omega)) ?_
  clear hT; intro a hT
  refine Sx.st_take hT rfl rfl rfl rfl (Sx.x_i2f hT rfl Try.underlying75 Try.underlying35 rfl) ?_
  clear hT; intro a hT
  refine Sx.st_eff hT rfl rfl rfl rfl (Sx.x_farith hT rfl rfl rfl (by simp) _) ?_
  rintro _ w2 ⟨fv1_4, rfl, hf1_4, E⟩
  clear hT; intro a hT
  replace H := H.pure E; clear E
  refine Sx.st_take hT rfl rfl rfl rfl (Sx.x_assign hT rfl rfl) ?_
  clear hT; intro a hT
  replace hT := hT.keep [2, 0] rfl
  refine Sx.ser_nil ?_
  refine Sx.then_normal (hK2 _ _ ?_)
  clear hK2
  refine wp_ret ?_
  refine Sx.done1 (fn := Try.f14) hT rfl (.tmp (hT.get 2 _ rfl)) ?_
  refine ⟨ret_f ?_, H.ext⟩
  clear hT H
  unfold ofF
  exact can_num hf1_4 quo_num

def findF (L : List Rg) (x : Nat) : Option Rg := L.find? fun r => inF r x
theorem find_pre {L : List Rg} {x k : Nat} {o : Rg} (h : ∀ (t : Nat) (q : Rg), t < k → L[t]? = some q → inF q x = false) (ho : L[k]? = some o) (hi : inF o x = true) : findF L x = some o := by
  unfold findF
  obtain ⟨hk, rfl⟩ := List.getElem?_eq_some_iff.1 ho
  have e1 : L = L.take k ++ L[k] :: L.drop (k + 1) := by rw [List.getElem_cons_drop, List.take_append_drop]
  conv => lhs; rw [e1]
  rw [List.find?_append, List.find?_eq_none.2, List.find?_cons_of_pos (by exact hi)]
  · rfl
  · intro q hq
    obtain ⟨t, ht⟩ := List.mem_iff_getElem?.1 hq
    rw [List.getElem?_take] at ht
    split at ht
    · rw [h t q (by assumption) ht]; decide
    · cases ht
theorem find_non {L : List Rg} {x : Nat} (h : ∀ (t : Nat) (q : Rg), t < L.length → L[t]? = some q → inF q x = false) : findF L x = none := by
  unfold findF
  refine List.find?_eq_none.2 fun q hq => ?_
  obtain ⟨t, ht⟩ := List.mem_iff_getElem?.1 hq
  rw [h t q (List.getElem?_eq_some_iff.1 ht).1 ht]
  decide
theorem nf_snoc {L : List Rg} {x k : Nat} {o : Rg} (h : ∀ (t : Nat) (q : Rg), t < k → L[t]? = some q → inF q x = false) (ho : L[k]? = some o) (hi : inF o x = false) : ∀ (t : Nat) (q : Rg), t < k + 1 → L[t]? = some q → inF q x = false := fun t q h1 h2 => by
  rcases Nat.lt_or_ge t k with h3 | h3
  · exact h t q h3 h2
  · obtain rfl : t = k := by omega
    rw [ho] at h2; cases h2; exact hi

theorem Find4_calls {ad : Option Addr} {c : Nat} (l : List Rg) (x : Nat) {w : World} (hs : Ss w ad Rg.cells 4 l) (hl : l.length ≤ 1000000) : Calls Try.prog 18 #[.slice ad l.length c, .float .f64 x] w fun e w' => e = .returned (.tuple #[.agg #[.int .i64 ((findF l x).getD rz).id, .int .i64 ((findF l x).getD rz).epoch, .float .f64 ((findF l x).getD rz).lo, .float .f64 ((findF l x).getD rz).hi], .bool (findF l x).isSome]) ∧ Ext No w w' := by
  have R : Ro w No _ := Ro.of fun w' x => hs.ext_no x
  refine Sx.calls_into Try.func18 rfl Try.ntmps18 rfl fun a hT => ?_
  replace hT := hT.keep [0, 1] rfl
  have H : Sx.Hp w (Sx.No) w [] := Sx.Hp.start _ _
  refine wp_seq_k fun K1 hK1 => ?_
  -- region 0 (ref.go:100)
  refine Sx.wp_text [(0, .run), (1, .take)] rfl ?_
  refine Sx.st_eff hT rfl rfl rfl rfl (Sx.y_alloc hT rfl Try.ti37 rfl _) ?_
  clear hT; rintro _ w1 ⟨b1, rfl, N⟩ a hT
  replace H := H.new N; clear N
  refine Sx.st_take hT rfl rfl rfl rfl (Sx.x_assign hT rfl rfl) ?_
  clear hT; intro a hT
  replace hT := hT.keep [5, 4, 0, 1] rfl
  refine Sx.ser_nil ?_
  refine Sx.then_normal (hK1 _ _ ?_)
  clear hK1
  refine wp_seq_k fun K2 hK2 => ?_
  refine wp_seq_k fun K3 hK3 => ?_
  -- region 1 (ref.go:101)
  refine Sx.wp_text [(0, .take)] rfl ?_
  refine Sx.st_take hT rfl rfl rfl rfl (Sx.x_assign hT rfl rfl) ?_
  clear hT; intro a hT
  replace hT := hT.keep [6, 5, 4, 0, 1] rfl
  refine Sx.ser_nil ?_
  refine Sx.then_normal (hK3 _ _ ?_)
  clear hK3
  refine wp_block ?_
  -- loop 0
  refine Sx.wp_loopH (G := Nat) (fun k => [(6, .int .i64 (k : Int))]) (fun k => []) (fun k => k ≤ l.length ∧ ∀ (t : Nat) (q : Rg), t < k → l[t]? = some q → inF q x = false) (fun k => l.length - k) 0 (hT.keep [6, 4, 0, 1] rfl) (H.keep [0] rfl rfl) (⟨Nat.zero_le _, fun t q h => by omega⟩) ?_
  clear hT H
  rintro k a w2 hJ hT H
  replace hT := hT.keep [6, 4, 0, 1] rfl
  replace H := H.keep [0] rfl rfl
  obtain ⟨hk, hnf⟩ := hJ
  refine wp_seq_k fun K4 hK4 => ?_
  refine wp_seq_k fun K5 hK5 => ?_
  -- region 2 (ref.go:101)
  refine Sx.wp_text [(0, .take), (1, .take), (2, .take), (3, .take)] rfl ?_
  refine Sx.st_take hT rfl rfl rfl rfl (Sx.x_move hT rfl rfl) ?_
  clear hT; intro a hT
  refine Sx.st_take hT rfl rfl rfl rfl (Sx.x_move hT rfl rfl) ?_
  clear hT; intro a hT
  refine Sx.st_take hT rfl rfl rfl rfl (Sx.x_len_slice hT rfl rfl Try.underlying28 rfl) ?_
  clear hT; intro a hT
  refine Sx.st_take hT rfl rfl rfl rfl ((fun w => Sx.x_lt w hT rfl rfl rfl)) ?_
  clear hT; intro a hT
  replace hT := hT.keep [10, 6, 4, 0, 1] rfl
  refine Sx.ser_nil ?_
  refine Sx.then_normal (hK5 _ _ ?_)
  clear hK5
  -- cond 0
  refine Sx.wp_if hT rfl (fun hc6 => ?_) (fun hc6 => ?_)
  · try simp only [decide_eq_true_eq, decide_eq_false_iff_not, Bool.not_eq_true', Bool.not_eq_false', Bool.not_eq_true, Bool.not_eq_false, Bool.and_eq_true, Bool.or_eq_false_iff, beq_iff_eq, bne_iff_ne, Int.not_lt, Int.not_le, ne_eq] at hc6
    obtain ⟨o, ho⟩ : ∃ o, l[k]? = some o := ⟨_, List.getElem?_eq_getElem (by omega)⟩
    refine wp_skip ?_
    refine Sx.then_normal (hK4 _ _ ?_)
    clear hK4
    refine wp_seq_k fun K7 hK7 => ?_
    refine wp_block ?_
    refine wp_seq_k fun K8 hK8 => ?_
    -- region 4 (ref.go:102)
    refine Sx.wp_text [(0, .take), (1, .take), (2, .take), (3, .run), (4, .take), (5, .run)] rfl ?_
    refine Sx.st_take hT rfl rfl rfl rfl (Sx.x_move hT rfl rfl) ?_
    clear hT; intro a hT
    refine Sx.st_take hT rfl rfl rfl rfl (Sx.x_move hT rfl rfl) ?_
    clear hT; intro a hT
    refine Sx.st_take hT rfl rfl rfl rfl (Sx.x_index (k := k) hT rfl Try.underlying28 Try.ti37 (R.at H.ext).sv rfl rfl (by first | rfl | omega) (by omega)) ?_
    clear hT; intro a hT
    refine Sx.st_run hT rfl rfl rfl rfl (Sx.y_loadS hT rfl Try.underlying37 Try.ti37 rfl (by first | exact ((H.blk 0 rfl).seg (k := 4) rfl) | exact ((R.at H.ext).cs Rg.len ho)) (by rfl)) ?_
    clear hT; intro a hT
    refine Sx.st_take hT rfl rfl rfl rfl (Sx.x_move hT rfl rfl) ?_
    clear hT; intro a hT
    refine Sx.st_call hT rfl rfl rfl rfl rfl Try.can13 rfl (In4_calls _ _ _) ?_
    rintro _ w3 ⟨rfl, E⟩
    refine ⟨_, rfl, ?_⟩
    clear hT; intro a hT
    replace H := H.pure E; clear E
    replace hT := hT.keep [18, 10, 6, 4, 0, 1] rfl
    refine Sx.ser_nil ?_
    refine Sx.then_normal (hK8 _ _ ?_)
    clear hK8
    -- cond 1
    refine Sx.wp_if hT rfl (fun hc9 => ?_) (fun hc9 => ?_)
    · try simp only [decide_eq_true_eq, decide_eq_false_iff_not, Bool.not_eq_true', Bool.not_eq_false', Bool.not_eq_true, Bool.not_eq_false, Bool.and_eq_true, Bool.or_eq_false_iff, beq_iff_eq, bne_iff_ne, Int.not_lt, Int.not_le, ne_eq] at hc9
      have hin : inF o x = true := hc9
      refine wp_seq_k fun K10 hK10 => ?_
      -- region 5 (ref.go:103)
      refine Sx.wp_text [(0, .take), (1, .take), (2, .take), (3, .run), (4, .run), (5, .take)] rfl ?_
      refine Sx.st_take hT rfl rfl rfl rfl (Sx.x_move hT rfl rfl) ?_
      clear hT; intro a hT
      refine Sx.st_take hT rfl rfl rfl rfl (Sx.x_move hT rfl rfl) ?_
      clear hT; intro a hT
      refine Sx.st_take hT rfl rfl rfl rfl (Sx.x_index (k := k) hT rfl Try.underlying28 Try.ti37 (R.at H.ext).sv rfl rfl (by first | rfl | omega) (by omega)) ?_
      clear hT; intro a hT
      refine Sx.st_run hT rfl rfl rfl rfl (Sx.y_loadS hT rfl Try.underlying37 Try.ti37 rfl (by first | exact ((H.blk 0 rfl).seg (k := 4) rfl) | exact ((R.at H.ext).cs Rg.len ho)) (by rfl)) ?_
      clear hT; intro a hT
      refine Sx.st_act hT rfl rfl rfl (Sx.y_storeS hT rfl Try.ti37 rfl rfl rfl rfl rfl (H.blk 0 rfl) rfl) ?_
      rintro w4 ⟨hb, E, _⟩
      replace H := H.setB 0 rfl hb E rfl; clear hb E
      refine Sx.st_take hT rfl rfl rfl rfl (Sx.x_assign hT rfl rfl) ?_
      clear hT; intro a hT
      replace hT := hT.keep [5, 18, 10, 6, 4, 0, 1] rfl
      refine Sx.ser_nil ?_
      refine Sx.then_normal (hK10 _ _ ?_)
      clear hK10
      refine wp_ret ?_
      refine Sx.block_ret ?_
      refine Sx.then_ret ?_
      refine Sx.then_ret ?_
      refine Sx.block_ret ?_
      refine Sx.then_ret ?_
      refine Sx.done2 (fn := Try.f18) hT rfl (.cell (hT.get 4 _ rfl) (Sx.run_resS Try.underlying37 Try.ti37 ((H.blk 0 rfl).seg (k := 4) rfl) (by rfl))) (.tmp (hT.get 5 _ rfl)) ?_
      rw [find_pre hnf ho hin]
      exact ⟨rfl, H.ext⟩
    · try simp only [decide_eq_true_eq, decide_eq_false_iff_not, Bool.not_eq_true', Bool.not_eq_false', Bool.not_eq_true, Bool.not_eq_false, Bool.and_eq_true, Bool.or_eq_false_iff, beq_iff_eq, bne_iff_ne, Int.not_lt, Int.not_le, ne_eq] at hc9
      have hni : inF o x = false := hc9
      refine wp_skip ?_
      refine Sx.block_normal ?_
      refine Sx.then_normal (hK7 _ _ ?_)
      clear hK7
      -- region 3 (ref.go:101)
      refine Sx.wp_text [(0, .take), (1, .take), (2, .take)] rfl ?_
      refine Sx.st_take hT rfl rfl rfl rfl (Sx.x_move hT rfl rfl) ?_
      clear hT; intro a hT
      refine Sx.st_take hT rfl rfl rfl rfl ((fun w => Sx.x_add w hT rfl rfl rfl (Sx.wrap64 (by omega)))) ?_
      clear hT; intro a hT
      refine Sx.st_take hT rfl rfl rfl rfl (Sx.x_assign hT rfl rfl) ?_
      clear hT; intro a hT
      replace hT := hT.keep [6, 18, 10, 4, 0, 1] rfl
      refine Sx.ser_nil ?_
      refine Sx.then_normal ?_
      exact ⟨k + 1, ⟨by omega, nf_snoc hnf ho hni⟩, (hT.keep [6, 4, 0, 1] rfl), (H.keep [0] rfl rfl), by omega⟩
  · try simp only [decide_eq_true_eq, decide_eq_false_iff_not, Bool.not_eq_true', Bool.not_eq_false', Bool.not_eq_true, Bool.not_eq_false, Bool.and_eq_true, Bool.or_eq_false_iff, beq_iff_eq, bne_iff_ne, Int.not_lt, Int.not_le, ne_eq] at hc6
    have hkl : k = l.length := by omega
    rw [hkl] at hnf
    refine wp_exit ?_
    refine Sx.then_exit ?_
    refine Sx.then_exit ?_
    refine Sx.block_exit ?_
    refine Sx.then_normal (hK2 _ _ ?_)
    clear hK2
    refine wp_seq_k fun K11 hK11 => ?_
    -- region 6 (ref.go:106)
    refine Sx.wp_text [(0, .take), (1, .run), (2, .take)] rfl ?_
    refine Sx.st_take hT rfl rfl rfl rfl (Sx.x_bld hT rfl Try.bld37 rfl rfl) ?_
    clear hT; intro a hT
    refine Sx.st_act hT rfl rfl rfl (Sx.y_storeS hT rfl Try.ti37 rfl rfl rfl rfl rfl (H.blk 0 rfl) rfl) ?_
    rintro w5 ⟨hb, E, _⟩
    replace H := H.setB 0 rfl hb E rfl; clear hb E
    refine Sx.st_take hT rfl rfl rfl rfl (Sx.x_assign hT rfl rfl) ?_
    clear hT; intro a hT
    replace hT := hT.keep [5, 10, 6, 4, 0, 1] rfl
    refine Sx.ser_nil ?_
    refine Sx.then_normal (hK11 _ _ ?_)
    clear hK11
    refine wp_ret ?_
    refine Sx.done2 (fn := Try.f18) hT rfl (.cell (hT.get 4 _ rfl) (Sx.run_resS Try.underlying37 Try.ti37 ((H.blk 0 rfl).seg (k := 4) rfl) (by rfl))) (.tmp (hT.get 5 _ rfl)) ?_
    rw [find_non hnf]
    exact ⟨rfl, H.ext⟩

def okS (r : Rg) (x : Nat) (i : Int) : Prop := mayR r = true ∧ r.epoch ≠ 9223372036854775807 ∧ 1 ≤ i ∧ i ≤ 12 ∧ i ≠ r.id ∧ isF x = true ∧ fgt x r.lo = true ∧ flt x r.hi = true

theorem Split4_yes (r q z : Rg) (x : Nat) (i : Int) (hw : r.wf) (ho : okS r x i) (hq : q = halfA r x) (hz : z = halfB r x i) (w : World) : Calls Try.prog 11 #[.agg #[.int .i64 r.id, .int .i64 r.epoch, .float .f64 r.lo, .float .f64 r.hi], .float .f64 x, .int .i64 i] w fun e w' => e = .returned (.tuple #[.agg #[.int .i64 q.id, .int .i64 q.epoch, .float .f64 q.lo, .float .f64 q.hi], .agg #[.int .i64 z.id, .int .i64 z.epoch, .float .f64 z.lo, .float .f64 z.hi], .int .i64 0]) ∧ Ext No w w' := by
  obtain ⟨o1, o2, o3, o4, o5, o6, o7, o8⟩ := ho
  obtain ⟨-, -, w3, w4, -, -⟩ := id hw
  refine Sx.calls_into Try.func11 rfl Try.ntmps11 rfl fun a hT => ?_
  replace hT := hT.keep [0, 1, 2] rfl
  have H : Sx.Hp w (Sx.No) w [] := Sx.Hp.start _ _
  refine wp_seq_k fun K1 hK1 => ?_
  -- region 0 (ref.go:122)
  refine Sx.wp_text [(0, .run), (1, .run), (2, .run), (3, .take)] rfl ?_
  refine Sx.st_eff hT rfl rfl rfl rfl (Sx.y_box hT rfl rfl rfl _) ?_
  clear hT; rintro _ w1 ⟨b1, rfl, N⟩ a hT
  replace H := H.new N; clear N
  refine Sx.st_eff hT rfl rfl rfl rfl (Sx.y_alloc hT rfl Try.ti37 rfl _) ?_
  clear hT; rintro _ w2 ⟨b2, rfl, N⟩ a hT
  replace H := H.new N; clear N
  refine Sx.st_eff hT rfl rfl rfl rfl (Sx.y_alloc hT rfl Try.ti37 rfl _) ?_
  clear hT; rintro _ w3 ⟨b3, rfl, N⟩ a hT
  replace H := H.new N; clear N
  refine Sx.st_take hT rfl rfl rfl rfl (Sx.x_assign hT rfl rfl) ?_
  clear hT; intro a hT
  replace hT := hT.keep [8, 7, 6, 3, 0, 1, 2] rfl
  refine Sx.ser_nil ?_
  refine Sx.then_normal (hK1 _ _ ?_)
  clear hK1
  refine wp_seq_k fun K2 hK2 => ?_
  refine wp_seq_k fun K3 hK3 => ?_
  -- region 1 (ref.go:123)
  refine Sx.wp_text [(0, .run), (1, .run), (2, .take), (3, .take), (4, .take), (5, .run), (6, .take), (7, .take), (8, .take), (9, .take), (10, .take), (11, .take), (12, .take), (13, .take), (14, .take), (15, .take), (16, .take), (17, .take), (18, .take), (19, .run), (20, .take), (21, .take), (22, .take), (23, .take), (24, .run), (25, .take), (26, .take)] rfl ?_
  refine Sx.st_run hT rfl rfl rfl rfl (Sx.y_loadS hT rfl Try.underlying37 Try.ti37 rfl ((H.blk 2 rfl).seg (k := 4) rfl) (by rfl)) ?_
  clear hT; intro a hT
  refine Sx.st_call hT rfl rfl rfl rfl rfl Try.can29 rfl (May4_calls r hw _) ?_
  rintro _ w4 ⟨rfl, E⟩
  refine ⟨_, rfl, ?_⟩
  clear hT; intro a hT
  replace H := H.pure E; clear E
  rw [o1] at hT
  refine Sx.st_take hT rfl rfl rfl rfl (Sx.x_not hT rfl rfl) ?_
  clear hT; intro a hT
  refine Sx.st_take hT rfl rfl rfl rfl (Sx.x_move hT rfl rfl) ?_
  clear hT; intro a hT
  -- guard (1, 3)
  refine Sx.Sl.two hT 13 rfl (fun hc4 hT => ?_) (fun hc4 hT => ?_)
  · exfalso
    try simp only [decide_eq_true_eq, decide_eq_false_iff_not, Bool.not_eq_true', Bool.not_eq_false', Bool.not_eq_true, Bool.not_eq_false, Bool.and_eq_true, Bool.or_eq_false_iff, beq_iff_eq, bne_iff_ne, Int.not_lt, Int.not_le, ne_eq] at hc4
    simp at hc4
  · try simp only [decide_eq_true_eq, decide_eq_false_iff_not, Bool.not_eq_true', Bool.not_eq_false', Bool.not_eq_true, Bool.not_eq_false, Bool.and_eq_true, Bool.or_eq_false_iff, beq_iff_eq, bne_iff_ne, Int.not_lt, Int.not_le, ne_eq] at hc4
    refine Sx.st_take hT rfl rfl rfl rfl (Sx.x_fieldAddr hT rfl Try.fa37_1 rfl) ?_
    clear hT; intro a hT
    refine Sx.st_run hT rfl rfl rfl rfl (Sx.x_load1 hT rfl Try.fl3 rfl ((H.blk 2 rfl).nth rfl)) ?_
    clear hT; intro a hT
    refine Sx.st_take hT rfl rfl rfl rfl ((fun w => Sx.x_eq w hT rfl rfl rfl)) ?_
    clear hT; intro a hT
    refine Sx.st_take hT rfl rfl rfl rfl (Sx.x_pick_f hT rfl rfl rfl) ?_
    clear hT; intro a hT
    refine Sx.st_take hT rfl rfl rfl rfl (Sx.x_move hT rfl rfl) ?_
    clear hT; intro a hT
    -- guard (1, 8)
    refine Sx.Sl.two hT 18 rfl (fun hc5 hT => ?_) (fun hc5 hT => ?_)
    · exfalso
      try simp only [decide_eq_true_eq, decide_eq_false_iff_not, Bool.not_eq_true', Bool.not_eq_false', Bool.not_eq_true, Bool.not_eq_false, Bool.and_eq_true, Bool.or_eq_false_iff, beq_iff_eq, bne_iff_ne, Int.not_lt, Int.not_le, ne_eq] at hc5
      first | omega | (exact o2 hc5) | (exact o5 hc5) | (simp at hc5; done)
    · try simp only [decide_eq_true_eq, decide_eq_false_iff_not, Bool.not_eq_true', Bool.not_eq_false', Bool.not_eq_true, Bool.not_eq_false, Bool.and_eq_true, Bool.or_eq_false_iff, beq_iff_eq, bne_iff_ne, Int.not_lt, Int.not_le, ne_eq] at hc5
      refine Sx.st_take hT rfl rfl rfl rfl (Sx.x_move hT rfl rfl) ?_
      clear hT; intro a hT
      refine Sx.st_take hT rfl rfl rfl rfl ((fun w => Sx.x_lt w hT rfl rfl rfl)) ?_
      clear hT; intro a hT
      refine Sx.st_take hT rfl rfl rfl rfl (Sx.x_pick_f hT rfl rfl rfl) ?_
      clear hT; intro a hT
      refine Sx.st_take hT rfl rfl rfl rfl (Sx.x_move hT rfl rfl) ?_
      clear hT; intro a hT
      -- guard (1, 12)
      refine Sx.Sl.two hT 22 rfl (fun hc6 hT => ?_) (fun hc6 hT => ?_)
      · exfalso
        try simp only [decide_eq_true_eq, decide_eq_false_iff_not, Bool.not_eq_true', Bool.not_eq_false', Bool.not_eq_true, Bool.not_eq_false, Bool.and_eq_true, Bool.or_eq_false_iff, beq_iff_eq, bne_iff_ne, Int.not_lt, Int.not_le, ne_eq] at hc6
        first | omega | (exact o2 hc6) | (exact o5 hc6) | (simp at hc6; done)
      · try simp only [decide_eq_true_eq, decide_eq_false_iff_not, Bool.not_eq_true', Bool.not_eq_false', Bool.not_eq_true, Bool.not_eq_false, Bool.and_eq_true, Bool.or_eq_false_iff, beq_iff_eq, bne_iff_ne, Int.not_lt, Int.not_le, ne_eq] at hc6
        refine Sx.st_take hT rfl rfl rfl rfl (Sx.x_move hT rfl rfl) ?_
        clear hT; intro a hT
        refine Sx.st_take hT rfl rfl rfl rfl ((fun w => Sx.x_gt w hT rfl rfl rfl)) ?_
        clear hT; intro a hT
        refine Sx.st_take hT rfl rfl rfl rfl (Sx.x_pick_f hT rfl rfl rfl) ?_
        clear hT; intro a hT
        refine Sx.st_take hT rfl rfl rfl rfl (Sx.x_move hT rfl rfl) ?_
        clear hT; intro a hT
        -- guard (1, 16)
        refine Sx.Sl.two hT 26 rfl (fun hc7 hT => ?_) (fun hc7 hT => ?_)
        · exfalso
          try simp only [decide_eq_true_eq, decide_eq_false_iff_not, Bool.not_eq_true', Bool.not_eq_false', Bool.not_eq_true, Bool.not_eq_false, Bool.and_eq_true, Bool.or_eq_false_iff, beq_iff_eq, bne_iff_ne, Int.not_lt, Int.not_le, ne_eq] at hc7
          first | omega | (exact o2 hc7) | (exact o5 hc7) | (simp at hc7; done)
        · try simp only [decide_eq_true_eq, decide_eq_false_iff_not, Bool.not_eq_true', Bool.not_eq_false', Bool.not_eq_true, Bool.not_eq_false, Bool.and_eq_true, Bool.or_eq_false_iff, beq_iff_eq, bne_iff_ne, Int.not_lt, Int.not_le, ne_eq] at hc7
          refine Sx.st_take hT rfl rfl rfl rfl (Sx.x_move hT rfl rfl) ?_
          clear hT; intro a hT
          refine Sx.st_take hT rfl rfl rfl rfl (Sx.x_fieldAddr hT rfl Try.fa37_0 rfl) ?_
          clear hT; intro a hT
          refine Sx.st_run hT rfl rfl rfl rfl (Sx.x_load1 hT rfl Try.fl3 rfl ((H.blk 2 rfl).nth rfl)) ?_
          clear hT; intro a hT
          refine Sx.st_take hT rfl rfl rfl rfl ((fun w => Sx.x_eq w hT rfl rfl rfl)) ?_
          clear hT; intro a hT
          refine Sx.st_take hT rfl rfl rfl rfl (Sx.x_pick_f hT rfl rfl rfl) ?_
          clear hT; intro a hT
          refine Sx.st_take hT rfl rfl rfl rfl (Sx.x_move hT rfl rfl) ?_
          clear hT; intro a hT
          -- guard (1, 22)
          refine Sx.Sl.two hT 32 rfl (fun hc8 hT => ?_) (fun hc8 hT => ?_)
          · exfalso
            try simp only [decide_eq_true_eq, decide_eq_false_iff_not, Bool.not_eq_true', Bool.not_eq_false', Bool.not_eq_true, Bool.not_eq_false, Bool.and_eq_true, Bool.or_eq_false_iff, beq_iff_eq, bne_iff_ne, Int.not_lt, Int.not_le, ne_eq] at hc8
            first | omega | (exact o2 hc8) | (exact o5 hc8) | (simp at hc8; done)
          · try simp only [decide_eq_true_eq, decide_eq_false_iff_not, Bool.not_eq_true', Bool.not_eq_false', Bool.not_eq_true, Bool.not_eq_false, Bool.and_eq_true, Bool.or_eq_false_iff, beq_iff_eq, bne_iff_ne, Int.not_lt, Int.not_le, ne_eq] at hc8
            refine Sx.st_take hT rfl rfl rfl rfl (Sx.x_move hT rfl rfl) ?_
            clear hT; intro a hT
            refine Sx.st_call hT rfl rfl rfl rfl rfl Try.can30 rfl (is_calls _ _) ?_
            rintro _ w5 ⟨rfl, E⟩
            refine ⟨_, rfl, ?_⟩
            clear hT; intro a hT
            replace H := H.pure E; clear E
            rw [o6] at hT
            refine Sx.st_take hT rfl rfl rfl rfl (Sx.x_not hT rfl rfl) ?_
            clear hT; intro a hT
            refine Sx.st_take hT rfl rfl rfl rfl (Sx.x_pick_f hT rfl rfl rfl) ?_
            clear hT; intro a hT
            replace hT := hT.keep [36, 8, 7, 6, 3, 0, 1, 2] rfl
            refine Sx.ser_nil ?_
            refine Sx.then_normal (hK3 _ _ ?_)
            clear hK3
            -- cond 0
            refine Sx.wp_if hT rfl (fun hc9 => ?_) (fun hc9 => ?_)
            · exfalso
              try simp only [decide_eq_true_eq, decide_eq_false_iff_not, Bool.not_eq_true', Bool.not_eq_false', Bool.not_eq_true, Bool.not_eq_false, Bool.and_eq_true, Bool.or_eq_false_iff, beq_iff_eq, bne_iff_ne, Int.not_lt, Int.not_le, ne_eq] at hc9
              simp at hc9
            · try simp only [decide_eq_true_eq, decide_eq_false_iff_not, Bool.not_eq_true', Bool.not_eq_false', Bool.not_eq_true, Bool.not_eq_false, Bool.and_eq_true, Bool.or_eq_false_iff, beq_iff_eq, bne_iff_ne, Int.not_lt, Int.not_le, ne_eq] at hc9
              refine wp_skip ?_
              refine Sx.then_normal (hK2 _ _ ?_)
              clear hK2
              refine wp_seq_k fun K10 hK10 => ?_
              refine wp_seq_k fun K11 hK11 => ?_
              -- region 3 (ref.go:126)
              refine Sx.wp_text [(0, .take), (1, .take), (2, .run), (3, .take), (4, .take), (5, .take), (6, .take), (7, .run), (8, .take), (9, .take), (10, .take)] rfl ?_
              refine Sx.st_take hT rfl rfl rfl rfl (Sx.x_move hT rfl rfl) ?_
              clear hT; intro a hT
              refine Sx.st_take hT rfl rfl rfl rfl (Sx.x_fieldAddr hT rfl Try.fa37_2 rfl) ?_
              clear hT; intro a hT
              refine Sx.st_run hT rfl rfl rfl rfl (Sx.x_load1 hT rfl Try.fl35 rfl ((H.blk 2 rfl).nth rfl)) ?_
              clear hT; intro a hT
              refine Sx.st_take hT rfl rfl rfl rfl (Sx.x_fgt hT rfl rfl rfl) ?_
              clear hT; intro a hT
              refine Sx.st_take hT rfl rfl rfl rfl (Sx.x_move hT rfl rfl) ?_
              clear hT; intro a hT
              -- guard (3, 4)
              refine Sx.Sl.two hT 43 rfl (fun hc12 hT => ?_) (fun hc12 hT => ?_)
              · try simp only [decide_eq_true_eq, decide_eq_false_iff_not, Bool.not_eq_true', Bool.not_eq_false', Bool.not_eq_true, Bool.not_eq_false, Bool.and_eq_true, Bool.or_eq_false_iff, beq_iff_eq, bne_iff_ne, Int.not_lt, Int.not_le, ne_eq] at hc12
                refine Sx.st_take hT rfl rfl rfl rfl (Sx.x_move hT rfl rfl) ?_
                clear hT; intro a hT
                refine Sx.st_take hT rfl rfl rfl rfl (Sx.x_fieldAddr hT rfl Try.fa37_3 rfl) ?_
                clear hT; intro a hT
                refine Sx.st_run hT rfl rfl rfl rfl (Sx.x_load1 hT rfl Try.fl35 rfl ((H.blk 2 rfl).nth rfl)) ?_
                clear hT; intro a hT
                refine Sx.st_take hT rfl rfl rfl rfl (Sx.x_flt hT rfl rfl rfl) ?_
                clear hT; intro a hT
                refine Sx.st_take hT rfl rfl rfl rfl (Sx.x_pick_t hT rfl rfl rfl) ?_
                clear hT; intro a hT
                refine Sx.st_take hT rfl rfl rfl rfl (Sx.x_not hT rfl rfl) ?_
                clear hT; intro a hT
                replace hT := hT.keep [49, 36, 8, 7, 6, 3, 0, 1, 2] rfl
                refine Sx.ser_nil ?_
                refine Sx.then_normal (hK11 _ _ ?_)
                clear hK11
                -- cond 1
                refine Sx.wp_if hT rfl (fun hc13 => ?_) (fun hc13 => ?_)
                · exfalso
                  try simp only [decide_eq_true_eq, decide_eq_false_iff_not, Bool.not_eq_true', Bool.not_eq_false', Bool.not_eq_true, Bool.not_eq_false, Bool.and_eq_true, Bool.or_eq_false_iff, beq_iff_eq, bne_iff_ne, Int.not_lt, Int.not_le, ne_eq] at hc13
                  rw [o8] at hc13; cases hc13
                · try simp only [decide_eq_true_eq, decide_eq_false_iff_not, Bool.not_eq_true', Bool.not_eq_false', Bool.not_eq_true, Bool.not_eq_false, Bool.and_eq_true, Bool.or_eq_false_iff, beq_iff_eq, bne_iff_ne, Int.not_lt, Int.not_le, ne_eq] at hc13
                  refine wp_skip ?_
                  refine Sx.then_normal (hK10 _ _ ?_)
                  clear hK10
                  refine wp_seq_k fun K14 hK14 => ?_
                  -- region 5 (ref.go:129)
                  refine Sx.wp_text [(0, .run), (1, .run), (2, .run)] rfl ?_
                  refine Sx.st_run hT rfl rfl rfl rfl (Sx.y_loadS hT rfl Try.underlying37 Try.ti37 rfl ((H.blk 2 rfl).seg (k := 4) rfl) (by rfl)) ?_
                  clear hT; intro a hT
                  refine Sx.st_eff hT rfl rfl rfl rfl (Sx.y_alloc hT rfl Try.ti37 rfl _) ?_
                  clear hT; rintro _ w6 ⟨b4, rfl, N⟩ a hT
                  replace H := H.new N; clear N
                  refine Sx.st_act hT rfl rfl rfl (Sx.y_storeS hT rfl Try.ti37 rfl rfl rfl rfl rfl (H.blk 0 rfl) rfl) ?_
                  rintro w7 ⟨hb, E, _⟩
                  replace H := H.setB 0 rfl hb E rfl; clear hb E
                  replace hT := hT.keep [9, 49, 36, 8, 7, 6, 3, 0, 1, 2] rfl
                  refine Sx.ser_nil ?_
                  refine Sx.then_normal (hK14 _ _ ?_)
                  clear hK14
                  refine wp_seq_k fun K15 hK15 => ?_
                  -- region 6 (ref.go:130)
                  refine Sx.wp_text [(0, .take), (1, .run), (2, .take), (3, .take), (4, .run)] rfl ?_
                  refine Sx.st_take hT rfl rfl rfl rfl (Sx.x_fieldAddr hT rfl Try.fa37_1 rfl) ?_
                  clear hT; intro a hT
                  refine Sx.st_run hT rfl rfl rfl rfl (Sx.x_load1 hT rfl Try.fl3 rfl ((H.blk 0 rfl).nth rfl)) ?_
                  clear hT; intro a hT
                  refine Sx.st_take hT rfl rfl rfl rfl ((fun w => Sx.x_add w hT rfl rfl rfl (Sx.wrap64 (by omega)))) ?_
                  clear hT; intro a hT
                  refine Sx.st_take hT rfl rfl rfl rfl (Sx.x_fieldAddr hT rfl Try.fa37_1 rfl) ?_
                  clear hT; intro a hT
                  refine Sx.st_act hT rfl rfl rfl (Sx.y_store1 hT rfl Try.ti3 rfl rfl rfl (H.blk 0 rfl) rfl) ?_
                  rintro w8 ⟨hb, E, _⟩
                  replace H := H.setB 0 rfl hb E rfl; clear hb E
                  replace hT := hT.keep [9, 49, 36, 8, 7, 6, 3, 0, 1, 2] rfl
                  refine Sx.ser_nil ?_
                  refine Sx.then_normal (hK15 _ _ ?_)
                  clear hK15
                  refine wp_seq_k fun K16 hK16 => ?_
                  -- region 7 (ref.go:131)
                  refine Sx.wp_text [(0, .take), (1, .take), (2, .run)] rfl ?_
                  refine Sx.st_take hT rfl rfl rfl rfl (Sx.x_move hT rfl rfl) ?_
                  clear hT; intro a hT
                  refine Sx.st_take hT rfl rfl rfl rfl (Sx.x_fieldAddr hT rfl Try.fa37_3 rfl) ?_
                  clear hT; intro a hT
                  refine Sx.st_act hT rfl rfl rfl (Sx.y_store1 hT rfl Try.ti35 rfl rfl rfl (H.blk 0 rfl) rfl) ?_
                  rintro w9 ⟨hb, E, _⟩
                  replace H := H.setB 0 rfl hb E rfl; clear hb E
                  replace hT := hT.keep [9, 49, 36, 8, 7, 6, 3, 0, 1, 2] rfl
                  refine Sx.ser_nil ?_
                  refine Sx.then_normal (hK16 _ _ ?_)
                  clear hK16
                  refine wp_seq_k fun K17 hK17 => ?_
                  -- region 8 (ref.go:132)
                  refine Sx.wp_draws (fun u => Sx.Ext (fun k => Sx.One b2 k ∨ Sx.One b3 k) u) [(0, .held), (1, .take), (2, .take), (3, .take), (4, .held), (5, .take), (6, .keep), (7, .run), (8, .take)] (by kernel_rfl) (by kernel_rfl) (fun u E _ => ?_)
                  replace H := H.pure E; clear E
                  have hH : Sx.Ext (fun k => Sx.One b2 k ∨ Sx.One b3 k) u u := Sx.Ext.refl _ _
                  have Hu := H
                  refine Sx.st_held hT rfl rfl rfl rfl hH (fun w' h' => Sx.y_loadS hT rfl Try.underlying37 Try.ti37 rfl ((Hu.heldB 0 rfl h' (Hu.off2 (i := 0) (j := 2) (k9 := 1) rfl rfl rfl rfl rfl)).seg (k := 4) rfl) (by rfl)) ?_
                  clear hT; intro a hT
                  refine Sx.st_take hT rfl rfl rfl rfl (Sx.x_move hT rfl rfl) ?_
                  clear hT; intro a hT
                  refine Sx.st_take hT rfl rfl rfl rfl (Sx.x_move hT rfl rfl) ?_
                  clear hT; intro a hT
                  refine Sx.st_take hT rfl rfl rfl rfl (Sx.x_fieldAddr hT rfl Try.fa37_3 rfl) ?_
                  clear hT; intro a hT
                  refine Sx.st_held hT rfl rfl rfl rfl hH (fun w' h' => Sx.x_load1 hT rfl Try.fl35 rfl ((Hu.heldB 3 rfl h' (Hu.off2 (i := 3) (j := 2) (k9 := 1) rfl rfl rfl rfl rfl)).nth rfl)) ?_
                  clear hT; intro a hT
                  refine Sx.st_take hT rfl rfl rfl rfl (Sx.x_bld hT rfl Try.bld37 rfl rfl) ?_
                  clear hT; intro a hT
                  refine Sx.st_actkeep hT rfl rfl rfl (Sx.y_storeS hT rfl Try.ti37 rfl rfl rfl rfl rfl (H.blk 2 rfl) rfl) ?_
                  rintro w10 ⟨hb, E, _⟩
                  refine ⟨hH.same (E.mono fun _ _ h => .inl h), ?_⟩
                  replace hH := hH.same (E.mono fun _ _ h => .inl h)
                  replace H := H.setB 2 rfl hb E rfl; clear hb E
                  refine Sx.st_act hT rfl rfl rfl (Sx.y_storeS hT rfl Try.ti37 rfl rfl rfl rfl rfl (H.blk 1 rfl) rfl) ?_
                  rintro w11 ⟨hb, E, _⟩
                  replace H := H.setB 1 rfl hb E rfl; clear hb E
                  refine Sx.st_take hT rfl rfl rfl rfl (Sx.x_assign hT rfl rfl) ?_
                  clear hT; intro a hT
                  replace hT := hT.keep [8, 9, 49, 36, 7, 6, 3, 0, 1, 2] rfl
                  clear Hu hH
                  refine Sx.ser_calm ?_
                  refine Sx.then_normal (hK17 _ _ ?_)
                  clear hK17
                  refine wp_ret ?_
                  refine Sx.done3 (fn := Try.f11) hT rfl (.cell (hT.get 6 _ rfl) (Sx.run_resS Try.underlying37 Try.ti37 ((H.blk 2 rfl).seg (k := 4) rfl) (by rfl))) (.cell (hT.get 7 _ rfl) (Sx.run_resS Try.underlying37 Try.ti37 ((H.blk 1 rfl).seg (k := 4) rfl) (by rfl))) (.tmp (hT.get 8 _ rfl)) ?_
                  subst hq hz
                  exact ⟨rfl, H.ext⟩
              · exfalso
                try simp only [decide_eq_true_eq, decide_eq_false_iff_not, Bool.not_eq_true', Bool.not_eq_false', Bool.not_eq_true, Bool.not_eq_false, Bool.and_eq_true, Bool.or_eq_false_iff, beq_iff_eq, bne_iff_ne, Int.not_lt, Int.not_le, ne_eq] at hc12
                rw [o7] at hc12; cases hc12

theorem Split4_no (r : Rg) (x : Nat) (i : Int) (hw : r.wf) (ho : ¬ okS r x i) (w : World) : Calls Try.prog 11 #[.agg #[.int .i64 r.id, .int .i64 r.epoch, .float .f64 r.lo, .float .f64 r.hi], .float .f64 x, .int .i64 i] w fun e w' => ∃ g : Int, e = .returned (.tuple #[.agg #[.int .i64 rz.id, .int .i64 rz.epoch, .float .f64 rz.lo, .float .f64 rz.hi], .agg #[.int .i64 rz.id, .int .i64 rz.epoch, .float .f64 rz.lo, .float .f64 rz.hi], .int .i64 g]) ∧ g ≠ 0 ∧ Ext No w w' := by
  obtain ⟨-, -, w3, w4, -, -⟩ := id hw
  refine Sx.calls_into Try.func11 rfl Try.ntmps11 rfl fun a hT => ?_
  replace hT := hT.keep [0, 1, 2] rfl
  have H : Sx.Hp w (Sx.No) w [] := Sx.Hp.start _ _
  refine wp_seq_k fun K1 hK1 => ?_
  -- region 0 (ref.go:122)
  refine Sx.wp_text [(0, .run), (1, .run), (2, .run), (3, .take)] rfl ?_
  refine Sx.st_eff hT rfl rfl rfl rfl (Sx.y_box hT rfl rfl rfl _) ?_
  clear hT; rintro _ w1 ⟨b1, rfl, N⟩ a hT
  replace H := H.new N; clear N
  refine Sx.st_eff hT rfl rfl rfl rfl (Sx.y_alloc hT rfl Try.ti37 rfl _) ?_
  clear hT; rintro _ w2 ⟨b2, rfl, N⟩ a hT
  replace H := H.new N; clear N
  refine Sx.st_eff hT rfl rfl rfl rfl (Sx.y_alloc hT rfl Try.ti37 rfl _) ?_
  clear hT; rintro _ w3 ⟨b3, rfl, N⟩ a hT
  replace H := H.new N; clear N
  refine Sx.st_take hT rfl rfl rfl rfl (Sx.x_assign hT rfl rfl) ?_
  clear hT; intro a hT
  replace hT := hT.keep [8, 7, 6, 3, 0, 1, 2] rfl
  refine Sx.ser_nil ?_
  refine Sx.then_normal (hK1 _ _ ?_)
  clear hK1
  refine wp_seq_k fun K2 hK2 => ?_
  refine wp_seq_k fun K3 hK3 => ?_
  -- region 1 (ref.go:123)
  refine Sx.wp_text [(0, .run), (1, .run), (2, .take), (3, .take), (4, .take), (5, .run), (6, .take), (7, .take), (8, .take), (9, .take), (10, .take), (11, .take), (12, .take), (13, .take), (14, .take), (15, .take), (16, .take), (17, .take), (18, .take), (19, .run), (20, .take), (21, .take), (22, .take), (23, .take), (24, .run), (25, .take), (26, .take)] rfl ?_
  refine Sx.st_run hT rfl rfl rfl rfl (Sx.y_loadS hT rfl Try.underlying37 Try.ti37 rfl ((H.blk 2 rfl).seg (k := 4) rfl) (by rfl)) ?_
  clear hT; intro a hT
  refine Sx.st_call hT rfl rfl rfl rfl rfl Try.can29 rfl (May4_calls r hw _) ?_
  rintro _ w4 ⟨rfl, E⟩
  refine ⟨_, rfl, ?_⟩
  clear hT; intro a hT
  replace H := H.pure E; clear E
  refine Sx.st_take hT rfl rfl rfl rfl (Sx.x_not hT rfl rfl) ?_
  clear hT; intro a hT
  refine Sx.st_take hT rfl rfl rfl rfl (Sx.x_move hT rfl rfl) ?_
  clear hT; intro a hT
  -- guard (1, 3)
  refine Sx.Sl.two hT 13 rfl (fun hc4 hT => ?_) (fun hc4 hT => ?_)
  · try simp only [decide_eq_true_eq, decide_eq_false_iff_not, Bool.not_eq_true', Bool.not_eq_false', Bool.not_eq_true, Bool.not_eq_false, Bool.and_eq_true, Bool.or_eq_false_iff, beq_iff_eq, bne_iff_ne, Int.not_lt, Int.not_le, ne_eq] at hc4
    refine Sx.st_skip hT rfl rfl rfl rfl ?_
    clear hT; intro a hT
    refine Sx.st_runskip hT rfl rfl rfl rfl ?_
    clear hT; intro a hT
    refine Sx.st_skip hT rfl rfl rfl rfl ?_
    clear hT; intro a hT
    refine Sx.st_take hT rfl rfl rfl rfl (Sx.x_pick_t hT rfl rfl rfl) ?_
    clear hT; intro a hT
    refine Sx.st_take hT rfl rfl rfl rfl (Sx.x_move hT rfl rfl) ?_
    clear hT; intro a hT
    refine Sx.st_skip hT rfl rfl rfl rfl ?_
    clear hT; intro a hT
    refine Sx.st_skip hT rfl rfl rfl rfl ?_
    clear hT; intro a hT
    refine Sx.st_take hT rfl rfl rfl rfl (Sx.x_pick_t hT rfl rfl rfl) ?_
    clear hT; intro a hT
    refine Sx.st_take hT rfl rfl rfl rfl (Sx.x_move hT rfl rfl) ?_
    clear hT; intro a hT
    refine Sx.st_skip hT rfl rfl rfl rfl ?_
    clear hT; intro a hT
    refine Sx.st_skip hT rfl rfl rfl rfl ?_
    clear hT; intro a hT
    refine Sx.st_take hT rfl rfl rfl rfl (Sx.x_pick_t hT rfl rfl rfl) ?_
    clear hT; intro a hT
    refine Sx.st_take hT rfl rfl rfl rfl (Sx.x_move hT rfl rfl) ?_
    clear hT; intro a hT
    refine Sx.st_skip hT rfl rfl rfl rfl ?_
    clear hT; intro a hT
    refine Sx.st_skip hT rfl rfl rfl rfl ?_
    clear hT; intro a hT
    refine Sx.st_runskip hT rfl rfl rfl rfl ?_
    clear hT; intro a hT
    refine Sx.st_skip hT rfl rfl rfl rfl ?_
    clear hT; intro a hT
    refine Sx.st_take hT rfl rfl rfl rfl (Sx.x_pick_t hT rfl rfl rfl) ?_
    clear hT; intro a hT
    refine Sx.st_take hT rfl rfl rfl rfl (Sx.x_move hT rfl rfl) ?_
    clear hT; intro a hT
    refine Sx.st_skip hT rfl rfl rfl rfl ?_
    clear hT; intro a hT
    refine Sx.st_runskip hT rfl rfl rfl rfl ?_
    clear hT; intro a hT
    refine Sx.st_skip hT rfl rfl rfl rfl ?_
    clear hT; intro a hT
    refine Sx.st_take hT rfl rfl rfl rfl (Sx.x_pick_t hT rfl rfl rfl) ?_
    clear hT; intro a hT
    replace hT := hT.keep [36, 8, 7, 6, 3, 0, 1, 2] rfl
    refine Sx.ser_nil ?_
    refine Sx.then_normal (hK3 _ _ ?_)
    clear hK3
    refine Sx.wp_if hT rfl (fun _ => ?_) (fun h => by cases h)
    refine wp_seq_k fun K5 hK5 => ?_
    -- region 2 (ref.go:124)
    refine Sx.wp_text [(0, .take), (1, .take), (2, .run), (3, .run), (4, .take)] rfl ?_
    refine Sx.st_take hT rfl rfl rfl rfl (Sx.x_bld hT rfl Try.bld37 rfl rfl) ?_
    clear hT; intro a hT
    refine Sx.st_take hT rfl rfl rfl rfl (Sx.x_bld hT rfl Try.bld37 rfl rfl) ?_
    clear hT; intro a hT
    refine Sx.st_act hT rfl rfl rfl (Sx.y_storeS hT rfl Try.ti37 rfl rfl rfl rfl rfl (H.blk 1 rfl) rfl) ?_
    rintro w5 ⟨hb, E, _⟩
    replace H := H.setB 1 rfl hb E rfl; clear hb E
    refine Sx.st_act hT rfl rfl rfl (Sx.y_storeS hT rfl Try.ti37 rfl rfl rfl rfl rfl (H.blk 0 rfl) rfl) ?_
    rintro w6 ⟨hb, E, _⟩
    replace H := H.setB 0 rfl hb E rfl; clear hb E
    refine Sx.st_take hT rfl rfl rfl rfl (Sx.x_assign hT rfl rfl) ?_
    clear hT; intro a hT
    replace hT := hT.keep [8, 36, 7, 6, 3, 0, 1, 2] rfl
    refine Sx.ser_nil ?_
    refine Sx.then_normal (hK5 _ _ ?_)
    clear hK5
    refine wp_ret ?_
    refine Sx.then_ret ?_
    clear hK2
    refine Sx.done3 (fn := Try.f11) hT rfl (.cell (hT.get 6 _ rfl) (Sx.run_resS Try.underlying37 Try.ti37 ((H.blk 1 rfl).seg (k := 4) rfl) (by rfl))) (.cell (hT.get 7 _ rfl) (Sx.run_resS Try.underlying37 Try.ti37 ((H.blk 0 rfl).seg (k := 4) rfl) (by rfl))) (.tmp (hT.get 8 _ rfl)) ?_
    exact ⟨_, rfl, by decide, H.ext⟩
  · try simp only [decide_eq_true_eq, decide_eq_false_iff_not, Bool.not_eq_true', Bool.not_eq_false', Bool.not_eq_true, Bool.not_eq_false, Bool.and_eq_true, Bool.or_eq_false_iff, beq_iff_eq, bne_iff_ne, Int.not_lt, Int.not_le, ne_eq] at hc4
    refine Sx.st_take hT rfl rfl rfl rfl (Sx.x_fieldAddr hT rfl Try.fa37_1 rfl) ?_
    clear hT; intro a hT
    refine Sx.st_run hT rfl rfl rfl rfl (Sx.x_load1 hT rfl Try.fl3 rfl ((H.blk 2 rfl).nth rfl)) ?_
    clear hT; intro a hT
    refine Sx.st_take hT rfl rfl rfl rfl ((fun w => Sx.x_eq w hT rfl rfl rfl)) ?_
    clear hT; intro a hT
    refine Sx.st_take hT rfl rfl rfl rfl (Sx.x_pick_f hT rfl rfl rfl) ?_
    clear hT; intro a hT
    refine Sx.st_take hT rfl rfl rfl rfl (Sx.x_move hT rfl rfl) ?_
    clear hT; intro a hT
    -- guard (1, 8)
    refine Sx.Sl.two hT 18 rfl (fun hc6 hT => ?_) (fun hc6 hT => ?_)
    · try simp only [decide_eq_true_eq, decide_eq_false_iff_not, Bool.not_eq_true', Bool.not_eq_false', Bool.not_eq_true, Bool.not_eq_false, Bool.and_eq_true, Bool.or_eq_false_iff, beq_iff_eq, bne_iff_ne, Int.not_lt, Int.not_le, ne_eq] at hc6
      refine Sx.st_skip hT rfl rfl rfl rfl ?_
      clear hT; intro a hT
      refine Sx.st_skip hT rfl rfl rfl rfl ?_
      clear hT; intro a hT
      refine Sx.st_take hT rfl rfl rfl rfl (Sx.x_pick_t hT rfl rfl rfl) ?_
      clear hT; intro a hT
      refine Sx.st_take hT rfl rfl rfl rfl (Sx.x_move hT rfl rfl) ?_
      clear hT; intro a hT
      refine Sx.st_skip hT rfl rfl rfl rfl ?_
      clear hT; intro a hT
      refine Sx.st_skip hT rfl rfl rfl rfl ?_
      clear hT; intro a hT
      refine Sx.st_take hT rfl rfl rfl rfl (Sx.x_pick_t hT rfl rfl rfl) ?_
      clear hT; intro a hT
      refine Sx.st_take hT rfl rfl rfl rfl (Sx.x_move hT rfl rfl) ?_
      clear hT; intro a hT
      refine Sx.st_skip hT rfl rfl rfl rfl ?_
      clear hT; intro a hT
      refine Sx.st_skip hT rfl rfl rfl rfl ?_
      clear hT; intro a hT
      refine Sx.st_runskip hT rfl rfl rfl rfl ?_
      clear hT; intro a hT
      refine Sx.st_skip hT rfl rfl rfl rfl ?_
      clear hT; intro a hT
      refine Sx.st_take hT rfl rfl rfl rfl (Sx.x_pick_t hT rfl rfl rfl) ?_
      clear hT; intro a hT
      refine Sx.st_take hT rfl rfl rfl rfl (Sx.x_move hT rfl rfl) ?_
      clear hT; intro a hT
      refine Sx.st_skip hT rfl rfl rfl rfl ?_
      clear hT; intro a hT
      refine Sx.st_runskip hT rfl rfl rfl rfl ?_
      clear hT; intro a hT
      refine Sx.st_skip hT rfl rfl rfl rfl ?_
      clear hT; intro a hT
      refine Sx.st_take hT rfl rfl rfl rfl (Sx.x_pick_t hT rfl rfl rfl) ?_
      clear hT; intro a hT
      replace hT := hT.keep [36, 8, 7, 6, 3, 0, 1, 2] rfl
      refine Sx.ser_nil ?_
      refine Sx.then_normal (hK3 _ _ ?_)
      clear hK3
      refine Sx.wp_if hT rfl (fun _ => ?_) (fun h => by cases h)
      refine wp_seq_k fun K7 hK7 => ?_
      -- region 2 (ref.go:124)
      refine Sx.wp_text [(0, .take), (1, .take), (2, .run), (3, .run), (4, .take)] rfl ?_
      refine Sx.st_take hT rfl rfl rfl rfl (Sx.x_bld hT rfl Try.bld37 rfl rfl) ?_
      clear hT; intro a hT
      refine Sx.st_take hT rfl rfl rfl rfl (Sx.x_bld hT rfl Try.bld37 rfl rfl) ?_
      clear hT; intro a hT
      refine Sx.st_act hT rfl rfl rfl (Sx.y_storeS hT rfl Try.ti37 rfl rfl rfl rfl rfl (H.blk 1 rfl) rfl) ?_
      rintro w7 ⟨hb, E, _⟩
      replace H := H.setB 1 rfl hb E rfl; clear hb E
      refine Sx.st_act hT rfl rfl rfl (Sx.y_storeS hT rfl Try.ti37 rfl rfl rfl rfl rfl (H.blk 0 rfl) rfl) ?_
      rintro w8 ⟨hb, E, _⟩
      replace H := H.setB 0 rfl hb E rfl; clear hb E
      refine Sx.st_take hT rfl rfl rfl rfl (Sx.x_assign hT rfl rfl) ?_
      clear hT; intro a hT
      replace hT := hT.keep [8, 36, 7, 6, 3, 0, 1, 2] rfl
      refine Sx.ser_nil ?_
      refine Sx.then_normal (hK7 _ _ ?_)
      clear hK7
      refine wp_ret ?_
      refine Sx.then_ret ?_
      clear hK2
      refine Sx.done3 (fn := Try.f11) hT rfl (.cell (hT.get 6 _ rfl) (Sx.run_resS Try.underlying37 Try.ti37 ((H.blk 1 rfl).seg (k := 4) rfl) (by rfl))) (.cell (hT.get 7 _ rfl) (Sx.run_resS Try.underlying37 Try.ti37 ((H.blk 0 rfl).seg (k := 4) rfl) (by rfl))) (.tmp (hT.get 8 _ rfl)) ?_
      exact ⟨_, rfl, by decide, H.ext⟩
    · try simp only [decide_eq_true_eq, decide_eq_false_iff_not, Bool.not_eq_true', Bool.not_eq_false', Bool.not_eq_true, Bool.not_eq_false, Bool.and_eq_true, Bool.or_eq_false_iff, beq_iff_eq, bne_iff_ne, Int.not_lt, Int.not_le, ne_eq] at hc6
      refine Sx.st_take hT rfl rfl rfl rfl (Sx.x_move hT rfl rfl) ?_
      clear hT; intro a hT
      refine Sx.st_take hT rfl rfl rfl rfl ((fun w => Sx.x_lt w hT rfl rfl rfl)) ?_
      clear hT; intro a hT
      refine Sx.st_take hT rfl rfl rfl rfl (Sx.x_pick_f hT rfl rfl rfl) ?_
      clear hT; intro a hT
      refine Sx.st_take hT rfl rfl rfl rfl (Sx.x_move hT rfl rfl) ?_
      clear hT; intro a hT
      -- guard (1, 12)
      refine Sx.Sl.two hT 22 rfl (fun hc8 hT => ?_) (fun hc8 hT => ?_)
      · try simp only [decide_eq_true_eq, decide_eq_false_iff_not, Bool.not_eq_true', Bool.not_eq_false', Bool.not_eq_true, Bool.not_eq_false, Bool.and_eq_true, Bool.or_eq_false_iff, beq_iff_eq, bne_iff_ne, Int.not_lt, Int.not_le, ne_eq] at hc8
        refine Sx.st_skip hT rfl rfl rfl rfl ?_
        clear hT; intro a hT
        refine Sx.st_skip hT rfl rfl rfl rfl ?_
        clear hT; intro a hT
        refine Sx.st_take hT rfl rfl rfl rfl (Sx.x_pick_t hT rfl rfl rfl) ?_
        clear hT; intro a hT
        refine Sx.st_take hT rfl rfl rfl rfl (Sx.x_move hT rfl rfl) ?_
        clear hT; intro a hT
        refine Sx.st_skip hT rfl rfl rfl rfl ?_
        clear hT; intro a hT
        refine Sx.st_skip hT rfl rfl rfl rfl ?_
        clear hT; intro a hT
        refine Sx.st_runskip hT rfl rfl rfl rfl ?_
        clear hT; intro a hT
        refine Sx.st_skip hT rfl rfl rfl rfl ?_
        clear hT; intro a hT
        refine Sx.st_take hT rfl rfl rfl rfl (Sx.x_pick_t hT rfl rfl rfl) ?_
        clear hT; intro a hT
        refine Sx.st_take hT rfl rfl rfl rfl (Sx.x_move hT rfl rfl) ?_
        clear hT; intro a hT
        refine Sx.st_skip hT rfl rfl rfl rfl ?_
        clear hT; intro a hT
        refine Sx.st_runskip hT rfl rfl rfl rfl ?_
        clear hT; intro a hT
        refine Sx.st_skip hT rfl rfl rfl rfl ?_
        clear hT; intro a hT
        refine Sx.st_take hT rfl rfl rfl rfl (Sx.x_pick_t hT rfl rfl rfl) ?_
        clear hT; intro a hT
        replace hT := hT.keep [36, 8, 7, 6, 3, 0, 1, 2] rfl
        refine Sx.ser_nil ?_
        refine Sx.then_normal (hK3 _ _ ?_)
        clear hK3
        refine Sx.wp_if hT rfl (fun _ => ?_) (fun h => by cases h)
        refine wp_seq_k fun K9 hK9 => ?_
        -- region 2 (ref.go:124)
        refine Sx.wp_text [(0, .take), (1, .take), (2, .run), (3, .run), (4, .take)] rfl ?_
        refine Sx.st_take hT rfl rfl rfl rfl (Sx.x_bld hT rfl Try.bld37 rfl rfl) ?_
        clear hT; intro a hT
        refine Sx.st_take hT rfl rfl rfl rfl (Sx.x_bld hT rfl Try.bld37 rfl rfl) ?_
        clear hT; intro a hT
        refine Sx.st_act hT rfl rfl rfl (Sx.y_storeS hT rfl Try.ti37 rfl rfl rfl rfl rfl (H.blk 1 rfl) rfl) ?_
        rintro w9 ⟨hb, E, _⟩
        replace H := H.setB 1 rfl hb E rfl; clear hb E
        refine Sx.st_act hT rfl rfl rfl (Sx.y_storeS hT rfl Try.ti37 rfl rfl rfl rfl rfl (H.blk 0 rfl) rfl) ?_
        rintro w10 ⟨hb, E, _⟩
        replace H := H.setB 0 rfl hb E rfl; clear hb E
        refine Sx.st_take hT rfl rfl rfl rfl (Sx.x_assign hT rfl rfl) ?_
        clear hT; intro a hT
        replace hT := hT.keep [8, 36, 7, 6, 3, 0, 1, 2] rfl
        refine Sx.ser_nil ?_
        refine Sx.then_normal (hK9 _ _ ?_)
        clear hK9
        refine wp_ret ?_
        refine Sx.then_ret ?_
        clear hK2
        refine Sx.done3 (fn := Try.f11) hT rfl (.cell (hT.get 6 _ rfl) (Sx.run_resS Try.underlying37 Try.ti37 ((H.blk 1 rfl).seg (k := 4) rfl) (by rfl))) (.cell (hT.get 7 _ rfl) (Sx.run_resS Try.underlying37 Try.ti37 ((H.blk 0 rfl).seg (k := 4) rfl) (by rfl))) (.tmp (hT.get 8 _ rfl)) ?_
        exact ⟨_, rfl, by decide, H.ext⟩
      · try simp only [decide_eq_true_eq, decide_eq_false_iff_not, Bool.not_eq_true', Bool.not_eq_false', Bool.not_eq_true, Bool.not_eq_false, Bool.and_eq_true, Bool.or_eq_false_iff, beq_iff_eq, bne_iff_ne, Int.not_lt, Int.not_le, ne_eq] at hc8
        refine Sx.st_take hT rfl rfl rfl rfl (Sx.x_move hT rfl rfl) ?_
        clear hT; intro a hT
        refine Sx.st_take hT rfl rfl rfl rfl ((fun w => Sx.x_gt w hT rfl rfl rfl)) ?_
        clear hT; intro a hT
        refine Sx.st_take hT rfl rfl rfl rfl (Sx.x_pick_f hT rfl rfl rfl) ?_
        clear hT; intro a hT
        refine Sx.st_take hT rfl rfl rfl rfl (Sx.x_move hT rfl rfl) ?_
        clear hT; intro a hT
        -- guard (1, 16)
        refine Sx.Sl.two hT 26 rfl (fun hc10 hT => ?_) (fun hc10 hT => ?_)
        · try simp only [decide_eq_true_eq, decide_eq_false_iff_not, Bool.not_eq_true', Bool.not_eq_false', Bool.not_eq_true, Bool.not_eq_false, Bool.and_eq_true, Bool.or_eq_false_iff, beq_iff_eq, bne_iff_ne, Int.not_lt, Int.not_le, ne_eq] at hc10
          refine Sx.st_skip hT rfl rfl rfl rfl ?_
          clear hT; intro a hT
          refine Sx.st_skip hT rfl rfl rfl rfl ?_
          clear hT; intro a hT
          refine Sx.st_runskip hT rfl rfl rfl rfl ?_
          clear hT; intro a hT
          refine Sx.st_skip hT rfl rfl rfl rfl ?_
          clear hT; intro a hT
          refine Sx.st_take hT rfl rfl rfl rfl (Sx.x_pick_t hT rfl rfl rfl) ?_
          clear hT; intro a hT
          refine Sx.st_take hT rfl rfl rfl rfl (Sx.x_move hT rfl rfl) ?_
          clear hT; intro a hT
          refine Sx.st_skip hT rfl rfl rfl rfl ?_
          clear hT; intro a hT
          refine Sx.st_runskip hT rfl rfl rfl rfl ?_
          clear hT; intro a hT
          refine Sx.st_skip hT rfl rfl rfl rfl ?_
          clear hT; intro a hT
          refine Sx.st_take hT rfl rfl rfl rfl (Sx.x_pick_t hT rfl rfl rfl) ?_
          clear hT; intro a hT
          replace hT := hT.keep [36, 8, 7, 6, 3, 0, 1, 2] rfl
          refine Sx.ser_nil ?_
          refine Sx.then_normal (hK3 _ _ ?_)
          clear hK3
          refine Sx.wp_if hT rfl (fun _ => ?_) (fun h => by cases h)
          refine wp_seq_k fun K11 hK11 => ?_
          -- region 2 (ref.go:124)
          refine Sx.wp_text [(0, .take), (1, .take), (2, .run), (3, .run), (4, .take)] rfl ?_
          refine Sx.st_take hT rfl rfl rfl rfl (Sx.x_bld hT rfl Try.bld37 rfl rfl) ?_
          clear hT; intro a hT
          refine Sx.st_take hT rfl rfl rfl rfl (Sx.x_bld hT rfl Try.bld37 rfl rfl) ?_
          clear hT; intro a hT
          refine Sx.st_act hT rfl rfl rfl (Sx.y_storeS hT rfl Try.ti37 rfl rfl rfl rfl rfl (H.blk 1 rfl) rfl) ?_
          rintro w11 ⟨hb, E, _⟩
          replace H := H.setB 1 rfl hb E rfl; clear hb E
          refine Sx.st_act hT rfl rfl rfl (Sx.y_storeS hT rfl Try.ti37 rfl rfl rfl rfl rfl (H.blk 0 rfl) rfl) ?_
          rintro w12 ⟨hb, E, _⟩
          replace H := H.setB 0 rfl hb E rfl; clear hb E
          refine Sx.st_take hT rfl rfl rfl rfl (Sx.x_assign hT rfl rfl) ?_
          clear hT; intro a hT
          replace hT := hT.keep [8, 36, 7, 6, 3, 0, 1, 2] rfl
          refine Sx.ser_nil ?_
          refine Sx.then_normal (hK11 _ _ ?_)
          clear hK11
          refine wp_ret ?_
          refine Sx.then_ret ?_
          clear hK2
          refine Sx.done3 (fn := Try.f11) hT rfl (.cell (hT.get 6 _ rfl) (Sx.run_resS Try.underlying37 Try.ti37 ((H.blk 1 rfl).seg (k := 4) rfl) (by rfl))) (.cell (hT.get 7 _ rfl) (Sx.run_resS Try.underlying37 Try.ti37 ((H.blk 0 rfl).seg (k := 4) rfl) (by rfl))) (.tmp (hT.get 8 _ rfl)) ?_
          exact ⟨_, rfl, by decide, H.ext⟩
        · try simp only [decide_eq_true_eq, decide_eq_false_iff_not, Bool.not_eq_true', Bool.not_eq_false', Bool.not_eq_true, Bool.not_eq_false, Bool.and_eq_true, Bool.or_eq_false_iff, beq_iff_eq, bne_iff_ne, Int.not_lt, Int.not_le, ne_eq] at hc10
          refine Sx.st_take hT rfl rfl rfl rfl (Sx.x_move hT rfl rfl) ?_
          clear hT; intro a hT
          refine Sx.st_take hT rfl rfl rfl rfl (Sx.x_fieldAddr hT rfl Try.fa37_0 rfl) ?_
          clear hT; intro a hT
          refine Sx.st_run hT rfl rfl rfl rfl (Sx.x_load1 hT rfl Try.fl3 rfl ((H.blk 2 rfl).nth rfl)) ?_
          clear hT; intro a hT
          refine Sx.st_take hT rfl rfl rfl rfl ((fun w => Sx.x_eq w hT rfl rfl rfl)) ?_
          clear hT; intro a hT
          refine Sx.st_take hT rfl rfl rfl rfl (Sx.x_pick_f hT rfl rfl rfl) ?_
          clear hT; intro a hT
          refine Sx.st_take hT rfl rfl rfl rfl (Sx.x_move hT rfl rfl) ?_
          clear hT; intro a hT
          -- guard (1, 22)
          refine Sx.Sl.two hT 32 rfl (fun hc12 hT => ?_) (fun hc12 hT => ?_)
          · try simp only [decide_eq_true_eq, decide_eq_false_iff_not, Bool.not_eq_true', Bool.not_eq_false', Bool.not_eq_true, Bool.not_eq_false, Bool.and_eq_true, Bool.or_eq_false_iff, beq_iff_eq, bne_iff_ne, Int.not_lt, Int.not_le, ne_eq] at hc12
            refine Sx.st_skip hT rfl rfl rfl rfl ?_
            clear hT; intro a hT
            refine Sx.st_runskip hT rfl rfl rfl rfl ?_
            clear hT; intro a hT
            refine Sx.st_skip hT rfl rfl rfl rfl ?_
            clear hT; intro a hT
            refine Sx.st_take hT rfl rfl rfl rfl (Sx.x_pick_t hT rfl rfl rfl) ?_
            clear hT; intro a hT
            replace hT := hT.keep [36, 8, 7, 6, 3, 0, 1, 2] rfl
            refine Sx.ser_nil ?_
            refine Sx.then_normal (hK3 _ _ ?_)
            clear hK3
            refine Sx.wp_if hT rfl (fun _ => ?_) (fun h => by cases h)
            refine wp_seq_k fun K13 hK13 => ?_
            -- region 2 (ref.go:124)
            refine Sx.wp_text [(0, .take), (1, .take), (2, .run), (3, .run), (4, .take)] rfl ?_
            refine Sx.st_take hT rfl rfl rfl rfl (Sx.x_bld hT rfl Try.bld37 rfl rfl) ?_
            clear hT; intro a hT
            refine Sx.st_take hT rfl rfl rfl rfl (Sx.x_bld hT rfl Try.bld37 rfl rfl) ?_
            clear hT; intro a hT
            refine Sx.st_act hT rfl rfl rfl (Sx.y_storeS hT rfl Try.ti37 rfl rfl rfl rfl rfl (H.blk 1 rfl) rfl) ?_
            rintro w13 ⟨hb, E, _⟩
            replace H := H.setB 1 rfl hb E rfl; clear hb E
            refine Sx.st_act hT rfl rfl rfl (Sx.y_storeS hT rfl Try.ti37 rfl rfl rfl rfl rfl (H.blk 0 rfl) rfl) ?_
            rintro w14 ⟨hb, E, _⟩
            replace H := H.setB 0 rfl hb E rfl; clear hb E
            refine Sx.st_take hT rfl rfl rfl rfl (Sx.x_assign hT rfl rfl) ?_
            clear hT; intro a hT
            replace hT := hT.keep [8, 36, 7, 6, 3, 0, 1, 2] rfl
            refine Sx.ser_nil ?_
            refine Sx.then_normal (hK13 _ _ ?_)
            clear hK13
            refine wp_ret ?_
            refine Sx.then_ret ?_
            clear hK2
            refine Sx.done3 (fn := Try.f11) hT rfl (.cell (hT.get 6 _ rfl) (Sx.run_resS Try.underlying37 Try.ti37 ((H.blk 1 rfl).seg (k := 4) rfl) (by rfl))) (.cell (hT.get 7 _ rfl) (Sx.run_resS Try.underlying37 Try.ti37 ((H.blk 0 rfl).seg (k := 4) rfl) (by rfl))) (.tmp (hT.get 8 _ rfl)) ?_
            exact ⟨_, rfl, by decide, H.ext⟩
          · try simp only [decide_eq_true_eq, decide_eq_false_iff_not, Bool.not_eq_true', Bool.not_eq_false', Bool.not_eq_true, Bool.not_eq_false, Bool.and_eq_true, Bool.or_eq_false_iff, beq_iff_eq, bne_iff_ne, Int.not_lt, Int.not_le, ne_eq] at hc12
            refine Sx.st_take hT rfl rfl rfl rfl (Sx.x_move hT rfl rfl) ?_
            clear hT; intro a hT
            refine Sx.st_call hT rfl rfl rfl rfl rfl Try.can30 rfl (is_calls _ _) ?_
            rintro _ w15 ⟨rfl, E⟩
            refine ⟨_, rfl, ?_⟩
            clear hT; intro a hT
            replace H := H.pure E; clear E
            refine Sx.st_take hT rfl rfl rfl rfl (Sx.x_not hT rfl rfl) ?_
            clear hT; intro a hT
            refine Sx.st_take hT rfl rfl rfl rfl (Sx.x_pick_f hT rfl rfl rfl) ?_
            clear hT; intro a hT
            replace hT := hT.keep [36, 8, 7, 6, 3, 0, 1, 2] rfl
            refine Sx.ser_nil ?_
            refine Sx.then_normal (hK3 _ _ ?_)
            clear hK3
            -- cond 0
            refine Sx.wp_if hT rfl (fun hc14 => ?_) (fun hc14 => ?_)
            · try simp only [decide_eq_true_eq, decide_eq_false_iff_not, Bool.not_eq_true', Bool.not_eq_false', Bool.not_eq_true, Bool.not_eq_false, Bool.and_eq_true, Bool.or_eq_false_iff, beq_iff_eq, bne_iff_ne, Int.not_lt, Int.not_le, ne_eq] at hc14
              refine wp_seq_k fun K15 hK15 => ?_
              -- region 2 (ref.go:124)
              refine Sx.wp_text [(0, .take), (1, .take), (2, .run), (3, .run), (4, .take)] rfl ?_
              refine Sx.st_take hT rfl rfl rfl rfl (Sx.x_bld hT rfl Try.bld37 rfl rfl) ?_
              clear hT; intro a hT
              refine Sx.st_take hT rfl rfl rfl rfl (Sx.x_bld hT rfl Try.bld37 rfl rfl) ?_
              clear hT; intro a hT
              refine Sx.st_act hT rfl rfl rfl (Sx.y_storeS hT rfl Try.ti37 rfl rfl rfl rfl rfl (H.blk 1 rfl) rfl) ?_
              rintro w16 ⟨hb, E, _⟩
              replace H := H.setB 1 rfl hb E rfl; clear hb E
              refine Sx.st_act hT rfl rfl rfl (Sx.y_storeS hT rfl Try.ti37 rfl rfl rfl rfl rfl (H.blk 0 rfl) rfl) ?_
              rintro w17 ⟨hb, E, _⟩
              replace H := H.setB 0 rfl hb E rfl; clear hb E
              refine Sx.st_take hT rfl rfl rfl rfl (Sx.x_assign hT rfl rfl) ?_
              clear hT; intro a hT
              replace hT := hT.keep [8, 36, 7, 6, 3, 0, 1, 2] rfl
              refine Sx.ser_nil ?_
              refine Sx.then_normal (hK15 _ _ ?_)
              clear hK15
              refine wp_ret ?_
              refine Sx.then_ret ?_
              clear hK2
              refine Sx.done3 (fn := Try.f11) hT rfl (.cell (hT.get 6 _ rfl) (Sx.run_resS Try.underlying37 Try.ti37 ((H.blk 1 rfl).seg (k := 4) rfl) (by rfl))) (.cell (hT.get 7 _ rfl) (Sx.run_resS Try.underlying37 Try.ti37 ((H.blk 0 rfl).seg (k := 4) rfl) (by rfl))) (.tmp (hT.get 8 _ rfl)) ?_
              exact ⟨_, rfl, by decide, H.ext⟩
            · try simp only [decide_eq_true_eq, decide_eq_false_iff_not, Bool.not_eq_true', Bool.not_eq_false', Bool.not_eq_true, Bool.not_eq_false, Bool.and_eq_true, Bool.or_eq_false_iff, beq_iff_eq, bne_iff_ne, Int.not_lt, Int.not_le, ne_eq] at hc14
              obtain ⟨o1, o2, o3, o4, o5, o6⟩ : mayR r = true ∧ r.epoch ≠ 9223372036854775807 ∧ 1 ≤ i ∧ i ≤ 12 ∧ i ≠ r.id ∧ isF x = true := by
                clear hT H ho
                simp_all <;> omega
              refine wp_skip ?_
              refine Sx.then_normal (hK2 _ _ ?_)
              clear hK2
              refine wp_seq_k fun K16 hK16 => ?_
              refine wp_seq_k fun K17 hK17 => ?_
              -- region 3 (ref.go:126)
              refine Sx.wp_text [(0, .take), (1, .take), (2, .run), (3, .take), (4, .take), (5, .take), (6, .take), (7, .run), (8, .take), (9, .take), (10, .take)] rfl ?_
              refine Sx.st_take hT rfl rfl rfl rfl (Sx.x_move hT rfl rfl) ?_
              clear hT; intro a hT
              refine Sx.st_take hT rfl rfl rfl rfl (Sx.x_fieldAddr hT rfl Try.fa37_2 rfl) ?_
              clear hT; intro a hT
              refine Sx.st_run hT rfl rfl rfl rfl (Sx.x_load1 hT rfl Try.fl35 rfl ((H.blk 2 rfl).nth rfl)) ?_
              clear hT; intro a hT
              refine Sx.st_take hT rfl rfl rfl rfl (Sx.x_fgt hT rfl rfl rfl) ?_
              clear hT; intro a hT
              refine Sx.st_take hT rfl rfl rfl rfl (Sx.x_move hT rfl rfl) ?_
              clear hT; intro a hT
              -- guard (3, 4)
              refine Sx.Sl.two hT 43 rfl (fun hc18 hT => ?_) (fun hc18 hT => ?_)
              · try simp only [decide_eq_true_eq, decide_eq_false_iff_not, Bool.not_eq_true', Bool.not_eq_false', Bool.not_eq_true, Bool.not_eq_false, Bool.and_eq_true, Bool.or_eq_false_iff, beq_iff_eq, bne_iff_ne, Int.not_lt, Int.not_le, ne_eq] at hc18
                refine Sx.st_take hT rfl rfl rfl rfl (Sx.x_move hT rfl rfl) ?_
                clear hT; intro a hT
                refine Sx.st_take hT rfl rfl rfl rfl (Sx.x_fieldAddr hT rfl Try.fa37_3 rfl) ?_
                clear hT; intro a hT
                refine Sx.st_run hT rfl rfl rfl rfl (Sx.x_load1 hT rfl Try.fl35 rfl ((H.blk 2 rfl).nth rfl)) ?_
                clear hT; intro a hT
                refine Sx.st_take hT rfl rfl rfl rfl (Sx.x_flt hT rfl rfl rfl) ?_
                clear hT; intro a hT
                refine Sx.st_take hT rfl rfl rfl rfl (Sx.x_pick_t hT rfl rfl rfl) ?_
                clear hT; intro a hT
                refine Sx.st_take hT rfl rfl rfl rfl (Sx.x_not hT rfl rfl) ?_
                clear hT; intro a hT
                replace hT := hT.keep [49, 36, 8, 7, 6, 3, 0, 1, 2] rfl
                refine Sx.ser_nil ?_
                refine Sx.then_normal (hK17 _ _ ?_)
                clear hK17
                -- cond 1
                refine Sx.wp_if hT rfl (fun hc19 => ?_) (fun hc19 => ?_)
                · try simp only [decide_eq_true_eq, decide_eq_false_iff_not, Bool.not_eq_true', Bool.not_eq_false', Bool.not_eq_true, Bool.not_eq_false, Bool.and_eq_true, Bool.or_eq_false_iff, beq_iff_eq, bne_iff_ne, Int.not_lt, Int.not_le, ne_eq] at hc19
                  refine wp_seq_k fun K20 hK20 => ?_
                  -- region 4 (ref.go:127)
                  refine Sx.wp_text [(0, .take), (1, .take), (2, .run), (3, .run), (4, .take)] rfl ?_
                  refine Sx.st_take hT rfl rfl rfl rfl (Sx.x_bld hT rfl Try.bld37 rfl rfl) ?_
                  clear hT; intro a hT
                  refine Sx.st_take hT rfl rfl rfl rfl (Sx.x_bld hT rfl Try.bld37 rfl rfl) ?_
                  clear hT; intro a hT
                  refine Sx.st_act hT rfl rfl rfl (Sx.y_storeS hT rfl Try.ti37 rfl rfl rfl rfl rfl (H.blk 1 rfl) rfl) ?_
                  rintro w18 ⟨hb, E, _⟩
                  replace H := H.setB 1 rfl hb E rfl; clear hb E
                  refine Sx.st_act hT rfl rfl rfl (Sx.y_storeS hT rfl Try.ti37 rfl rfl rfl rfl rfl (H.blk 0 rfl) rfl) ?_
                  rintro w19 ⟨hb, E, _⟩
                  replace H := H.setB 0 rfl hb E rfl; clear hb E
                  refine Sx.st_take hT rfl rfl rfl rfl (Sx.x_assign hT rfl rfl) ?_
                  clear hT; intro a hT
                  replace hT := hT.keep [8, 49, 36, 7, 6, 3, 0, 1, 2] rfl
                  refine Sx.ser_nil ?_
                  refine Sx.then_normal (hK20 _ _ ?_)
                  clear hK20
                  refine wp_ret ?_
                  refine Sx.then_ret ?_
                  clear hK16
                  refine Sx.done3 (fn := Try.f11) hT rfl (.cell (hT.get 6 _ rfl) (Sx.run_resS Try.underlying37 Try.ti37 ((H.blk 1 rfl).seg (k := 4) rfl) (by rfl))) (.cell (hT.get 7 _ rfl) (Sx.run_resS Try.underlying37 Try.ti37 ((H.blk 0 rfl).seg (k := 4) rfl) (by rfl))) (.tmp (hT.get 8 _ rfl)) ?_
                  exact ⟨_, rfl, by decide, H.ext⟩
                · exfalso
                  try simp only [decide_eq_true_eq, decide_eq_false_iff_not, Bool.not_eq_true', Bool.not_eq_false', Bool.not_eq_true, Bool.not_eq_false, Bool.and_eq_true, Bool.or_eq_false_iff, beq_iff_eq, bne_iff_ne, Int.not_lt, Int.not_le, ne_eq] at hc19
                  exact ho ⟨o1, o2, o3, o4, o5, o6, by clear hT H ho; simp_all, by clear hT H ho; simp_all⟩
              · try simp only [decide_eq_true_eq, decide_eq_false_iff_not, Bool.not_eq_true', Bool.not_eq_false', Bool.not_eq_true, Bool.not_eq_false, Bool.and_eq_true, Bool.or_eq_false_iff, beq_iff_eq, bne_iff_ne, Int.not_lt, Int.not_le, ne_eq] at hc18
                refine Sx.st_skip hT rfl rfl rfl rfl ?_
                clear hT; intro a hT
                refine Sx.st_skip hT rfl rfl rfl rfl ?_
                clear hT; intro a hT
                refine Sx.st_runskip hT rfl rfl rfl rfl ?_
                clear hT; intro a hT
                refine Sx.st_skip hT rfl rfl rfl rfl ?_
                clear hT; intro a hT
                refine Sx.st_take hT rfl rfl rfl rfl (Sx.x_pick_f hT rfl rfl rfl) ?_
                clear hT; intro a hT
                refine Sx.st_take hT rfl rfl rfl rfl (Sx.x_not hT rfl rfl) ?_
                clear hT; intro a hT
                replace hT := hT.keep [49, 36, 8, 7, 6, 3, 0, 1, 2] rfl
                refine Sx.ser_nil ?_
                refine Sx.then_normal (hK17 _ _ ?_)
                clear hK17
                refine Sx.wp_if hT rfl (fun _ => ?_) (fun h => by cases h)
                refine wp_seq_k fun K21 hK21 => ?_
                -- region 4 (ref.go:127)
                refine Sx.wp_text [(0, .take), (1, .take), (2, .run), (3, .run), (4, .take)] rfl ?_
                refine Sx.st_take hT rfl rfl rfl rfl (Sx.x_bld hT rfl Try.bld37 rfl rfl) ?_
                clear hT; intro a hT
                refine Sx.st_take hT rfl rfl rfl rfl (Sx.x_bld hT rfl Try.bld37 rfl rfl) ?_
                clear hT; intro a hT
                refine Sx.st_act hT rfl rfl rfl (Sx.y_storeS hT rfl Try.ti37 rfl rfl rfl rfl rfl (H.blk 1 rfl) rfl) ?_
                rintro w20 ⟨hb, E, _⟩
                replace H := H.setB 1 rfl hb E rfl; clear hb E
                refine Sx.st_act hT rfl rfl rfl (Sx.y_storeS hT rfl Try.ti37 rfl rfl rfl rfl rfl (H.blk 0 rfl) rfl) ?_
                rintro w21 ⟨hb, E, _⟩
                replace H := H.setB 0 rfl hb E rfl; clear hb E
                refine Sx.st_take hT rfl rfl rfl rfl (Sx.x_assign hT rfl rfl) ?_
                clear hT; intro a hT
                replace hT := hT.keep [8, 49, 36, 7, 6, 3, 0, 1, 2] rfl
                refine Sx.ser_nil ?_
                refine Sx.then_normal (hK21 _ _ ?_)
                clear hK21
                refine wp_ret ?_
                refine Sx.then_ret ?_
                clear hK16
                refine Sx.done3 (fn := Try.f11) hT rfl (.cell (hT.get 6 _ rfl) (Sx.run_resS Try.underlying37 Try.ti37 ((H.blk 1 rfl).seg (k := 4) rfl) (by rfl))) (.cell (hT.get 7 _ rfl) (Sx.run_resS Try.underlying37 Try.ti37 ((H.blk 0 rfl).seg (k := 4) rfl) (by rfl))) (.tmp (hT.get 8 _ rfl)) ?_
                exact ⟨_, rfl, by decide, H.ext⟩

end Go.Proofs.Ytakohabmcgponaa
