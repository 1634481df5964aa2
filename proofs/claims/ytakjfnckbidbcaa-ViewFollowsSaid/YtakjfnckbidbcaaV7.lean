/- Walks: groups held against others. -/
import Derived.Test.YtakjfnckbidbcaaV5
set_option linter.unusedSimpArgs false
set_option linter.unusedVariables false
namespace Go.Proofs.Ytakjfnckbidbcaa
open Sx
theorem Try.ti77 : Sx.TI Try.prog 77 (.map none) 1 8 := .mk' (by kernel_rfl)
theorem Try.ti79 : Sx.TI Try.prog 79 (.agg #[.int .i64 0, .map none, .int .i64 0, .int .i64 0, .int .i64 0]) 5 40 := .mk' (by kernel_rfl)
theorem Try.fa79_2 : Sx.FA Try.prog 79 2 2 := ⟨_, _, _, _, _, Try.underlying79, rfl, rfl, Try.ti35, by decide⟩
theorem Try.bld79 : Sx.Bld Try.prog 79 #[.int .i64 0, .map none, .int .i64 0, .int .i64 0, .int .i64 0] #[(0, 1), (1, 1), (2, 3)] := ⟨_, _, _, _, Try.ti79, rfl, Try.underlying79, fun w => by simp [Sx.placesOf, Sx.run_sizeOf Try.ti3, Sx.run_sizeOf Try.ti35, Sx.run_sizeOf Try.ti77]⟩
theorem Try.can8 : Sx.Can Try.prog 8 := ⟨_, Try.func8, by kernel_rfl, rfl⟩
theorem Try.can16 : Sx.Can Try.prog 16 := ⟨_, Try.func16, by kernel_rfl, rfl⟩
theorem Try.can17 : Sx.Can Try.prog 17 := ⟨_, Try.func17, by kernel_rfl, rfl⟩
theorem Try.can19 : Sx.Can Try.prog 19 := ⟨_, Try.func19, by kernel_rfl, rfl⟩
theorem Try.can23 : Sx.Can Try.prog 23 := ⟨_, Try.func23, by kernel_rfl, rfl⟩
theorem g6_eq (x y : G6) : decide (x = y) = (decide (x.name = y.name) && decide (x.keys = y.keys) && decide (x.nums = y.nums) && decide (y.sum = x.sum) && decide (y.least = x.least) && decide (y.most = x.most)) := by
  obtain ⟨a1, a2, a3, a4, a5, a6⟩ := x
  obtain ⟨c1, c2, c3, c4, c5, c6⟩ := y
  rw [Bool.eq_iff_iff]
  simp only [G6.mk.injEq, decide_eq_true_eq, Bool.and_eq_true]
  exact ⟨fun ⟨h1, h2, h3, h4, h5, h6⟩ => ⟨⟨⟨⟨⟨h1, h2⟩, h3⟩, h4.symm⟩, h5.symm⟩, h6.symm⟩, fun ⟨⟨⟨⟨⟨h1, h2⟩, h3⟩, h4⟩, h5⟩, h6⟩ => ⟨h1, h2, h3, h4.symm, h5.symm, h6.symm⟩⟩
theorem tk_x {l : List G6} {k : Nat} {o : G6} (h : l[k]? = some o) : (l.take k).flatMap G6.cells ++ [.string ⟨o.name.toArray⟩, .int .i64 o.keys, .int .i64 o.nums, .float .f64 o.sum, .float .f64 o.least, .float .f64 o.most] = (l.take (k + 1)).flatMap G6.cells := by
  rw [take_app h, List.flatMap_append]; simp [G6.cells]

theorem one_calls (x y : G6) (w : World) : Calls Try.prog 19 #[.agg #[.string ⟨x.name.toArray⟩, .int .i64 x.keys, .int .i64 x.nums, .float .f64 x.sum, .float .f64 x.least, .float .f64 x.most], .agg #[.string ⟨y.name.toArray⟩, .int .i64 y.keys, .int .i64 y.nums, .float .f64 y.sum, .float .f64 y.least, .float .f64 y.most]] w fun e w' => e = .returned (.bool (decide (x = y))) ∧ Ext No w w' := by
  refine Sx.calls_into Try.func19 rfl Try.ntmps19 rfl fun a hT => ?_
  replace hT := hT.keep [0, 1] rfl
  have H : Sx.Hp w (Sx.No) w [] := Sx.Hp.start _ _
  refine wp_seq_k fun K1 hK1 => ?_
  -- region 0 (law.go:38)
  refine Sx.wp_text [(0, .run), (1, .run), (2, .take)] rfl ?_
  refine Sx.st_eff hT rfl rfl rfl rfl (Sx.y_box hT rfl rfl rfl _) ?_
  clear hT; rintro _ w1 ⟨b1, rfl, N⟩ a hT
  replace H := H.new N; clear N
  refine Sx.st_eff hT rfl rfl rfl rfl (Sx.y_box hT rfl rfl rfl _) ?_
  clear hT; rintro _ w2 ⟨b2, rfl, N⟩ a hT
  replace H := H.new N; clear N
  refine Sx.st_take hT rfl rfl rfl rfl (Sx.x_assign hT rfl rfl) ?_
  clear hT; intro a hT
  replace hT := hT.keep [4, 3, 2, 0, 1] rfl
  refine Sx.ser_nil ?_
  refine Sx.then_normal (hK1 _ _ ?_)
  clear hK1
  refine wp_seq_k fun K2 hK2 => ?_
  -- region 1 (law.go:39)
  refine Sx.wp_text [(0, .take), (1, .run), (2, .take), (3, .run), (4, .take), (5, .take), (6, .take), (7, .run), (8, .take), (9, .run), (10, .take), (11, .take), (12, .take), (13, .take), (14, .run), (15, .take), (16, .run), (17, .take), (18, .take), (19, .take), (20, .take), (21, .run), (22, .take), (23, .run), (24, .run), (25, .take), (26, .take), (27, .take), (28, .run), (29, .take), (30, .run), (31, .run), (32, .take), (33, .take), (34, .take), (35, .run), (36, .take), (37, .run), (38, .run), (39, .take), (40, .take)] rfl ?_
  refine Sx.st_take hT rfl rfl rfl rfl (Sx.x_fieldAddr hT rfl Try.fa56_0 rfl) ?_
  clear hT; intro a hT
  refine Sx.st_run hT rfl rfl rfl rfl (Sx.x_load1 hT rfl Try.fl9 rfl ((H.blk 1 rfl).nth rfl)) ?_
  clear hT; intro a hT
  refine Sx.st_take hT rfl rfl rfl rfl (Sx.x_fieldAddr hT rfl Try.fa59_0 rfl) ?_
  clear hT; intro a hT
  refine Sx.st_run hT rfl rfl rfl rfl (Sx.x_load1 hT rfl Try.fl9 rfl ((H.blk 0 rfl).nth rfl)) ?_
  clear hT; intro a hT
  refine Sx.st_take hT rfl rfl rfl rfl ((fun w => Sx.x_streq w hT rfl rfl rfl)) ?_
  clear hT; intro a hT
  refine Sx.st_take hT rfl rfl rfl rfl (Sx.x_move hT rfl rfl) ?_
  clear hT; intro a hT
  -- guard (1, 5)
  refine Sx.Sl.two hT 10 rfl (fun hc3 hT => ?_) (fun hc3 hT => ?_)
  · try simp only [decide_eq_true_eq, decide_eq_false_iff_not, Bool.not_eq_true', Bool.not_eq_false', Bool.not_eq_true, Bool.not_eq_false, Bool.and_eq_true, Bool.or_eq_false_iff, beq_iff_eq, bne_iff_ne, Int.not_lt, Int.not_le, ne_eq] at hc3
    refine Sx.st_take hT rfl rfl rfl rfl (Sx.x_fieldAddr hT rfl Try.fa56_1 rfl) ?_
    clear hT; intro a hT
    refine Sx.st_run hT rfl rfl rfl rfl (Sx.x_load1 hT rfl Try.fl3 rfl ((H.blk 1 rfl).nth rfl)) ?_
    clear hT; intro a hT
    refine Sx.st_take hT rfl rfl rfl rfl (Sx.x_fieldAddr hT rfl Try.fa59_1 rfl) ?_
    clear hT; intro a hT
    refine Sx.st_run hT rfl rfl rfl rfl (Sx.x_load1 hT rfl Try.fl3 rfl ((H.blk 0 rfl).nth rfl)) ?_
    clear hT; intro a hT
    refine Sx.st_take hT rfl rfl rfl rfl ((fun w => Sx.x_eq w hT rfl rfl rfl)) ?_
    clear hT; intro a hT
    refine Sx.st_take hT rfl rfl rfl rfl (Sx.x_pick_t hT rfl rfl rfl) ?_
    clear hT; intro a hT
    refine Sx.st_take hT rfl rfl rfl rfl (Sx.x_move hT rfl rfl) ?_
    clear hT; intro a hT
    -- guard (1, 12)
    refine Sx.Sl.two hT 17 rfl (fun hc4 hT => ?_) (fun hc4 hT => ?_)
    · try simp only [decide_eq_true_eq, decide_eq_false_iff_not, Bool.not_eq_true', Bool.not_eq_false', Bool.not_eq_true, Bool.not_eq_false, Bool.and_eq_true, Bool.or_eq_false_iff, beq_iff_eq, bne_iff_ne, Int.not_lt, Int.not_le, ne_eq] at hc4
      refine Sx.st_take hT rfl rfl rfl rfl (Sx.x_fieldAddr hT rfl Try.fa56_2 rfl) ?_
      clear hT; intro a hT
      refine Sx.st_run hT rfl rfl rfl rfl (Sx.x_load1 hT rfl Try.fl3 rfl ((H.blk 1 rfl).nth rfl)) ?_
      clear hT; intro a hT
      refine Sx.st_take hT rfl rfl rfl rfl (Sx.x_fieldAddr hT rfl Try.fa59_2 rfl) ?_
      clear hT; intro a hT
      refine Sx.st_run hT rfl rfl rfl rfl (Sx.x_load1 hT rfl Try.fl3 rfl ((H.blk 0 rfl).nth rfl)) ?_
      clear hT; intro a hT
      refine Sx.st_take hT rfl rfl rfl rfl ((fun w => Sx.x_eq w hT rfl rfl rfl)) ?_
      clear hT; intro a hT
      refine Sx.st_take hT rfl rfl rfl rfl (Sx.x_pick_t hT rfl rfl rfl) ?_
      clear hT; intro a hT
      refine Sx.st_take hT rfl rfl rfl rfl (Sx.x_move hT rfl rfl) ?_
      clear hT; intro a hT
      -- guard (1, 19)
      refine Sx.Sl.two hT 24 rfl (fun hc5 hT => ?_) (fun hc5 hT => ?_)
      · try simp only [decide_eq_true_eq, decide_eq_false_iff_not, Bool.not_eq_true', Bool.not_eq_false', Bool.not_eq_true, Bool.not_eq_false, Bool.and_eq_true, Bool.or_eq_false_iff, beq_iff_eq, bne_iff_ne, Int.not_lt, Int.not_le, ne_eq] at hc5
        refine Sx.st_take hT rfl rfl rfl rfl (Sx.x_fieldAddr hT rfl Try.fa56_3 rfl) ?_
        clear hT; intro a hT
        refine Sx.st_run hT rfl rfl rfl rfl (Sx.x_load1 hT rfl Try.fl46 rfl ((H.blk 1 rfl).nth rfl)) ?_
        clear hT; intro a hT
        refine Sx.st_take hT rfl rfl rfl rfl (Sx.x_fieldAddr hT rfl Try.fa59_3 rfl) ?_
        clear hT; intro a hT
        refine Sx.st_run hT rfl rfl rfl rfl (Sx.x_load1 hT rfl Try.fl46 rfl ((H.blk 0 rfl).nth rfl)) ?_
        clear hT; intro a hT
        refine Sx.st_call hT rfl rfl rfl rfl rfl Try.can26 rfl (same_calls _ _ _) ?_
        rintro _ w3 ⟨rfl, E⟩
        refine ⟨_, rfl, ?_⟩
        clear hT; intro a hT
        replace H := H.pure E; clear E
        refine Sx.st_take hT rfl rfl rfl rfl (Sx.x_pick_t hT rfl rfl rfl) ?_
        clear hT; intro a hT
        refine Sx.st_take hT rfl rfl rfl rfl (Sx.x_move hT rfl rfl) ?_
        clear hT; intro a hT
        -- guard (1, 26)
        refine Sx.Sl.two hT 31 rfl (fun hc6 hT => ?_) (fun hc6 hT => ?_)
        · try simp only [decide_eq_true_eq, decide_eq_false_iff_not, Bool.not_eq_true', Bool.not_eq_false', Bool.not_eq_true, Bool.not_eq_false, Bool.and_eq_true, Bool.or_eq_false_iff, beq_iff_eq, bne_iff_ne, Int.not_lt, Int.not_le, ne_eq] at hc6
          refine Sx.st_take hT rfl rfl rfl rfl (Sx.x_fieldAddr hT rfl Try.fa56_4 rfl) ?_
          clear hT; intro a hT
          refine Sx.st_run hT rfl rfl rfl rfl (Sx.x_load1 hT rfl Try.fl46 rfl ((H.blk 1 rfl).nth rfl)) ?_
          clear hT; intro a hT
          refine Sx.st_take hT rfl rfl rfl rfl (Sx.x_fieldAddr hT rfl Try.fa59_4 rfl) ?_
          clear hT; intro a hT
          refine Sx.st_run hT rfl rfl rfl rfl (Sx.x_load1 hT rfl Try.fl46 rfl ((H.blk 0 rfl).nth rfl)) ?_
          clear hT; intro a hT
          refine Sx.st_call hT rfl rfl rfl rfl rfl Try.can26 rfl (same_calls _ _ _) ?_
          rintro _ w4 ⟨rfl, E⟩
          refine ⟨_, rfl, ?_⟩
          clear hT; intro a hT
          replace H := H.pure E; clear E
          refine Sx.st_take hT rfl rfl rfl rfl (Sx.x_pick_t hT rfl rfl rfl) ?_
          clear hT; intro a hT
          refine Sx.st_take hT rfl rfl rfl rfl (Sx.x_move hT rfl rfl) ?_
          clear hT; intro a hT
          -- guard (1, 33)
          refine Sx.Sl.two hT 38 rfl (fun hc7 hT => ?_) (fun hc7 hT => ?_)
          · try simp only [decide_eq_true_eq, decide_eq_false_iff_not, Bool.not_eq_true', Bool.not_eq_false', Bool.not_eq_true, Bool.not_eq_false, Bool.and_eq_true, Bool.or_eq_false_iff, beq_iff_eq, bne_iff_ne, Int.not_lt, Int.not_le, ne_eq] at hc7
            refine Sx.st_take hT rfl rfl rfl rfl (Sx.x_fieldAddr hT rfl Try.fa56_5 rfl) ?_
            clear hT; intro a hT
            refine Sx.st_run hT rfl rfl rfl rfl (Sx.x_load1 hT rfl Try.fl46 rfl ((H.blk 1 rfl).nth rfl)) ?_
            clear hT; intro a hT
            refine Sx.st_take hT rfl rfl rfl rfl (Sx.x_fieldAddr hT rfl Try.fa59_5 rfl) ?_
            clear hT; intro a hT
            refine Sx.st_run hT rfl rfl rfl rfl (Sx.x_load1 hT rfl Try.fl46 rfl ((H.blk 0 rfl).nth rfl)) ?_
            clear hT; intro a hT
            refine Sx.st_call hT rfl rfl rfl rfl rfl Try.can26 rfl (same_calls _ _ _) ?_
            rintro _ w5 ⟨rfl, E⟩
            refine ⟨_, rfl, ?_⟩
            clear hT; intro a hT
            replace H := H.pure E; clear E
            refine Sx.st_take hT rfl rfl rfl rfl (Sx.x_pick_t hT rfl rfl rfl) ?_
            clear hT; intro a hT
            refine Sx.st_take hT rfl rfl rfl rfl (Sx.x_assign hT rfl rfl) ?_
            clear hT; intro a hT
            replace hT := hT.keep [4, 3, 2, 0, 1] rfl
            refine Sx.ser_nil ?_
            refine Sx.then_normal (hK2 _ _ ?_)
            clear hK2
            refine wp_ret ?_
            refine Sx.done1 (fn := Try.f19) hT rfl (.tmp (hT.get 4 _ rfl)) ?_
            refine ⟨ret_b ?_, H.ext⟩
            clear hT H
            rw [g6_eq]
            simp_all
          · try simp only [decide_eq_true_eq, decide_eq_false_iff_not, Bool.not_eq_true', Bool.not_eq_false', Bool.not_eq_true, Bool.not_eq_false, Bool.and_eq_true, Bool.or_eq_false_iff, beq_iff_eq, bne_iff_ne, Int.not_lt, Int.not_le, ne_eq] at hc7
            refine Sx.st_skip hT rfl rfl rfl rfl ?_
            clear hT; intro a hT
            refine Sx.st_runskip hT rfl rfl rfl rfl ?_
            clear hT; intro a hT
            refine Sx.st_skip hT rfl rfl rfl rfl ?_
            clear hT; intro a hT
            refine Sx.st_runskip hT rfl rfl rfl rfl ?_
            clear hT; intro a hT
            refine Sx.st_runskip hT rfl rfl rfl rfl ?_
            clear hT; intro a hT
            refine Sx.st_take hT rfl rfl rfl rfl (Sx.x_pick_f hT rfl rfl rfl) ?_
            clear hT; intro a hT
            refine Sx.st_take hT rfl rfl rfl rfl (Sx.x_assign hT rfl rfl) ?_
            clear hT; intro a hT
            replace hT := hT.keep [4, 3, 2, 0, 1] rfl
            refine Sx.ser_nil ?_
            refine Sx.then_normal (hK2 _ _ ?_)
            clear hK2
            refine wp_ret ?_
            refine Sx.done1 (fn := Try.f19) hT rfl (.tmp (hT.get 4 _ rfl)) ?_
            refine ⟨ret_b ?_, H.ext⟩
            clear hT H
            rw [g6_eq]
            simp_all
        · try simp only [decide_eq_true_eq, decide_eq_false_iff_not, Bool.not_eq_true', Bool.not_eq_false', Bool.not_eq_true, Bool.not_eq_false, Bool.and_eq_true, Bool.or_eq_false_iff, beq_iff_eq, bne_iff_ne, Int.not_lt, Int.not_le, ne_eq] at hc6
          refine Sx.st_skip hT rfl rfl rfl rfl ?_
          clear hT; intro a hT
          refine Sx.st_runskip hT rfl rfl rfl rfl ?_
          clear hT; intro a hT
          refine Sx.st_skip hT rfl rfl rfl rfl ?_
          clear hT; intro a hT
          refine Sx.st_runskip hT rfl rfl rfl rfl ?_
          clear hT; intro a hT
          refine Sx.st_runskip hT rfl rfl rfl rfl ?_
          clear hT; intro a hT
          refine Sx.st_take hT rfl rfl rfl rfl (Sx.x_pick_f hT rfl rfl rfl) ?_
          clear hT; intro a hT
          refine Sx.st_take hT rfl rfl rfl rfl (Sx.x_move hT rfl rfl) ?_
          clear hT; intro a hT
          refine Sx.st_skip hT rfl rfl rfl rfl ?_
          clear hT; intro a hT
          refine Sx.st_runskip hT rfl rfl rfl rfl ?_
          clear hT; intro a hT
          refine Sx.st_skip hT rfl rfl rfl rfl ?_
          clear hT; intro a hT
          refine Sx.st_runskip hT rfl rfl rfl rfl ?_
          clear hT; intro a hT
          refine Sx.st_runskip hT rfl rfl rfl rfl ?_
          clear hT; intro a hT
          refine Sx.st_take hT rfl rfl rfl rfl (Sx.x_pick_f hT rfl rfl rfl) ?_
          clear hT; intro a hT
          refine Sx.st_take hT rfl rfl rfl rfl (Sx.x_assign hT rfl rfl) ?_
          clear hT; intro a hT
          replace hT := hT.keep [4, 3, 2, 0, 1] rfl
          refine Sx.ser_nil ?_
          refine Sx.then_normal (hK2 _ _ ?_)
          clear hK2
          refine wp_ret ?_
          refine Sx.done1 (fn := Try.f19) hT rfl (.tmp (hT.get 4 _ rfl)) ?_
          refine ⟨ret_b ?_, H.ext⟩
          clear hT H
          rw [g6_eq]
          simp_all
      · try simp only [decide_eq_true_eq, decide_eq_false_iff_not, Bool.not_eq_true', Bool.not_eq_false', Bool.not_eq_true, Bool.not_eq_false, Bool.and_eq_true, Bool.or_eq_false_iff, beq_iff_eq, bne_iff_ne, Int.not_lt, Int.not_le, ne_eq] at hc5
        refine Sx.st_skip hT rfl rfl rfl rfl ?_
        clear hT; intro a hT
        refine Sx.st_runskip hT rfl rfl rfl rfl ?_
        clear hT; intro a hT
        refine Sx.st_skip hT rfl rfl rfl rfl ?_
        clear hT; intro a hT
        refine Sx.st_runskip hT rfl rfl rfl rfl ?_
        clear hT; intro a hT
        refine Sx.st_runskip hT rfl rfl rfl rfl ?_
        clear hT; intro a hT
        refine Sx.st_take hT rfl rfl rfl rfl (Sx.x_pick_f hT rfl rfl rfl) ?_
        clear hT; intro a hT
        refine Sx.st_take hT rfl rfl rfl rfl (Sx.x_move hT rfl rfl) ?_
        clear hT; intro a hT
        refine Sx.st_skip hT rfl rfl rfl rfl ?_
        clear hT; intro a hT
        refine Sx.st_runskip hT rfl rfl rfl rfl ?_
        clear hT; intro a hT
        refine Sx.st_skip hT rfl rfl rfl rfl ?_
        clear hT; intro a hT
        refine Sx.st_runskip hT rfl rfl rfl rfl ?_
        clear hT; intro a hT
        refine Sx.st_runskip hT rfl rfl rfl rfl ?_
        clear hT; intro a hT
        refine Sx.st_take hT rfl rfl rfl rfl (Sx.x_pick_f hT rfl rfl rfl) ?_
        clear hT; intro a hT
        refine Sx.st_take hT rfl rfl rfl rfl (Sx.x_move hT rfl rfl) ?_
        clear hT; intro a hT
        refine Sx.st_skip hT rfl rfl rfl rfl ?_
        clear hT; intro a hT
        refine Sx.st_runskip hT rfl rfl rfl rfl ?_
        clear hT; intro a hT
        refine Sx.st_skip hT rfl rfl rfl rfl ?_
        clear hT; intro a hT
        refine Sx.st_runskip hT rfl rfl rfl rfl ?_
        clear hT; intro a hT
        refine Sx.st_runskip hT rfl rfl rfl rfl ?_
        clear hT; intro a hT
        refine Sx.st_take hT rfl rfl rfl rfl (Sx.x_pick_f hT rfl rfl rfl) ?_
        clear hT; intro a hT
        refine Sx.st_take hT rfl rfl rfl rfl (Sx.x_assign hT rfl rfl) ?_
        clear hT; intro a hT
        replace hT := hT.keep [4, 3, 2, 0, 1] rfl
        refine Sx.ser_nil ?_
        refine Sx.then_normal (hK2 _ _ ?_)
        clear hK2
        refine wp_ret ?_
        refine Sx.done1 (fn := Try.f19) hT rfl (.tmp (hT.get 4 _ rfl)) ?_
        refine ⟨ret_b ?_, H.ext⟩
        clear hT H
        rw [g6_eq]
        simp_all
    · try simp only [decide_eq_true_eq, decide_eq_false_iff_not, Bool.not_eq_true', Bool.not_eq_false', Bool.not_eq_true, Bool.not_eq_false, Bool.and_eq_true, Bool.or_eq_false_iff, beq_iff_eq, bne_iff_ne, Int.not_lt, Int.not_le, ne_eq] at hc4
      refine Sx.st_skip hT rfl rfl rfl rfl ?_
      clear hT; intro a hT
      refine Sx.st_runskip hT rfl rfl rfl rfl ?_
      clear hT; intro a hT
      refine Sx.st_skip hT rfl rfl rfl rfl ?_
      clear hT; intro a hT
      refine Sx.st_runskip hT rfl rfl rfl rfl ?_
      clear hT; intro a hT
      refine Sx.st_skip hT rfl rfl rfl rfl ?_
      clear hT; intro a hT
      refine Sx.st_take hT rfl rfl rfl rfl (Sx.x_pick_f hT rfl rfl rfl) ?_
      clear hT; intro a hT
      refine Sx.st_take hT rfl rfl rfl rfl (Sx.x_move hT rfl rfl) ?_
      clear hT; intro a hT
      refine Sx.st_skip hT rfl rfl rfl rfl ?_
      clear hT; intro a hT
      refine Sx.st_runskip hT rfl rfl rfl rfl ?_
      clear hT; intro a hT
      refine Sx.st_skip hT rfl rfl rfl rfl ?_
      clear hT; intro a hT
      refine Sx.st_runskip hT rfl rfl rfl rfl ?_
      clear hT; intro a hT
      refine Sx.st_runskip hT rfl rfl rfl rfl ?_
      clear hT; intro a hT
      refine Sx.st_take hT rfl rfl rfl rfl (Sx.x_pick_f hT rfl rfl rfl) ?_
      clear hT; intro a hT
      refine Sx.st_take hT rfl rfl rfl rfl (Sx.x_move hT rfl rfl) ?_
      clear hT; intro a hT
      refine Sx.st_skip hT rfl rfl rfl rfl ?_
      clear hT; intro a hT
      refine Sx.st_runskip hT rfl rfl rfl rfl ?_
      clear hT; intro a hT
      refine Sx.st_skip hT rfl rfl rfl rfl ?_
      clear hT; intro a hT
      refine Sx.st_runskip hT rfl rfl rfl rfl ?_
      clear hT; intro a hT
      refine Sx.st_runskip hT rfl rfl rfl rfl ?_
      clear hT; intro a hT
      refine Sx.st_take hT rfl rfl rfl rfl (Sx.x_pick_f hT rfl rfl rfl) ?_
      clear hT; intro a hT
      refine Sx.st_take hT rfl rfl rfl rfl (Sx.x_move hT rfl rfl) ?_
      clear hT; intro a hT
      refine Sx.st_skip hT rfl rfl rfl rfl ?_
      clear hT; intro a hT
      refine Sx.st_runskip hT rfl rfl rfl rfl ?_
      clear hT; intro a hT
      refine Sx.st_skip hT rfl rfl rfl rfl ?_
      clear hT; intro a hT
      refine Sx.st_runskip hT rfl rfl rfl rfl ?_
      clear hT; intro a hT
      refine Sx.st_runskip hT rfl rfl rfl rfl ?_
      clear hT; intro a hT
      refine Sx.st_take hT rfl rfl rfl rfl (Sx.x_pick_f hT rfl rfl rfl) ?_
      clear hT; intro a hT
      refine Sx.st_take hT rfl rfl rfl rfl (Sx.x_assign hT rfl rfl) ?_
      clear hT; intro a hT
      replace hT := hT.keep [4, 3, 2, 0, 1] rfl
      refine Sx.ser_nil ?_
      refine Sx.then_normal (hK2 _ _ ?_)
      clear hK2
      refine wp_ret ?_
      refine Sx.done1 (fn := Try.f19) hT rfl (.tmp (hT.get 4 _ rfl)) ?_
      refine ⟨ret_b ?_, H.ext⟩
      clear hT H
      rw [g6_eq]
      simp_all
  · try simp only [decide_eq_true_eq, decide_eq_false_iff_not, Bool.not_eq_true', Bool.not_eq_false', Bool.not_eq_true, Bool.not_eq_false, Bool.and_eq_true, Bool.or_eq_false_iff, beq_iff_eq, bne_iff_ne, Int.not_lt, Int.not_le, ne_eq] at hc3
    refine Sx.st_skip hT rfl rfl rfl rfl ?_
    clear hT; intro a hT
    refine Sx.st_runskip hT rfl rfl rfl rfl ?_
    clear hT; intro a hT
    refine Sx.st_skip hT rfl rfl rfl rfl ?_
    clear hT; intro a hT
    refine Sx.st_runskip hT rfl rfl rfl rfl ?_
    clear hT; intro a hT
    refine Sx.st_skip hT rfl rfl rfl rfl ?_
    clear hT; intro a hT
    refine Sx.st_take hT rfl rfl rfl rfl (Sx.x_pick_f hT rfl rfl rfl) ?_
    clear hT; intro a hT
    refine Sx.st_take hT rfl rfl rfl rfl (Sx.x_move hT rfl rfl) ?_
    clear hT; intro a hT
    refine Sx.st_skip hT rfl rfl rfl rfl ?_
    clear hT; intro a hT
    refine Sx.st_runskip hT rfl rfl rfl rfl ?_
    clear hT; intro a hT
    refine Sx.st_skip hT rfl rfl rfl rfl ?_
    clear hT; intro a hT
    refine Sx.st_runskip hT rfl rfl rfl rfl ?_
    clear hT; intro a hT
    refine Sx.st_skip hT rfl rfl rfl rfl ?_
    clear hT; intro a hT
    refine Sx.st_take hT rfl rfl rfl rfl (Sx.x_pick_f hT rfl rfl rfl) ?_
    clear hT; intro a hT
    refine Sx.st_take hT rfl rfl rfl rfl (Sx.x_move hT rfl rfl) ?_
    clear hT; intro a hT
    refine Sx.st_skip hT rfl rfl rfl rfl ?_
    clear hT; intro a hT
    refine Sx.st_runskip hT rfl rfl rfl rfl ?_
    clear hT; intro a hT
    refine Sx.st_skip hT rfl rfl rfl rfl ?_
    clear hT; intro a hT
    refine Sx.st_runskip hT rfl rfl rfl rfl ?_
    clear hT; intro a hT
    refine Sx.st_runskip hT rfl rfl rfl rfl ?_
    clear hT; intro a hT
    refine Sx.st_take hT rfl rfl rfl rfl (Sx.x_pick_f hT rfl rfl rfl) ?_
    clear hT; intro a hT
    refine Sx.st_take hT rfl rfl rfl rfl (Sx.x_move hT rfl rfl) ?_
    clear hT; intro a hT
    refine Sx.st_skip hT rfl rfl rfl rfl ?_
    clear hT; intro a hT
    refine Sx.st_runskip hT rfl rfl rfl rfl ?_
    clear hT; intro a hT
    refine Sx.st_skip hT rfl rfl rfl rfl ?_
    clear hT; intro a hT
    refine Sx.st_runskip hT rfl rfl rfl rfl ?_
    clear hT; intro a hT
    refine Sx.st_runskip hT rfl rfl rfl rfl ?_
    clear hT; intro a hT
    refine Sx.st_take hT rfl rfl rfl rfl (Sx.x_pick_f hT rfl rfl rfl) ?_
    clear hT; intro a hT
    refine Sx.st_take hT rfl rfl rfl rfl (Sx.x_move hT rfl rfl) ?_
    clear hT; intro a hT
    refine Sx.st_skip hT rfl rfl rfl rfl ?_
    clear hT; intro a hT
    refine Sx.st_runskip hT rfl rfl rfl rfl ?_
    clear hT; intro a hT
    refine Sx.st_skip hT rfl rfl rfl rfl ?_
    clear hT; intro a hT
    refine Sx.st_runskip hT rfl rfl rfl rfl ?_
    clear hT; intro a hT
    refine Sx.st_runskip hT rfl rfl rfl rfl ?_
    clear hT; intro a hT
    refine Sx.st_take hT rfl rfl rfl rfl (Sx.x_pick_f hT rfl rfl rfl) ?_
    clear hT; intro a hT
    refine Sx.st_take hT rfl rfl rfl rfl (Sx.x_assign hT rfl rfl) ?_
    clear hT; intro a hT
    replace hT := hT.keep [4, 3, 2, 0, 1] rfl
    refine Sx.ser_nil ?_
    refine Sx.then_normal (hK2 _ _ ?_)
    clear hK2
    refine wp_ret ?_
    refine Sx.done1 (fn := Try.f19) hT rfl (.tmp (hT.get 4 _ rfl)) ?_
    refine ⟨ret_b ?_, H.ext⟩
    clear hT H
    rw [g6_eq]
    simp_all

theorem sameG_calls {ad ad2 : Option Addr} {c c2 : Nat} (l m : List G6) {w : World} (hs : Ss w ad G6.cells 6 l) (hs2 : Ss w ad2 G6.cells 6 m) (hl : l.length ≤ 9223372036854775806) : Calls Try.prog 16 #[.slice ad l.length c, .slice ad2 m.length c2] w fun e w' => e = .returned (.bool (decide (l = m))) ∧ Ext No w w' := by
  have R : Ro w No _ := Ro.of fun w' x => hs.ext_no x
  have R2 : Ro w No _ := Ro.of fun w' x => hs2.ext_no x
  refine Sx.calls_into Try.func16 rfl Try.ntmps16 rfl fun a hT => ?_
  replace hT := hT.keep [0, 1] rfl
  have H : Sx.Hp w (Sx.No) w [] := Sx.Hp.start _ _
  refine wp_seq_k fun K1 hK1 => ?_
  -- region 0 (law.go:43)
  refine Sx.wp_text [(0, .take)] rfl ?_
  refine Sx.st_take hT rfl rfl rfl rfl (Sx.x_assign hT rfl rfl) ?_
  clear hT; intro a hT
  replace hT := hT.keep [4, 0, 1] rfl
  refine Sx.ser_nil ?_
  refine Sx.then_normal (hK1 _ _ ?_)
  clear hK1
  refine wp_seq_k fun K2 hK2 => ?_
  refine wp_seq_k fun K3 hK3 => ?_
  -- region 1 (law.go:44)
  refine Sx.wp_text [(0, .take), (1, .take), (2, .take), (3, .take), (4, .take)] rfl ?_
  refine Sx.st_take hT rfl rfl rfl rfl (Sx.x_move hT rfl rfl) ?_
  clear hT; intro a hT
  refine Sx.st_take hT rfl rfl rfl rfl (Sx.x_len_slice hT rfl rfl Try.underlying51 rfl) ?_
  clear hT; intro a hT
  refine Sx.st_take hT rfl rfl rfl rfl (Sx.x_move hT rfl rfl) ?_
  clear hT; intro a hT
  refine Sx.st_take hT rfl rfl rfl rfl (Sx.x_len_slice hT rfl rfl Try.underlying28 rfl) ?_
  clear hT; intro a hT
  refine Sx.st_take hT rfl rfl rfl rfl ((fun w => Sx.x_ne w hT rfl rfl rfl)) ?_
  clear hT; intro a hT
  replace hT := hT.keep [10, 4, 0, 1] rfl
  refine Sx.ser_nil ?_
  refine Sx.then_normal (hK3 _ _ ?_)
  clear hK3
  -- cond 0
  refine Sx.wp_if hT rfl (fun hc4 => ?_) (fun hc4 => ?_)
  · try simp only [decide_eq_true_eq, decide_eq_false_iff_not, Bool.not_eq_true', Bool.not_eq_false', Bool.not_eq_true, Bool.not_eq_false, Bool.and_eq_true, Bool.or_eq_false_iff, beq_iff_eq, bne_iff_ne, Int.not_lt, Int.not_le, ne_eq] at hc4
    refine wp_seq_k fun K5 hK5 => ?_
    -- region 2 (law.go:45)
    refine Sx.wp_text [(0, .take)] rfl ?_
    refine Sx.st_take hT rfl rfl rfl rfl (Sx.x_assign hT rfl rfl) ?_
    clear hT; intro a hT
    replace hT := hT.keep [4, 10, 0, 1] rfl
    refine Sx.ser_nil ?_
    refine Sx.then_normal (hK5 _ _ ?_)
    clear hK5
    refine wp_ret ?_
    refine Sx.then_ret ?_
    refine Sx.done1 (fn := Try.f16) hT rfl (.tmp (hT.get 4 _ rfl)) ?_
    refine ⟨ret_b (decide_eq_false fun h9 => ?_).symm, H.ext⟩
    subst h9
    omega
  · try simp only [decide_eq_true_eq, decide_eq_false_iff_not, Bool.not_eq_true', Bool.not_eq_false', Bool.not_eq_true, Bool.not_eq_false, Bool.and_eq_true, Bool.or_eq_false_iff, beq_iff_eq, bne_iff_ne, Int.not_lt, Int.not_le, ne_eq] at hc4
    refine wp_skip ?_
    refine Sx.then_normal (hK2 _ _ ?_)
    clear hK2
    refine wp_seq_k fun K6 hK6 => ?_
    refine wp_seq_k fun K7 hK7 => ?_
    -- region 3 (law.go:47)
    refine Sx.wp_text [(0, .take)] rfl ?_
    refine Sx.st_take hT rfl rfl rfl rfl (Sx.x_assign hT rfl rfl) ?_
    clear hT; intro a hT
    replace hT := hT.keep [5, 10, 4, 0, 1] rfl
    refine Sx.ser_nil ?_
    refine Sx.then_normal (hK7 _ _ ?_)
    clear hK7
    refine wp_block ?_
    -- loop 0
    refine Sx.wp_loopH (G := Nat) (fun k => [(5, .int .i64 (k : Int))]) (fun k => []) (fun k => k ≤ l.length ∧ ∀ t, t < k → l[t]? = m[t]?) (fun k => l.length - k) 0 (hT.keep [5, 10, 0, 1] rfl) (H.keep [] rfl rfl) (⟨Nat.zero_le _, fun t h => by omega⟩) ?_
    clear hT H
    rintro k a w1 hJ hT H
    replace hT := hT.keep [5, 10, 0, 1] rfl
    replace H := H.keep [] rfl rfl
    obtain ⟨hk, hsm⟩ := hJ
    refine wp_seq_k fun K8 hK8 => ?_
    refine wp_seq_k fun K9 hK9 => ?_
    -- region 4 (law.go:47)
    refine Sx.wp_text [(0, .take), (1, .take), (2, .take), (3, .take)] rfl ?_
    refine Sx.st_take hT rfl rfl rfl rfl (Sx.x_move hT rfl rfl) ?_
    clear hT; intro a hT
    refine Sx.st_take hT rfl rfl rfl rfl (Sx.x_move hT rfl rfl) ?_
    clear hT; intro a hT
    refine Sx.st_take hT rfl rfl rfl rfl (Sx.x_len_slice hT rfl rfl Try.underlying51 rfl) ?_
    clear hT; intro a hT
    refine Sx.st_take hT rfl rfl rfl rfl ((fun w => Sx.x_lt w hT rfl rfl rfl)) ?_
    clear hT; intro a hT
    replace hT := hT.keep [14, 5, 10, 0, 1] rfl
    refine Sx.ser_nil ?_
    refine Sx.then_normal (hK9 _ _ ?_)
    clear hK9
    -- cond 1
    refine Sx.wp_if hT rfl (fun hc10 => ?_) (fun hc10 => ?_)
    · try simp only [decide_eq_true_eq, decide_eq_false_iff_not, Bool.not_eq_true', Bool.not_eq_false', Bool.not_eq_true, Bool.not_eq_false, Bool.and_eq_true, Bool.or_eq_false_iff, beq_iff_eq, bne_iff_ne, Int.not_lt, Int.not_le, ne_eq] at hc10
      obtain ⟨o, ho⟩ : ∃ o, l[k]? = some o := ⟨_, List.getElem?_eq_getElem (by omega)⟩
      obtain ⟨o2, ho2⟩ : ∃ o, m[k]? = some o := ⟨_, List.getElem?_eq_getElem (by omega)⟩
      refine wp_skip ?_
      refine Sx.then_normal (hK8 _ _ ?_)
      clear hK8
      refine wp_seq_k fun K11 hK11 => ?_
      refine wp_block ?_
      refine wp_seq_k fun K12 hK12 => ?_
      -- region 6 (law.go:48)
      refine Sx.wp_draws (fun u => Sx.Ext (Sx.No) u) [(0, .take), (1, .take), (2, .take), (3, .held), (4, .take), (5, .take), (6, .take), (7, .held), (8, .run), (9, .take)] (by kernel_rfl) (by kernel_rfl) (fun u E _ => ?_)
      replace H := H.pure E; clear E
      have hH : Sx.Ext (Sx.No) u u := Sx.Ext.refl _ _
      have Hu := H
      refine Sx.st_take hT rfl rfl rfl rfl (Sx.x_move hT rfl rfl) ?_
      clear hT; intro a hT
      refine Sx.st_take hT rfl rfl rfl rfl (Sx.x_move hT rfl rfl) ?_
      clear hT; intro a hT
      refine Sx.st_take hT rfl rfl rfl rfl (Sx.x_index (k := k) hT rfl Try.underlying51 Try.ti56 (by first | exact (R.at H.ext).sv | exact (R2.at H.ext).sv) rfl rfl (by first | rfl | omega) (by omega)) ?_
      clear hT; intro a hT
      refine Sx.st_held hT rfl rfl rfl rfl hH (fun w' h' => Sx.y_loadS hT rfl Try.underlying56 Try.ti56 rfl (by first | exact ((R.at (Hu.ext.step h')).cs G6.len ho) | exact ((R2.at (Hu.ext.step h')).cs G6.len ho2)) (by rfl)) ?_
      clear hT; intro a hT
      refine Sx.st_take hT rfl rfl rfl rfl (Sx.x_move hT rfl rfl) ?_
      clear hT; intro a hT
      refine Sx.st_take hT rfl rfl rfl rfl (Sx.x_move hT rfl rfl) ?_
      clear hT; intro a hT
      refine Sx.st_take hT rfl rfl rfl rfl (Sx.x_index (k := k) hT rfl Try.underlying28 Try.ti59 (by first | exact (R.at H.ext).sv | exact (R2.at H.ext).sv) rfl rfl (by first | rfl | omega) (by omega)) ?_
      clear hT; intro a hT
      refine Sx.st_held hT rfl rfl rfl rfl hH (fun w' h' => Sx.y_loadS hT rfl Try.underlying59 Try.ti59 rfl (by first | exact ((R.at (Hu.ext.step h')).cs G6.len ho) | exact ((R2.at (Hu.ext.step h')).cs G6.len ho2)) (by rfl)) ?_
      clear hT; intro a hT
      refine Sx.st_call hT rfl rfl rfl rfl rfl Try.can19 rfl (one_calls o o2 _) ?_
      rintro _ w2 ⟨rfl, E⟩
      refine ⟨_, rfl, ?_⟩
      clear hT; intro a hT
      replace H := H.pure E; clear E
      refine Sx.st_take hT rfl rfl rfl rfl (Sx.x_not hT rfl rfl) ?_
      clear hT; intro a hT
      replace hT := hT.keep [26, 14, 5, 10, 0, 1] rfl
      clear Hu hH
      refine Sx.ser_calm ?_
      refine Sx.then_normal (hK12 _ _ ?_)
      clear hK12
      -- cond 2
      refine Sx.wp_if hT rfl (fun hc13 => ?_) (fun hc13 => ?_)
      · try simp only [decide_eq_true_eq, decide_eq_false_iff_not, Bool.not_eq_true', Bool.not_eq_false', Bool.not_eq_true, Bool.not_eq_false, Bool.and_eq_true, Bool.or_eq_false_iff, beq_iff_eq, bne_iff_ne, Int.not_lt, Int.not_le, ne_eq] at hc13
        have hne : o ≠ o2 := hc13
        refine wp_seq_k fun K14 hK14 => ?_
        -- region 7 (law.go:49)
        refine Sx.wp_text [(0, .take)] rfl ?_
        refine Sx.st_take hT rfl rfl rfl rfl (Sx.x_assign hT rfl rfl) ?_
        clear hT; intro a hT
        replace hT := hT.keep [4, 26, 14, 5, 10, 0, 1] rfl
        refine Sx.ser_nil ?_
        refine Sx.then_normal (hK14 _ _ ?_)
        clear hK14
        refine wp_ret ?_
        refine Sx.block_ret ?_
        refine Sx.then_ret ?_
        refine Sx.then_ret ?_
        refine Sx.block_ret ?_
        refine Sx.then_ret ?_
        refine Sx.done1 (fn := Try.f16) hT rfl (.tmp (hT.get 4 _ rfl)) ?_
        refine ⟨ret_b (decide_eq_false fun h9 => ?_).symm, H.ext⟩
        subst h9
        rw [ho] at ho2; exact hne (Option.some.inj ho2)
      · try simp only [decide_eq_true_eq, decide_eq_false_iff_not, Bool.not_eq_true', Bool.not_eq_false', Bool.not_eq_true, Bool.not_eq_false, Bool.and_eq_true, Bool.or_eq_false_iff, beq_iff_eq, bne_iff_ne, Int.not_lt, Int.not_le, ne_eq] at hc13
        have heq : o = o2 := hc13
        refine wp_skip ?_
        refine Sx.block_normal ?_
        refine Sx.then_normal (hK11 _ _ ?_)
        clear hK11
        -- region 5 (law.go:47)
        refine Sx.wp_text [(0, .take), (1, .take), (2, .take)] rfl ?_
        refine Sx.st_take hT rfl rfl rfl rfl (Sx.x_move hT rfl rfl) ?_
        clear hT; intro a hT
        refine Sx.st_take hT rfl rfl rfl rfl ((fun w => Sx.x_add w hT rfl rfl rfl (Sx.wrap64 (by omega)))) ?_
        clear hT; intro a hT
        refine Sx.st_take hT rfl rfl rfl rfl (Sx.x_assign hT rfl rfl) ?_
        clear hT; intro a hT
        replace hT := hT.keep [5, 26, 14, 10, 0, 1] rfl
        refine Sx.ser_nil ?_
        refine Sx.then_normal ?_
        exact ⟨k + 1, ⟨by omega, fun t h => by rcases Nat.lt_or_ge t k with h3 | h3; exact hsm t h3; rw [show t = k from by omega, ho, ho2, heq]⟩, (hT.keep [5, 10, 0, 1] rfl), (H.keep [] rfl rfl), by omega⟩
    · try simp only [decide_eq_true_eq, decide_eq_false_iff_not, Bool.not_eq_true', Bool.not_eq_false', Bool.not_eq_true, Bool.not_eq_false, Bool.and_eq_true, Bool.or_eq_false_iff, beq_iff_eq, bne_iff_ne, Int.not_lt, Int.not_le, ne_eq] at hc10
      refine wp_exit ?_
      refine Sx.then_exit ?_
      refine Sx.then_exit ?_
      refine Sx.block_exit ?_
      refine Sx.then_normal (hK6 _ _ ?_)
      clear hK6
      refine wp_seq_k fun K15 hK15 => ?_
      -- region 8 (law.go:52)
      refine Sx.wp_text [(0, .take)] rfl ?_
      refine Sx.st_take hT rfl rfl rfl rfl (Sx.x_assign hT rfl rfl) ?_
      clear hT; intro a hT
      replace hT := hT.keep [4, 14, 5, 10, 0, 1] rfl
      refine Sx.ser_nil ?_
      refine Sx.then_normal (hK15 _ _ ?_)
      clear hK15
      refine wp_ret ?_
      refine Sx.done1 (fn := Try.f16) hT rfl (.tmp (hT.get 4 _ rfl)) ?_
      refine ⟨ret_b (decide_eq_true (List.ext_getElem? fun t => ?_)).symm, H.ext⟩
      rcases Nat.lt_or_ge t k with h3 | h3
      · exact hsm t h3
      · rw [List.getElem?_eq_none (by omega), List.getElem?_eq_none (by omega)]

theorem groups27_calls {ad : Option Addr} {c : Nat} (l : List G6) {w : World} (hs : Ss w ad G6.cells 6 l) (hl : l.length ≤ 1000000) : Calls Try.prog 23 #[.slice ad l.length c] w fun e w' => ∃ ad' c', e = .returned (.slice ad' l.length c') ∧ Hp w No w' [cR 59 6 ad' l.length c' (l.flatMap G6.cells)] := by
  have R : Ro w No _ := Ro.of fun w' x => hs.ext_no x
  refine Sx.calls_into Try.func23 rfl Try.ntmps23 rfl fun a hT => ?_
  replace hT := hT.keep [0] rfl
  have H : Sx.Hp w (Sx.No) w [] := Sx.Hp.start _ _
  refine wp_seq_k fun K1 hK1 => ?_
  -- region 0 (law.go:56)
  refine Sx.wp_text [(0, .take)] rfl ?_
  refine Sx.st_take hT rfl rfl rfl rfl (Sx.x_assign hT rfl rfl) ?_
  clear hT; intro a hT
  replace hT := hT.keep [2, 0] rfl
  refine Sx.ser_nil ?_
  refine Sx.then_normal (hK1 _ _ ?_)
  clear hK1
  refine wp_seq_k fun K2 hK2 => ?_
  -- region 1 (law.go:57)
  refine Sx.wp_text [(0, .take)] rfl ?_
  refine Sx.st_take hT rfl rfl rfl rfl (Sx.x_assign hT rfl rfl) ?_
  clear hT; intro a hT
  replace hT := hT.keep [3, 2, 0] rfl
  refine Sx.ser_nil ?_
  refine Sx.then_normal (hK2 _ _ ?_)
  clear hK2
  refine wp_seq_k fun K3 hK3 => ?_
  refine wp_seq_k fun K4 hK4 => ?_
  -- region 2 (law.go:58)
  refine Sx.wp_text [(0, .take)] rfl ?_
  refine Sx.st_take hT rfl rfl rfl rfl (Sx.x_assign hT rfl rfl) ?_
  clear hT; intro a hT
  replace hT := hT.keep [4, 3, 2, 0] rfl
  refine Sx.ser_nil ?_
  refine Sx.then_normal (hK4 _ _ ?_)
  clear hK4
  refine wp_block ?_
  replace H := H.nilR 59 6
  -- loop 0
  refine Sx.wp_loopH (G := Nat × Option Addr × Nat) (fun ⟨k, ad2, c2⟩ => [(4, .int .i64 (k : Int)), (3, .slice ad2 k c2)]) (fun ⟨k, ad2, c2⟩ => [cR 59 6 ad2 k c2 ((l.take k).flatMap G6.cells)]) (fun ⟨k, ad2, c2⟩ => k ≤ l.length) (fun ⟨k, ad2, c2⟩ => l.length - k) (0, none, 0) (hT.keep [4, 3, 2, 0] rfl) (H.keep [0] rfl rfl) (Nat.zero_le _) ?_
  clear hT H
  rintro ⟨k, ad2, c2⟩ a w1 hJ hT H
  replace hT := hT.keep [4, 3, 2, 0] rfl
  replace H := H.keep [0] rfl rfl
  have hk : k ≤ l.length := hJ
  refine wp_seq_k fun K5 hK5 => ?_
  refine wp_seq_k fun K6 hK6 => ?_
  -- region 3 (law.go:58)
  refine Sx.wp_text [(0, .take), (1, .take), (2, .take), (3, .take)] rfl ?_
  refine Sx.st_take hT rfl rfl rfl rfl (Sx.x_move hT rfl rfl) ?_
  clear hT; intro a hT
  refine Sx.st_take hT rfl rfl rfl rfl (Sx.x_move hT rfl rfl) ?_
  clear hT; intro a hT
  refine Sx.st_take hT rfl rfl rfl rfl (Sx.x_len_slice hT rfl rfl Try.underlying51 rfl) ?_
  clear hT; intro a hT
  refine Sx.st_take hT rfl rfl rfl rfl ((fun w => Sx.x_lt w hT rfl rfl rfl)) ?_
  clear hT; intro a hT
  replace hT := hT.keep [9, 4, 3, 2, 0] rfl
  refine Sx.ser_nil ?_
  refine Sx.then_normal (hK6 _ _ ?_)
  clear hK6
  -- cond 0
  refine Sx.wp_if hT rfl (fun hc7 => ?_) (fun hc7 => ?_)
  · try simp only [decide_eq_true_eq, decide_eq_false_iff_not, Bool.not_eq_true', Bool.not_eq_false', Bool.not_eq_true, Bool.not_eq_false, Bool.and_eq_true, Bool.or_eq_false_iff, beq_iff_eq, bne_iff_ne, Int.not_lt, Int.not_le, ne_eq] at hc7
    obtain ⟨o, ho⟩ : ∃ o, l[k]? = some o := ⟨_, List.getElem?_eq_getElem (by omega)⟩
    refine wp_skip ?_
    refine Sx.then_normal (hK5 _ _ ?_)
    clear hK5
    refine wp_seq_k fun K8 hK8 => ?_
    refine wp_block ?_
    refine wp_seq_k fun K9 hK9 => ?_
    -- region 5 (law.go:59)
    refine Sx.wp_text [(0, .take), (1, .take), (2, .take), (3, .run), (4, .run), (5, .run)] rfl ?_
    refine Sx.st_take hT rfl rfl rfl rfl (Sx.x_move hT rfl rfl) ?_
    clear hT; intro a hT
    refine Sx.st_take hT rfl rfl rfl rfl (Sx.x_move hT rfl rfl) ?_
    clear hT; intro a hT
    refine Sx.st_take hT rfl rfl rfl rfl (Sx.x_index (k := k) hT rfl Try.underlying51 Try.ti56 (R.at H.ext).sv rfl rfl (by first | rfl | omega) (by omega)) ?_
    clear hT; intro a hT
    refine Sx.st_run hT rfl rfl rfl rfl (Sx.y_loadS hT rfl Try.underlying56 Try.ti56 rfl ((R.at H.ext).cs G6.len ho) (by rfl)) ?_
    clear hT; intro a hT
    refine Sx.st_eff hT rfl rfl rfl rfl (Sx.y_alloc hT rfl Try.ti56 rfl _) ?_
    clear hT; rintro _ w2 ⟨b1, rfl, N⟩ a hT
    replace H := H.new N; clear N
    refine Sx.st_act hT rfl rfl rfl (Sx.y_storeS hT rfl Try.ti56 rfl rfl rfl rfl rfl (H.blk 0 rfl) rfl) ?_
    rintro w3 ⟨hb, E, _⟩
    replace H := H.setB 0 rfl hb E rfl; clear hb E
    replace hT := hT.keep [5, 9, 4, 3, 2, 0] rfl
    refine Sx.ser_nil ?_
    refine Sx.then_normal (hK9 _ _ ?_)
    clear hK9
    -- region 6 (law.go:60)
    refine Sx.wp_text [(0, .take), (1, .take), (2, .run), (3, .take), (4, .run), (5, .take), (6, .run), (7, .take), (8, .run), (9, .take), (10, .run), (11, .take), (12, .run), (13, .take), (14, .run), (15, .run), (16, .take)] rfl ?_
    refine Sx.st_take hT rfl rfl rfl rfl (Sx.x_move hT rfl rfl) ?_
    clear hT; intro a hT
    refine Sx.st_take hT rfl rfl rfl rfl (Sx.x_fieldAddr hT rfl Try.fa56_0 rfl) ?_
    clear hT; intro a hT
    refine Sx.st_run hT rfl rfl rfl rfl (Sx.x_load1 hT rfl Try.fl9 rfl ((H.blk 0 rfl).nth rfl)) ?_
    clear hT; intro a hT
    refine Sx.st_take hT rfl rfl rfl rfl (Sx.x_fieldAddr hT rfl Try.fa56_1 rfl) ?_
    clear hT; intro a hT
    refine Sx.st_run hT rfl rfl rfl rfl (Sx.x_load1 hT rfl Try.fl3 rfl ((H.blk 0 rfl).nth rfl)) ?_
    clear hT; intro a hT
    refine Sx.st_take hT rfl rfl rfl rfl (Sx.x_fieldAddr hT rfl Try.fa56_2 rfl) ?_
    clear hT; intro a hT
    refine Sx.st_run hT rfl rfl rfl rfl (Sx.x_load1 hT rfl Try.fl3 rfl ((H.blk 0 rfl).nth rfl)) ?_
    clear hT; intro a hT
    refine Sx.st_take hT rfl rfl rfl rfl (Sx.x_fieldAddr hT rfl Try.fa56_3 rfl) ?_
    clear hT; intro a hT
    refine Sx.st_run hT rfl rfl rfl rfl (Sx.x_load1 hT rfl Try.fl46 rfl ((H.blk 0 rfl).nth rfl)) ?_
    clear hT; intro a hT
    refine Sx.st_take hT rfl rfl rfl rfl (Sx.x_fieldAddr hT rfl Try.fa56_4 rfl) ?_
    clear hT; intro a hT
    refine Sx.st_run hT rfl rfl rfl rfl (Sx.x_load1 hT rfl Try.fl46 rfl ((H.blk 0 rfl).nth rfl)) ?_
    clear hT; intro a hT
    refine Sx.st_take hT rfl rfl rfl rfl (Sx.x_fieldAddr hT rfl Try.fa56_5 rfl) ?_
    clear hT; intro a hT
    refine Sx.st_run hT rfl rfl rfl rfl (Sx.x_load1 hT rfl Try.fl46 rfl ((H.blk 0 rfl).nth rfl)) ?_
    clear hT; intro a hT
    refine Sx.st_take hT rfl rfl rfl rfl (Sx.x_bld hT rfl Try.bld59 rfl rfl) ?_
    clear hT; intro a hT
    refine Sx.st_eff hT rfl rfl rfl rfl (Sx.y_slice1 hT rfl Try.underlying28 Try.ti59 rfl rfl rfl rfl rfl rfl _) ?_
    clear hT; rintro _ w4 ⟨b2, rfl, N⟩ a hT
    replace H := H.new N; clear N
    refine Sx.st_eff hT rfl rfl rfl rfl (Sx.x_append hT rfl rfl Try.underlying28 Try.ti59 rfl (by decide) rfl rfl (H.row 2 rfl) ((H.blk 0 rfl).sv1 rfl) (by simp [Value.oneCell']) (fun h => by cases h) (by unfold maxLen; omega) (by omega)) ?_
    rintro _ w5 ⟨ad5, c5, rfl, hr, E, hown, -⟩
    clear hT; intro a hT
    replace H := H.setR 2 rfl hr E hown rfl; clear hr E hown
    rw [tk_x ho] at H
    refine Sx.st_take hT rfl rfl rfl rfl (Sx.x_assign hT rfl rfl) ?_
    clear hT; intro a hT
    replace hT := hT.keep [3, 5, 9, 4, 2, 0] rfl
    refine Sx.ser_nil ?_
    refine Sx.block_normal ?_
    refine Sx.then_normal (hK8 _ _ ?_)
    clear hK8
    -- region 4 (law.go:58)
    refine Sx.wp_text [(0, .take), (1, .take), (2, .take)] rfl ?_
    refine Sx.st_take hT rfl rfl rfl rfl (Sx.x_move hT rfl rfl) ?_
    clear hT; intro a hT
    refine Sx.st_take hT rfl rfl rfl rfl ((fun w => Sx.x_add w hT rfl rfl rfl (Sx.wrap64 (by omega)))) ?_
    clear hT; intro a hT
    refine Sx.st_take hT rfl rfl rfl rfl (Sx.x_assign hT rfl rfl) ?_
    clear hT; intro a hT
    replace hT := hT.keep [4, 3, 5, 9, 2, 0] rfl
    refine Sx.ser_nil ?_
    refine Sx.then_normal ?_
    exact ⟨(k + 1, ad5, c5), (show k + 1 ≤ _ by omega), (hT.keep [4, 3, 2, 0] rfl), (H.keep [2] rfl rfl), by show _ - (k + 1) < _ - k; omega⟩
  · try simp only [decide_eq_true_eq, decide_eq_false_iff_not, Bool.not_eq_true', Bool.not_eq_false', Bool.not_eq_true, Bool.not_eq_false, Bool.and_eq_true, Bool.or_eq_false_iff, beq_iff_eq, bne_iff_ne, Int.not_lt, Int.not_le, ne_eq] at hc7
    have hkl : k = l.length := by omega
    rw [hkl] at H hT
    rw [List.take_length] at H
    refine wp_exit ?_
    refine Sx.then_exit ?_
    refine Sx.then_exit ?_
    refine Sx.block_exit ?_
    refine Sx.then_normal (hK3 _ _ ?_)
    clear hK3
    refine wp_seq_k fun K10 hK10 => ?_
    -- region 7 (law.go:62)
    refine Sx.wp_text [(0, .take), (1, .take)] rfl ?_
    refine Sx.st_take hT rfl rfl rfl rfl (Sx.x_move hT rfl rfl) ?_
    clear hT; intro a hT
    refine Sx.st_take hT rfl rfl rfl rfl (Sx.x_assign hT rfl rfl) ?_
    clear hT; intro a hT
    replace hT := hT.keep [2, 9, 4, 3, 0] rfl
    refine Sx.ser_nil ?_
    refine Sx.then_normal (hK10 _ _ ?_)
    clear hK10
    refine wp_ret ?_
    refine Sx.done1 (fn := Try.f23) hT rfl (.tmp (hT.get 2 _ rfl)) ?_
    exact ⟨_, _, rfl, H.keep [0] rfl rfl⟩

def Wt.val (x : Wt) : Value := .agg #[.int .i64 x.v.k, .float .f64 x.v.num, .string ⟨x.v.tx.toArray⟩]
abbrev tw (L : List Wt) : DataW Value := tab (fun x => slit (Wt.key x)) Wt.val L
def vwc (cut : Int) (b : Nat) (h : Stp) : List Value := [.int .i64 cut, .map (some b), .int .i64 h.w, .int .i64 h.l, .int .i64 h.n]

theorem New_yes (cut : Int) (h : 1 ≤ cut ∧ cut ≤ 24) (w : World) : Calls Try.prog 8 #[.int .i64 cut] w fun e w' => ∃ p b, e = .returned (.tuple #[.pointer (some ⟨p, 0, none⟩), .int .i64 0]) ∧ Hp w No w' [cB p (vwc cut b sz0) 79, cM Try.prog 9 b (tw [])] := by
  refine Sx.calls_into Try.func8 rfl Try.ntmps8 rfl fun a hT => ?_
  replace hT := hT.keep [0] rfl
  have H : Sx.Hp w (Sx.No) w [] := Sx.Hp.start _ _
  refine wp_seq_k fun K1 hK1 => ?_
  -- region 0 (view.go:32)
  refine Sx.wp_text [(0, .take), (1, .take)] rfl ?_
  refine Sx.st_take hT rfl rfl rfl rfl (Sx.x_assign hT rfl rfl) ?_
  clear hT; intro a hT
  refine Sx.st_take hT rfl rfl rfl rfl (Sx.x_assign hT rfl rfl) ?_
  clear hT; intro a hT
  replace hT := hT.keep [3, 2, 0] rfl
  refine Sx.ser_nil ?_
  refine Sx.then_normal (hK1 _ _ ?_)
  clear hK1
  refine wp_seq_k fun K2 hK2 => ?_
  refine wp_seq_k fun K3 hK3 => ?_
  -- region 1 (view.go:33)
  refine Sx.wp_text [(0, .take), (1, .run), (2, .take)] rfl ?_
  refine Sx.st_take hT rfl rfl rfl rfl (Sx.x_move hT rfl rfl) ?_
  clear hT; intro a hT
  refine Sx.st_call hT rfl rfl rfl rfl rfl Try.can28 rfl (may_calls _ _) ?_
  rintro _ w1 ⟨rfl, E⟩
  refine ⟨_, rfl, ?_⟩
  clear hT; intro a hT
  replace H := H.pure E; clear E
  refine Sx.st_take hT rfl rfl rfl rfl (Sx.x_not hT rfl rfl) ?_
  clear hT; intro a hT
  replace hT := hT.keep [6, 3, 2, 0] rfl
  refine Sx.ser_nil ?_
  refine Sx.then_normal (hK3 _ _ ?_)
  clear hK3
  -- cond 0
  refine Sx.wp_if hT rfl (fun hc4 => ?_) (fun hc4 => ?_)
  · exfalso
    try simp only [decide_eq_true_eq, decide_eq_false_iff_not, Bool.not_eq_true', Bool.not_eq_false', Bool.not_eq_true, Bool.not_eq_false, Bool.and_eq_true, Bool.or_eq_false_iff, beq_iff_eq, bne_iff_ne, Int.not_lt, Int.not_le, ne_eq] at hc4
    first | exact hc4 h | simp_all | omega
  · try simp only [decide_eq_true_eq, decide_eq_false_iff_not, Bool.not_eq_true', Bool.not_eq_false', Bool.not_eq_true, Bool.not_eq_false, Bool.and_eq_true, Bool.or_eq_false_iff, beq_iff_eq, bne_iff_ne, Int.not_lt, Int.not_le, ne_eq] at hc4
    refine wp_skip ?_
    refine Sx.then_normal (hK2 _ _ ?_)
    clear hK2
    refine wp_seq_k fun K5 hK5 => ?_
    -- region 3 (view.go:36)
    refine Sx.wp_text [(0, .take), (1, .run), (2, .take), (3, .run), (4, .take), (5, .take)] rfl ?_
    refine Sx.st_take hT rfl rfl rfl rfl (Sx.x_move hT rfl rfl) ?_
    clear hT; intro a hT
    refine Sx.st_eff hT rfl rfl rfl rfl (Sx.x_makeMap 9 hT rfl _) ?_
    rintro _ w2 ⟨bm6, rfl, N⟩
    clear hT; intro a hT
    replace H := H.newM N; clear N
    rw [show (DataW.map [] : DataW Value) = tw [] from rfl] at H
    refine Sx.st_take hT rfl rfl rfl rfl (Sx.x_bld hT rfl Try.bld79 rfl rfl) ?_
    clear hT; intro a hT
    refine Sx.st_eff hT rfl rfl rfl rfl (Sx.y_box hT rfl rfl rfl _) ?_
    clear hT; rintro _ w3 ⟨b1, rfl, N⟩ a hT
    replace H := H.new N; clear N
    refine Sx.st_take hT rfl rfl rfl rfl (Sx.x_assign hT rfl rfl) ?_
    clear hT; intro a hT
    refine Sx.st_take hT rfl rfl rfl rfl (Sx.x_assign hT rfl rfl) ?_
    clear hT; intro a hT
    replace hT := hT.keep [3, 2, 6, 0] rfl
    refine Sx.ser_nil ?_
    refine Sx.then_normal (hK5 _ _ ?_)
    clear hK5
    refine wp_ret ?_
    refine Sx.done2 (fn := Try.f8) hT rfl (.tmp (hT.get 2 _ rfl)) (.tmp (hT.get 3 _ rfl)) ?_
    exact ⟨_, _, rfl, H.keep [0, 1] rfl rfl⟩

theorem New_no (cut : Int) (h : ¬ (1 ≤ cut ∧ cut ≤ 24)) (w : World) : Calls Try.prog 8 #[.int .i64 cut] w fun e w' => e = .returned (.tuple #[.pointer none, .int .i64 1]) ∧ Ext No w w' := by
  refine Sx.calls_into Try.func8 rfl Try.ntmps8 rfl fun a hT => ?_
  replace hT := hT.keep [0] rfl
  have H : Sx.Hp w (Sx.No) w [] := Sx.Hp.start _ _
  refine wp_seq_k fun K1 hK1 => ?_
  -- region 0 (view.go:32)
  refine Sx.wp_text [(0, .take), (1, .take)] rfl ?_
  refine Sx.st_take hT rfl rfl rfl rfl (Sx.x_assign hT rfl rfl) ?_
  clear hT; intro a hT
  refine Sx.st_take hT rfl rfl rfl rfl (Sx.x_assign hT rfl rfl) ?_
  clear hT; intro a hT
  replace hT := hT.keep [3, 2, 0] rfl
  refine Sx.ser_nil ?_
  refine Sx.then_normal (hK1 _ _ ?_)
  clear hK1
  refine wp_seq_k fun K2 hK2 => ?_
  refine wp_seq_k fun K3 hK3 => ?_
  -- region 1 (view.go:33)
  refine Sx.wp_text [(0, .take), (1, .run), (2, .take)] rfl ?_
  refine Sx.st_take hT rfl rfl rfl rfl (Sx.x_move hT rfl rfl) ?_
  clear hT; intro a hT
  refine Sx.st_call hT rfl rfl rfl rfl rfl Try.can28 rfl (may_calls _ _) ?_
  rintro _ w1 ⟨rfl, E⟩
  refine ⟨_, rfl, ?_⟩
  clear hT; intro a hT
  replace H := H.pure E; clear E
  refine Sx.st_take hT rfl rfl rfl rfl (Sx.x_not hT rfl rfl) ?_
  clear hT; intro a hT
  replace hT := hT.keep [6, 3, 2, 0] rfl
  refine Sx.ser_nil ?_
  refine Sx.then_normal (hK3 _ _ ?_)
  clear hK3
  -- cond 0
  refine Sx.wp_if hT rfl (fun hc4 => ?_) (fun hc4 => ?_)
  · try simp only [decide_eq_true_eq, decide_eq_false_iff_not, Bool.not_eq_true', Bool.not_eq_false', Bool.not_eq_true, Bool.not_eq_false, Bool.and_eq_true, Bool.or_eq_false_iff, beq_iff_eq, bne_iff_ne, Int.not_lt, Int.not_le, ne_eq] at hc4
    refine wp_seq_k fun K5 hK5 => ?_
    -- region 2 (view.go:34)
    refine Sx.wp_text [(0, .take), (1, .take)] rfl ?_
    refine Sx.st_take hT rfl rfl rfl rfl (Sx.x_assign hT rfl rfl) ?_
    clear hT; intro a hT
    refine Sx.st_take hT rfl rfl rfl rfl (Sx.x_assign hT rfl rfl) ?_
    clear hT; intro a hT
    replace hT := hT.keep [3, 2, 6, 0] rfl
    refine Sx.ser_nil ?_
    refine Sx.then_normal (hK5 _ _ ?_)
    clear hK5
    refine wp_ret ?_
    refine Sx.then_ret ?_
    refine Sx.done2 (fn := Try.f8) hT rfl (.tmp (hT.get 2 _ rfl)) (.tmp (hT.get 3 _ rfl)) ?_
    exact ⟨rfl, H.ext⟩
  · exfalso
    try simp only [decide_eq_true_eq, decide_eq_false_iff_not, Bool.not_eq_true', Bool.not_eq_false', Bool.not_eq_true, Bool.not_eq_false, Bool.and_eq_true, Bool.or_eq_false_iff, beq_iff_eq, bne_iff_ne, Int.not_lt, Int.not_le, ne_eq] at hc4
    first | exact h hc4 | simp_all | omega

theorem High_calls {p : Nat} {cut : Int} {b : Nat} {h : Stp} {w : World} (hB : Blk w p (vwc cut b h) 79) : Calls Try.prog 17 #[.pointer (some ⟨p, 0, none⟩)] w fun e w' => e = .returned (.agg #[.int .i64 h.w, .int .i64 h.l, .int .i64 h.n]) ∧ Ext No w w' := by
  have RB : Ro w No _ := Ro.of fun w' x => hB.ext_no x
  refine Sx.calls_into Try.func17 rfl Try.ntmps17 rfl fun a hT => ?_
  replace hT := hT.keep [0] rfl
  have H : Sx.Hp w (Sx.No) w [] := Sx.Hp.start _ _
  refine wp_seq_k fun K1 hK1 => ?_
  -- region 0 (view.go:59)
  refine Sx.wp_text [(0, .run)] rfl ?_
  refine Sx.st_eff hT rfl rfl rfl rfl (Sx.y_alloc hT rfl Try.ti35 rfl _) ?_
  clear hT; rintro _ w1 ⟨b1, rfl, N⟩ a hT
  replace H := H.new N; clear N
  replace hT := hT.keep [2, 0] rfl
  refine Sx.ser_nil ?_
  refine Sx.then_normal (hK1 _ _ ?_)
  clear hK1
  refine wp_seq_k fun K2 hK2 => ?_
  -- region 1 (view.go:59)
  refine Sx.wp_text [(0, .take), (1, .take), (2, .take), (3, .run), (4, .run)] rfl ?_
  refine Sx.st_take hT rfl rfl rfl rfl (Sx.x_move hT rfl rfl) ?_
  clear hT; intro a hT
  refine Sx.st_take hT rfl rfl rfl rfl (Sx.x_nilCheck hT rfl rfl) ?_
  clear hT; intro a hT
  refine Sx.st_take hT rfl rfl rfl rfl (Sx.x_fieldAddr hT rfl Try.fa79_2 rfl) ?_
  clear hT; intro a hT
  refine Sx.st_run hT rfl rfl rfl rfl (Sx.y_loadS hT rfl Try.underlying35 Try.ti35 rfl (by first | exact ((H.blk 0 rfl).seg (k := 3) rfl) | exact ((RB.at H.ext).seg (k := 3) rfl)) (by rfl)) ?_
  clear hT; intro a hT
  refine Sx.st_act hT rfl rfl rfl (Sx.y_storeS hT rfl Try.ti35 rfl rfl rfl rfl rfl (H.blk 0 rfl) rfl) ?_
  rintro w2 ⟨hb, E, _⟩
  replace H := H.setB 0 rfl hb E rfl; clear hb E
  replace hT := hT.keep [2, 0] rfl
  refine Sx.ser_nil ?_
  refine Sx.then_normal (hK2 _ _ ?_)
  clear hK2
  refine wp_ret ?_
  refine Sx.done1 (fn := Try.f17) hT rfl (.cell (hT.get 2 _ rfl) (Sx.run_resS Try.underlying35 Try.ti35 ((H.blk 0 rfl).seg (k := 3) rfl) (by rfl))) ?_
  exact ⟨rfl, H.ext⟩

end Go.Proofs.Ytakjfnckbidbcaa
