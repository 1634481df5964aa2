/- Walks: what is wrong with a query; a query for the document. -/
import Derived.Test.YtainemoobhkeiaaDoorW3
import Derived.Test.YtainemoobhkeiaaDoorN3
set_option linter.unusedSimpArgs false
set_option linter.unusedVariables false
namespace Go.Proofs.YtainemoobhkeiaaDoor
open Sx
theorem Tryd.ti4 : Sx.TI Tryd.prog 4 (.bool false) 1 1 := .mk' (by kernel_rfl)
theorem Tryd.fl4 : Sx.Flat Tryd.prog 4 := ⟨_, Tryd.underlying4, trivial⟩
theorem Tryd.fa27_5 : Sx.FA Tryd.prog 27 5 9 := ⟨_, _, _, _, _, Tryd.underlying27, rfl, rfl, Tryd.ti4, by decide⟩
theorem Tryd.fa27_6 : Sx.FA Tryd.prog 27 6 10 := ⟨_, _, _, _, _, Tryd.underlying27, rfl, rfl, Tryd.ti3, by decide⟩
theorem Tryd.fa27_7 : Sx.FA Tryd.prog 27 7 11 := ⟨_, _, _, _, _, Tryd.underlying27, rfl, rfl, Tryd.ti9, by decide⟩
theorem Tryd.fa34_6 : Sx.FA Tryd.prog 34 6 10 := ⟨_, _, _, _, _, Tryd.underlying34, rfl, rfl, Tryd.ti3, by decide⟩
theorem Tryd.fa34_7 : Sx.FA Tryd.prog 34 7 11 := ⟨_, _, _, _, _, Tryd.underlying34, rfl, rfl, Tryd.ti9, by decide⟩
theorem Tryd.bld34 : Sx.Bld Tryd.prog 34 #[.string .empty, .string .empty, .int .i64 0, .int .i64 0, .float .f64 0, .string .empty, .int .i64 0, .float .f64 0, .string .empty, .bool false, .int .i64 0, .string .empty] #[(0, 1), (1, 1), (2, 1), (3, 3), (6, 3), (9, 1), (10, 1), (11, 1)] := ⟨_, _, _, _, Tryd.ti34, rfl, Tryd.underlying34, fun w => by simp [Sx.placesOf, Sx.run_sizeOf Tryd.ti25, Sx.run_sizeOf Tryd.ti3, Sx.run_sizeOf Tryd.ti4, Sx.run_sizeOf Tryd.ti9]⟩
theorem Tryd.can12 : Sx.Can Tryd.prog 12 := ⟨_, Tryd.func12, by kernel_rfl, rfl⟩
theorem Tryd.can16 : Sx.Can Tryd.prog 16 := ⟨_, Tryd.func16, by kernel_rfl, rfl⟩
theorem Tryd.can17 : Sx.Can Tryd.prog 17 := ⟨_, Tryd.func17, by kernel_rfl, rfl⟩
theorem Check_calls (q : Query) (w : World) : Calls Tryd.prog 16 #[.agg #[.string ⟨q.fr.toArray⟩, .string ⟨q.to.toArray⟩, .int .i64 q.kind, .int .i64 q.lo.kind, .float .f64 q.lo.num, .string ⟨q.lo.text.toArray⟩, .int .i64 q.hi.kind, .float .f64 q.hi.num, .string ⟨q.hi.text.toArray⟩, .bool q.back, .int .i64 q.most, .string ⟨q.after.toArray⟩]] w fun e w' => e = .returned (.int .i64 (checkQ q)) ∧ Ext No w w' := by
  refine Sx.calls_into Tryd.func16 rfl Tryd.ntmps16 rfl fun a hT => ?_
  replace hT := hT.keep [0] rfl
  have H : Sx.Hp w (Sx.No) w [] := Sx.Hp.start _ _
  refine wp_seq_k fun K1 hK1 => ?_
  -- region 0 (scan.go:24)
  refine Sx.wp_text [(0, .run), (1, .take)] rfl ?_
  refine Sx.st_eff hT rfl rfl rfl rfl (Sx.y_box hT rfl rfl rfl _) ?_
  clear hT; rintro _ w1 ⟨b1, rfl, N⟩ a hT
  replace H := H.new N; clear N
  refine Sx.st_take hT rfl rfl rfl rfl (Sx.x_assign hT rfl rfl) ?_
  clear hT; intro a hT
  replace hT := hT.keep [2, 1, 0] rfl
  refine Sx.ser_nil ?_
  refine Sx.then_normal (hK1 _ _ ?_)
  clear hK1
  refine wp_seq_k fun K2 hK2 => ?_
  refine wp_block ?_
  refine wp_seq_k fun K3 hK3 => ?_
  -- region 1 (scan.go:26)
  refine Sx.wp_text [(0, .take), (1, .run), (2, .take), (3, .take), (4, .take), (5, .take), (6, .run), (7, .take), (8, .take), (9, .take), (10, .take), (11, .take), (12, .run), (13, .take), (14, .take), (15, .take), (16, .take)] rfl ?_
  refine Sx.st_take hT rfl rfl rfl rfl (Sx.x_fieldAddr hT rfl Tryd.fa27_0 rfl) ?_
  clear hT; intro a hT
  refine Sx.st_run hT rfl rfl rfl rfl (Sx.x_load1 hT rfl Tryd.fl9 rfl ((H.blk 0 rfl).nth rfl)) ?_
  clear hT; intro a hT
  refine Sx.st_take hT rfl rfl rfl rfl (Sx.x_lenStr hT rfl rfl Tryd.underlying9 rfl) ?_
  clear hT; intro a hT
  refine Sx.st_take hT rfl rfl rfl rfl ((fun w => Sx.x_gt w hT rfl rfl rfl)) ?_
  clear hT; intro a hT
  refine Sx.st_take hT rfl rfl rfl rfl (Sx.x_move hT rfl rfl) ?_
  clear hT; intro a hT
  -- guard (1, 4)
  refine Sx.Sl.two hT 8 rfl (fun hc4 hT => ?_) (fun hc4 hT => ?_)
  · try simp only [decide_eq_true_eq, decide_eq_false_iff_not, Bool.not_eq_true', Bool.not_eq_false', Bool.not_eq_true, Bool.not_eq_false, Bool.and_eq_true, Bool.or_eq_false_iff, beq_iff_eq, bne_iff_ne, Int.not_lt, Int.not_le, ne_eq] at hc4
    refine Sx.st_skip hT rfl rfl rfl rfl ?_
    clear hT; intro a hT
    refine Sx.st_runskip hT rfl rfl rfl rfl ?_
    clear hT; intro a hT
    refine Sx.st_skip hT rfl rfl rfl rfl ?_
    clear hT; intro a hT
    refine Sx.st_skip hT rfl rfl rfl rfl ?_
    clear hT; intro a hT
    refine Sx.st_take hT rfl rfl rfl rfl (Sx.x_pick_t hT rfl rfl rfl) ?_
    clear hT; intro a hT
    refine Sx.st_take hT rfl rfl rfl rfl (Sx.x_move hT rfl rfl) ?_
    clear hT; intro a hT
    refine Sx.st_skip hT rfl rfl rfl rfl ?_
    clear hT; intro a hT
    refine Sx.st_runskip hT rfl rfl rfl rfl ?_
    clear hT; intro a hT
    refine Sx.st_skip hT rfl rfl rfl rfl ?_
    clear hT; intro a hT
    refine Sx.st_skip hT rfl rfl rfl rfl ?_
    clear hT; intro a hT
    refine Sx.st_take hT rfl rfl rfl rfl (Sx.x_pick_t hT rfl rfl rfl) ?_
    clear hT; intro a hT
    refine Sx.st_take hT rfl rfl rfl rfl (Sx.x_assign hT rfl rfl) ?_
    clear hT; intro a hT
    replace hT := hT.keep [3, 2, 1, 0] rfl
    refine Sx.ser_nil ?_
    refine Sx.then_normal (hK3 _ _ ?_)
    clear hK3
    refine Sx.wp_if hT rfl (fun _ => ?_) (fun h => by cases h)
    refine wp_seq_k fun K5 hK5 => ?_
    -- region 2 (scan.go:27)
    refine Sx.wp_text [(0, .take)] rfl ?_
    refine Sx.st_take hT rfl rfl rfl rfl (Sx.x_assign hT rfl rfl) ?_
    clear hT; intro a hT
    replace hT := hT.keep [2, 3, 1, 0] rfl
    refine Sx.ser_nil ?_
    refine Sx.then_normal (hK5 _ _ ?_)
    clear hK5
    refine wp_ret ?_
    refine Sx.block_ret ?_
    refine Sx.then_ret ?_
    clear hK2
    refine Sx.done1 (fn := Tryd.f16) hT rfl (.tmp (hT.get 2 _ rfl)) ?_
    refine ⟨ret_i ?_, H.ext⟩
    clear hT H
    try simp only [Val.eta] at *
    unfold checkQ
    simp_all <;> (try omega)
  · try simp only [decide_eq_true_eq, decide_eq_false_iff_not, Bool.not_eq_true', Bool.not_eq_false', Bool.not_eq_true, Bool.not_eq_false, Bool.and_eq_true, Bool.or_eq_false_iff, beq_iff_eq, bne_iff_ne, Int.not_lt, Int.not_le, ne_eq] at hc4
    refine Sx.st_take hT rfl rfl rfl rfl (Sx.x_fieldAddr hT rfl Tryd.fa27_1 rfl) ?_
    clear hT; intro a hT
    refine Sx.st_run hT rfl rfl rfl rfl (Sx.x_load1 hT rfl Tryd.fl9 rfl ((H.blk 0 rfl).nth rfl)) ?_
    clear hT; intro a hT
    refine Sx.st_take hT rfl rfl rfl rfl (Sx.x_lenStr hT rfl rfl Tryd.underlying9 rfl) ?_
    clear hT; intro a hT
    refine Sx.st_take hT rfl rfl rfl rfl ((fun w => Sx.x_gt w hT rfl rfl rfl)) ?_
    clear hT; intro a hT
    refine Sx.st_take hT rfl rfl rfl rfl (Sx.x_pick_f hT rfl rfl rfl) ?_
    clear hT; intro a hT
    refine Sx.st_take hT rfl rfl rfl rfl (Sx.x_move hT rfl rfl) ?_
    clear hT; intro a hT
    -- guard (1, 10)
    refine Sx.Sl.two hT 14 rfl (fun hc6 hT => ?_) (fun hc6 hT => ?_)
    · try simp only [decide_eq_true_eq, decide_eq_false_iff_not, Bool.not_eq_true', Bool.not_eq_false', Bool.not_eq_true, Bool.not_eq_false, Bool.and_eq_true, Bool.or_eq_false_iff, beq_iff_eq, bne_iff_ne, Int.not_lt, Int.not_le, ne_eq] at hc6
      refine Sx.st_skip hT rfl rfl rfl rfl ?_
      clear hT; intro a hT
      refine Sx.st_runskip hT rfl rfl rfl rfl ?_
      clear hT; intro a hT
      refine Sx.st_skip hT rfl rfl rfl rfl ?_
      clear hT; intro a hT
      refine Sx.st_skip hT rfl rfl rfl rfl ?_
      clear hT; intro a hT
      refine Sx.st_take hT rfl rfl rfl rfl (Sx.x_pick_t hT rfl rfl rfl) ?_
      clear hT; intro a hT
      refine Sx.st_take hT rfl rfl rfl rfl (Sx.x_assign hT rfl rfl) ?_
      clear hT; intro a hT
      replace hT := hT.keep [3, 2, 1, 0] rfl
      refine Sx.ser_nil ?_
      refine Sx.then_normal (hK3 _ _ ?_)
      clear hK3
      refine Sx.wp_if hT rfl (fun _ => ?_) (fun h => by cases h)
      refine wp_seq_k fun K7 hK7 => ?_
      -- region 2 (scan.go:27)
      refine Sx.wp_text [(0, .take)] rfl ?_
      refine Sx.st_take hT rfl rfl rfl rfl (Sx.x_assign hT rfl rfl) ?_
      clear hT; intro a hT
      replace hT := hT.keep [2, 3, 1, 0] rfl
      refine Sx.ser_nil ?_
      refine Sx.then_normal (hK7 _ _ ?_)
      clear hK7
      refine wp_ret ?_
      refine Sx.block_ret ?_
      refine Sx.then_ret ?_
      clear hK2
      refine Sx.done1 (fn := Tryd.f16) hT rfl (.tmp (hT.get 2 _ rfl)) ?_
      refine ⟨ret_i ?_, H.ext⟩
      clear hT H
      try simp only [Val.eta] at *
      unfold checkQ
      simp_all <;> (try omega)
    · try simp only [decide_eq_true_eq, decide_eq_false_iff_not, Bool.not_eq_true', Bool.not_eq_false', Bool.not_eq_true, Bool.not_eq_false, Bool.and_eq_true, Bool.or_eq_false_iff, beq_iff_eq, bne_iff_ne, Int.not_lt, Int.not_le, ne_eq] at hc6
      refine Sx.st_take hT rfl rfl rfl rfl (Sx.x_fieldAddr hT rfl Tryd.fa27_7 rfl) ?_
      clear hT; intro a hT
      refine Sx.st_run hT rfl rfl rfl rfl (Sx.x_load1 hT rfl Tryd.fl9 rfl ((H.blk 0 rfl).nth rfl)) ?_
      clear hT; intro a hT
      refine Sx.st_take hT rfl rfl rfl rfl (Sx.x_lenStr hT rfl rfl Tryd.underlying9 rfl) ?_
      clear hT; intro a hT
      refine Sx.st_take hT rfl rfl rfl rfl ((fun w => Sx.x_gt w hT rfl rfl rfl)) ?_
      clear hT; intro a hT
      refine Sx.st_take hT rfl rfl rfl rfl (Sx.x_pick_f hT rfl rfl rfl) ?_
      clear hT; intro a hT
      refine Sx.st_take hT rfl rfl rfl rfl (Sx.x_assign hT rfl rfl) ?_
      clear hT; intro a hT
      replace hT := hT.keep [3, 2, 1, 0] rfl
      refine Sx.ser_nil ?_
      refine Sx.then_normal (hK3 _ _ ?_)
      clear hK3
      -- cond 0
      refine Sx.wp_if hT rfl (fun hc8 => ?_) (fun hc8 => ?_)
      · try simp only [decide_eq_true_eq, decide_eq_false_iff_not, Bool.not_eq_true', Bool.not_eq_false', Bool.not_eq_true, Bool.not_eq_false, Bool.and_eq_true, Bool.or_eq_false_iff, beq_iff_eq, bne_iff_ne, Int.not_lt, Int.not_le, ne_eq] at hc8
        refine wp_seq_k fun K9 hK9 => ?_
        -- region 2 (scan.go:27)
        refine Sx.wp_text [(0, .take)] rfl ?_
        refine Sx.st_take hT rfl rfl rfl rfl (Sx.x_assign hT rfl rfl) ?_
        clear hT; intro a hT
        replace hT := hT.keep [2, 3, 1, 0] rfl
        refine Sx.ser_nil ?_
        refine Sx.then_normal (hK9 _ _ ?_)
        clear hK9
        refine wp_ret ?_
        refine Sx.block_ret ?_
        refine Sx.then_ret ?_
        clear hK2
        refine Sx.done1 (fn := Tryd.f16) hT rfl (.tmp (hT.get 2 _ rfl)) ?_
        refine ⟨ret_i ?_, H.ext⟩
        clear hT H
        try simp only [Val.eta] at *
        unfold checkQ
        simp_all <;> (try omega)
      · try simp only [decide_eq_true_eq, decide_eq_false_iff_not, Bool.not_eq_true', Bool.not_eq_false', Bool.not_eq_true, Bool.not_eq_false, Bool.and_eq_true, Bool.or_eq_false_iff, beq_iff_eq, bne_iff_ne, Int.not_lt, Int.not_le, ne_eq] at hc8
        refine wp_seq_k fun K10 hK10 => ?_
        -- region 3 (scan.go:28)
        refine Sx.wp_text [(0, .take), (1, .run), (2, .take), (3, .take), (4, .take), (5, .run), (6, .take), (7, .take), (8, .take)] rfl ?_
        refine Sx.st_take hT rfl rfl rfl rfl (Sx.x_fieldAddr hT rfl Tryd.fa27_2 rfl) ?_
        clear hT; intro a hT
        refine Sx.st_run hT rfl rfl rfl rfl (Sx.x_load1 hT rfl Tryd.fl3 rfl ((H.blk 0 rfl).nth rfl)) ?_
        clear hT; intro a hT
        refine Sx.st_take hT rfl rfl rfl rfl ((fun w => Sx.x_lt w hT rfl rfl rfl)) ?_
        clear hT; intro a hT
        refine Sx.st_take hT rfl rfl rfl rfl (Sx.x_move hT rfl rfl) ?_
        clear hT; intro a hT
        -- guard (3, 3)
        refine Sx.Sl.two hT 24 rfl (fun hc11 hT => ?_) (fun hc11 hT => ?_)
        · try simp only [decide_eq_true_eq, decide_eq_false_iff_not, Bool.not_eq_true', Bool.not_eq_false', Bool.not_eq_true, Bool.not_eq_false, Bool.and_eq_true, Bool.or_eq_false_iff, beq_iff_eq, bne_iff_ne, Int.not_lt, Int.not_le, ne_eq] at hc11
          refine Sx.st_skip hT rfl rfl rfl rfl ?_
          clear hT; intro a hT
          refine Sx.st_runskip hT rfl rfl rfl rfl ?_
          clear hT; intro a hT
          refine Sx.st_skip hT rfl rfl rfl rfl ?_
          clear hT; intro a hT
          refine Sx.st_take hT rfl rfl rfl rfl (Sx.x_pick_t hT rfl rfl rfl) ?_
          clear hT; intro a hT
          refine Sx.st_take hT rfl rfl rfl rfl (Sx.x_assign hT rfl rfl) ?_
          clear hT; intro a hT
          replace hT := hT.keep [20, 3, 2, 1, 0] rfl
          refine Sx.ser_nil ?_
          refine Sx.then_normal (hK10 _ _ ?_)
          clear hK10
          refine Sx.wp_if hT rfl (fun _ => ?_) (fun h => by cases h)
          refine wp_seq_k fun K12 hK12 => ?_
          -- region 4 (scan.go:29)
          refine Sx.wp_text [(0, .take)] rfl ?_
          refine Sx.st_take hT rfl rfl rfl rfl (Sx.x_assign hT rfl rfl) ?_
          clear hT; intro a hT
          replace hT := hT.keep [2, 20, 3, 1, 0] rfl
          refine Sx.ser_nil ?_
          refine Sx.then_normal (hK12 _ _ ?_)
          clear hK12
          refine wp_ret ?_
          refine Sx.block_ret ?_
          refine Sx.then_ret ?_
          clear hK2
          refine Sx.done1 (fn := Tryd.f16) hT rfl (.tmp (hT.get 2 _ rfl)) ?_
          refine ⟨ret_i ?_, H.ext⟩
          clear hT H
          try simp only [Val.eta] at *
          unfold checkQ
          simp_all <;> (try omega)
        · try simp only [decide_eq_true_eq, decide_eq_false_iff_not, Bool.not_eq_true', Bool.not_eq_false', Bool.not_eq_true, Bool.not_eq_false, Bool.and_eq_true, Bool.or_eq_false_iff, beq_iff_eq, bne_iff_ne, Int.not_lt, Int.not_le, ne_eq] at hc11
          refine Sx.st_take hT rfl rfl rfl rfl (Sx.x_fieldAddr hT rfl Tryd.fa27_2 rfl) ?_
          clear hT; intro a hT
          refine Sx.st_run hT rfl rfl rfl rfl (Sx.x_load1 hT rfl Tryd.fl3 rfl ((H.blk 0 rfl).nth rfl)) ?_
          clear hT; intro a hT
          refine Sx.st_take hT rfl rfl rfl rfl ((fun w => Sx.x_gt w hT rfl rfl rfl)) ?_
          clear hT; intro a hT
          refine Sx.st_take hT rfl rfl rfl rfl (Sx.x_pick_f hT rfl rfl rfl) ?_
          clear hT; intro a hT
          refine Sx.st_take hT rfl rfl rfl rfl (Sx.x_assign hT rfl rfl) ?_
          clear hT; intro a hT
          replace hT := hT.keep [20, 3, 2, 1, 0] rfl
          refine Sx.ser_nil ?_
          refine Sx.then_normal (hK10 _ _ ?_)
          clear hK10
          -- cond 1
          refine Sx.wp_if hT rfl (fun hc13 => ?_) (fun hc13 => ?_)
          · try simp only [decide_eq_true_eq, decide_eq_false_iff_not, Bool.not_eq_true', Bool.not_eq_false', Bool.not_eq_true, Bool.not_eq_false, Bool.and_eq_true, Bool.or_eq_false_iff, beq_iff_eq, bne_iff_ne, Int.not_lt, Int.not_le, ne_eq] at hc13
            refine wp_seq_k fun K14 hK14 => ?_
            -- region 4 (scan.go:29)
            refine Sx.wp_text [(0, .take)] rfl ?_
            refine Sx.st_take hT rfl rfl rfl rfl (Sx.x_assign hT rfl rfl) ?_
            clear hT; intro a hT
            replace hT := hT.keep [2, 20, 3, 1, 0] rfl
            refine Sx.ser_nil ?_
            refine Sx.then_normal (hK14 _ _ ?_)
            clear hK14
            refine wp_ret ?_
            refine Sx.block_ret ?_
            refine Sx.then_ret ?_
            clear hK2
            refine Sx.done1 (fn := Tryd.f16) hT rfl (.tmp (hT.get 2 _ rfl)) ?_
            refine ⟨ret_i ?_, H.ext⟩
            clear hT H
            try simp only [Val.eta] at *
            unfold checkQ
            simp_all <;> (try omega)
          · try simp only [decide_eq_true_eq, decide_eq_false_iff_not, Bool.not_eq_true', Bool.not_eq_false', Bool.not_eq_true, Bool.not_eq_false, Bool.and_eq_true, Bool.or_eq_false_iff, beq_iff_eq, bne_iff_ne, Int.not_lt, Int.not_le, ne_eq] at hc13
            refine wp_seq_k fun K15 hK15 => ?_
            -- region 5 (scan.go:30)
            refine Sx.wp_text [(0, .take), (1, .run), (2, .run), (3, .take), (4, .take), (5, .take), (6, .run), (7, .run), (8, .take), (9, .take), (10, .take)] rfl ?_
            refine Sx.st_take hT rfl rfl rfl rfl (Sx.x_fieldAddr hT rfl Tryd.fa27_3 rfl) ?_
            clear hT; intro a hT
            refine Sx.st_run hT rfl rfl rfl rfl (Sx.y_loadS hT rfl Tryd.underlying25 Tryd.ti25 rfl ((H.blk 0 rfl).seg (k := 3) rfl) (by rfl)) ?_
            clear hT; intro a hT
            refine Sx.st_call hT rfl rfl rfl rfl rfl Tryd.can27 rfl (May_calls _ _ _ _) ?_
            rintro _ w2 ⟨rfl, E⟩
            refine ⟨_, rfl, ?_⟩
            clear hT; intro a hT
            replace H := H.pure E; clear E
            refine Sx.st_take hT rfl rfl rfl rfl (Sx.x_not hT rfl rfl) ?_
            clear hT; intro a hT
            refine Sx.st_take hT rfl rfl rfl rfl (Sx.x_move hT rfl rfl) ?_
            clear hT; intro a hT
            -- guard (5, 4)
            refine Sx.Sl.two hT 34 rfl (fun hc16 hT => ?_) (fun hc16 hT => ?_)
            · try simp only [decide_eq_true_eq, decide_eq_false_iff_not, Bool.not_eq_true', Bool.not_eq_false', Bool.not_eq_true, Bool.not_eq_false, Bool.and_eq_true, Bool.or_eq_false_iff, beq_iff_eq, bne_iff_ne, Int.not_lt, Int.not_le, ne_eq] at hc16
              refine Sx.st_skip hT rfl rfl rfl rfl ?_
              clear hT; intro a hT
              refine Sx.st_runskip hT rfl rfl rfl rfl ?_
              clear hT; intro a hT
              refine Sx.st_runskip hT rfl rfl rfl rfl ?_
              clear hT; intro a hT
              refine Sx.st_skip hT rfl rfl rfl rfl ?_
              clear hT; intro a hT
              refine Sx.st_take hT rfl rfl rfl rfl (Sx.x_pick_t hT rfl rfl rfl) ?_
              clear hT; intro a hT
              refine Sx.st_take hT rfl rfl rfl rfl (Sx.x_assign hT rfl rfl) ?_
              clear hT; intro a hT
              replace hT := hT.keep [29, 20, 3, 2, 1, 0] rfl
              refine Sx.ser_nil ?_
              refine Sx.then_normal (hK15 _ _ ?_)
              clear hK15
              refine Sx.wp_if hT rfl (fun _ => ?_) (fun h => by cases h)
              refine wp_seq_k fun K17 hK17 => ?_
              -- region 6 (scan.go:31)
              refine Sx.wp_text [(0, .take)] rfl ?_
              refine Sx.st_take hT rfl rfl rfl rfl (Sx.x_assign hT rfl rfl) ?_
              clear hT; intro a hT
              replace hT := hT.keep [2, 29, 20, 3, 1, 0] rfl
              refine Sx.ser_nil ?_
              refine Sx.then_normal (hK17 _ _ ?_)
              clear hK17
              refine wp_ret ?_
              refine Sx.block_ret ?_
              refine Sx.then_ret ?_
              clear hK2
              refine Sx.done1 (fn := Tryd.f16) hT rfl (.tmp (hT.get 2 _ rfl)) ?_
              refine ⟨ret_i ?_, H.ext⟩
              clear hT H
              try simp only [Val.eta] at *
              unfold checkQ
              simp_all <;> (try omega)
            · try simp only [decide_eq_true_eq, decide_eq_false_iff_not, Bool.not_eq_true', Bool.not_eq_false', Bool.not_eq_true, Bool.not_eq_false, Bool.and_eq_true, Bool.or_eq_false_iff, beq_iff_eq, bne_iff_ne, Int.not_lt, Int.not_le, ne_eq] at hc16
              refine Sx.st_take hT rfl rfl rfl rfl (Sx.x_fieldAddr hT rfl Tryd.fa27_4 rfl) ?_
              clear hT; intro a hT
              refine Sx.st_run hT rfl rfl rfl rfl (Sx.y_loadS hT rfl Tryd.underlying25 Tryd.ti25 rfl ((H.blk 0 rfl).seg (k := 3) rfl) (by rfl)) ?_
              clear hT; intro a hT
              refine Sx.st_call hT rfl rfl rfl rfl rfl Tryd.can27 rfl (May_calls _ _ _ _) ?_
              rintro _ w3 ⟨rfl, E⟩
              refine ⟨_, rfl, ?_⟩
              clear hT; intro a hT
              replace H := H.pure E; clear E
              refine Sx.st_take hT rfl rfl rfl rfl (Sx.x_not hT rfl rfl) ?_
              clear hT; intro a hT
              refine Sx.st_take hT rfl rfl rfl rfl (Sx.x_pick_f hT rfl rfl rfl) ?_
              clear hT; intro a hT
              refine Sx.st_take hT rfl rfl rfl rfl (Sx.x_assign hT rfl rfl) ?_
              clear hT; intro a hT
              replace hT := hT.keep [29, 20, 3, 2, 1, 0] rfl
              refine Sx.ser_nil ?_
              refine Sx.then_normal (hK15 _ _ ?_)
              clear hK15
              -- cond 2
              refine Sx.wp_if hT rfl (fun hc18 => ?_) (fun hc18 => ?_)
              · try simp only [decide_eq_true_eq, decide_eq_false_iff_not, Bool.not_eq_true', Bool.not_eq_false', Bool.not_eq_true, Bool.not_eq_false, Bool.and_eq_true, Bool.or_eq_false_iff, beq_iff_eq, bne_iff_ne, Int.not_lt, Int.not_le, ne_eq] at hc18
                refine wp_seq_k fun K19 hK19 => ?_
                -- region 6 (scan.go:31)
                refine Sx.wp_text [(0, .take)] rfl ?_
                refine Sx.st_take hT rfl rfl rfl rfl (Sx.x_assign hT rfl rfl) ?_
                clear hT; intro a hT
                replace hT := hT.keep [2, 29, 20, 3, 1, 0] rfl
                refine Sx.ser_nil ?_
                refine Sx.then_normal (hK19 _ _ ?_)
                clear hK19
                refine wp_ret ?_
                refine Sx.block_ret ?_
                refine Sx.then_ret ?_
                clear hK2
                refine Sx.done1 (fn := Tryd.f16) hT rfl (.tmp (hT.get 2 _ rfl)) ?_
                refine ⟨ret_i ?_, H.ext⟩
                clear hT H
                try simp only [Val.eta] at *
                unfold checkQ
                simp_all <;> (try omega)
              · try simp only [decide_eq_true_eq, decide_eq_false_iff_not, Bool.not_eq_true', Bool.not_eq_false', Bool.not_eq_true, Bool.not_eq_false, Bool.and_eq_true, Bool.or_eq_false_iff, beq_iff_eq, bne_iff_ne, Int.not_lt, Int.not_le, ne_eq] at hc18
                refine wp_seq_k fun K20 hK20 => ?_
                -- region 7 (scan.go:32)
                refine Sx.wp_text [(0, .take), (1, .run), (2, .take), (3, .take), (4, .take), (5, .run), (6, .take), (7, .take), (8, .take)] rfl ?_
                refine Sx.st_take hT rfl rfl rfl rfl (Sx.x_fieldAddr hT rfl Tryd.fa27_6 rfl) ?_
                clear hT; intro a hT
                refine Sx.st_run hT rfl rfl rfl rfl (Sx.x_load1 hT rfl Tryd.fl3 rfl ((H.blk 0 rfl).nth rfl)) ?_
                clear hT; intro a hT
                refine Sx.st_take hT rfl rfl rfl rfl ((fun w => Sx.x_lt w hT rfl rfl rfl)) ?_
                clear hT; intro a hT
                refine Sx.st_take hT rfl rfl rfl rfl (Sx.x_move hT rfl rfl) ?_
                clear hT; intro a hT
                -- guard (7, 3)
                refine Sx.Sl.two hT 44 rfl (fun hc21 hT => ?_) (fun hc21 hT => ?_)
                · try simp only [decide_eq_true_eq, decide_eq_false_iff_not, Bool.not_eq_true', Bool.not_eq_false', Bool.not_eq_true, Bool.not_eq_false, Bool.and_eq_true, Bool.or_eq_false_iff, beq_iff_eq, bne_iff_ne, Int.not_lt, Int.not_le, ne_eq] at hc21
                  refine Sx.st_skip hT rfl rfl rfl rfl ?_
                  clear hT; intro a hT
                  refine Sx.st_runskip hT rfl rfl rfl rfl ?_
                  clear hT; intro a hT
                  refine Sx.st_skip hT rfl rfl rfl rfl ?_
                  clear hT; intro a hT
                  refine Sx.st_take hT rfl rfl rfl rfl (Sx.x_pick_t hT rfl rfl rfl) ?_
                  clear hT; intro a hT
                  refine Sx.st_take hT rfl rfl rfl rfl (Sx.x_assign hT rfl rfl) ?_
                  clear hT; intro a hT
                  replace hT := hT.keep [40, 29, 20, 3, 2, 1, 0] rfl
                  refine Sx.ser_nil ?_
                  refine Sx.then_normal (hK20 _ _ ?_)
                  clear hK20
                  refine Sx.wp_if hT rfl (fun _ => ?_) (fun h => by cases h)
                  refine wp_seq_k fun K22 hK22 => ?_
                  -- region 8 (scan.go:33)
                  refine Sx.wp_text [(0, .take)] rfl ?_
                  refine Sx.st_take hT rfl rfl rfl rfl (Sx.x_assign hT rfl rfl) ?_
                  clear hT; intro a hT
                  replace hT := hT.keep [2, 40, 29, 20, 3, 1, 0] rfl
                  refine Sx.ser_nil ?_
                  refine Sx.then_normal (hK22 _ _ ?_)
                  clear hK22
                  refine wp_ret ?_
                  refine Sx.block_ret ?_
                  refine Sx.then_ret ?_
                  clear hK2
                  refine Sx.done1 (fn := Tryd.f16) hT rfl (.tmp (hT.get 2 _ rfl)) ?_
                  refine ⟨ret_i ?_, H.ext⟩
                  clear hT H
                  try simp only [Val.eta] at *
                  unfold checkQ
                  simp_all <;> (try omega)
                · try simp only [decide_eq_true_eq, decide_eq_false_iff_not, Bool.not_eq_true', Bool.not_eq_false', Bool.not_eq_true, Bool.not_eq_false, Bool.and_eq_true, Bool.or_eq_false_iff, beq_iff_eq, bne_iff_ne, Int.not_lt, Int.not_le, ne_eq] at hc21
                  refine Sx.st_take hT rfl rfl rfl rfl (Sx.x_fieldAddr hT rfl Tryd.fa27_6 rfl) ?_
                  clear hT; intro a hT
                  refine Sx.st_run hT rfl rfl rfl rfl (Sx.x_load1 hT rfl Tryd.fl3 rfl ((H.blk 0 rfl).nth rfl)) ?_
                  clear hT; intro a hT
                  refine Sx.st_take hT rfl rfl rfl rfl ((fun w => Sx.x_gt w hT rfl rfl rfl)) ?_
                  clear hT; intro a hT
                  refine Sx.st_take hT rfl rfl rfl rfl (Sx.x_pick_f hT rfl rfl rfl) ?_
                  clear hT; intro a hT
                  refine Sx.st_take hT rfl rfl rfl rfl (Sx.x_assign hT rfl rfl) ?_
                  clear hT; intro a hT
                  replace hT := hT.keep [40, 29, 20, 3, 2, 1, 0] rfl
                  refine Sx.ser_nil ?_
                  refine Sx.then_normal (hK20 _ _ ?_)
                  clear hK20
                  -- cond 3
                  refine Sx.wp_if hT rfl (fun hc23 => ?_) (fun hc23 => ?_)
                  · try simp only [decide_eq_true_eq, decide_eq_false_iff_not, Bool.not_eq_true', Bool.not_eq_false', Bool.not_eq_true, Bool.not_eq_false, Bool.and_eq_true, Bool.or_eq_false_iff, beq_iff_eq, bne_iff_ne, Int.not_lt, Int.not_le, ne_eq] at hc23
                    refine wp_seq_k fun K24 hK24 => ?_
                    -- region 8 (scan.go:33)
                    refine Sx.wp_text [(0, .take)] rfl ?_
                    refine Sx.st_take hT rfl rfl rfl rfl (Sx.x_assign hT rfl rfl) ?_
                    clear hT; intro a hT
                    replace hT := hT.keep [2, 40, 29, 20, 3, 1, 0] rfl
                    refine Sx.ser_nil ?_
                    refine Sx.then_normal (hK24 _ _ ?_)
                    clear hK24
                    refine wp_ret ?_
                    refine Sx.block_ret ?_
                    refine Sx.then_ret ?_
                    clear hK2
                    refine Sx.done1 (fn := Tryd.f16) hT rfl (.tmp (hT.get 2 _ rfl)) ?_
                    refine ⟨ret_i ?_, H.ext⟩
                    clear hT H
                    try simp only [Val.eta] at *
                    unfold checkQ
                    simp_all <;> (try omega)
                  · try simp only [decide_eq_true_eq, decide_eq_false_iff_not, Bool.not_eq_true', Bool.not_eq_false', Bool.not_eq_true, Bool.not_eq_false, Bool.and_eq_true, Bool.or_eq_false_iff, beq_iff_eq, bne_iff_ne, Int.not_lt, Int.not_le, ne_eq] at hc23
                    refine wp_skip ?_
                    refine Sx.block_normal ?_
                    refine Sx.then_normal (hK2 _ _ ?_)
                    clear hK2
                    refine wp_seq_k fun K25 hK25 => ?_
                    -- region 9 (scan.go:35)
                    refine Sx.wp_text [(0, .take)] rfl ?_
                    refine Sx.st_take hT rfl rfl rfl rfl (Sx.x_assign hT rfl rfl) ?_
                    clear hT; intro a hT
                    replace hT := hT.keep [2, 40, 29, 20, 3, 1, 0] rfl
                    refine Sx.ser_nil ?_
                    refine Sx.then_normal (hK25 _ _ ?_)
                    clear hK25
                    refine wp_ret ?_
                    refine Sx.done1 (fn := Tryd.f16) hT rfl (.tmp (hT.get 2 _ rfl)) ?_
                    refine ⟨ret_i ?_, H.ext⟩
                    clear hT H
                    try simp only [Val.eta] at *
                    unfold checkQ
                    simp_all <;> (try omega)

theorem xCheck_calls (q : Query) (w : World) : Calls Tryd.prog 17 #[.agg #[.string ⟨q.fr.toArray⟩, .string ⟨q.to.toArray⟩, .int .i64 q.kind, .int .i64 q.lo.kind, .float .f64 q.lo.num, .string ⟨q.lo.text.toArray⟩, .int .i64 q.hi.kind, .float .f64 q.hi.num, .string ⟨q.hi.text.toArray⟩, .bool q.back, .int .i64 q.most, .string ⟨q.after.toArray⟩]] w fun e w' => e = .returned (.int .i64 (checkQ q)) ∧ Ext No w w' := by
  refine Sx.calls_into Tryd.func17 rfl Tryd.ntmps17 rfl fun a hT => ?_
  replace hT := hT.keep [0] rfl
  have H : Sx.Hp w (Sx.No) w [] := Sx.Hp.start _ _
  refine wp_seq_k fun K1 hK1 => ?_
  -- region 0 (ref.go:21)
  refine Sx.wp_text [(0, .run), (1, .take)] rfl ?_
  refine Sx.st_eff hT rfl rfl rfl rfl (Sx.y_box hT rfl rfl rfl _) ?_
  clear hT; rintro _ w1 ⟨b1, rfl, N⟩ a hT
  replace H := H.new N; clear N
  refine Sx.st_take hT rfl rfl rfl rfl (Sx.x_assign hT rfl rfl) ?_
  clear hT; intro a hT
  replace hT := hT.keep [2, 1, 0] rfl
  refine Sx.ser_nil ?_
  refine Sx.then_normal (hK1 _ _ ?_)
  clear hK1
  refine wp_seq_k fun K2 hK2 => ?_
  refine wp_block ?_
  refine wp_seq_k fun K3 hK3 => ?_
  -- region 1 (ref.go:23)
  refine Sx.wp_text [(0, .take), (1, .run), (2, .take), (3, .take), (4, .take), (5, .take), (6, .run), (7, .take), (8, .take), (9, .take), (10, .take), (11, .take), (12, .run), (13, .take), (14, .take), (15, .take), (16, .take)] rfl ?_
  refine Sx.st_take hT rfl rfl rfl rfl (Sx.x_fieldAddr hT rfl Tryd.fa34_0 rfl) ?_
  clear hT; intro a hT
  refine Sx.st_run hT rfl rfl rfl rfl (Sx.x_load1 hT rfl Tryd.fl9 rfl ((H.blk 0 rfl).nth rfl)) ?_
  clear hT; intro a hT
  refine Sx.st_take hT rfl rfl rfl rfl (Sx.x_lenStr hT rfl rfl Tryd.underlying9 rfl) ?_
  clear hT; intro a hT
  refine Sx.st_take hT rfl rfl rfl rfl ((fun w => Sx.x_gt w hT rfl rfl rfl)) ?_
  clear hT; intro a hT
  refine Sx.st_take hT rfl rfl rfl rfl (Sx.x_move hT rfl rfl) ?_
  clear hT; intro a hT
  -- guard (1, 4)
  refine Sx.Sl.two hT 8 rfl (fun hc4 hT => ?_) (fun hc4 hT => ?_)
  · try simp only [decide_eq_true_eq, decide_eq_false_iff_not, Bool.not_eq_true', Bool.not_eq_false', Bool.not_eq_true, Bool.not_eq_false, Bool.and_eq_true, Bool.or_eq_false_iff, beq_iff_eq, bne_iff_ne, Int.not_lt, Int.not_le, ne_eq] at hc4
    refine Sx.st_skip hT rfl rfl rfl rfl ?_
    clear hT; intro a hT
    refine Sx.st_runskip hT rfl rfl rfl rfl ?_
    clear hT; intro a hT
    refine Sx.st_skip hT rfl rfl rfl rfl ?_
    clear hT; intro a hT
    refine Sx.st_skip hT rfl rfl rfl rfl ?_
    clear hT; intro a hT
    refine Sx.st_take hT rfl rfl rfl rfl (Sx.x_pick_t hT rfl rfl rfl) ?_
    clear hT; intro a hT
    refine Sx.st_take hT rfl rfl rfl rfl (Sx.x_move hT rfl rfl) ?_
    clear hT; intro a hT
    refine Sx.st_skip hT rfl rfl rfl rfl ?_
    clear hT; intro a hT
    refine Sx.st_runskip hT rfl rfl rfl rfl ?_
    clear hT; intro a hT
    refine Sx.st_skip hT rfl rfl rfl rfl ?_
    clear hT; intro a hT
    refine Sx.st_skip hT rfl rfl rfl rfl ?_
    clear hT; intro a hT
    refine Sx.st_take hT rfl rfl rfl rfl (Sx.x_pick_t hT rfl rfl rfl) ?_
    clear hT; intro a hT
    refine Sx.st_take hT rfl rfl rfl rfl (Sx.x_assign hT rfl rfl) ?_
    clear hT; intro a hT
    replace hT := hT.keep [3, 2, 1, 0] rfl
    refine Sx.ser_nil ?_
    refine Sx.then_normal (hK3 _ _ ?_)
    clear hK3
    refine Sx.wp_if hT rfl (fun _ => ?_) (fun h => by cases h)
    refine wp_seq_k fun K5 hK5 => ?_
    -- region 2 (ref.go:24)
    refine Sx.wp_text [(0, .take)] rfl ?_
    refine Sx.st_take hT rfl rfl rfl rfl (Sx.x_assign hT rfl rfl) ?_
    clear hT; intro a hT
    replace hT := hT.keep [2, 3, 1, 0] rfl
    refine Sx.ser_nil ?_
    refine Sx.then_normal (hK5 _ _ ?_)
    clear hK5
    refine wp_ret ?_
    refine Sx.block_ret ?_
    refine Sx.then_ret ?_
    clear hK2
    refine Sx.done1 (fn := Tryd.f17) hT rfl (.tmp (hT.get 2 _ rfl)) ?_
    refine ⟨ret_i ?_, H.ext⟩
    clear hT H
    try simp only [Val.eta] at *
    unfold checkQ
    simp_all <;> (try omega)
  · try simp only [decide_eq_true_eq, decide_eq_false_iff_not, Bool.not_eq_true', Bool.not_eq_false', Bool.not_eq_true, Bool.not_eq_false, Bool.and_eq_true, Bool.or_eq_false_iff, beq_iff_eq, bne_iff_ne, Int.not_lt, Int.not_le, ne_eq] at hc4
    refine Sx.st_take hT rfl rfl rfl rfl (Sx.x_fieldAddr hT rfl Tryd.fa34_1 rfl) ?_
    clear hT; intro a hT
    refine Sx.st_run hT rfl rfl rfl rfl (Sx.x_load1 hT rfl Tryd.fl9 rfl ((H.blk 0 rfl).nth rfl)) ?_
    clear hT; intro a hT
    refine Sx.st_take hT rfl rfl rfl rfl (Sx.x_lenStr hT rfl rfl Tryd.underlying9 rfl) ?_
    clear hT; intro a hT
    refine Sx.st_take hT rfl rfl rfl rfl ((fun w => Sx.x_gt w hT rfl rfl rfl)) ?_
    clear hT; intro a hT
    refine Sx.st_take hT rfl rfl rfl rfl (Sx.x_pick_f hT rfl rfl rfl) ?_
    clear hT; intro a hT
    refine Sx.st_take hT rfl rfl rfl rfl (Sx.x_move hT rfl rfl) ?_
    clear hT; intro a hT
    -- guard (1, 10)
    refine Sx.Sl.two hT 14 rfl (fun hc6 hT => ?_) (fun hc6 hT => ?_)
    · try simp only [decide_eq_true_eq, decide_eq_false_iff_not, Bool.not_eq_true', Bool.not_eq_false', Bool.not_eq_true, Bool.not_eq_false, Bool.and_eq_true, Bool.or_eq_false_iff, beq_iff_eq, bne_iff_ne, Int.not_lt, Int.not_le, ne_eq] at hc6
      refine Sx.st_skip hT rfl rfl rfl rfl ?_
      clear hT; intro a hT
      refine Sx.st_runskip hT rfl rfl rfl rfl ?_
      clear hT; intro a hT
      refine Sx.st_skip hT rfl rfl rfl rfl ?_
      clear hT; intro a hT
      refine Sx.st_skip hT rfl rfl rfl rfl ?_
      clear hT; intro a hT
      refine Sx.st_take hT rfl rfl rfl rfl (Sx.x_pick_t hT rfl rfl rfl) ?_
      clear hT; intro a hT
      refine Sx.st_take hT rfl rfl rfl rfl (Sx.x_assign hT rfl rfl) ?_
      clear hT; intro a hT
      replace hT := hT.keep [3, 2, 1, 0] rfl
      refine Sx.ser_nil ?_
      refine Sx.then_normal (hK3 _ _ ?_)
      clear hK3
      refine Sx.wp_if hT rfl (fun _ => ?_) (fun h => by cases h)
      refine wp_seq_k fun K7 hK7 => ?_
      -- region 2 (ref.go:24)
      refine Sx.wp_text [(0, .take)] rfl ?_
      refine Sx.st_take hT rfl rfl rfl rfl (Sx.x_assign hT rfl rfl) ?_
      clear hT; intro a hT
      replace hT := hT.keep [2, 3, 1, 0] rfl
      refine Sx.ser_nil ?_
      refine Sx.then_normal (hK7 _ _ ?_)
      clear hK7
      refine wp_ret ?_
      refine Sx.block_ret ?_
      refine Sx.then_ret ?_
      clear hK2
      refine Sx.done1 (fn := Tryd.f17) hT rfl (.tmp (hT.get 2 _ rfl)) ?_
      refine ⟨ret_i ?_, H.ext⟩
      clear hT H
      try simp only [Val.eta] at *
      unfold checkQ
      simp_all <;> (try omega)
    · try simp only [decide_eq_true_eq, decide_eq_false_iff_not, Bool.not_eq_true', Bool.not_eq_false', Bool.not_eq_true, Bool.not_eq_false, Bool.and_eq_true, Bool.or_eq_false_iff, beq_iff_eq, bne_iff_ne, Int.not_lt, Int.not_le, ne_eq] at hc6
      refine Sx.st_take hT rfl rfl rfl rfl (Sx.x_fieldAddr hT rfl Tryd.fa34_7 rfl) ?_
      clear hT; intro a hT
      refine Sx.st_run hT rfl rfl rfl rfl (Sx.x_load1 hT rfl Tryd.fl9 rfl ((H.blk 0 rfl).nth rfl)) ?_
      clear hT; intro a hT
      refine Sx.st_take hT rfl rfl rfl rfl (Sx.x_lenStr hT rfl rfl Tryd.underlying9 rfl) ?_
      clear hT; intro a hT
      refine Sx.st_take hT rfl rfl rfl rfl ((fun w => Sx.x_gt w hT rfl rfl rfl)) ?_
      clear hT; intro a hT
      refine Sx.st_take hT rfl rfl rfl rfl (Sx.x_pick_f hT rfl rfl rfl) ?_
      clear hT; intro a hT
      refine Sx.st_take hT rfl rfl rfl rfl (Sx.x_assign hT rfl rfl) ?_
      clear hT; intro a hT
      replace hT := hT.keep [3, 2, 1, 0] rfl
      refine Sx.ser_nil ?_
      refine Sx.then_normal (hK3 _ _ ?_)
      clear hK3
      -- cond 0
      refine Sx.wp_if hT rfl (fun hc8 => ?_) (fun hc8 => ?_)
      · try simp only [decide_eq_true_eq, decide_eq_false_iff_not, Bool.not_eq_true', Bool.not_eq_false', Bool.not_eq_true, Bool.not_eq_false, Bool.and_eq_true, Bool.or_eq_false_iff, beq_iff_eq, bne_iff_ne, Int.not_lt, Int.not_le, ne_eq] at hc8
        refine wp_seq_k fun K9 hK9 => ?_
        -- region 2 (ref.go:24)
        refine Sx.wp_text [(0, .take)] rfl ?_
        refine Sx.st_take hT rfl rfl rfl rfl (Sx.x_assign hT rfl rfl) ?_
        clear hT; intro a hT
        replace hT := hT.keep [2, 3, 1, 0] rfl
        refine Sx.ser_nil ?_
        refine Sx.then_normal (hK9 _ _ ?_)
        clear hK9
        refine wp_ret ?_
        refine Sx.block_ret ?_
        refine Sx.then_ret ?_
        clear hK2
        refine Sx.done1 (fn := Tryd.f17) hT rfl (.tmp (hT.get 2 _ rfl)) ?_
        refine ⟨ret_i ?_, H.ext⟩
        clear hT H
        try simp only [Val.eta] at *
        unfold checkQ
        simp_all <;> (try omega)
      · try simp only [decide_eq_true_eq, decide_eq_false_iff_not, Bool.not_eq_true', Bool.not_eq_false', Bool.not_eq_true, Bool.not_eq_false, Bool.and_eq_true, Bool.or_eq_false_iff, beq_iff_eq, bne_iff_ne, Int.not_lt, Int.not_le, ne_eq] at hc8
        refine wp_seq_k fun K10 hK10 => ?_
        -- region 3 (ref.go:25)
        refine Sx.wp_text [(0, .take), (1, .run), (2, .take), (3, .take), (4, .take), (5, .run), (6, .take), (7, .take), (8, .take)] rfl ?_
        refine Sx.st_take hT rfl rfl rfl rfl (Sx.x_fieldAddr hT rfl Tryd.fa34_2 rfl) ?_
        clear hT; intro a hT
        refine Sx.st_run hT rfl rfl rfl rfl (Sx.x_load1 hT rfl Tryd.fl3 rfl ((H.blk 0 rfl).nth rfl)) ?_
        clear hT; intro a hT
        refine Sx.st_take hT rfl rfl rfl rfl ((fun w => Sx.x_lt w hT rfl rfl rfl)) ?_
        clear hT; intro a hT
        refine Sx.st_take hT rfl rfl rfl rfl (Sx.x_move hT rfl rfl) ?_
        clear hT; intro a hT
        -- guard (3, 3)
        refine Sx.Sl.two hT 24 rfl (fun hc11 hT => ?_) (fun hc11 hT => ?_)
        · try simp only [decide_eq_true_eq, decide_eq_false_iff_not, Bool.not_eq_true', Bool.not_eq_false', Bool.not_eq_true, Bool.not_eq_false, Bool.and_eq_true, Bool.or_eq_false_iff, beq_iff_eq, bne_iff_ne, Int.not_lt, Int.not_le, ne_eq] at hc11
          refine Sx.st_skip hT rfl rfl rfl rfl ?_
          clear hT; intro a hT
          refine Sx.st_runskip hT rfl rfl rfl rfl ?_
          clear hT; intro a hT
          refine Sx.st_skip hT rfl rfl rfl rfl ?_
          clear hT; intro a hT
          refine Sx.st_take hT rfl rfl rfl rfl (Sx.x_pick_t hT rfl rfl rfl) ?_
          clear hT; intro a hT
          refine Sx.st_take hT rfl rfl rfl rfl (Sx.x_assign hT rfl rfl) ?_
          clear hT; intro a hT
          replace hT := hT.keep [20, 3, 2, 1, 0] rfl
          refine Sx.ser_nil ?_
          refine Sx.then_normal (hK10 _ _ ?_)
          clear hK10
          refine Sx.wp_if hT rfl (fun _ => ?_) (fun h => by cases h)
          refine wp_seq_k fun K12 hK12 => ?_
          -- region 4 (ref.go:26)
          refine Sx.wp_text [(0, .take)] rfl ?_
          refine Sx.st_take hT rfl rfl rfl rfl (Sx.x_assign hT rfl rfl) ?_
          clear hT; intro a hT
          replace hT := hT.keep [2, 20, 3, 1, 0] rfl
          refine Sx.ser_nil ?_
          refine Sx.then_normal (hK12 _ _ ?_)
          clear hK12
          refine wp_ret ?_
          refine Sx.block_ret ?_
          refine Sx.then_ret ?_
          clear hK2
          refine Sx.done1 (fn := Tryd.f17) hT rfl (.tmp (hT.get 2 _ rfl)) ?_
          refine ⟨ret_i ?_, H.ext⟩
          clear hT H
          try simp only [Val.eta] at *
          unfold checkQ
          simp_all <;> (try omega)
        · try simp only [decide_eq_true_eq, decide_eq_false_iff_not, Bool.not_eq_true', Bool.not_eq_false', Bool.not_eq_true, Bool.not_eq_false, Bool.and_eq_true, Bool.or_eq_false_iff, beq_iff_eq, bne_iff_ne, Int.not_lt, Int.not_le, ne_eq] at hc11
          refine Sx.st_take hT rfl rfl rfl rfl (Sx.x_fieldAddr hT rfl Tryd.fa34_2 rfl) ?_
          clear hT; intro a hT
          refine Sx.st_run hT rfl rfl rfl rfl (Sx.x_load1 hT rfl Tryd.fl3 rfl ((H.blk 0 rfl).nth rfl)) ?_
          clear hT; intro a hT
          refine Sx.st_take hT rfl rfl rfl rfl ((fun w => Sx.x_gt w hT rfl rfl rfl)) ?_
          clear hT; intro a hT
          refine Sx.st_take hT rfl rfl rfl rfl (Sx.x_pick_f hT rfl rfl rfl) ?_
          clear hT; intro a hT
          refine Sx.st_take hT rfl rfl rfl rfl (Sx.x_assign hT rfl rfl) ?_
          clear hT; intro a hT
          replace hT := hT.keep [20, 3, 2, 1, 0] rfl
          refine Sx.ser_nil ?_
          refine Sx.then_normal (hK10 _ _ ?_)
          clear hK10
          -- cond 1
          refine Sx.wp_if hT rfl (fun hc13 => ?_) (fun hc13 => ?_)
          · try simp only [decide_eq_true_eq, decide_eq_false_iff_not, Bool.not_eq_true', Bool.not_eq_false', Bool.not_eq_true, Bool.not_eq_false, Bool.and_eq_true, Bool.or_eq_false_iff, beq_iff_eq, bne_iff_ne, Int.not_lt, Int.not_le, ne_eq] at hc13
            refine wp_seq_k fun K14 hK14 => ?_
            -- region 4 (ref.go:26)
            refine Sx.wp_text [(0, .take)] rfl ?_
            refine Sx.st_take hT rfl rfl rfl rfl (Sx.x_assign hT rfl rfl) ?_
            clear hT; intro a hT
            replace hT := hT.keep [2, 20, 3, 1, 0] rfl
            refine Sx.ser_nil ?_
            refine Sx.then_normal (hK14 _ _ ?_)
            clear hK14
            refine wp_ret ?_
            refine Sx.block_ret ?_
            refine Sx.then_ret ?_
            clear hK2
            refine Sx.done1 (fn := Tryd.f17) hT rfl (.tmp (hT.get 2 _ rfl)) ?_
            refine ⟨ret_i ?_, H.ext⟩
            clear hT H
            try simp only [Val.eta] at *
            unfold checkQ
            simp_all <;> (try omega)
          · try simp only [decide_eq_true_eq, decide_eq_false_iff_not, Bool.not_eq_true', Bool.not_eq_false', Bool.not_eq_true, Bool.not_eq_false, Bool.and_eq_true, Bool.or_eq_false_iff, beq_iff_eq, bne_iff_ne, Int.not_lt, Int.not_le, ne_eq] at hc13
            refine wp_seq_k fun K15 hK15 => ?_
            -- region 5 (ref.go:27)
            refine Sx.wp_text [(0, .take), (1, .run), (2, .run), (3, .take), (4, .take), (5, .take), (6, .run), (7, .run), (8, .take), (9, .take), (10, .take)] rfl ?_
            refine Sx.st_take hT rfl rfl rfl rfl (Sx.x_fieldAddr hT rfl Tryd.fa34_3 rfl) ?_
            clear hT; intro a hT
            refine Sx.st_run hT rfl rfl rfl rfl (Sx.y_loadS hT rfl Tryd.underlying25 Tryd.ti25 rfl ((H.blk 0 rfl).seg (k := 3) rfl) (by rfl)) ?_
            clear hT; intro a hT
            refine Sx.st_call hT rfl rfl rfl rfl rfl Tryd.can28 rfl (xMay_calls _ _ _ _) ?_
            rintro _ w2 ⟨rfl, E⟩
            refine ⟨_, rfl, ?_⟩
            clear hT; intro a hT
            replace H := H.pure E; clear E
            refine Sx.st_take hT rfl rfl rfl rfl (Sx.x_not hT rfl rfl) ?_
            clear hT; intro a hT
            refine Sx.st_take hT rfl rfl rfl rfl (Sx.x_move hT rfl rfl) ?_
            clear hT; intro a hT
            -- guard (5, 4)
            refine Sx.Sl.two hT 34 rfl (fun hc16 hT => ?_) (fun hc16 hT => ?_)
            · try simp only [decide_eq_true_eq, decide_eq_false_iff_not, Bool.not_eq_true', Bool.not_eq_false', Bool.not_eq_true, Bool.not_eq_false, Bool.and_eq_true, Bool.or_eq_false_iff, beq_iff_eq, bne_iff_ne, Int.not_lt, Int.not_le, ne_eq] at hc16
              refine Sx.st_skip hT rfl rfl rfl rfl ?_
              clear hT; intro a hT
              refine Sx.st_runskip hT rfl rfl rfl rfl ?_
              clear hT; intro a hT
              refine Sx.st_runskip hT rfl rfl rfl rfl ?_
              clear hT; intro a hT
              refine Sx.st_skip hT rfl rfl rfl rfl ?_
              clear hT; intro a hT
              refine Sx.st_take hT rfl rfl rfl rfl (Sx.x_pick_t hT rfl rfl rfl) ?_
              clear hT; intro a hT
              refine Sx.st_take hT rfl rfl rfl rfl (Sx.x_assign hT rfl rfl) ?_
              clear hT; intro a hT
              replace hT := hT.keep [29, 20, 3, 2, 1, 0] rfl
              refine Sx.ser_nil ?_
              refine Sx.then_normal (hK15 _ _ ?_)
              clear hK15
              refine Sx.wp_if hT rfl (fun _ => ?_) (fun h => by cases h)
              refine wp_seq_k fun K17 hK17 => ?_
              -- region 6 (ref.go:28)
              refine Sx.wp_text [(0, .take)] rfl ?_
              refine Sx.st_take hT rfl rfl rfl rfl (Sx.x_assign hT rfl rfl) ?_
              clear hT; intro a hT
              replace hT := hT.keep [2, 29, 20, 3, 1, 0] rfl
              refine Sx.ser_nil ?_
              refine Sx.then_normal (hK17 _ _ ?_)
              clear hK17
              refine wp_ret ?_
              refine Sx.block_ret ?_
              refine Sx.then_ret ?_
              clear hK2
              refine Sx.done1 (fn := Tryd.f17) hT rfl (.tmp (hT.get 2 _ rfl)) ?_
              refine ⟨ret_i ?_, H.ext⟩
              clear hT H
              try simp only [Val.eta] at *
              unfold checkQ
              simp_all <;> (try omega)
            · try simp only [decide_eq_true_eq, decide_eq_false_iff_not, Bool.not_eq_true', Bool.not_eq_false', Bool.not_eq_true, Bool.not_eq_false, Bool.and_eq_true, Bool.or_eq_false_iff, beq_iff_eq, bne_iff_ne, Int.not_lt, Int.not_le, ne_eq] at hc16
              refine Sx.st_take hT rfl rfl rfl rfl (Sx.x_fieldAddr hT rfl Tryd.fa34_4 rfl) ?_
              clear hT; intro a hT
              refine Sx.st_run hT rfl rfl rfl rfl (Sx.y_loadS hT rfl Tryd.underlying25 Tryd.ti25 rfl ((H.blk 0 rfl).seg (k := 3) rfl) (by rfl)) ?_
              clear hT; intro a hT
              refine Sx.st_call hT rfl rfl rfl rfl rfl Tryd.can28 rfl (xMay_calls _ _ _ _) ?_
              rintro _ w3 ⟨rfl, E⟩
              refine ⟨_, rfl, ?_⟩
              clear hT; intro a hT
              replace H := H.pure E; clear E
              refine Sx.st_take hT rfl rfl rfl rfl (Sx.x_not hT rfl rfl) ?_
              clear hT; intro a hT
              refine Sx.st_take hT rfl rfl rfl rfl (Sx.x_pick_f hT rfl rfl rfl) ?_
              clear hT; intro a hT
              refine Sx.st_take hT rfl rfl rfl rfl (Sx.x_assign hT rfl rfl) ?_
              clear hT; intro a hT
              replace hT := hT.keep [29, 20, 3, 2, 1, 0] rfl
              refine Sx.ser_nil ?_
              refine Sx.then_normal (hK15 _ _ ?_)
              clear hK15
              -- cond 2
              refine Sx.wp_if hT rfl (fun hc18 => ?_) (fun hc18 => ?_)
              · try simp only [decide_eq_true_eq, decide_eq_false_iff_not, Bool.not_eq_true', Bool.not_eq_false', Bool.not_eq_true, Bool.not_eq_false, Bool.and_eq_true, Bool.or_eq_false_iff, beq_iff_eq, bne_iff_ne, Int.not_lt, Int.not_le, ne_eq] at hc18
                refine wp_seq_k fun K19 hK19 => ?_
                -- region 6 (ref.go:28)
                refine Sx.wp_text [(0, .take)] rfl ?_
                refine Sx.st_take hT rfl rfl rfl rfl (Sx.x_assign hT rfl rfl) ?_
                clear hT; intro a hT
                replace hT := hT.keep [2, 29, 20, 3, 1, 0] rfl
                refine Sx.ser_nil ?_
                refine Sx.then_normal (hK19 _ _ ?_)
                clear hK19
                refine wp_ret ?_
                refine Sx.block_ret ?_
                refine Sx.then_ret ?_
                clear hK2
                refine Sx.done1 (fn := Tryd.f17) hT rfl (.tmp (hT.get 2 _ rfl)) ?_
                refine ⟨ret_i ?_, H.ext⟩
                clear hT H
                try simp only [Val.eta] at *
                unfold checkQ
                simp_all <;> (try omega)
              · try simp only [decide_eq_true_eq, decide_eq_false_iff_not, Bool.not_eq_true', Bool.not_eq_false', Bool.not_eq_true, Bool.not_eq_false, Bool.and_eq_true, Bool.or_eq_false_iff, beq_iff_eq, bne_iff_ne, Int.not_lt, Int.not_le, ne_eq] at hc18
                refine wp_seq_k fun K20 hK20 => ?_
                -- region 7 (ref.go:29)
                refine Sx.wp_text [(0, .take), (1, .run), (2, .take), (3, .take), (4, .take), (5, .run), (6, .take), (7, .take), (8, .take)] rfl ?_
                refine Sx.st_take hT rfl rfl rfl rfl (Sx.x_fieldAddr hT rfl Tryd.fa34_6 rfl) ?_
                clear hT; intro a hT
                refine Sx.st_run hT rfl rfl rfl rfl (Sx.x_load1 hT rfl Tryd.fl3 rfl ((H.blk 0 rfl).nth rfl)) ?_
                clear hT; intro a hT
                refine Sx.st_take hT rfl rfl rfl rfl ((fun w => Sx.x_lt w hT rfl rfl rfl)) ?_
                clear hT; intro a hT
                refine Sx.st_take hT rfl rfl rfl rfl (Sx.x_move hT rfl rfl) ?_
                clear hT; intro a hT
                -- guard (7, 3)
                refine Sx.Sl.two hT 44 rfl (fun hc21 hT => ?_) (fun hc21 hT => ?_)
                · try simp only [decide_eq_true_eq, decide_eq_false_iff_not, Bool.not_eq_true', Bool.not_eq_false', Bool.not_eq_true, Bool.not_eq_false, Bool.and_eq_true, Bool.or_eq_false_iff, beq_iff_eq, bne_iff_ne, Int.not_lt, Int.not_le, ne_eq] at hc21
                  refine Sx.st_skip hT rfl rfl rfl rfl ?_
                  clear hT; intro a hT
                  refine Sx.st_runskip hT rfl rfl rfl rfl ?_
                  clear hT; intro a hT
                  refine Sx.st_skip hT rfl rfl rfl rfl ?_
                  clear hT; intro a hT
                  refine Sx.st_take hT rfl rfl rfl rfl (Sx.x_pick_t hT rfl rfl rfl) ?_
                  clear hT; intro a hT
                  refine Sx.st_take hT rfl rfl rfl rfl (Sx.x_assign hT rfl rfl) ?_
                  clear hT; intro a hT
                  replace hT := hT.keep [40, 29, 20, 3, 2, 1, 0] rfl
                  refine Sx.ser_nil ?_
                  refine Sx.then_normal (hK20 _ _ ?_)
                  clear hK20
                  refine Sx.wp_if hT rfl (fun _ => ?_) (fun h => by cases h)
                  refine wp_seq_k fun K22 hK22 => ?_
                  -- region 8 (ref.go:30)
                  refine Sx.wp_text [(0, .take)] rfl ?_
                  refine Sx.st_take hT rfl rfl rfl rfl (Sx.x_assign hT rfl rfl) ?_
                  clear hT; intro a hT
                  replace hT := hT.keep [2, 40, 29, 20, 3, 1, 0] rfl
                  refine Sx.ser_nil ?_
                  refine Sx.then_normal (hK22 _ _ ?_)
                  clear hK22
                  refine wp_ret ?_
                  refine Sx.block_ret ?_
                  refine Sx.then_ret ?_
                  clear hK2
                  refine Sx.done1 (fn := Tryd.f17) hT rfl (.tmp (hT.get 2 _ rfl)) ?_
                  refine ⟨ret_i ?_, H.ext⟩
                  clear hT H
                  try simp only [Val.eta] at *
                  unfold checkQ
                  simp_all <;> (try omega)
                · try simp only [decide_eq_true_eq, decide_eq_false_iff_not, Bool.not_eq_true', Bool.not_eq_false', Bool.not_eq_true, Bool.not_eq_false, Bool.and_eq_true, Bool.or_eq_false_iff, beq_iff_eq, bne_iff_ne, Int.not_lt, Int.not_le, ne_eq] at hc21
                  refine Sx.st_take hT rfl rfl rfl rfl (Sx.x_fieldAddr hT rfl Tryd.fa34_6 rfl) ?_
                  clear hT; intro a hT
                  refine Sx.st_run hT rfl rfl rfl rfl (Sx.x_load1 hT rfl Tryd.fl3 rfl ((H.blk 0 rfl).nth rfl)) ?_
                  clear hT; intro a hT
                  refine Sx.st_take hT rfl rfl rfl rfl ((fun w => Sx.x_gt w hT rfl rfl rfl)) ?_
                  clear hT; intro a hT
                  refine Sx.st_take hT rfl rfl rfl rfl (Sx.x_pick_f hT rfl rfl rfl) ?_
                  clear hT; intro a hT
                  refine Sx.st_take hT rfl rfl rfl rfl (Sx.x_assign hT rfl rfl) ?_
                  clear hT; intro a hT
                  replace hT := hT.keep [40, 29, 20, 3, 2, 1, 0] rfl
                  refine Sx.ser_nil ?_
                  refine Sx.then_normal (hK20 _ _ ?_)
                  clear hK20
                  -- cond 3
                  refine Sx.wp_if hT rfl (fun hc23 => ?_) (fun hc23 => ?_)
                  · try simp only [decide_eq_true_eq, decide_eq_false_iff_not, Bool.not_eq_true', Bool.not_eq_false', Bool.not_eq_true, Bool.not_eq_false, Bool.and_eq_true, Bool.or_eq_false_iff, beq_iff_eq, bne_iff_ne, Int.not_lt, Int.not_le, ne_eq] at hc23
                    refine wp_seq_k fun K24 hK24 => ?_
                    -- region 8 (ref.go:30)
                    refine Sx.wp_text [(0, .take)] rfl ?_
                    refine Sx.st_take hT rfl rfl rfl rfl (Sx.x_assign hT rfl rfl) ?_
                    clear hT; intro a hT
                    replace hT := hT.keep [2, 40, 29, 20, 3, 1, 0] rfl
                    refine Sx.ser_nil ?_
                    refine Sx.then_normal (hK24 _ _ ?_)
                    clear hK24
                    refine wp_ret ?_
                    refine Sx.block_ret ?_
                    refine Sx.then_ret ?_
                    clear hK2
                    refine Sx.done1 (fn := Tryd.f17) hT rfl (.tmp (hT.get 2 _ rfl)) ?_
                    refine ⟨ret_i ?_, H.ext⟩
                    clear hT H
                    try simp only [Val.eta] at *
                    unfold checkQ
                    simp_all <;> (try omega)
                  · try simp only [decide_eq_true_eq, decide_eq_false_iff_not, Bool.not_eq_true', Bool.not_eq_false', Bool.not_eq_true, Bool.not_eq_false, Bool.and_eq_true, Bool.or_eq_false_iff, beq_iff_eq, bne_iff_ne, Int.not_lt, Int.not_le, ne_eq] at hc23
                    refine wp_skip ?_
                    refine Sx.block_normal ?_
                    refine Sx.then_normal (hK2 _ _ ?_)
                    clear hK2
                    refine wp_seq_k fun K25 hK25 => ?_
                    -- region 9 (ref.go:32)
                    refine Sx.wp_text [(0, .take)] rfl ?_
                    refine Sx.st_take hT rfl rfl rfl rfl (Sx.x_assign hT rfl rfl) ?_
                    clear hT; intro a hT
                    replace hT := hT.keep [2, 40, 29, 20, 3, 1, 0] rfl
                    refine Sx.ser_nil ?_
                    refine Sx.then_normal (hK25 _ _ ?_)
                    clear hK25
                    refine wp_ret ?_
                    refine Sx.done1 (fn := Tryd.f17) hT rfl (.tmp (hT.get 2 _ rfl)) ?_
                    refine ⟨ret_i ?_, H.ext⟩
                    clear hT H
                    try simp only [Val.eta] at *
                    unfold checkQ
                    simp_all <;> (try omega)

theorem Plain_calls (q : Query) (w : World) : Calls Tryd.prog 12 #[.agg #[.string ⟨q.fr.toArray⟩, .string ⟨q.to.toArray⟩, .int .i64 q.kind, .int .i64 q.lo.kind, .float .f64 q.lo.num, .string ⟨q.lo.text.toArray⟩, .int .i64 q.hi.kind, .float .f64 q.hi.num, .string ⟨q.hi.text.toArray⟩, .bool q.back, .int .i64 q.most, .string ⟨q.after.toArray⟩]] w fun e w' => e = .returned (.agg #[.string ⟨q.fr.toArray⟩, .string ⟨q.to.toArray⟩, .int .i64 q.kind, .int .i64 q.lo.kind, .float .f64 q.lo.num, .string ⟨q.lo.text.toArray⟩, .int .i64 q.hi.kind, .float .f64 q.hi.num, .string ⟨q.hi.text.toArray⟩, .bool q.back, .int .i64 q.most, .string ⟨q.after.toArray⟩]) ∧ Ext No w w' := by
  refine Sx.calls_into Tryd.func12 rfl Tryd.ntmps12 rfl fun a hT => ?_
  replace hT := hT.keep [0] rfl
  have H : Sx.Hp w (Sx.No) w [] := Sx.Hp.start _ _
  refine wp_seq_k fun K1 hK1 => ?_
  -- region 0 (law.go:35)
  refine Sx.wp_text [(0, .run), (1, .run)] rfl ?_
  refine Sx.st_eff hT rfl rfl rfl rfl (Sx.y_box hT rfl rfl rfl _) ?_
  clear hT; rintro _ w1 ⟨b1, rfl, N⟩ a hT
  replace H := H.new N; clear N
  refine Sx.st_eff hT rfl rfl rfl rfl (Sx.y_alloc hT rfl Tryd.ti34 rfl _) ?_
  clear hT; rintro _ w2 ⟨b2, rfl, N⟩ a hT
  replace H := H.new N; clear N
  replace hT := hT.keep [2, 1, 0] rfl
  refine Sx.ser_nil ?_
  refine Sx.then_normal (hK1 _ _ ?_)
  clear hK1
  refine wp_seq_k fun K2 hK2 => ?_
  -- region 1 (law.go:36)
  refine Sx.wp_text [(0, .take), (1, .run), (2, .take), (3, .run), (4, .take), (5, .run), (6, .take), (7, .run), (8, .take), (9, .run), (10, .take), (11, .run), (12, .take), (13, .run), (14, .take), (15, .run), (16, .take), (17, .run)] rfl ?_
  refine Sx.st_take hT rfl rfl rfl rfl (Sx.x_fieldAddr hT rfl Tryd.fa27_0 rfl) ?_
  clear hT; intro a hT
  refine Sx.st_run hT rfl rfl rfl rfl (Sx.x_load1 hT rfl Tryd.fl9 rfl ((H.blk 1 rfl).nth rfl)) ?_
  clear hT; intro a hT
  refine Sx.st_take hT rfl rfl rfl rfl (Sx.x_fieldAddr hT rfl Tryd.fa27_1 rfl) ?_
  clear hT; intro a hT
  refine Sx.st_run hT rfl rfl rfl rfl (Sx.x_load1 hT rfl Tryd.fl9 rfl ((H.blk 1 rfl).nth rfl)) ?_
  clear hT; intro a hT
  refine Sx.st_take hT rfl rfl rfl rfl (Sx.x_fieldAddr hT rfl Tryd.fa27_2 rfl) ?_
  clear hT; intro a hT
  refine Sx.st_run hT rfl rfl rfl rfl (Sx.x_load1 hT rfl Tryd.fl3 rfl ((H.blk 1 rfl).nth rfl)) ?_
  clear hT; intro a hT
  refine Sx.st_take hT rfl rfl rfl rfl (Sx.x_fieldAddr hT rfl Tryd.fa27_3 rfl) ?_
  clear hT; intro a hT
  refine Sx.st_run hT rfl rfl rfl rfl (Sx.y_loadS hT rfl Tryd.underlying25 Tryd.ti25 rfl ((H.blk 1 rfl).seg (k := 3) rfl) (by rfl)) ?_
  clear hT; intro a hT
  refine Sx.st_take hT rfl rfl rfl rfl (Sx.x_fieldAddr hT rfl Tryd.fa27_4 rfl) ?_
  clear hT; intro a hT
  refine Sx.st_run hT rfl rfl rfl rfl (Sx.y_loadS hT rfl Tryd.underlying25 Tryd.ti25 rfl ((H.blk 1 rfl).seg (k := 3) rfl) (by rfl)) ?_
  clear hT; intro a hT
  refine Sx.st_take hT rfl rfl rfl rfl (Sx.x_fieldAddr hT rfl Tryd.fa27_5 rfl) ?_
  clear hT; intro a hT
  refine Sx.st_run hT rfl rfl rfl rfl (Sx.x_load1 hT rfl Tryd.fl4 rfl ((H.blk 1 rfl).nth rfl)) ?_
  clear hT; intro a hT
  refine Sx.st_take hT rfl rfl rfl rfl (Sx.x_fieldAddr hT rfl Tryd.fa27_6 rfl) ?_
  clear hT; intro a hT
  refine Sx.st_run hT rfl rfl rfl rfl (Sx.x_load1 hT rfl Tryd.fl3 rfl ((H.blk 1 rfl).nth rfl)) ?_
  clear hT; intro a hT
  refine Sx.st_take hT rfl rfl rfl rfl (Sx.x_fieldAddr hT rfl Tryd.fa27_7 rfl) ?_
  clear hT; intro a hT
  refine Sx.st_run hT rfl rfl rfl rfl (Sx.x_load1 hT rfl Tryd.fl9 rfl ((H.blk 1 rfl).nth rfl)) ?_
  clear hT; intro a hT
  refine Sx.st_take hT rfl rfl rfl rfl (Sx.x_bld hT rfl Tryd.bld34 rfl rfl) ?_
  clear hT; intro a hT
  refine Sx.st_act hT rfl rfl rfl (Sx.y_storeS hT rfl Tryd.ti34 rfl rfl rfl rfl rfl (H.blk 0 rfl) rfl) ?_
  rintro w3 ⟨hb, E, _⟩
  replace H := H.setB 0 rfl hb E rfl; clear hb E
  replace hT := hT.keep [2, 1, 0] rfl
  refine Sx.ser_nil ?_
  refine Sx.then_normal (hK2 _ _ ?_)
  clear hK2
  refine wp_ret ?_
  refine Sx.done1 (fn := Tryd.f12) hT rfl (.cell (hT.get 2 _ rfl) (Sx.run_resS Tryd.underlying34 Tryd.ti34 ((H.blk 0 rfl).seg (k := 12) rfl) (by rfl))) ?_
  exact ⟨rfl, H.ext⟩

end Go.Proofs.YtainemoobhkeiaaDoor
