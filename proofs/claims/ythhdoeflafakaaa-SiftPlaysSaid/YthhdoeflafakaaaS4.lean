/- Walks: what comes out of a sift. -/
import Derived.Test.YthhdoeflafakaaaS2
import Derived.Test.YthhdoeflafakaaaC4
import Derived.Test.YthhdoeflafakaaaSrt
import Derived.Test.YthhdoeflafakaaaS3
set_option linter.unusedSimpArgs false
set_option linter.unusedVariables false
namespace Go.Proofs.Ythhdoeflafakaaa
open Sx
theorem Try.bld48 : Sx.Bld Try.prog 48 #[.int .i64 0, .float .f64 0, .string .empty] #[(0, 1), (1, 1), (2, 1)] := ⟨_, _, _, _, Try.ti48, rfl, Try.underlying48, fun w => by simp [Sx.placesOf, Sx.run_sizeOf Try.ti3, Sx.run_sizeOf Try.ti46, Sx.run_sizeOf Try.ti9]⟩
theorem Try.can39 : Sx.Can Try.prog 39 := ⟨_, Try.func39, by kernel_rfl, rfl⟩
theorem Try.can40 : Sx.Can Try.prog 40 := ⟨_, Try.func40, by kernel_rfl, rfl⟩
theorem Try.can41 : Sx.Can Try.prog 41 := ⟨_, Try.func41, by kernel_rfl, rfl⟩
theorem Words_calls (l : Key) (w : World) : Calls Try.prog 41 #[.string ⟨l.toArray⟩] w fun e w' => e = .returned (.agg #[.int .i64 (wkV l).k, .float .f64 (wkV l).num, .string ⟨(wkV l).tx.toArray⟩]) ∧ Ext No w w' := by
  refine Sx.calls_into Try.func41 rfl Try.ntmps41 rfl fun a hT => ?_
  replace hT := hT.keep [0] rfl
  have H : Sx.Hp w (Sx.No) w [] := Sx.Hp.start _ _
  refine wp_seq_k fun K1 hK1 => ?_
  -- region 0 (datum.go:56)
  refine Sx.wp_text [(0, .run)] rfl ?_
  refine Sx.st_eff hT rfl rfl rfl rfl (Sx.y_alloc hT rfl Try.ti48 rfl _) ?_
  clear hT; rintro _ w1 ⟨b1, rfl, N⟩ a hT
  replace H := H.new N; clear N
  replace hT := hT.keep [2, 0] rfl
  refine Sx.ser_nil ?_
  refine Sx.then_normal (hK1 _ _ ?_)
  clear hK1
  refine wp_seq_k fun K2 hK2 => ?_
  refine wp_seq_k fun K3 hK3 => ?_
  -- region 1 (datum.go:57)
  refine Sx.wp_text [(0, .take), (1, .take), (2, .take)] rfl ?_
  refine Sx.st_take hT rfl rfl rfl rfl (Sx.x_move hT rfl rfl) ?_
  clear hT; intro a hT
  refine Sx.st_take hT rfl rfl rfl rfl (Sx.x_lenStr hT rfl rfl Try.underlying9 rfl) ?_
  clear hT; intro a hT
  refine Sx.st_take hT rfl rfl rfl rfl ((fun w => Sx.x_gt w hT rfl rfl rfl)) ?_
  clear hT; intro a hT
  replace hT := hT.keep [5, 2, 0] rfl
  refine Sx.ser_nil ?_
  refine Sx.then_normal (hK3 _ _ ?_)
  clear hK3
  -- cond 0
  refine Sx.wp_if hT rfl (fun hc4 => ?_) (fun hc4 => ?_)
  · try simp only [decide_eq_true_eq, decide_eq_false_iff_not, Bool.not_eq_true', Bool.not_eq_false', Bool.not_eq_true, Bool.not_eq_false, Bool.and_eq_true, Bool.or_eq_false_iff, beq_iff_eq, bne_iff_ne, Int.not_lt, Int.not_le, ne_eq] at hc4
    refine wp_seq_k fun K5 hK5 => ?_
    -- region 2 (datum.go:58)
    refine Sx.wp_text [(0, .take), (1, .run)] rfl ?_
    refine Sx.st_take hT rfl rfl rfl rfl (Sx.x_bld hT rfl Try.bld48 rfl rfl) ?_
    clear hT; intro a hT
    refine Sx.st_act hT rfl rfl rfl (Sx.y_storeS hT rfl Try.ti48 rfl rfl rfl rfl rfl (H.blk 0 rfl) rfl) ?_
    rintro w2 ⟨hb, E, _⟩
    replace H := H.setB 0 rfl hb E rfl; clear hb E
    replace hT := hT.keep [5, 2, 0] rfl
    refine Sx.ser_nil ?_
    refine Sx.then_normal (hK5 _ _ ?_)
    clear hK5
    refine wp_ret ?_
    refine Sx.then_ret ?_
    refine Sx.done1 (fn := Try.f41) hT rfl (.cell (hT.get 2 _ rfl) (Sx.run_resS Try.underlying48 Try.ti48 ((H.blk 0 rfl).seg (k := 3) rfl) (by rfl))) ?_
    have hwk : wkV l = vz := by unfold wkV; exact if_pos (by omega)
    rw [hwk]
    exact ⟨rfl, H.ext⟩
  · try simp only [decide_eq_true_eq, decide_eq_false_iff_not, Bool.not_eq_true', Bool.not_eq_false', Bool.not_eq_true, Bool.not_eq_false, Bool.and_eq_true, Bool.or_eq_false_iff, beq_iff_eq, bne_iff_ne, Int.not_lt, Int.not_le, ne_eq] at hc4
    refine wp_skip ?_
    refine Sx.then_normal (hK2 _ _ ?_)
    clear hK2
    refine wp_seq_k fun K6 hK6 => ?_
    -- region 3 (datum.go:60)
    refine Sx.wp_text [(0, .take), (1, .take), (2, .run)] rfl ?_
    refine Sx.st_take hT rfl rfl rfl rfl (Sx.x_move hT rfl rfl) ?_
    clear hT; intro a hT
    refine Sx.st_take hT rfl rfl rfl rfl (Sx.x_bld hT rfl Try.bld48 rfl rfl) ?_
    clear hT; intro a hT
    refine Sx.st_act hT rfl rfl rfl (Sx.y_storeS hT rfl Try.ti48 rfl rfl rfl rfl rfl (H.blk 0 rfl) rfl) ?_
    rintro w3 ⟨hb, E, _⟩
    replace H := H.setB 0 rfl hb E rfl; clear hb E
    replace hT := hT.keep [5, 2, 0] rfl
    refine Sx.ser_nil ?_
    refine Sx.then_normal (hK6 _ _ ?_)
    clear hK6
    refine wp_ret ?_
    refine Sx.done1 (fn := Try.f41) hT rfl (.cell (hT.get 2 _ rfl) (Sx.run_resS Try.underlying48 Try.ti48 ((H.blk 0 rfl).seg (k := 3) rfl) (by rfl))) ?_
    have hwk : wkV l = ⟨2, 0, l⟩ := by unfold wkV; exact if_neg (by omega)
    rw [hwk]
    exact ⟨rfl, H.ext⟩

theorem CompareD_calls (x y : Vl) (w : World) : Calls Try.prog 40 #[.agg #[.int .i64 x.k, .float .f64 x.num, .string ⟨x.tx.toArray⟩], .agg #[.int .i64 y.k, .float .f64 y.num, .string ⟨y.tx.toArray⟩]] w fun e w' => e = .returned (.int .i64 (cmpD x y)) ∧ Ext No w w' := by
  refine Sx.calls_into Try.func40 rfl Try.ntmps40 rfl fun a hT => ?_
  replace hT := hT.keep [0, 1] rfl
  have H : Sx.Hp w (Sx.No) w [] := Sx.Hp.start _ _
  refine wp_seq_k fun K1 hK1 => ?_
  -- region 0 (datum.go:30)
  refine Sx.wp_text [(0, .run), (1, .run), (2, .take)] rfl ?_
  refine Sx.st_eff hT rfl rfl rfl rfl (Sx.y_box hT rfl rfl rfl _) ?_
  clear hT; rintro _ w1 ⟨b1, rfl, N⟩ a hT
  replace H := H.new N; clear N
  refine Sx.st_eff hT rfl rfl rfl rfl (Sx.y_box hT rfl rfl rfl _) ?_
  clear hT; rintro _ w2 ⟨b2, rfl, N⟩ a hT
  replace H := H.new N; clear N
  refine Sx.st_take hT rfl rfl rfl rfl (Sx.x_assign hT rfl rfl) ?_
  clear hT; intro a hT
  replace hT := hT.keep [4, 3, 2, 0, 1] rfl
  refine Sx.ser_nil ?_
  refine Sx.then_normal (hK1 _ _ ?_)
  clear hK1
  refine wp_seq_k fun K2 hK2 => ?_
  refine wp_seq_k fun K3 hK3 => ?_
  -- region 1 (datum.go:31)
  refine Sx.wp_text [(0, .run), (1, .run), (2, .take), (3, .take), (4, .run), (5, .run), (6, .take), (7, .take)] rfl ?_
  refine Sx.st_run hT rfl rfl rfl rfl (Sx.y_loadS hT rfl Try.underlying48 Try.ti48 rfl ((H.blk 1 rfl).seg (k := 3) rfl) (by rfl)) ?_
  clear hT; intro a hT
  refine Sx.st_call hT rfl rfl rfl rfl rfl Try.can60 rfl (MayV_calls x _) ?_
  rintro _ w3 ⟨rfl, E⟩
  refine ⟨_, rfl, ?_⟩
  clear hT; intro a hT
  replace H := H.pure E; clear E
  refine Sx.st_take hT rfl rfl rfl rfl (Sx.x_not hT rfl rfl) ?_
  clear hT; intro a hT
  refine Sx.st_take hT rfl rfl rfl rfl (Sx.x_move hT rfl rfl) ?_
  clear hT; intro a hT
  -- guard (1, 3)
  refine Sx.Sl.two hT 8 rfl (fun hc4 hT => ?_) (fun hc4 hT => ?_)
  · try simp only [decide_eq_true_eq, decide_eq_false_iff_not, Bool.not_eq_true', Bool.not_eq_false', Bool.not_eq_true, Bool.not_eq_false, Bool.and_eq_true, Bool.or_eq_false_iff, beq_iff_eq, bne_iff_ne, Int.not_lt, Int.not_le, ne_eq] at hc4
    refine Sx.st_runskip hT rfl rfl rfl rfl ?_
    clear hT; intro a hT
    refine Sx.st_runskip hT rfl rfl rfl rfl ?_
    clear hT; intro a hT
    refine Sx.st_skip hT rfl rfl rfl rfl ?_
    clear hT; intro a hT
    refine Sx.st_take hT rfl rfl rfl rfl (Sx.x_pick_t hT rfl rfl rfl) ?_
    clear hT; intro a hT
    replace hT := hT.keep [12, 4, 3, 2, 0, 1] rfl
    refine Sx.ser_nil ?_
    refine Sx.then_normal (hK3 _ _ ?_)
    clear hK3
    refine Sx.wp_if hT rfl (fun _ => ?_) (fun h => by cases h)
    refine wp_seq_k fun K5 hK5 => ?_
    -- region 2 (datum.go:32)
    refine Sx.wp_text [(0, .take)] rfl ?_
    refine Sx.st_take hT rfl rfl rfl rfl (Sx.x_assign hT rfl rfl) ?_
    clear hT; intro a hT
    replace hT := hT.keep [4, 12, 3, 2, 0, 1] rfl
    refine Sx.ser_nil ?_
    refine Sx.then_normal (hK5 _ _ ?_)
    clear hK5
    refine wp_ret ?_
    refine Sx.then_ret ?_
    clear hK2
    refine Sx.done1 (fn := Try.f40) hT rfl (.tmp (hT.get 4 _ rfl)) ?_
    refine ⟨ret_i ?_, H.ext⟩
    clear hT H
    unfold cmpD
    simp_all [slt] <;> (try omega)
  · try simp only [decide_eq_true_eq, decide_eq_false_iff_not, Bool.not_eq_true', Bool.not_eq_false', Bool.not_eq_true, Bool.not_eq_false, Bool.and_eq_true, Bool.or_eq_false_iff, beq_iff_eq, bne_iff_ne, Int.not_lt, Int.not_le, ne_eq] at hc4
    refine Sx.st_run hT rfl rfl rfl rfl (Sx.y_loadS hT rfl Try.underlying48 Try.ti48 rfl ((H.blk 0 rfl).seg (k := 3) rfl) (by rfl)) ?_
    clear hT; intro a hT
    refine Sx.st_call hT rfl rfl rfl rfl rfl Try.can60 rfl (MayV_calls y _) ?_
    rintro _ w4 ⟨rfl, E⟩
    refine ⟨_, rfl, ?_⟩
    clear hT; intro a hT
    replace H := H.pure E; clear E
    refine Sx.st_take hT rfl rfl rfl rfl (Sx.x_not hT rfl rfl) ?_
    clear hT; intro a hT
    refine Sx.st_take hT rfl rfl rfl rfl (Sx.x_pick_f hT rfl rfl rfl) ?_
    clear hT; intro a hT
    replace hT := hT.keep [12, 4, 3, 2, 0, 1] rfl
    refine Sx.ser_nil ?_
    refine Sx.then_normal (hK3 _ _ ?_)
    clear hK3
    -- cond 0
    refine Sx.wp_if hT rfl (fun hc6 => ?_) (fun hc6 => ?_)
    · try simp only [decide_eq_true_eq, decide_eq_false_iff_not, Bool.not_eq_true', Bool.not_eq_false', Bool.not_eq_true, Bool.not_eq_false, Bool.and_eq_true, Bool.or_eq_false_iff, beq_iff_eq, bne_iff_ne, Int.not_lt, Int.not_le, ne_eq] at hc6
      refine wp_seq_k fun K7 hK7 => ?_
      -- region 2 (datum.go:32)
      refine Sx.wp_text [(0, .take)] rfl ?_
      refine Sx.st_take hT rfl rfl rfl rfl (Sx.x_assign hT rfl rfl) ?_
      clear hT; intro a hT
      replace hT := hT.keep [4, 12, 3, 2, 0, 1] rfl
      refine Sx.ser_nil ?_
      refine Sx.then_normal (hK7 _ _ ?_)
      clear hK7
      refine wp_ret ?_
      refine Sx.then_ret ?_
      clear hK2
      refine Sx.done1 (fn := Try.f40) hT rfl (.tmp (hT.get 4 _ rfl)) ?_
      refine ⟨ret_i ?_, H.ext⟩
      clear hT H
      unfold cmpD
      simp_all [slt] <;> (try omega)
    · try simp only [decide_eq_true_eq, decide_eq_false_iff_not, Bool.not_eq_true', Bool.not_eq_false', Bool.not_eq_true, Bool.not_eq_false, Bool.and_eq_true, Bool.or_eq_false_iff, beq_iff_eq, bne_iff_ne, Int.not_lt, Int.not_le, ne_eq] at hc6
      refine wp_skip ?_
      refine Sx.then_normal (hK2 _ _ ?_)
      clear hK2
      refine wp_seq_k fun K8 hK8 => ?_
      refine wp_block ?_
      refine wp_seq_k fun K9 hK9 => ?_
      -- region 3 (datum.go:35)
      refine Sx.wp_text [(0, .take), (1, .run), (2, .take), (3, .run), (4, .take), (5, .take)] rfl ?_
      refine Sx.st_take hT rfl rfl rfl rfl (Sx.x_fieldAddr hT rfl Try.fa48_0 rfl) ?_
      clear hT; intro a hT
      refine Sx.st_run hT rfl rfl rfl rfl (Sx.x_load1 hT rfl Try.fl3 rfl ((H.blk 1 rfl).nth rfl)) ?_
      clear hT; intro a hT
      refine Sx.st_take hT rfl rfl rfl rfl (Sx.x_fieldAddr hT rfl Try.fa48_0 rfl) ?_
      clear hT; intro a hT
      refine Sx.st_run hT rfl rfl rfl rfl (Sx.x_load1 hT rfl Try.fl3 rfl ((H.blk 0 rfl).nth rfl)) ?_
      clear hT; intro a hT
      refine Sx.st_take hT rfl rfl rfl rfl ((fun w => Sx.x_lt w hT rfl rfl rfl)) ?_
      clear hT; intro a hT
      refine Sx.st_take hT rfl rfl rfl rfl (Sx.x_assign hT rfl rfl) ?_
      clear hT; intro a hT
      replace hT := hT.keep [13, 12, 4, 3, 2, 0, 1] rfl
      refine Sx.ser_nil ?_
      refine Sx.then_normal (hK9 _ _ ?_)
      clear hK9
      -- cond 1
      refine Sx.wp_if hT rfl (fun hc10 => ?_) (fun hc10 => ?_)
      · try simp only [decide_eq_true_eq, decide_eq_false_iff_not, Bool.not_eq_true', Bool.not_eq_false', Bool.not_eq_true, Bool.not_eq_false, Bool.and_eq_true, Bool.or_eq_false_iff, beq_iff_eq, bne_iff_ne, Int.not_lt, Int.not_le, ne_eq] at hc10
        refine wp_seq_k fun K11 hK11 => ?_
        -- region 4 (datum.go:36)
        refine Sx.wp_text [(0, .take)] rfl ?_
        refine Sx.st_take hT rfl rfl rfl rfl (Sx.x_assign hT rfl rfl) ?_
        clear hT; intro a hT
        replace hT := hT.keep [4, 13, 12, 3, 2, 0, 1] rfl
        refine Sx.ser_nil ?_
        refine Sx.then_normal (hK11 _ _ ?_)
        clear hK11
        refine wp_ret ?_
        refine Sx.block_ret ?_
        refine Sx.then_ret ?_
        clear hK8
        refine Sx.done1 (fn := Try.f40) hT rfl (.tmp (hT.get 4 _ rfl)) ?_
        refine ⟨ret_i ?_, H.ext⟩
        clear hT H
        unfold cmpD
        simp_all [slt] <;> (try omega)
      · try simp only [decide_eq_true_eq, decide_eq_false_iff_not, Bool.not_eq_true', Bool.not_eq_false', Bool.not_eq_true, Bool.not_eq_false, Bool.and_eq_true, Bool.or_eq_false_iff, beq_iff_eq, bne_iff_ne, Int.not_lt, Int.not_le, ne_eq] at hc10
        refine wp_seq_k fun K12 hK12 => ?_
        -- region 5 (datum.go:37)
        refine Sx.wp_text [(0, .take), (1, .run), (2, .take), (3, .run), (4, .take), (5, .take)] rfl ?_
        refine Sx.st_take hT rfl rfl rfl rfl (Sx.x_fieldAddr hT rfl Try.fa48_0 rfl) ?_
        clear hT; intro a hT
        refine Sx.st_run hT rfl rfl rfl rfl (Sx.x_load1 hT rfl Try.fl3 rfl ((H.blk 1 rfl).nth rfl)) ?_
        clear hT; intro a hT
        refine Sx.st_take hT rfl rfl rfl rfl (Sx.x_fieldAddr hT rfl Try.fa48_0 rfl) ?_
        clear hT; intro a hT
        refine Sx.st_run hT rfl rfl rfl rfl (Sx.x_load1 hT rfl Try.fl3 rfl ((H.blk 0 rfl).nth rfl)) ?_
        clear hT; intro a hT
        refine Sx.st_take hT rfl rfl rfl rfl ((fun w => Sx.x_gt w hT rfl rfl rfl)) ?_
        clear hT; intro a hT
        refine Sx.st_take hT rfl rfl rfl rfl (Sx.x_assign hT rfl rfl) ?_
        clear hT; intro a hT
        replace hT := hT.keep [19, 13, 12, 4, 3, 2, 0, 1] rfl
        refine Sx.ser_nil ?_
        refine Sx.then_normal (hK12 _ _ ?_)
        clear hK12
        -- cond 2
        refine Sx.wp_if hT rfl (fun hc13 => ?_) (fun hc13 => ?_)
        · try simp only [decide_eq_true_eq, decide_eq_false_iff_not, Bool.not_eq_true', Bool.not_eq_false', Bool.not_eq_true, Bool.not_eq_false, Bool.and_eq_true, Bool.or_eq_false_iff, beq_iff_eq, bne_iff_ne, Int.not_lt, Int.not_le, ne_eq] at hc13
          refine wp_seq_k fun K14 hK14 => ?_
          -- region 6 (datum.go:38)
          refine Sx.wp_text [(0, .take)] rfl ?_
          refine Sx.st_take hT rfl rfl rfl rfl (Sx.x_assign hT rfl rfl) ?_
          clear hT; intro a hT
          replace hT := hT.keep [4, 19, 13, 12, 3, 2, 0, 1] rfl
          refine Sx.ser_nil ?_
          refine Sx.then_normal (hK14 _ _ ?_)
          clear hK14
          refine wp_ret ?_
          refine Sx.block_ret ?_
          refine Sx.then_ret ?_
          clear hK8
          refine Sx.done1 (fn := Try.f40) hT rfl (.tmp (hT.get 4 _ rfl)) ?_
          refine ⟨ret_i ?_, H.ext⟩
          clear hT H
          unfold cmpD
          simp_all [slt] <;> (try omega)
        · try simp only [decide_eq_true_eq, decide_eq_false_iff_not, Bool.not_eq_true', Bool.not_eq_false', Bool.not_eq_true, Bool.not_eq_false, Bool.and_eq_true, Bool.or_eq_false_iff, beq_iff_eq, bne_iff_ne, Int.not_lt, Int.not_le, ne_eq] at hc13
          refine wp_seq_k fun K15 hK15 => ?_
          -- region 7 (datum.go:39)
          refine Sx.wp_text [(0, .take), (1, .run), (2, .take), (3, .take)] rfl ?_
          refine Sx.st_take hT rfl rfl rfl rfl (Sx.x_fieldAddr hT rfl Try.fa48_0 rfl) ?_
          clear hT; intro a hT
          refine Sx.st_run hT rfl rfl rfl rfl (Sx.x_load1 hT rfl Try.fl3 rfl ((H.blk 1 rfl).nth rfl)) ?_
          clear hT; intro a hT
          refine Sx.st_take hT rfl rfl rfl rfl ((fun w => Sx.x_eq w hT rfl rfl rfl)) ?_
          clear hT; intro a hT
          refine Sx.st_take hT rfl rfl rfl rfl (Sx.x_assign hT rfl rfl) ?_
          clear hT; intro a hT
          replace hT := hT.keep [25, 19, 13, 12, 4, 3, 2, 0, 1] rfl
          refine Sx.ser_nil ?_
          refine Sx.then_normal (hK15 _ _ ?_)
          clear hK15
          -- cond 3
          refine Sx.wp_if hT rfl (fun hc16 => ?_) (fun hc16 => ?_)
          · try simp only [decide_eq_true_eq, decide_eq_false_iff_not, Bool.not_eq_true', Bool.not_eq_false', Bool.not_eq_true, Bool.not_eq_false, Bool.and_eq_true, Bool.or_eq_false_iff, beq_iff_eq, bne_iff_ne, Int.not_lt, Int.not_le, ne_eq] at hc16
            refine wp_seq_k fun K17 hK17 => ?_
            -- region 8 (datum.go:40)
            refine Sx.wp_text [(0, .take), (1, .run), (2, .take), (3, .run), (4, .run), (5, .take)] rfl ?_
            refine Sx.st_take hT rfl rfl rfl rfl (Sx.x_fieldAddr hT rfl Try.fa48_1 rfl) ?_
            clear hT; intro a hT
            refine Sx.st_run hT rfl rfl rfl rfl (Sx.x_load1 hT rfl Try.fl46 rfl ((H.blk 1 rfl).nth rfl)) ?_
            clear hT; intro a hT
            refine Sx.st_take hT rfl rfl rfl rfl (Sx.x_fieldAddr hT rfl Try.fa48_1 rfl) ?_
            clear hT; intro a hT
            refine Sx.st_run hT rfl rfl rfl rfl (Sx.x_load1 hT rfl Try.fl46 rfl ((H.blk 0 rfl).nth rfl)) ?_
            clear hT; intro a hT
            refine Sx.st_call hT rfl rfl rfl rfl rfl Try.can61 rfl (Cmp_calls _ _ _) ?_
            rintro _ w5 ⟨rfl, E⟩
            refine ⟨_, rfl, ?_⟩
            clear hT; intro a hT
            replace H := H.pure E; clear E
            refine Sx.st_take hT rfl rfl rfl rfl (Sx.x_assign hT rfl rfl) ?_
            clear hT; intro a hT
            replace hT := hT.keep [4, 25, 19, 13, 12, 3, 2, 0, 1] rfl
            refine Sx.ser_nil ?_
            refine Sx.then_normal (hK17 _ _ ?_)
            clear hK17
            refine wp_ret ?_
            refine Sx.block_ret ?_
            refine Sx.then_ret ?_
            clear hK8
            refine Sx.done1 (fn := Try.f40) hT rfl (.tmp (hT.get 4 _ rfl)) ?_
            refine ⟨ret_i ?_, H.ext⟩
            clear hT H
            unfold cmpD
            simp_all [slt] <;> (try omega)
          · try simp only [decide_eq_true_eq, decide_eq_false_iff_not, Bool.not_eq_true', Bool.not_eq_false', Bool.not_eq_true, Bool.not_eq_false, Bool.and_eq_true, Bool.or_eq_false_iff, beq_iff_eq, bne_iff_ne, Int.not_lt, Int.not_le, ne_eq] at hc16
            refine wp_seq_k fun K18 hK18 => ?_
            -- region 9 (datum.go:41)
            refine Sx.wp_text [(0, .take), (1, .run), (2, .take), (3, .run), (4, .take), (5, .take)] rfl ?_
            refine Sx.st_take hT rfl rfl rfl rfl (Sx.x_fieldAddr hT rfl Try.fa48_2 rfl) ?_
            clear hT; intro a hT
            refine Sx.st_run hT rfl rfl rfl rfl (Sx.x_load1 hT rfl Try.fl9 rfl ((H.blk 1 rfl).nth rfl)) ?_
            clear hT; intro a hT
            refine Sx.st_take hT rfl rfl rfl rfl (Sx.x_fieldAddr hT rfl Try.fa48_2 rfl) ?_
            clear hT; intro a hT
            refine Sx.st_run hT rfl rfl rfl rfl (Sx.x_load1 hT rfl Try.fl9 rfl ((H.blk 0 rfl).nth rfl)) ?_
            clear hT; intro a hT
            refine Sx.st_take hT rfl rfl rfl rfl ((fun w => Sx.x_strlt w hT rfl rfl rfl)) ?_
            clear hT; intro a hT
            refine Sx.st_take hT rfl rfl rfl rfl (Sx.x_assign hT rfl rfl) ?_
            clear hT; intro a hT
            replace hT := hT.keep [34, 25, 19, 13, 12, 4, 3, 2, 0, 1] rfl
            refine Sx.ser_nil ?_
            refine Sx.then_normal (hK18 _ _ ?_)
            clear hK18
            -- cond 4
            refine Sx.wp_if hT rfl (fun hc19 => ?_) (fun hc19 => ?_)
            · try simp only [decide_eq_true_eq, decide_eq_false_iff_not, Bool.not_eq_true', Bool.not_eq_false', Bool.not_eq_true, Bool.not_eq_false, Bool.and_eq_true, Bool.or_eq_false_iff, beq_iff_eq, bne_iff_ne, Int.not_lt, Int.not_le, ne_eq] at hc19
              refine wp_seq_k fun K20 hK20 => ?_
              -- region 10 (datum.go:42)
              refine Sx.wp_text [(0, .take)] rfl ?_
              refine Sx.st_take hT rfl rfl rfl rfl (Sx.x_assign hT rfl rfl) ?_
              clear hT; intro a hT
              replace hT := hT.keep [4, 34, 25, 19, 13, 12, 3, 2, 0, 1] rfl
              refine Sx.ser_nil ?_
              refine Sx.then_normal (hK20 _ _ ?_)
              clear hK20
              refine wp_ret ?_
              refine Sx.block_ret ?_
              refine Sx.then_ret ?_
              clear hK8
              refine Sx.done1 (fn := Try.f40) hT rfl (.tmp (hT.get 4 _ rfl)) ?_
              refine ⟨ret_i ?_, H.ext⟩
              clear hT H
              unfold cmpD
              simp_all [slt] <;> (try omega)
            · try simp only [decide_eq_true_eq, decide_eq_false_iff_not, Bool.not_eq_true', Bool.not_eq_false', Bool.not_eq_true, Bool.not_eq_false, Bool.and_eq_true, Bool.or_eq_false_iff, beq_iff_eq, bne_iff_ne, Int.not_lt, Int.not_le, ne_eq] at hc19
              refine wp_seq_k fun K21 hK21 => ?_
              -- region 11 (datum.go:43)
              refine Sx.wp_text [(0, .take), (1, .run), (2, .take), (3, .run), (4, .take), (5, .take)] rfl ?_
              refine Sx.st_take hT rfl rfl rfl rfl (Sx.x_fieldAddr hT rfl Try.fa48_2 rfl) ?_
              clear hT; intro a hT
              refine Sx.st_run hT rfl rfl rfl rfl (Sx.x_load1 hT rfl Try.fl9 rfl ((H.blk 1 rfl).nth rfl)) ?_
              clear hT; intro a hT
              refine Sx.st_take hT rfl rfl rfl rfl (Sx.x_fieldAddr hT rfl Try.fa48_2 rfl) ?_
              clear hT; intro a hT
              refine Sx.st_run hT rfl rfl rfl rfl (Sx.x_load1 hT rfl Try.fl9 rfl ((H.blk 0 rfl).nth rfl)) ?_
              clear hT; intro a hT
              refine Sx.st_take hT rfl rfl rfl rfl ((fun w => Sx.x_strgt w hT rfl rfl rfl)) ?_
              clear hT; intro a hT
              refine Sx.st_take hT rfl rfl rfl rfl (Sx.x_assign hT rfl rfl) ?_
              clear hT; intro a hT
              replace hT := hT.keep [40, 34, 25, 19, 13, 12, 4, 3, 2, 0, 1] rfl
              refine Sx.ser_nil ?_
              refine Sx.then_normal (hK21 _ _ ?_)
              clear hK21
              -- cond 5
              refine Sx.wp_if hT rfl (fun hc22 => ?_) (fun hc22 => ?_)
              · try simp only [decide_eq_true_eq, decide_eq_false_iff_not, Bool.not_eq_true', Bool.not_eq_false', Bool.not_eq_true, Bool.not_eq_false, Bool.and_eq_true, Bool.or_eq_false_iff, beq_iff_eq, bne_iff_ne, Int.not_lt, Int.not_le, ne_eq] at hc22
                refine wp_seq_k fun K23 hK23 => ?_
                -- region 12 (datum.go:44)
                refine Sx.wp_text [(0, .take)] rfl ?_
                refine Sx.st_take hT rfl rfl rfl rfl (Sx.x_assign hT rfl rfl) ?_
                clear hT; intro a hT
                replace hT := hT.keep [4, 40, 34, 25, 19, 13, 12, 3, 2, 0, 1] rfl
                refine Sx.ser_nil ?_
                refine Sx.then_normal (hK23 _ _ ?_)
                clear hK23
                refine wp_ret ?_
                refine Sx.block_ret ?_
                refine Sx.then_ret ?_
                clear hK8
                refine Sx.done1 (fn := Try.f40) hT rfl (.tmp (hT.get 4 _ rfl)) ?_
                refine ⟨ret_i ?_, H.ext⟩
                clear hT H
                unfold cmpD
                simp_all [slt] <;> (try omega)
              · try simp only [decide_eq_true_eq, decide_eq_false_iff_not, Bool.not_eq_true', Bool.not_eq_false', Bool.not_eq_true, Bool.not_eq_false, Bool.and_eq_true, Bool.or_eq_false_iff, beq_iff_eq, bne_iff_ne, Int.not_lt, Int.not_le, ne_eq] at hc22
                refine wp_skip ?_
                refine Sx.block_normal ?_
                refine Sx.then_normal (hK8 _ _ ?_)
                clear hK8
                refine wp_seq_k fun K24 hK24 => ?_
                -- region 13 (datum.go:46)
                refine Sx.wp_text [(0, .take)] rfl ?_
                refine Sx.st_take hT rfl rfl rfl rfl (Sx.x_assign hT rfl rfl) ?_
                clear hT; intro a hT
                replace hT := hT.keep [4, 40, 34, 25, 19, 13, 12, 3, 2, 0, 1] rfl
                refine Sx.ser_nil ?_
                refine Sx.then_normal (hK24 _ _ ?_)
                clear hK24
                refine wp_ret ?_
                refine Sx.done1 (fn := Try.f40) hT rfl (.tmp (hT.get 4 _ rfl)) ?_
                refine ⟨ret_i ?_, H.ext⟩
                clear hT H
                unfold cmpD
                simp_all [slt] <;> (try omega)

theorem Upto1_calls (x y : Wt) (w : World) : Calls Try.prog 39 #[.agg #[.string ⟨x.key.toArray⟩, .int .i64 x.v.k, .float .f64 x.v.num, .string ⟨x.v.tx.toArray⟩], .agg #[.string ⟨y.key.toArray⟩, .int .i64 y.v.k, .float .f64 y.v.num, .string ⟨y.v.tx.toArray⟩]] w fun e w' => e = .returned (.int .i64 (cfK x y)) ∧ Ext No w w' := by
  refine Sx.calls_into Try.func39 rfl Try.ntmps39 rfl fun a hT => ?_
  replace hT := hT.keep [0, 1] rfl
  have H : Sx.Hp w (Sx.No) w [] := Sx.Hp.start _ _
  refine wp_seq_k fun K1 hK1 => ?_
  -- region 0 (sift.go:100)
  refine Sx.wp_text [(0, .run), (1, .run), (2, .take)] rfl ?_
  refine Sx.st_eff hT rfl rfl rfl rfl (Sx.y_box hT rfl rfl rfl _) ?_
  clear hT; rintro _ w1 ⟨b1, rfl, N⟩ a hT
  replace H := H.new N; clear N
  refine Sx.st_eff hT rfl rfl rfl rfl (Sx.y_box hT rfl rfl rfl _) ?_
  clear hT; rintro _ w2 ⟨b2, rfl, N⟩ a hT
  replace H := H.new N; clear N
  refine Sx.st_take hT rfl rfl rfl rfl (Sx.x_assign hT rfl rfl) ?_
  clear hT; intro a hT
  replace hT := hT.keep [4, 3, 2, 0, 1] rfl
  refine Sx.ser_nil ?_
  refine Sx.then_normal (hK1 _ _ ?_)
  clear hK1
  refine wp_seq_k fun K2 hK2 => ?_
  -- region 1 (sift.go:100)
  refine Sx.wp_draws (fun u => Sx.Ext (Sx.No) u) [(0, .take), (1, .held), (3, .take), (4, .held), (2, .keep), (5, .run), (6, .run), (7, .take)] (by kernel_rfl) (by kernel_rfl) (fun u E _ => ?_)
  replace H := H.pure E; clear E
  have hH : Sx.Ext (Sx.No) u u := Sx.Ext.refl _ _
  have Hu := H
  refine Sx.st_take hT rfl rfl rfl rfl (Sx.x_fieldAddr hT rfl Try.fa50_0 rfl) ?_
  clear hT; intro a hT
  refine Sx.st_held hT rfl rfl rfl rfl hH (fun w' h' => Sx.x_load1 hT rfl Try.fl9 rfl ((Hu.heldB 1 rfl h' Sx.off_No).nth rfl)) ?_
  clear hT; intro a hT
  refine Sx.st_take hT rfl rfl rfl rfl (Sx.x_fieldAddr hT rfl Try.fa50_0 rfl) ?_
  clear hT; intro a hT
  refine Sx.st_held hT rfl rfl rfl rfl hH (fun w' h' => Sx.x_load1 hT rfl Try.fl9 rfl ((Hu.heldB 0 rfl h' Sx.off_No).nth rfl)) ?_
  clear hT; intro a hT
  refine Sx.st_callkeep hT rfl rfl rfl rfl rfl Try.can41 rfl (Words_calls x.key _) ?_
  rintro _ w3 ⟨rfl, E⟩
  refine ⟨_, rfl, hH.step E, ?_⟩
  replace hH := hH.step E
  clear hT; intro a hT
  replace H := H.pure E; clear E
  refine Sx.st_call hT rfl rfl rfl rfl rfl Try.can41 rfl (Words_calls y.key _) ?_
  rintro _ w4 ⟨rfl, E⟩
  refine ⟨_, rfl, ?_⟩
  clear hT; intro a hT
  replace H := H.pure E; clear E
  refine Sx.st_call hT rfl rfl rfl rfl rfl Try.can40 rfl (CompareD_calls (wkV x.key) (wkV y.key) _) ?_
  rintro _ w5 ⟨rfl, E⟩
  refine ⟨_, rfl, ?_⟩
  clear hT; intro a hT
  replace H := H.pure E; clear E
  refine Sx.st_take hT rfl rfl rfl rfl (Sx.x_assign hT rfl rfl) ?_
  clear hT; intro a hT
  replace hT := hT.keep [4, 3, 2, 0, 1] rfl
  clear Hu hH
  refine Sx.ser_calm ?_
  refine Sx.then_normal (hK2 _ _ ?_)
  clear hK2
  refine wp_ret ?_
  refine Sx.done1 (fn := Try.f39) hT rfl (.tmp (hT.get 4 _ rfl)) ?_
  exact ⟨rfl, H.ext⟩

theorem swoK : Go.Sort.SWO (Go.Proofs.ltOf cfK) where
  irrefl x := by unfold ltOf; simp only [decide_eq_false_iff_not, cfK_lt]; exact ltK_irr _
  trans x y z h1 h2 := by unfold ltOf at *; simp only [decide_eq_true_eq, cfK_lt] at *; exact ltK_tr h1 h2
  ntrans x y z h1 h2 := by unfold ltOf at *; simp only [decide_eq_false_iff_not, cfK_lt] at *; exact ltK_n h1 h2
theorem isAggW (w : World) : (isAgg 50).run Try.prog w = .ok true w := by unfold isAgg; simp [run_underlying Try.underlying50]
instance : Inhabited Wt := ⟨wz⟩
theorem SortW_calls {ad : Option Addr} {n c : Nat} (ws : List Wt) {w : World} (hr : Row w 50 4 ad n c (ws.flatMap Wt.cells)) (hn : n = ws.length) (h0 : 0 < n) (hb : n ≤ 1000000) :
    Calls Try.prog 38 #[.slice ad n c, .func (.func 39) #[] #[]] w fun e w' => e = .returned (.tuple #[]) ∧ ∃ ws' : List Wt, ws'.Perm ws ∧ (ws'.Pairwise fun x y => ¬ ltK y.key x.key) ∧ Row w' 50 4 ad n c (ws'.flatMap Wt.cells) ∧ Ext (Own ad) w w' := by
  obtain ⟨b, rfl⟩ : ∃ b, ad = some ⟨b, 0, none⟩ := by
    rcases hr.own with ⟨h1, h2, -⟩ | ⟨junk, ha, -⟩
    · omega
    · exact ⟨_, ha⟩
  have hlt : b < w.heap.size := by
    rcases hr.own with ⟨h1, -, -⟩ | ⟨junk, -, hB, -⟩
    · cases h1
    · exact hB.lt
  have hsz : ws.toArray.size = n := by rw [hn]; simp
  have hcon := AnyQ.slices_SortFunc Try.sort38 4 isAggW (Sx.run_sizeOf Try.ti50) Wt.cells Wt.len Wt.one cfK swoK 39 #[] b 0 c ws.toArray w (enters_of Try.func39 (by kernel_rfl) rfl)
    (cmp_laysK fun x y w => Upto1_calls x y w) (row_holdsK Wt.len (by decide) hr hn) hlt (by rw [hsz]; omega)
  rw [hsz] at hcon
  change Calls Try.prog 38 _ _ _ at hcon
  refine hcon.mono fun e w' h => ?_
  obtain ⟨rfl, d', m, os, hp, hs, rfl⟩ := h
  rw [← hsz] at hp hs
  obtain ⟨hd, hpl⟩ := perm_list hp
  have hsl := sorted_list hs (by rw [hd]; simp)
  obtain ⟨hr2, hE⟩ := sortRowK (m := m) (os := os) (d := d') Wt.len (by decide) hr hn (by omega)
  refine ⟨rfl, d'.toList, hpl, hsl.imp fun {x y} h9 => ?_, hr2, ?_⟩
  · unfold ltOf at h9
    simp only [decide_eq_false_iff_not, cfK_lt] at h9
    exact h9
  · have e9 : Own (some ⟨b, 0, none⟩) = One b := Own.one
    rw [e9]
    exact hE

end Go.Proofs.Ythhdoeflafakaaa
