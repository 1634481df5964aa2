/- Walks: what the chapter fixes. -/
import Derived.Test.YtakjfnckbidbcaaV10
set_option linter.unusedSimpArgs false
set_option linter.unusedVariables false
namespace Go.Proofs.Ytakjfnckbidbcaa
open Sx
theorem Try.bld39 : Sx.Bld Try.prog 39 #[.int .i64 0, .int .i64 0, .int .i64 0] #[(0, 1), (1, 1), (2, 1)] := ⟨_, _, _, _, Try.ti39, rfl, Try.underlying39, fun w => by simp [Sx.placesOf, Sx.run_sizeOf Try.ti3]⟩
theorem Try.bld42 : Sx.Bld Try.prog 42 #[.int .i64 0, .int .i64 0, .int .i64 0, .int .i64 0, .int .i64 0, .int .i64 0, .slice none 0 0] #[(0, 3), (3, 3), (6, 1)] := ⟨_, _, _, _, Try.ti42, rfl, Try.underlying42, fun w => by simp [Sx.placesOf, Sx.run_sizeOf Try.ti35, Sx.run_sizeOf Try.ti39, Sx.run_sizeOf Try.ti40]⟩
theorem Try.bld48 : Sx.Bld Try.prog 48 #[.int .i64 0, .float .f64 0, .string .empty] #[(0, 1), (1, 1), (2, 1)] := ⟨_, _, _, _, Try.ti48, rfl, Try.underlying48, fun w => by simp [Sx.placesOf, Sx.run_sizeOf Try.ti3, Sx.run_sizeOf Try.ti46, Sx.run_sizeOf Try.ti9]⟩
theorem Try.bld50 : Sx.Bld Try.prog 50 #[.string .empty, .int .i64 0, .float .f64 0, .string .empty] #[(0, 1), (1, 3)] := ⟨_, _, _, _, Try.ti50, rfl, Try.underlying50, fun w => by simp [Sx.placesOf, Sx.run_sizeOf Try.ti48, Sx.run_sizeOf Try.ti9]⟩
theorem Try.can7 : Sx.Can Try.prog 7 := ⟨_, Try.func7, by kernel_rfl, rfl⟩
def FT : Tn := ⟨1, 1, 1⟩
def FS : Stp := ⟨5, 0, 1⟩
def F1 : List Wt := [⟨[97, 98], ⟨1, 4607182418800017408, []⟩⟩, ⟨[98], ⟨2, 0, [120]⟩⟩]
def FG : List G6 := [⟨[97], 1, 1, 4607182418800017408, 4607182418800017408, 4607182418800017408⟩, ⟨[98], 1, 0, 0, 0, 0⟩]
theorem f1a : appE sz0 FT FS F1 = 0 ∧ appL sz0 FT FS [] F1 = F1 ∧ appH sz0 FT FS F1 = FS := by decide +kernel
theorem f1b : appE FS FT FS F1 = 20 ∧ appL FS FT FS F1 F1 = F1 ∧ appH FS FT FS F1 = FS := by decide +kernel
theorem f1g : groupsF 1 F1 = FG := by decide +kernel
theorem f1s : SrtK slt Wt.key F1 := by unfold SrtK; decide
theorem f1k : ∀ x ∈ F1, x.key.length ≤ 140737488351232 := by decide

theorem first_calls (w : World) : Calls Try.prog 7 #[] w fun e w' => e = .returned (.bool true) ∧ Ext No w w' := by
  show Calls Try.prog 7 ([] : List Value).toArray w _
  refine Sx.calls_into Try.func7 rfl Try.ntmps7 rfl fun a hT => ?_
  replace hT := hT.keep [] rfl
  have H : Sx.Hp w (Sx.No) w [] := Sx.Hp.start _ _
  refine wp_seq_k fun K1 hK1 => ?_
  -- region 0 (law.go:15)
  refine Sx.wp_text [(0, .take)] rfl ?_
  refine Sx.st_take hT rfl rfl rfl rfl (Sx.x_assign hT rfl rfl) ?_
  clear hT; intro a hT
  replace hT := hT.keep [0] rfl
  refine Sx.ser_nil ?_
  refine Sx.then_normal (hK1 _ _ ?_)
  clear hK1
  refine wp_seq_k fun K2 hK2 => ?_
  -- region 1 (law.go:16)
  refine Sx.wp_text [(0, .run), (1, .take), (2, .take), (3, .take), (4, .take), (5, .take)] rfl ?_
  refine Sx.st_call hT rfl rfl rfl rfl rfl Try.can8 rfl (New_yes 1 (by decide) _) ?_
  rintro _ w1 ⟨p, b, rfl, K⟩
  refine ⟨_, rfl, ?_⟩
  clear hT; intro a hT
  replace H := H.more K rfl; clear K
  refine Sx.st_take hT rfl rfl rfl rfl (Sx.x_move hT rfl rfl) ?_
  clear hT; intro a hT
  refine Sx.st_take hT rfl rfl rfl rfl (Sx.x_extractL hT rfl rfl rfl) ?_
  clear hT; intro a hT
  refine Sx.st_take hT rfl rfl rfl rfl (Sx.x_extractL hT rfl rfl rfl) ?_
  clear hT; intro a hT
  refine Sx.st_take hT rfl rfl rfl rfl (Sx.x_assign hT rfl rfl) ?_
  clear hT; intro a hT
  refine Sx.st_take hT rfl rfl rfl rfl (Sx.x_assign hT rfl rfl) ?_
  clear hT; intro a hT
  replace hT := hT.keep [2, 1, 0] rfl
  refine Sx.ser_nil ?_
  refine Sx.then_normal (hK2 _ _ ?_)
  clear hK2
  refine wp_seq_k fun K3 hK3 => ?_
  refine wp_seq_k fun K4 hK4 => ?_
  -- region 2 (law.go:17)
  refine Sx.wp_text [(0, .take), (1, .take), (2, .take), (3, .take), (4, .take), (5, .take)] rfl ?_
  refine Sx.st_take hT rfl rfl rfl rfl (Sx.x_move hT rfl rfl) ?_
  clear hT; intro a hT
  refine Sx.st_take hT rfl rfl rfl rfl (Sx.x_eqnil_some hT rfl Try.underlying24 rfl rfl) ?_
  clear hT; intro a hT
  refine Sx.st_take hT rfl rfl rfl rfl (Sx.x_move hT rfl rfl) ?_
  clear hT; intro a hT
  refine Sx.st_take hT rfl rfl rfl rfl (Sx.x_move hT rfl rfl) ?_
  clear hT; intro a hT
  refine Sx.st_take hT rfl rfl rfl rfl ((fun w => Sx.x_ne w hT rfl rfl rfl)) ?_
  clear hT; intro a hT
  refine Sx.st_take hT rfl rfl rfl rfl (Sx.x_pick_f hT rfl rfl rfl) ?_
  clear hT; intro a hT
  replace hT := hT.keep [17, 2, 1, 0] rfl
  refine Sx.ser_nil ?_
  refine Sx.then_normal (hK4 _ _ ?_)
  clear hK4
  -- cond 0
  refine Sx.wp_if hT rfl (fun hc5 => ?_) (fun hc5 => ?_)
  · exfalso
    try simp only [decide_eq_true_eq, decide_eq_false_iff_not, Bool.not_eq_true', Bool.not_eq_false', Bool.not_eq_true, Bool.not_eq_false, Bool.and_eq_true, Bool.or_eq_false_iff, beq_iff_eq, bne_iff_ne, Int.not_lt, Int.not_le, ne_eq] at hc5
    first | (simp at hc5; done) | (simp at hc5; omega) | (revert hc5; decide +kernel)
  · try simp only [decide_eq_true_eq, decide_eq_false_iff_not, Bool.not_eq_true', Bool.not_eq_false', Bool.not_eq_true, Bool.not_eq_false, Bool.and_eq_true, Bool.or_eq_false_iff, beq_iff_eq, bne_iff_ne, Int.not_lt, Int.not_le, ne_eq] at hc5
    refine wp_skip ?_
    refine Sx.then_normal (hK3 _ _ ?_)
    clear hK3
    refine wp_seq_k fun K6 hK6 => ?_
    -- region 4 (law.go:20)
    refine Sx.wp_text [(0, .take), (1, .run), (2, .run)] rfl ?_
    refine Sx.st_take hT rfl rfl rfl rfl (Sx.x_bld hT rfl Try.bld48 rfl rfl) ?_
    clear hT; intro a hT
    refine Sx.st_eff hT rfl rfl rfl rfl (Sx.y_alloc hT rfl Try.ti48 rfl _) ?_
    clear hT; rintro _ w2 ⟨b1, rfl, N⟩ a hT
    replace H := H.new N; clear N
    refine Sx.st_act hT rfl rfl rfl (Sx.y_storeS hT rfl Try.ti48 rfl rfl rfl rfl rfl (H.blk 0 rfl) rfl) ?_
    rintro w3 ⟨hb, E, _⟩
    replace H := H.setB 0 rfl hb E rfl; clear hb E
    replace hT := hT.keep [3, 17, 2, 1, 0] rfl
    refine Sx.ser_nil ?_
    refine Sx.then_normal (hK6 _ _ ?_)
    clear hK6
    refine wp_seq_k fun K7 hK7 => ?_
    -- region 5 (law.go:21)
    refine Sx.wp_text [(0, .take), (1, .take), (2, .run), (3, .take), (4, .take), (5, .take), (6, .run), (7, .take), (8, .run), (9, .run)] rfl ?_
    refine Sx.st_take hT rfl rfl rfl rfl (Sx.x_bld hT rfl Try.bld39 rfl rfl) ?_
    clear hT; intro a hT
    refine Sx.st_take hT rfl rfl rfl rfl (Sx.x_bld hT rfl Try.bld35 rfl rfl) ?_
    clear hT; intro a hT
    refine Sx.st_run hT rfl rfl rfl rfl (Sx.y_loadS hT rfl Try.underlying48 Try.ti48 rfl ((H.blk 0 rfl).seg (k := 3) rfl) (by rfl)) ?_
    clear hT; intro a hT
    refine Sx.st_take hT rfl rfl rfl rfl (Sx.x_bld hT rfl Try.bld50 rfl rfl) ?_
    clear hT; intro a hT
    refine Sx.st_take hT rfl rfl rfl rfl (Sx.x_bld hT rfl Try.bld48 rfl rfl) ?_
    clear hT; intro a hT
    refine Sx.st_take hT rfl rfl rfl rfl (Sx.x_bld hT rfl Try.bld50 rfl rfl) ?_
    clear hT; intro a hT
    refine Sx.st_eff hT rfl rfl rfl rfl (Sx.x_bldS hT rfl Try.underlying40 Try.ti50 rfl rfl rfl rfl rfl rfl rfl _) ?_
    clear hT; rintro _ w4 ⟨b2, rfl, N⟩ a hT
    replace H := H.new N; clear N
    refine Sx.st_take hT rfl rfl rfl rfl (Sx.x_bld hT rfl Try.bld42 rfl rfl) ?_
    clear hT; intro a hT
    refine Sx.st_eff hT rfl rfl rfl rfl (Sx.y_alloc hT rfl Try.ti42 rfl _) ?_
    clear hT; rintro _ w5 ⟨b3, rfl, N⟩ a hT
    replace H := H.new N; clear N
    refine Sx.st_act hT rfl rfl rfl (Sx.y_storeS hT rfl Try.ti42 rfl rfl rfl rfl rfl (H.blk 0 rfl) rfl) ?_
    rintro w6 ⟨hb, E, _⟩
    replace H := H.setB 0 rfl hb E rfl; clear hb E
    replace hT := hT.keep [4, 3, 17, 2, 1, 0] rfl
    refine Sx.ser_nil ?_
    refine Sx.then_normal (hK7 _ _ ?_)
    clear hK7
    refine wp_seq_k fun K8 hK8 => ?_
    -- region 6 (law.go:22)
    refine Sx.wp_text [(0, .take), (1, .run), (2, .run), (3, .take)] rfl ?_
    refine Sx.st_take hT rfl rfl rfl rfl (Sx.x_move hT rfl rfl) ?_
    clear hT; intro a hT
    refine Sx.st_run hT rfl rfl rfl rfl (Sx.y_loadS hT rfl Try.underlying42 Try.ti42 rfl ((H.blk 0 rfl).seg (k := 7) rfl) (by rfl)) ?_
    clear hT; intro a hT
    refine Sx.st_call hT rfl rfl rfl rfl rfl Try.can12 rfl (Apply_calls FT FS F1 (H.pre [3, 4] rfl rfl) ((H.lend 1 rfl [3, 4] rfl rfl).mono fun u h => Blk.svn (m := 2) (sz := 4) h rfl) (by decide) (by decide) f1k) ?_
    rintro _ w7 ⟨rfl, K⟩
    refine ⟨_, rfl, ?_⟩
    clear hT; intro a hT
    replace H := H.back [3, 4] [0, 1, 2] rfl rfl rfl K rfl; clear K
    rw [f1a.2.1, f1a.2.2] at H
    rw [f1a.1] at hT
    refine Sx.st_take hT rfl rfl rfl rfl (Sx.x_assign hT rfl rfl) ?_
    clear hT; intro a hT
    replace hT := hT.keep [5, 4, 3, 17, 2, 1, 0] rfl
    refine Sx.ser_nil ?_
    refine Sx.then_normal (hK8 _ _ ?_)
    clear hK8
    refine wp_seq_k fun K9 hK9 => ?_
    -- region 7 (law.go:23)
    refine Sx.wp_text [(0, .take), (1, .run), (2, .run), (3, .take)] rfl ?_
    refine Sx.st_take hT rfl rfl rfl rfl (Sx.x_move hT rfl rfl) ?_
    clear hT; intro a hT
    refine Sx.st_run hT rfl rfl rfl rfl (Sx.y_loadS hT rfl Try.underlying42 Try.ti42 rfl ((H.blk 2 rfl).seg (k := 7) rfl) (by rfl)) ?_
    clear hT; intro a hT
    refine Sx.st_call hT rfl rfl rfl rfl rfl Try.can12 rfl (Apply_calls FT FS F1 (H.pre [0, 1] rfl rfl) ((H.lend 3 rfl [0, 1] rfl rfl).mono fun u h => Blk.svn (m := 2) (sz := 4) h rfl) (by decide) (by decide) f1k) ?_
    rintro _ w8 ⟨rfl, K⟩
    refine ⟨_, rfl, ?_⟩
    clear hT; intro a hT
    replace H := H.back [0, 1] [2, 3, 4] rfl rfl rfl K rfl; clear K
    rw [f1b.2.1, f1b.2.2] at H
    rw [f1b.1] at hT
    refine Sx.st_take hT rfl rfl rfl rfl (Sx.x_assign hT rfl rfl) ?_
    clear hT; intro a hT
    replace hT := hT.keep [6, 5, 4, 3, 17, 2, 1, 0] rfl
    refine Sx.ser_nil ?_
    refine Sx.then_normal (hK9 _ _ ?_)
    clear hK9
    refine wp_seq_k fun K10 hK10 => ?_
    -- region 8 (law.go:24)
    refine Sx.wp_text [(0, .take), (1, .run), (2, .take)] rfl ?_
    refine Sx.st_take hT rfl rfl rfl rfl (Sx.x_move hT rfl rfl) ?_
    clear hT; intro a hT
    refine Sx.st_call hT rfl rfl rfl rfl rfl Try.can15 rfl (Groups_calls (cut := 1) (H.blk 0 rfl) (H.mp 1 rfl) f1s (by decide) (by decide) f1k) ?_
    rintro _ w9 ⟨ad9, c9, rfl, K⟩
    refine ⟨_, rfl, ?_⟩
    clear hT; intro a hT
    replace H := H.more K rfl; clear K
    rw [f1g] at H hT
    refine Sx.st_take hT rfl rfl rfl rfl (Sx.x_assign hT rfl rfl) ?_
    clear hT; intro a hT
    replace hT := hT.keep [7, 6, 5, 4, 3, 17, 2, 1, 0] rfl
    refine Sx.ser_nil ?_
    refine Sx.then_normal (hK10 _ _ ?_)
    clear hK10
    refine wp_seq_k fun K11 hK11 => ?_
    -- region 9 (law.go:25)
    refine Sx.wp_draws (fun u => Sx.Ext (Sx.No) u) [(0, .take), (1, .take), (2, .take), (3, .take), (4, .take), (5, .take), (6, .take), (7, .take), (8, .take), (9, .take), (10, .take), (11, .take), (12, .take), (13, .take), (14, .take), (15, .held), (16, .take), (17, .take), (18, .take), (19, .take), (20, .take), (21, .take), (22, .held), (23, .take), (24, .take), (25, .take), (26, .take), (27, .take), (28, .take), (29, .held), (30, .take), (31, .take), (32, .take), (33, .take), (34, .take), (35, .take), (36, .held), (37, .take), (38, .take), (39, .take), (40, .take), (42, .take), (43, .held), (41, .keep), (44, .take), (45, .take), (46, .take)] (by kernel_rfl) (by kernel_rfl) (fun u E _ => ?_)
    replace H := H.pure E; clear E
    have hH : Sx.Ext (Sx.No) u u := Sx.Ext.refl _ _
    have Hu := H
    refine Sx.st_take hT rfl rfl rfl rfl (Sx.x_move hT rfl rfl) ?_
    clear hT; intro a hT
    refine Sx.st_take hT rfl rfl rfl rfl ((fun w => Sx.x_eq w hT rfl rfl rfl)) ?_
    clear hT; intro a hT
    refine Sx.st_take hT rfl rfl rfl rfl (Sx.x_move hT rfl rfl) ?_
    clear hT; intro a hT
    -- guard (9, 2)
    refine Sx.Sl.two hT 37 rfl (fun hc12 hT => ?_) (fun hc12 hT => ?_)
    · try simp only [decide_eq_true_eq, decide_eq_false_iff_not, Bool.not_eq_true', Bool.not_eq_false', Bool.not_eq_true, Bool.not_eq_false, Bool.and_eq_true, Bool.or_eq_false_iff, beq_iff_eq, bne_iff_ne, Int.not_lt, Int.not_le, ne_eq] at hc12
      refine Sx.st_take hT rfl rfl rfl rfl (Sx.x_move hT rfl rfl) ?_
      clear hT; intro a hT
      refine Sx.st_take hT rfl rfl rfl rfl ((fun w => Sx.x_eq w hT rfl rfl rfl)) ?_
      clear hT; intro a hT
      refine Sx.st_take hT rfl rfl rfl rfl (Sx.x_pick_t hT rfl rfl rfl) ?_
      clear hT; intro a hT
      refine Sx.st_take hT rfl rfl rfl rfl (Sx.x_move hT rfl rfl) ?_
      clear hT; intro a hT
      -- guard (9, 6)
      refine Sx.Sl.two hT 41 rfl (fun hc13 hT => ?_) (fun hc13 hT => ?_)
      · try simp only [decide_eq_true_eq, decide_eq_false_iff_not, Bool.not_eq_true', Bool.not_eq_false', Bool.not_eq_true, Bool.not_eq_false, Bool.and_eq_true, Bool.or_eq_false_iff, beq_iff_eq, bne_iff_ne, Int.not_lt, Int.not_le, ne_eq] at hc13
        refine Sx.st_take hT rfl rfl rfl rfl (Sx.x_move hT rfl rfl) ?_
        clear hT; intro a hT
        refine Sx.st_take hT rfl rfl rfl rfl (Sx.x_len_slice hT rfl rfl Try.underlying51 rfl) ?_
        clear hT; intro a hT
        refine Sx.st_take hT rfl rfl rfl rfl ((fun w => Sx.x_eq w hT rfl rfl rfl)) ?_
        clear hT; intro a hT
        refine Sx.st_take hT rfl rfl rfl rfl (Sx.x_pick_t hT rfl rfl rfl) ?_
        clear hT; intro a hT
        refine Sx.st_take hT rfl rfl rfl rfl (Sx.x_move hT rfl rfl) ?_
        clear hT; intro a hT
        -- guard (9, 11)
        refine Sx.Sl.two hT 46 rfl (fun hc14 hT => ?_) (fun hc14 hT => ?_)
        · try simp only [decide_eq_true_eq, decide_eq_false_iff_not, Bool.not_eq_true', Bool.not_eq_false', Bool.not_eq_true, Bool.not_eq_false, Bool.and_eq_true, Bool.or_eq_false_iff, beq_iff_eq, bne_iff_ne, Int.not_lt, Int.not_le, ne_eq] at hc14
          refine Sx.st_take hT rfl rfl rfl rfl (Sx.x_move hT rfl rfl) ?_
          clear hT; intro a hT
          refine Sx.st_take hT rfl rfl rfl rfl (Sx.x_index (k := 0) hT rfl Try.underlying51 Try.ti56 (H.row 0 rfl).sv rfl rfl (by first | rfl | omega) (by omega)) ?_
          clear hT; intro a hT
          refine Sx.st_take hT rfl rfl rfl rfl (Sx.x_fieldAddr hT rfl Try.fa56_0 rfl) ?_
          clear hT; intro a hT
          refine Sx.st_held hT rfl rfl rfl rfl hH (fun w' h' => Sx.x_load1 hT rfl Try.fl9 rfl (by first | exact (((Hu.heldR 0 rfl h' Sx.off_No).ssn rfl).cell (j := 0) G6.len (show FG[0]? = some _ from rfl) rfl) | exact (((Hu.heldR 0 rfl h' Sx.off_No).ssn rfl).cell (j := 1) G6.len (show FG[0]? = some _ from rfl) rfl) | exact (((Hu.heldR 0 rfl h' Sx.off_No).ssn rfl).cell (j := 3) G6.len (show FG[0]? = some _ from rfl) rfl) | exact (((Hu.heldR 0 rfl h' Sx.off_No).ssn rfl).cell (j := 2) G6.len (show FG[1]? = some _ from rfl) rfl))) ?_
          clear hT; intro a hT
          refine Sx.st_take hT rfl rfl rfl rfl ((fun w => Sx.x_streq w hT rfl rfl rfl)) ?_
          clear hT; intro a hT
          refine Sx.st_take hT rfl rfl rfl rfl (Sx.x_pick_t hT rfl rfl rfl) ?_
          clear hT; intro a hT
          refine Sx.st_take hT rfl rfl rfl rfl (Sx.x_move hT rfl rfl) ?_
          clear hT; intro a hT
          -- guard (9, 18)
          refine Sx.Sl.two hT 53 rfl (fun hc15 hT => ?_) (fun hc15 hT => ?_)
          · try simp only [decide_eq_true_eq, decide_eq_false_iff_not, Bool.not_eq_true', Bool.not_eq_false', Bool.not_eq_true, Bool.not_eq_false, Bool.and_eq_true, Bool.or_eq_false_iff, beq_iff_eq, bne_iff_ne, Int.not_lt, Int.not_le, ne_eq] at hc15
            refine Sx.st_take hT rfl rfl rfl rfl (Sx.x_move hT rfl rfl) ?_
            clear hT; intro a hT
            refine Sx.st_take hT rfl rfl rfl rfl (Sx.x_index (k := 0) hT rfl Try.underlying51 Try.ti56 (H.row 0 rfl).sv rfl rfl (by first | rfl | omega) (by omega)) ?_
            clear hT; intro a hT
            refine Sx.st_take hT rfl rfl rfl rfl (Sx.x_fieldAddr hT rfl Try.fa56_1 rfl) ?_
            clear hT; intro a hT
            refine Sx.st_held hT rfl rfl rfl rfl hH (fun w' h' => Sx.x_load1 hT rfl Try.fl3 rfl (by first | exact (((Hu.heldR 0 rfl h' Sx.off_No).ssn rfl).cell (j := 0) G6.len (show FG[0]? = some _ from rfl) rfl) | exact (((Hu.heldR 0 rfl h' Sx.off_No).ssn rfl).cell (j := 1) G6.len (show FG[0]? = some _ from rfl) rfl) | exact (((Hu.heldR 0 rfl h' Sx.off_No).ssn rfl).cell (j := 3) G6.len (show FG[0]? = some _ from rfl) rfl) | exact (((Hu.heldR 0 rfl h' Sx.off_No).ssn rfl).cell (j := 2) G6.len (show FG[1]? = some _ from rfl) rfl))) ?_
            clear hT; intro a hT
            refine Sx.st_take hT rfl rfl rfl rfl ((fun w => Sx.x_eq w hT rfl rfl rfl)) ?_
            clear hT; intro a hT
            refine Sx.st_take hT rfl rfl rfl rfl (Sx.x_pick_t hT rfl rfl rfl) ?_
            clear hT; intro a hT
            refine Sx.st_take hT rfl rfl rfl rfl (Sx.x_move hT rfl rfl) ?_
            clear hT; intro a hT
            -- guard (9, 25)
            refine Sx.Sl.two hT 60 rfl (fun hc16 hT => ?_) (fun hc16 hT => ?_)
            · try simp only [decide_eq_true_eq, decide_eq_false_iff_not, Bool.not_eq_true', Bool.not_eq_false', Bool.not_eq_true, Bool.not_eq_false, Bool.and_eq_true, Bool.or_eq_false_iff, beq_iff_eq, bne_iff_ne, Int.not_lt, Int.not_le, ne_eq] at hc16
              refine Sx.st_take hT rfl rfl rfl rfl (Sx.x_move hT rfl rfl) ?_
              clear hT; intro a hT
              refine Sx.st_take hT rfl rfl rfl rfl (Sx.x_index (k := 0) hT rfl Try.underlying51 Try.ti56 (H.row 0 rfl).sv rfl rfl (by first | rfl | omega) (by omega)) ?_
              clear hT; intro a hT
              refine Sx.st_take hT rfl rfl rfl rfl (Sx.x_fieldAddr hT rfl Try.fa56_3 rfl) ?_
              clear hT; intro a hT
              refine Sx.st_held hT rfl rfl rfl rfl hH (fun w' h' => Sx.x_load1 hT rfl Try.fl46 rfl (by first | exact (((Hu.heldR 0 rfl h' Sx.off_No).ssn rfl).cell (j := 0) G6.len (show FG[0]? = some _ from rfl) rfl) | exact (((Hu.heldR 0 rfl h' Sx.off_No).ssn rfl).cell (j := 1) G6.len (show FG[0]? = some _ from rfl) rfl) | exact (((Hu.heldR 0 rfl h' Sx.off_No).ssn rfl).cell (j := 3) G6.len (show FG[0]? = some _ from rfl) rfl) | exact (((Hu.heldR 0 rfl h' Sx.off_No).ssn rfl).cell (j := 2) G6.len (show FG[1]? = some _ from rfl) rfl))) ?_
              clear hT; intro a hT
              refine Sx.st_take hT rfl rfl rfl rfl (Sx.x_feq hT rfl rfl rfl) ?_
              clear hT; intro a hT
              refine Sx.st_take hT rfl rfl rfl rfl (Sx.x_pick_t hT rfl rfl rfl) ?_
              clear hT; intro a hT
              refine Sx.st_take hT rfl rfl rfl rfl (Sx.x_move hT rfl rfl) ?_
              clear hT; intro a hT
              -- guard (9, 32)
              refine Sx.Sl.two hT 67 rfl (fun hc17 hT => ?_) (fun hc17 hT => ?_)
              · try simp only [decide_eq_true_eq, decide_eq_false_iff_not, Bool.not_eq_true', Bool.not_eq_false', Bool.not_eq_true, Bool.not_eq_false, Bool.and_eq_true, Bool.or_eq_false_iff, beq_iff_eq, bne_iff_ne, Int.not_lt, Int.not_le, ne_eq] at hc17
                refine Sx.st_take hT rfl rfl rfl rfl (Sx.x_move hT rfl rfl) ?_
                clear hT; intro a hT
                refine Sx.st_take hT rfl rfl rfl rfl (Sx.x_index (k := 1) hT rfl Try.underlying51 Try.ti56 (H.row 0 rfl).sv rfl rfl (by first | rfl | omega) (by omega)) ?_
                clear hT; intro a hT
                refine Sx.st_take hT rfl rfl rfl rfl (Sx.x_fieldAddr hT rfl Try.fa56_2 rfl) ?_
                clear hT; intro a hT
                refine Sx.st_held hT rfl rfl rfl rfl hH (fun w' h' => Sx.x_load1 hT rfl Try.fl3 rfl (by first | exact (((Hu.heldR 0 rfl h' Sx.off_No).ssn rfl).cell (j := 0) G6.len (show FG[0]? = some _ from rfl) rfl) | exact (((Hu.heldR 0 rfl h' Sx.off_No).ssn rfl).cell (j := 1) G6.len (show FG[0]? = some _ from rfl) rfl) | exact (((Hu.heldR 0 rfl h' Sx.off_No).ssn rfl).cell (j := 3) G6.len (show FG[0]? = some _ from rfl) rfl) | exact (((Hu.heldR 0 rfl h' Sx.off_No).ssn rfl).cell (j := 2) G6.len (show FG[1]? = some _ from rfl) rfl))) ?_
                clear hT; intro a hT
                refine Sx.st_take hT rfl rfl rfl rfl ((fun w => Sx.x_eq w hT rfl rfl rfl)) ?_
                clear hT; intro a hT
                refine Sx.st_take hT rfl rfl rfl rfl (Sx.x_pick_t hT rfl rfl rfl) ?_
                clear hT; intro a hT
                refine Sx.st_take hT rfl rfl rfl rfl (Sx.x_move hT rfl rfl) ?_
                clear hT; intro a hT
                -- guard (9, 39)
                refine Sx.Sl.two hT 74 rfl (fun hc18 hT => ?_) (fun hc18 hT => ?_)
                · try simp only [decide_eq_true_eq, decide_eq_false_iff_not, Bool.not_eq_true', Bool.not_eq_false', Bool.not_eq_true, Bool.not_eq_false, Bool.and_eq_true, Bool.or_eq_false_iff, beq_iff_eq, bne_iff_ne, Int.not_lt, Int.not_le, ne_eq] at hc18
                  refine Sx.st_take hT rfl rfl rfl rfl (Sx.x_move hT rfl rfl) ?_
                  clear hT; intro a hT
                  refine Sx.st_take hT rfl rfl rfl rfl (Sx.x_fieldAddr hT rfl Try.fa42_1 rfl) ?_
                  clear hT; intro a hT
                  refine Sx.st_held hT rfl rfl rfl rfl hH (fun w' h' => Sx.y_loadS hT rfl Try.underlying35 Try.ti35 rfl ((Hu.heldB 3 rfl h' Sx.off_No).seg (k := 3) rfl) (by rfl)) ?_
                  clear hT; intro a hT
                  refine Sx.st_callkeep hT rfl rfl rfl rfl rfl Try.can17 rfl (High_calls (H.blk 1 rfl)) ?_
                  rintro _ w10 ⟨rfl, E⟩
                  refine ⟨_, rfl, hH.step E, ?_⟩
                  replace hH := hH.step E
                  clear hT; intro a hT
                  replace H := H.pure E; clear E
                  refine Sx.st_take hT rfl rfl rfl rfl (Sx.x_eqS hT rfl (by kernel_rfl) (Try.eq35 _ _ _ _ _ _) rfl rfl rfl) ?_
                  clear hT; intro a hT
                  refine Sx.st_take hT rfl rfl rfl rfl (Sx.x_pick_t hT rfl rfl rfl) ?_
                  clear hT; intro a hT
                  refine Sx.st_take hT rfl rfl rfl rfl (Sx.x_assign hT rfl rfl) ?_
                  clear hT; intro a hT
                  replace hT := hT.keep [0, 7, 6, 5, 4, 3, 17, 2, 1] rfl
                  clear Hu hH
                  refine Sx.ser_calm ?_
                  refine Sx.then_normal (hK11 _ _ ?_)
                  clear hK11
                  refine wp_ret ?_
                  refine Sx.done1 (fn := Try.f7) hT rfl (.tmp (hT.get 0 _ rfl)) ?_
                  exact ⟨ret_b (by decide +kernel), H.ext⟩
                · exfalso
                  try simp only [decide_eq_true_eq, decide_eq_false_iff_not, Bool.not_eq_true', Bool.not_eq_false', Bool.not_eq_true, Bool.not_eq_false, Bool.and_eq_true, Bool.or_eq_false_iff, beq_iff_eq, bne_iff_ne, Int.not_lt, Int.not_le, ne_eq] at hc18
                  first | (simp at hc18; done) | (simp at hc18; omega) | (revert hc18; decide +kernel)
              · exfalso
                try simp only [decide_eq_true_eq, decide_eq_false_iff_not, Bool.not_eq_true', Bool.not_eq_false', Bool.not_eq_true, Bool.not_eq_false, Bool.and_eq_true, Bool.or_eq_false_iff, beq_iff_eq, bne_iff_ne, Int.not_lt, Int.not_le, ne_eq] at hc17
                first | (simp at hc17; done) | (simp at hc17; omega) | (revert hc17; decide +kernel)
            · exfalso
              try simp only [decide_eq_true_eq, decide_eq_false_iff_not, Bool.not_eq_true', Bool.not_eq_false', Bool.not_eq_true, Bool.not_eq_false, Bool.and_eq_true, Bool.or_eq_false_iff, beq_iff_eq, bne_iff_ne, Int.not_lt, Int.not_le, ne_eq] at hc16
              first | (simp at hc16; done) | (simp at hc16; omega) | (revert hc16; decide +kernel)
          · exfalso
            try simp only [decide_eq_true_eq, decide_eq_false_iff_not, Bool.not_eq_true', Bool.not_eq_false', Bool.not_eq_true, Bool.not_eq_false, Bool.and_eq_true, Bool.or_eq_false_iff, beq_iff_eq, bne_iff_ne, Int.not_lt, Int.not_le, ne_eq] at hc15
            first | (simp at hc15; done) | (simp at hc15; omega) | (revert hc15; decide +kernel)
        · exfalso
          try simp only [decide_eq_true_eq, decide_eq_false_iff_not, Bool.not_eq_true', Bool.not_eq_false', Bool.not_eq_true, Bool.not_eq_false, Bool.and_eq_true, Bool.or_eq_false_iff, beq_iff_eq, bne_iff_ne, Int.not_lt, Int.not_le, ne_eq] at hc14
          first | (simp at hc14; done) | (simp at hc14; omega) | (revert hc14; decide +kernel)
      · exfalso
        try simp only [decide_eq_true_eq, decide_eq_false_iff_not, Bool.not_eq_true', Bool.not_eq_false', Bool.not_eq_true, Bool.not_eq_false, Bool.and_eq_true, Bool.or_eq_false_iff, beq_iff_eq, bne_iff_ne, Int.not_lt, Int.not_le, ne_eq] at hc13
        first | (simp at hc13; done) | (simp at hc13; omega) | (revert hc13; decide +kernel)
    · exfalso
      try simp only [decide_eq_true_eq, decide_eq_false_iff_not, Bool.not_eq_true', Bool.not_eq_false', Bool.not_eq_true, Bool.not_eq_false, Bool.and_eq_true, Bool.or_eq_false_iff, beq_iff_eq, bne_iff_ne, Int.not_lt, Int.not_le, ne_eq] at hc12
      first | (simp at hc12; done) | (simp at hc12; omega) | (revert hc12; decide +kernel)

end Go.Proofs.Ytakjfnckbidbcaa
