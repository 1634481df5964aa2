/- Walks: new directories, ranges held against each other. -/
import Derived.Test.YtakohabmcgponaaW4
import Derived.Test.YtakohabmcgponaaW3
set_option linter.unusedSimpArgs false
set_option linter.unusedVariables false
namespace Go.Proofs.Ytakohabmcgponaa
open Sx
theorem Try.ti72 : Sx.TI Try.prog 72 (.agg #[.map none]) 1 8 := .mk' (by kernel_rfl)
theorem Try.bld72 : Sx.Bld Try.prog 72 #[.map none] #[(0, 1)] := ⟨_, _, _, _, Try.ti72, rfl, Try.underlying72, fun w => by simp [Sx.placesOf, Sx.run_sizeOf Try.ti70]⟩
theorem Try.can10 : Sx.Can Try.prog 10 := ⟨_, Try.func10, by kernel_rfl, rfl⟩
theorem Try.can19 : Sx.Can Try.prog 19 := ⟨_, Try.func19, by kernel_rfl, rfl⟩
theorem Try.can20 : Sx.Can Try.prog 20 := ⟨_, Try.func20, by kernel_rfl, rfl⟩
theorem New_yes {ad : Option Addr} {c : Nat} (l : List Rg) {w : World} (hs : Ss w ad Rg.cells 4 l) (hl : l.length ≤ 1000000) (hcap : l.length ≤ c) (hw : ∀ r ∈ l, r.wf) (hk : checkF l = 0) : Calls Try.prog 10 #[.slice ad l.length c] w fun e w' => ∃ p b, e = .returned (.tuple #[.pointer (some ⟨p, 0, none⟩), .int .i64 0]) ∧ Hp w No w' [cB p [.map (some b)] 72, cM Try.prog 3 b (tb (learnR [] l).1)] := by
  have R : Ro w No _ := Ro.of fun w' x => hs.ext_no x
  refine Sx.calls_into Try.func10 rfl Try.ntmps10 rfl fun a hT => ?_
  replace hT := hT.keep [0] rfl
  have H : Sx.Hp w (Sx.No) w [] := Sx.Hp.start _ _
  refine wp_seq_k fun K1 hK1 => ?_
  -- region 0 (dir.go:23)
  refine Sx.wp_text [(0, .take), (1, .take)] rfl ?_
  refine Sx.st_take hT rfl rfl rfl rfl (Sx.x_assign hT rfl rfl) ?_
  clear hT; intro a hT
  refine Sx.st_take hT rfl rfl rfl rfl (Sx.x_assign hT rfl rfl) ?_
  clear hT; intro a hT
  replace hT := hT.keep [3, 2, 0] rfl
  refine Sx.ser_nil ?_
  refine Sx.then_normal (hK1 _ _ ?_)
  clear hK1
  refine wp_seq_k fun K2 hK2 => ?_
  refine wp_seq_k fun K3 hK3 => ?_
  -- region 1 (dir.go:24)
  refine Sx.wp_text [(0, .take), (1, .run), (2, .take)] rfl ?_
  refine Sx.st_take hT rfl rfl rfl rfl (Sx.x_move hT rfl rfl) ?_
  clear hT; intro a hT
  refine Sx.st_call hT rfl rfl rfl rfl rfl Try.can28 rfl (Check_calls l (R.at H.ext) hl hcap hw) ?_
  rintro _ w1 ⟨rfl, E⟩
  refine ⟨_, rfl, ?_⟩
  clear hT; intro a hT
  replace H := H.pure E; clear E
  refine Sx.st_take hT rfl rfl rfl rfl (Sx.x_assign hT rfl rfl) ?_
  clear hT; intro a hT
  replace hT := hT.keep [4, 3, 2, 0] rfl
  refine Sx.ser_nil ?_
  refine Sx.then_normal (hK3 _ _ ?_)
  clear hK3
  refine wp_seq_k fun K4 hK4 => ?_
  -- region 2 (dir.go:24)
  refine Sx.wp_text [(0, .take), (1, .take)] rfl ?_
  refine Sx.st_take hT rfl rfl rfl rfl (Sx.x_move hT rfl rfl) ?_
  clear hT; intro a hT
  refine Sx.st_take hT rfl rfl rfl rfl ((fun w => Sx.x_ne w hT rfl rfl rfl)) ?_
  clear hT; intro a hT
  replace hT := hT.keep [9, 4, 3, 2, 0] rfl
  refine Sx.ser_nil ?_
  refine Sx.then_normal (hK4 _ _ ?_)
  clear hK4
  -- cond 0
  refine Sx.wp_if hT rfl (fun hc5 => ?_) (fun hc5 => ?_)
  · exfalso
    try simp only [decide_eq_true_eq, decide_eq_false_iff_not, Bool.not_eq_true', Bool.not_eq_false', Bool.not_eq_true, Bool.not_eq_false, Bool.and_eq_true, Bool.or_eq_false_iff, beq_iff_eq, bne_iff_ne, Int.not_lt, Int.not_le, ne_eq] at hc5
    exact hc5 hk
  · try simp only [decide_eq_true_eq, decide_eq_false_iff_not, Bool.not_eq_true', Bool.not_eq_false', Bool.not_eq_true, Bool.not_eq_false, Bool.and_eq_true, Bool.or_eq_false_iff, beq_iff_eq, bne_iff_ne, Int.not_lt, Int.not_le, ne_eq] at hc5
    refine wp_skip ?_
    refine Sx.then_normal (hK2 _ _ ?_)
    clear hK2
    refine wp_seq_k fun K6 hK6 => ?_
    -- region 4 (dir.go:27)
    refine Sx.wp_text [(0, .run), (1, .take), (2, .run), (3, .take)] rfl ?_
    refine Sx.st_eff hT rfl rfl rfl rfl (Sx.x_makeMap 3 hT rfl _) ?_
    rintro _ w2 ⟨bm7, rfl, N⟩
    clear hT; intro a hT
    replace H := H.newM N; clear N
    rw [show (DataW.map [] : DataW Value) = tb [] from rfl] at H
    refine Sx.st_take hT rfl rfl rfl rfl (Sx.x_bld hT rfl Try.bld72 rfl rfl) ?_
    clear hT; intro a hT
    refine Sx.st_eff hT rfl rfl rfl rfl (Sx.y_box hT rfl rfl rfl _) ?_
    clear hT; rintro _ w3 ⟨b1, rfl, N⟩ a hT
    replace H := H.new N; clear N
    refine Sx.st_take hT rfl rfl rfl rfl (Sx.x_assign hT rfl rfl) ?_
    clear hT; intro a hT
    replace hT := hT.keep [5, 9, 4, 3, 2, 0] rfl
    refine Sx.ser_nil ?_
    refine Sx.then_normal (hK6 _ _ ?_)
    clear hK6
    refine wp_seq_k fun K8 hK8 => ?_
    -- region 5 (dir.go:28)
    refine Sx.wp_text [(0, .take), (1, .take), (2, .run)] rfl ?_
    refine Sx.st_take hT rfl rfl rfl rfl (Sx.x_move hT rfl rfl) ?_
    clear hT; intro a hT
    refine Sx.st_take hT rfl rfl rfl rfl (Sx.x_move hT rfl rfl) ?_
    clear hT; intro a hT
    refine Sx.st_call hT rfl rfl rfl rfl rfl Try.can12 rfl (Learn_calls l (H.pre [0, 1] rfl rfl) (H.ro R [0, 1] rfl) hl (Nat.zero_le _) hw) ?_
    rintro _ w4 ⟨rfl, K⟩
    refine ⟨_, rfl, ?_⟩
    clear hT; intro a hT
    replace H := H.back [0, 1] [] rfl rfl rfl K rfl; clear K
    replace hT := hT.keep [5, 9, 4, 3, 2, 0] rfl
    refine Sx.ser_nil ?_
    refine Sx.then_normal (hK8 _ _ ?_)
    clear hK8
    refine wp_seq_k fun K9 hK9 => ?_
    -- region 6 (dir.go:29)
    refine Sx.wp_text [(0, .take), (1, .take), (2, .take)] rfl ?_
    refine Sx.st_take hT rfl rfl rfl rfl (Sx.x_move hT rfl rfl) ?_
    clear hT; intro a hT
    refine Sx.st_take hT rfl rfl rfl rfl (Sx.x_assign hT rfl rfl) ?_
    clear hT; intro a hT
    refine Sx.st_take hT rfl rfl rfl rfl (Sx.x_assign hT rfl rfl) ?_
    clear hT; intro a hT
    replace hT := hT.keep [3, 2, 5, 9, 4, 0] rfl
    refine Sx.ser_nil ?_
    refine Sx.then_normal (hK9 _ _ ?_)
    clear hK9
    refine wp_ret ?_
    refine Sx.done2 (fn := Try.f10) hT rfl (.tmp (hT.get 2 _ rfl)) (.tmp (hT.get 3 _ rfl)) ?_
    exact ⟨_, _, rfl, H.keep [0, 1] rfl rfl⟩

theorem New_no {ad : Option Addr} {c : Nat} (l : List Rg) {w : World} (hs : Ss w ad Rg.cells 4 l) (hl : l.length ≤ 1000000) (hcap : l.length ≤ c) (hw : ∀ r ∈ l, r.wf) (hk : checkF l ≠ 0) : Calls Try.prog 10 #[.slice ad l.length c] w fun e w' => e = .returned (.tuple #[.pointer none, .int .i64 (checkF l)]) ∧ Ext No w w' := by
  have R : Ro w No _ := Ro.of fun w' x => hs.ext_no x
  refine Sx.calls_into Try.func10 rfl Try.ntmps10 rfl fun a hT => ?_
  replace hT := hT.keep [0] rfl
  have H : Sx.Hp w (Sx.No) w [] := Sx.Hp.start _ _
  refine wp_seq_k fun K1 hK1 => ?_
  -- region 0 (dir.go:23)
  refine Sx.wp_text [(0, .take), (1, .take)] rfl ?_
  refine Sx.st_take hT rfl rfl rfl rfl (Sx.x_assign hT rfl rfl) ?_
  clear hT; intro a hT
  refine Sx.st_take hT rfl rfl rfl rfl (Sx.x_assign hT rfl rfl) ?_
  clear hT; intro a hT
  replace hT := hT.keep [3, 2, 0] rfl
  refine Sx.ser_nil ?_
  refine Sx.then_normal (hK1 _ _ ?_)
  clear hK1
  refine wp_seq_k fun K2 hK2 => ?_
  refine wp_seq_k fun K3 hK3 => ?_
  -- region 1 (dir.go:24)
  refine Sx.wp_text [(0, .take), (1, .run), (2, .take)] rfl ?_
  refine Sx.st_take hT rfl rfl rfl rfl (Sx.x_move hT rfl rfl) ?_
  clear hT; intro a hT
  refine Sx.st_call hT rfl rfl rfl rfl rfl Try.can28 rfl (Check_calls l (R.at H.ext) hl hcap hw) ?_
  rintro _ w1 ⟨rfl, E⟩
  refine ⟨_, rfl, ?_⟩
  clear hT; intro a hT
  replace H := H.pure E; clear E
  refine Sx.st_take hT rfl rfl rfl rfl (Sx.x_assign hT rfl rfl) ?_
  clear hT; intro a hT
  replace hT := hT.keep [4, 3, 2, 0] rfl
  refine Sx.ser_nil ?_
  refine Sx.then_normal (hK3 _ _ ?_)
  clear hK3
  refine wp_seq_k fun K4 hK4 => ?_
  -- region 2 (dir.go:24)
  refine Sx.wp_text [(0, .take), (1, .take)] rfl ?_
  refine Sx.st_take hT rfl rfl rfl rfl (Sx.x_move hT rfl rfl) ?_
  clear hT; intro a hT
  refine Sx.st_take hT rfl rfl rfl rfl ((fun w => Sx.x_ne w hT rfl rfl rfl)) ?_
  clear hT; intro a hT
  replace hT := hT.keep [9, 4, 3, 2, 0] rfl
  refine Sx.ser_nil ?_
  refine Sx.then_normal (hK4 _ _ ?_)
  clear hK4
  -- cond 0
  refine Sx.wp_if hT rfl (fun hc5 => ?_) (fun hc5 => ?_)
  · try simp only [decide_eq_true_eq, decide_eq_false_iff_not, Bool.not_eq_true', Bool.not_eq_false', Bool.not_eq_true, Bool.not_eq_false, Bool.and_eq_true, Bool.or_eq_false_iff, beq_iff_eq, bne_iff_ne, Int.not_lt, Int.not_le, ne_eq] at hc5
    refine wp_seq_k fun K6 hK6 => ?_
    -- region 3 (dir.go:25)
    refine Sx.wp_text [(0, .take), (1, .take), (2, .take)] rfl ?_
    refine Sx.st_take hT rfl rfl rfl rfl (Sx.x_move hT rfl rfl) ?_
    clear hT; intro a hT
    refine Sx.st_take hT rfl rfl rfl rfl (Sx.x_assign hT rfl rfl) ?_
    clear hT; intro a hT
    refine Sx.st_take hT rfl rfl rfl rfl (Sx.x_assign hT rfl rfl) ?_
    clear hT; intro a hT
    replace hT := hT.keep [3, 2, 9, 4, 0] rfl
    refine Sx.ser_nil ?_
    refine Sx.then_normal (hK6 _ _ ?_)
    clear hK6
    refine wp_ret ?_
    refine Sx.then_ret ?_
    refine Sx.done2 (fn := Try.f10) hT rfl (.tmp (hT.get 2 _ rfl)) (.tmp (hT.get 3 _ rfl)) ?_
    exact ⟨rfl, H.ext⟩
  · exfalso
    try simp only [decide_eq_true_eq, decide_eq_false_iff_not, Bool.not_eq_true', Bool.not_eq_false', Bool.not_eq_true, Bool.not_eq_false, Bool.and_eq_true, Bool.or_eq_false_iff, beq_iff_eq, bne_iff_ne, Int.not_lt, Int.not_le, ne_eq] at hc5
    exact hk hc5

theorem rg_eq (r q : Rg) : decide (r = q) = (decide (r.id = q.id) && decide (r.epoch = q.epoch) && decide (q.lo = r.lo) && decide (q.hi = r.hi)) := by
  obtain ⟨a, b, c, d⟩ := r
  obtain ⟨a2, b2, c2, d2⟩ := q
  rw [Bool.eq_iff_iff]
  simp only [Rg.mk.injEq, decide_eq_true_eq, Bool.and_eq_true]
  constructor
  · rintro ⟨rfl, rfl, rfl, rfl⟩; exact ⟨⟨⟨rfl, rfl⟩, rfl⟩, rfl⟩
  · rintro ⟨⟨⟨rfl, rfl⟩, rfl⟩, rfl⟩; exact ⟨rfl, rfl, rfl, rfl⟩

theorem Range_calls (r q : Rg) (w : World) : Calls Try.prog 19 #[.agg #[.int .i64 r.id, .int .i64 r.epoch, .float .f64 r.lo, .float .f64 r.hi], .agg #[.int .i64 q.id, .int .i64 q.epoch, .float .f64 q.lo, .float .f64 q.hi]] w fun e w' => e = .returned (.bool (decide (r = q))) ∧ Ext No w w' := by
  refine Sx.calls_into Try.func19 rfl Try.ntmps19 rfl fun a hT => ?_
  replace hT := hT.keep [0, 1] rfl
  have H : Sx.Hp w (Sx.No) w [] := Sx.Hp.start _ _
  refine wp_seq_k fun K1 hK1 => ?_
  -- region 0 (same.go:118)
  refine Sx.wp_text [(0, .run), (1, .run), (2, .take)] rfl ?_
  refine Sx.st_eff hT rfl rfl rfl rfl (Sx.y_box hT rfl rfl rfl _) ?_
  clear hT; rintro _ w1 ⟨b1, rfl, N⟩ a hT
  replace H := H.new N; clear N
  refine Sx.st_eff hT rfl rfl rfl rfl (Sx.y_box hT rfl rfl rfl _) ?_
  clear hT; rintro _ w2 ⟨b2, rfl, N⟩ a hT
  replace H := H.new N; clear N
  refine Sx.st_take hT rfl rfl rfl rfl (Sx.x_assign hT rfl rfl) ?_
  clear hT; intro a hT
  replace hT := hT.keep [4, 3, 2, 0, 1] rfl
  refine Sx.ser_nil ?_
  refine Sx.then_normal (hK1 _ _ ?_)
  clear hK1
  refine wp_seq_k fun K2 hK2 => ?_
  -- region 1 (same.go:119)
  refine Sx.wp_text [(0, .take), (1, .run), (2, .take), (3, .run), (4, .take), (5, .take), (6, .take), (7, .run), (8, .take), (9, .run), (10, .take), (11, .take), (12, .take), (13, .take), (14, .run), (15, .take), (16, .run), (17, .run), (18, .take), (19, .take), (20, .take), (21, .run), (22, .take), (23, .run), (24, .run), (25, .take), (26, .take)] rfl ?_
  refine Sx.st_take hT rfl rfl rfl rfl (Sx.x_fieldAddr hT rfl Try.fa37_0 rfl) ?_
  clear hT; intro a hT
  refine Sx.st_run hT rfl rfl rfl rfl (Sx.x_load1 hT rfl Try.fl3 rfl ((H.blk 1 rfl).nth rfl)) ?_
  clear hT; intro a hT
  refine Sx.st_take hT rfl rfl rfl rfl (Sx.x_fieldAddr hT rfl Try.fa37_0 rfl) ?_
  clear hT; intro a hT
  refine Sx.st_run hT rfl rfl rfl rfl (Sx.x_load1 hT rfl Try.fl3 rfl ((H.blk 0 rfl).nth rfl)) ?_
  clear hT; intro a hT
  refine Sx.st_take hT rfl rfl rfl rfl ((fun w => Sx.x_eq w hT rfl rfl rfl)) ?_
  clear hT; intro a hT
  refine Sx.st_take hT rfl rfl rfl rfl (Sx.x_move hT rfl rfl) ?_
  clear hT; intro a hT
  -- guard (1, 5)
  refine Sx.Sl.two hT 10 rfl (fun hc3 hT => ?_) (fun hc3 hT => ?_)
  · try simp only [decide_eq_true_eq, decide_eq_false_iff_not, Bool.not_eq_true', Bool.not_eq_false', Bool.not_eq_true, Bool.not_eq_false, Bool.and_eq_true, Bool.or_eq_false_iff, beq_iff_eq, bne_iff_ne, Int.not_lt, Int.not_le, ne_eq] at hc3
    refine Sx.st_take hT rfl rfl rfl rfl (Sx.x_fieldAddr hT rfl Try.fa37_1 rfl) ?_
    clear hT; intro a hT
    refine Sx.st_run hT rfl rfl rfl rfl (Sx.x_load1 hT rfl Try.fl3 rfl ((H.blk 1 rfl).nth rfl)) ?_
    clear hT; intro a hT
    refine Sx.st_take hT rfl rfl rfl rfl (Sx.x_fieldAddr hT rfl Try.fa37_1 rfl) ?_
    clear hT; intro a hT
    refine Sx.st_run hT rfl rfl rfl rfl (Sx.x_load1 hT rfl Try.fl3 rfl ((H.blk 0 rfl).nth rfl)) ?_
    clear hT; intro a hT
    refine Sx.st_take hT rfl rfl rfl rfl ((fun w => Sx.x_eq w hT rfl rfl rfl)) ?_
    clear hT; intro a hT
    refine Sx.st_take hT rfl rfl rfl rfl (Sx.x_pick_t hT rfl rfl rfl) ?_
    clear hT; intro a hT
    refine Sx.st_take hT rfl rfl rfl rfl (Sx.x_move hT rfl rfl) ?_
    clear hT; intro a hT
    -- guard (1, 12)
    refine Sx.Sl.two hT 17 rfl (fun hc4 hT => ?_) (fun hc4 hT => ?_)
    · try simp only [decide_eq_true_eq, decide_eq_false_iff_not, Bool.not_eq_true', Bool.not_eq_false', Bool.not_eq_true, Bool.not_eq_false, Bool.and_eq_true, Bool.or_eq_false_iff, beq_iff_eq, bne_iff_ne, Int.not_lt, Int.not_le, ne_eq] at hc4
      refine Sx.st_take hT rfl rfl rfl rfl (Sx.x_fieldAddr hT rfl Try.fa37_2 rfl) ?_
      clear hT; intro a hT
      refine Sx.st_run hT rfl rfl rfl rfl (Sx.x_load1 hT rfl Try.fl35 rfl ((H.blk 1 rfl).nth rfl)) ?_
      clear hT; intro a hT
      refine Sx.st_take hT rfl rfl rfl rfl (Sx.x_fieldAddr hT rfl Try.fa37_2 rfl) ?_
      clear hT; intro a hT
      refine Sx.st_run hT rfl rfl rfl rfl (Sx.x_load1 hT rfl Try.fl35 rfl ((H.blk 0 rfl).nth rfl)) ?_
      clear hT; intro a hT
      refine Sx.st_call hT rfl rfl rfl rfl rfl Try.can38 rfl (same_calls _ _ _) ?_
      rintro _ w3 ⟨rfl, E⟩
      refine ⟨_, rfl, ?_⟩
      clear hT; intro a hT
      replace H := H.pure E; clear E
      refine Sx.st_take hT rfl rfl rfl rfl (Sx.x_pick_t hT rfl rfl rfl) ?_
      clear hT; intro a hT
      refine Sx.st_take hT rfl rfl rfl rfl (Sx.x_move hT rfl rfl) ?_
      clear hT; intro a hT
      -- guard (1, 19)
      refine Sx.Sl.two hT 24 rfl (fun hc5 hT => ?_) (fun hc5 hT => ?_)
      · try simp only [decide_eq_true_eq, decide_eq_false_iff_not, Bool.not_eq_true', Bool.not_eq_false', Bool.not_eq_true, Bool.not_eq_false, Bool.and_eq_true, Bool.or_eq_false_iff, beq_iff_eq, bne_iff_ne, Int.not_lt, Int.not_le, ne_eq] at hc5
        refine Sx.st_take hT rfl rfl rfl rfl (Sx.x_fieldAddr hT rfl Try.fa37_3 rfl) ?_
        clear hT; intro a hT
        refine Sx.st_run hT rfl rfl rfl rfl (Sx.x_load1 hT rfl Try.fl35 rfl ((H.blk 1 rfl).nth rfl)) ?_
        clear hT; intro a hT
        refine Sx.st_take hT rfl rfl rfl rfl (Sx.x_fieldAddr hT rfl Try.fa37_3 rfl) ?_
        clear hT; intro a hT
        refine Sx.st_run hT rfl rfl rfl rfl (Sx.x_load1 hT rfl Try.fl35 rfl ((H.blk 0 rfl).nth rfl)) ?_
        clear hT; intro a hT
        refine Sx.st_call hT rfl rfl rfl rfl rfl Try.can38 rfl (same_calls _ _ _) ?_
        rintro _ w4 ⟨rfl, E⟩
        refine ⟨_, rfl, ?_⟩
        clear hT; intro a hT
        replace H := H.pure E; clear E
        refine Sx.st_take hT rfl rfl rfl rfl (Sx.x_pick_t hT rfl rfl rfl) ?_
        clear hT; intro a hT
        refine Sx.st_take hT rfl rfl rfl rfl (Sx.x_assign hT rfl rfl) ?_
        clear hT; intro a hT
        replace hT := hT.keep [4, 3, 2, 0, 1] rfl
        refine Sx.ser_nil ?_
        refine Sx.then_normal (hK2 _ _ ?_)
        clear hK2
        refine wp_ret ?_
        refine Sx.done1 (fn := Try.f19) hT rfl (.tmp (hT.get 4 _ rfl)) ?_
        refine ⟨ret_b ?_, H.ext⟩
        clear hT H
        rw [rg_eq]
        simp_all
      · try simp only [decide_eq_true_eq, decide_eq_false_iff_not, Bool.not_eq_true', Bool.not_eq_false', Bool.not_eq_true, Bool.not_eq_false, Bool.and_eq_true, Bool.or_eq_false_iff, beq_iff_eq, bne_iff_ne, Int.not_lt, Int.not_le, ne_eq] at hc5
        refine Sx.st_skip hT rfl rfl rfl rfl ?_
        clear hT; intro a hT
        refine Sx.st_runskip hT rfl rfl rfl rfl ?_
        clear hT; intro a hT
        refine Sx.st_skip hT rfl rfl rfl rfl ?_
        clear hT; intro a hT
        refine Sx.st_runskip hT rfl rfl rfl rfl ?_
        clear hT; intro a hT
        refine Sx.st_runskip hT rfl rfl rfl rfl ?_
        clear hT; intro a hT
        refine Sx.st_take hT rfl rfl rfl rfl (Sx.x_pick_f hT rfl rfl rfl) ?_
        clear hT; intro a hT
        refine Sx.st_take hT rfl rfl rfl rfl (Sx.x_assign hT rfl rfl) ?_
        clear hT; intro a hT
        replace hT := hT.keep [4, 3, 2, 0, 1] rfl
        refine Sx.ser_nil ?_
        refine Sx.then_normal (hK2 _ _ ?_)
        clear hK2
        refine wp_ret ?_
        refine Sx.done1 (fn := Try.f19) hT rfl (.tmp (hT.get 4 _ rfl)) ?_
        refine ⟨ret_b ?_, H.ext⟩
        clear hT H
        rw [rg_eq]
        simp_all
    · try simp only [decide_eq_true_eq, decide_eq_false_iff_not, Bool.not_eq_true', Bool.not_eq_false', Bool.not_eq_true, Bool.not_eq_false, Bool.and_eq_true, Bool.or_eq_false_iff, beq_iff_eq, bne_iff_ne, Int.not_lt, Int.not_le, ne_eq] at hc4
      refine Sx.st_skip hT rfl rfl rfl rfl ?_
      clear hT; intro a hT
      refine Sx.st_runskip hT rfl rfl rfl rfl ?_
      clear hT; intro a hT
      refine Sx.st_skip hT rfl rfl rfl rfl ?_
      clear hT; intro a hT
      refine Sx.st_runskip hT rfl rfl rfl rfl ?_
      clear hT; intro a hT
      refine Sx.st_runskip hT rfl rfl rfl rfl ?_
      clear hT; intro a hT
      refine Sx.st_take hT rfl rfl rfl rfl (Sx.x_pick_f hT rfl rfl rfl) ?_
      clear hT; intro a hT
      refine Sx.st_take hT rfl rfl rfl rfl (Sx.x_move hT rfl rfl) ?_
      clear hT; intro a hT
      refine Sx.st_skip hT rfl rfl rfl rfl ?_
      clear hT; intro a hT
      refine Sx.st_runskip hT rfl rfl rfl rfl ?_
      clear hT; intro a hT
      refine Sx.st_skip hT rfl rfl rfl rfl ?_
      clear hT; intro a hT
      refine Sx.st_runskip hT rfl rfl rfl rfl ?_
      clear hT; intro a hT
      refine Sx.st_runskip hT rfl rfl rfl rfl ?_
      clear hT; intro a hT
      refine Sx.st_take hT rfl rfl rfl rfl (Sx.x_pick_f hT rfl rfl rfl) ?_
      clear hT; intro a hT
      refine Sx.st_take hT rfl rfl rfl rfl (Sx.x_assign hT rfl rfl) ?_
      clear hT; intro a hT
      replace hT := hT.keep [4, 3, 2, 0, 1] rfl
      refine Sx.ser_nil ?_
      refine Sx.then_normal (hK2 _ _ ?_)
      clear hK2
      refine wp_ret ?_
      refine Sx.done1 (fn := Try.f19) hT rfl (.tmp (hT.get 4 _ rfl)) ?_
      refine ⟨ret_b ?_, H.ext⟩
      clear hT H
      rw [rg_eq]
      simp_all
  · try simp only [decide_eq_true_eq, decide_eq_false_iff_not, Bool.not_eq_true', Bool.not_eq_false', Bool.not_eq_true, Bool.not_eq_false, Bool.and_eq_true, Bool.or_eq_false_iff, beq_iff_eq, bne_iff_ne, Int.not_lt, Int.not_le, ne_eq] at hc3
    refine Sx.st_skip hT rfl rfl rfl rfl ?_
    clear hT; intro a hT
    refine Sx.st_runskip hT rfl rfl rfl rfl ?_
    clear hT; intro a hT
    refine Sx.st_skip hT rfl rfl rfl rfl ?_
    clear hT; intro a hT
    refine Sx.st_runskip hT rfl rfl rfl rfl ?_
    clear hT; intro a hT
    refine Sx.st_skip hT rfl rfl rfl rfl ?_
    clear hT; intro a hT
    refine Sx.st_take hT rfl rfl rfl rfl (Sx.x_pick_f hT rfl rfl rfl) ?_
    clear hT; intro a hT
    refine Sx.st_take hT rfl rfl rfl rfl (Sx.x_move hT rfl rfl) ?_
    clear hT; intro a hT
    refine Sx.st_skip hT rfl rfl rfl rfl ?_
    clear hT; intro a hT
    refine Sx.st_runskip hT rfl rfl rfl rfl ?_
    clear hT; intro a hT
    refine Sx.st_skip hT rfl rfl rfl rfl ?_
    clear hT; intro a hT
    refine Sx.st_runskip hT rfl rfl rfl rfl ?_
    clear hT; intro a hT
    refine Sx.st_runskip hT rfl rfl rfl rfl ?_
    clear hT; intro a hT
    refine Sx.st_take hT rfl rfl rfl rfl (Sx.x_pick_f hT rfl rfl rfl) ?_
    clear hT; intro a hT
    refine Sx.st_take hT rfl rfl rfl rfl (Sx.x_move hT rfl rfl) ?_
    clear hT; intro a hT
    refine Sx.st_skip hT rfl rfl rfl rfl ?_
    clear hT; intro a hT
    refine Sx.st_runskip hT rfl rfl rfl rfl ?_
    clear hT; intro a hT
    refine Sx.st_skip hT rfl rfl rfl rfl ?_
    clear hT; intro a hT
    refine Sx.st_runskip hT rfl rfl rfl rfl ?_
    clear hT; intro a hT
    refine Sx.st_runskip hT rfl rfl rfl rfl ?_
    clear hT; intro a hT
    refine Sx.st_take hT rfl rfl rfl rfl (Sx.x_pick_f hT rfl rfl rfl) ?_
    clear hT; intro a hT
    refine Sx.st_take hT rfl rfl rfl rfl (Sx.x_assign hT rfl rfl) ?_
    clear hT; intro a hT
    replace hT := hT.keep [4, 3, 2, 0, 1] rfl
    refine Sx.ser_nil ?_
    refine Sx.then_normal (hK2 _ _ ?_)
    clear hK2
    refine wp_ret ?_
    refine Sx.done1 (fn := Try.f19) hT rfl (.tmp (hT.get 4 _ rfl)) ?_
    refine ⟨ret_b ?_, H.ext⟩
    clear hT H
    rw [rg_eq]
    simp_all

theorem Ranges_calls {ad ad2 : Option Addr} {c c2 : Nat} (l m : List Rg) {w : World} (hs : Ss w ad Rg.cells 4 l) (hs2 : Ss w ad2 Rg.cells 4 m) (hl : l.length ≤ 9223372036854775806) : Calls Try.prog 20 #[.slice ad l.length c, .slice ad2 m.length c2] w fun e w' => e = .returned (.bool (decide (l = m))) ∧ Ext No w w' := by
  have R : Ro w No _ := Ro.of fun w' x => hs.ext_no x
  have R2 : Ro w No _ := Ro.of fun w' x => hs2.ext_no x
  refine Sx.calls_into Try.func20 rfl Try.ntmps20 rfl fun a hT => ?_
  replace hT := hT.keep [0, 1] rfl
  have H : Sx.Hp w (Sx.No) w [] := Sx.Hp.start _ _
  refine wp_seq_k fun K1 hK1 => ?_
  -- region 0 (same.go:123)
  refine Sx.wp_text [(0, .take)] rfl ?_
  refine Sx.st_take hT rfl rfl rfl rfl (Sx.x_assign hT rfl rfl) ?_
  clear hT; intro a hT
  replace hT := hT.keep [4, 0, 1] rfl
  refine Sx.ser_nil ?_
  refine Sx.then_normal (hK1 _ _ ?_)
  clear hK1
  refine wp_seq_k fun K2 hK2 => ?_
  refine wp_seq_k fun K3 hK3 => ?_
  -- region 1 (same.go:124)
  refine Sx.wp_text [(0, .take), (1, .take), (2, .take), (3, .take), (4, .take)] rfl ?_
  refine Sx.st_take hT rfl rfl rfl rfl (Sx.x_move hT rfl rfl) ?_
  clear hT; intro a hT
  refine Sx.st_take hT rfl rfl rfl rfl (Sx.x_len_slice hT rfl rfl Try.underlying28 rfl) ?_
  clear hT; intro a hT
  refine Sx.st_take hT rfl rfl rfl rfl (Sx.x_move hT rfl rfl) ?_
  clear hT; intro a hT
  refine Sx.st_take hT rfl rfl rfl rfl (Sx.x_len_slice hT rfl rfl Try.underlying28 rfl) ?_
  clear hT; intro a hT
  refine Sx.st_take hT rfl rfl rfl rfl ((fun w => Sx.x_ne w hT rfl rfl rfl)) ?_
  clear hT; intro a hT
  replace hT := hT.keep [10, 4, 0, 1] rfl
  refine Sx.ser_nil ?_
  refine Sx.then_normal (hK3 _ _ ?_)
  clear hK3
  -- cond 0
  refine Sx.wp_if hT rfl (fun hc4 => ?_) (fun hc4 => ?_)
  · try simp only [decide_eq_true_eq, decide_eq_false_iff_not, Bool.not_eq_true', Bool.not_eq_false', Bool.not_eq_true, Bool.not_eq_false, Bool.and_eq_true, Bool.or_eq_false_iff, beq_iff_eq, bne_iff_ne, Int.not_lt, Int.not_le, ne_eq] at hc4
    refine wp_seq_k fun K5 hK5 => ?_
    -- region 2 (same.go:125)
    refine Sx.wp_text [(0, .take)] rfl ?_
    refine Sx.st_take hT rfl rfl rfl rfl (Sx.x_assign hT rfl rfl) ?_
    clear hT; intro a hT
    replace hT := hT.keep [4, 10, 0, 1] rfl
    refine Sx.ser_nil ?_
    refine Sx.then_normal (hK5 _ _ ?_)
    clear hK5
    refine wp_ret ?_
    refine Sx.then_ret ?_
    refine Sx.done1 (fn := Try.f20) hT rfl (.tmp (hT.get 4 _ rfl)) ?_
    refine ⟨ret_b (decide_eq_false fun h9 => ?_).symm, H.ext⟩
    subst h9
    omega
  · try simp only [decide_eq_true_eq, decide_eq_false_iff_not, Bool.not_eq_true', Bool.not_eq_false', Bool.not_eq_true, Bool.not_eq_false, Bool.and_eq_true, Bool.or_eq_false_iff, beq_iff_eq, bne_iff_ne, Int.not_lt, Int.not_le, ne_eq] at hc4
    refine wp_skip ?_
    refine Sx.then_normal (hK2 _ _ ?_)
    clear hK2
    refine wp_seq_k fun K6 hK6 => ?_
    refine wp_seq_k fun K7 hK7 => ?_
    -- region 3 (same.go:127)
    refine Sx.wp_text [(0, .take)] rfl ?_
    refine Sx.st_take hT rfl rfl rfl rfl (Sx.x_assign hT rfl rfl) ?_
    clear hT; intro a hT
    replace hT := hT.keep [5, 10, 4, 0, 1] rfl
    refine Sx.ser_nil ?_
    refine Sx.then_normal (hK7 _ _ ?_)
    clear hK7
    refine wp_block ?_
    -- loop 0
    refine Sx.wp_loopH (G := Nat) (fun k => [(5, .int .i64 (k : Int))]) (fun k => []) (fun k => k ≤ l.length ∧ ∀ t, t < k → l[t]? = m[t]?) (fun k => l.length - k) 0 (hT.keep [5, 10, 0, 1] rfl) (H.keep [] rfl rfl) (⟨Nat.zero_le _, fun t h => by omega⟩) ?_
    clear hT H
    rintro k a w1 hJ hT H
    replace hT := hT.keep [5, 10, 0, 1] rfl
    replace H := H.keep [] rfl rfl
    obtain ⟨hk, hsm⟩ := hJ
    refine wp_seq_k fun K8 hK8 => ?_
    refine wp_seq_k fun K9 hK9 => ?_
    -- region 4 (same.go:127)
    refine Sx.wp_text [(0, .take), (1, .take), (2, .take), (3, .take)] rfl ?_
    refine Sx.st_take hT rfl rfl rfl rfl (Sx.x_move hT rfl rfl) ?_
    clear hT; intro a hT
    refine Sx.st_take hT rfl rfl rfl rfl (Sx.x_move hT rfl rfl) ?_
    clear hT; intro a hT
    refine Sx.st_take hT rfl rfl rfl rfl (Sx.x_len_slice hT rfl rfl Try.underlying28 rfl) ?_
    clear hT; intro a hT
    refine Sx.st_take hT rfl rfl rfl rfl ((fun w => Sx.x_lt w hT rfl rfl rfl)) ?_
    clear hT; intro a hT
    replace hT := hT.keep [14, 5, 10, 0, 1] rfl
    refine Sx.ser_nil ?_
    refine Sx.then_normal (hK9 _ _ ?_)
    clear hK9
    -- cond 1
    refine Sx.wp_if hT rfl (fun hc10 => ?_) (fun hc10 => ?_)
    · try simp only [decide_eq_true_eq, decide_eq_false_iff_not, Bool.not_eq_true', Bool.not_eq_false', Bool.not_eq_true, Bool.not_eq_false, Bool.and_eq_true, Bool.or_eq_false_iff, beq_iff_eq, bne_iff_ne, Int.not_lt, Int.not_le, ne_eq] at hc10
      obtain ⟨o, ho⟩ : ∃ o, l[k]? = some o := ⟨_, List.getElem?_eq_getElem (by omega)⟩
      obtain ⟨o2, ho2⟩ : ∃ o, m[k]? = some o := ⟨_, List.getElem?_eq_getElem (by omega)⟩
      refine wp_skip ?_
      refine Sx.then_normal (hK8 _ _ ?_)
      clear hK8
      refine wp_seq_k fun K11 hK11 => ?_
      refine wp_block ?_
      refine wp_seq_k fun K12 hK12 => ?_
      -- region 6 (same.go:128)
      refine Sx.wp_draws (fun u => Sx.Ext (Sx.No) u) [(0, .take), (1, .take), (2, .take), (3, .held), (4, .take), (5, .take), (6, .take), (7, .held), (8, .run), (9, .take)] (by kernel_rfl) (by kernel_rfl) (fun u E _ => ?_)
      replace H := H.pure E; clear E
      have hH : Sx.Ext (Sx.No) u u := Sx.Ext.refl _ _
      have Hu := H
      refine Sx.st_take hT rfl rfl rfl rfl (Sx.x_move hT rfl rfl) ?_
      clear hT; intro a hT
      refine Sx.st_take hT rfl rfl rfl rfl (Sx.x_move hT rfl rfl) ?_
      clear hT; intro a hT
      refine Sx.st_take hT rfl rfl rfl rfl (Sx.x_index (k := k) hT rfl Try.underlying28 Try.ti37 (by first | exact (R.at H.ext).sv | exact (R2.at H.ext).sv) rfl rfl (by first | rfl | omega) (by omega)) ?_
      clear hT; intro a hT
      refine Sx.st_held hT rfl rfl rfl rfl hH (fun w' h' => Sx.y_loadS hT rfl Try.underlying37 Try.ti37 rfl (by first | exact ((R.at (Hu.ext.step h')).cs Rg.len ho) | exact ((R2.at (Hu.ext.step h')).cs Rg.len ho2)) (by rfl)) ?_
      clear hT; intro a hT
      refine Sx.st_take hT rfl rfl rfl rfl (Sx.x_move hT rfl rfl) ?_
      clear hT; intro a hT
      refine Sx.st_take hT rfl rfl rfl rfl (Sx.x_move hT rfl rfl) ?_
      clear hT; intro a hT
      refine Sx.st_take hT rfl rfl rfl rfl (Sx.x_index (k := k) hT rfl Try.underlying28 Try.ti37 (by first | exact (R.at H.ext).sv | exact (R2.at H.ext).sv) rfl rfl (by first | rfl | omega) (by omega)) ?_
      clear hT; intro a hT
      refine Sx.st_held hT rfl rfl rfl rfl hH (fun w' h' => Sx.y_loadS hT rfl Try.underlying37 Try.ti37 rfl (by first | exact ((R.at (Hu.ext.step h')).cs Rg.len ho) | exact ((R2.at (Hu.ext.step h')).cs Rg.len ho2)) (by rfl)) ?_
      clear hT; intro a hT
      refine Sx.st_call hT rfl rfl rfl rfl rfl Try.can19 rfl (Range_calls _ _ _) ?_
      rintro _ w2 ⟨rfl, E⟩
      refine ⟨_, rfl, ?_⟩
      clear hT; intro a hT
      replace H := H.pure E; clear E
      refine Sx.st_take hT rfl rfl rfl rfl (Sx.x_not hT rfl rfl) ?_
      clear hT; intro a hT
      replace hT := hT.keep [26, 14, 5, 10, 0, 1] rfl
      clear Hu hH
      refine Sx.ser_calm ?_
      refine Sx.then_normal (hK12 _ _ ?_)
      clear hK12
      -- cond 2
      refine Sx.wp_if hT rfl (fun hc13 => ?_) (fun hc13 => ?_)
      · try simp only [decide_eq_true_eq, decide_eq_false_iff_not, Bool.not_eq_true', Bool.not_eq_false', Bool.not_eq_true, Bool.not_eq_false, Bool.and_eq_true, Bool.or_eq_false_iff, beq_iff_eq, bne_iff_ne, Int.not_lt, Int.not_le, ne_eq] at hc13
        have heq : o ≠ o2 := hc13
        refine wp_seq_k fun K14 hK14 => ?_
        -- region 7 (same.go:129)
        refine Sx.wp_text [(0, .take)] rfl ?_
        refine Sx.st_take hT rfl rfl rfl rfl (Sx.x_assign hT rfl rfl) ?_
        clear hT; intro a hT
        replace hT := hT.keep [4, 26, 14, 5, 10, 0, 1] rfl
        refine Sx.ser_nil ?_
        refine Sx.then_normal (hK14 _ _ ?_)
        clear hK14
        refine wp_ret ?_
        refine Sx.block_ret ?_
        refine Sx.then_ret ?_
        refine Sx.then_ret ?_
        refine Sx.block_ret ?_
        refine Sx.then_ret ?_
        refine Sx.done1 (fn := Try.f20) hT rfl (.tmp (hT.get 4 _ rfl)) ?_
        refine ⟨ret_b (decide_eq_false fun h9 => ?_).symm, H.ext⟩
        subst h9
        rw [ho] at ho2; exact heq (Option.some.inj ho2)
      · try simp only [decide_eq_true_eq, decide_eq_false_iff_not, Bool.not_eq_true', Bool.not_eq_false', Bool.not_eq_true, Bool.not_eq_false, Bool.and_eq_true, Bool.or_eq_false_iff, beq_iff_eq, bne_iff_ne, Int.not_lt, Int.not_le, ne_eq] at hc13
        have heq : o = o2 := hc13
        refine wp_skip ?_
        refine Sx.block_normal ?_
        refine Sx.then_normal (hK11 _ _ ?_)
        clear hK11
        -- region 5 (same.go:127)
        refine Sx.wp_text [(0, .take), (1, .take), (2, .take)] rfl ?_
        refine Sx.st_take hT rfl rfl rfl rfl (Sx.x_move hT rfl rfl) ?_
        clear hT; intro a hT
        refine Sx.st_take hT rfl rfl rfl rfl ((fun w => Sx.x_add w hT rfl rfl rfl (Sx.wrap64 (by omega)))) ?_
        clear hT; intro a hT
        refine Sx.st_take hT rfl rfl rfl rfl (Sx.x_assign hT rfl rfl) ?_
        clear hT; intro a hT
        replace hT := hT.keep [5, 26, 14, 10, 0, 1] rfl
        refine Sx.ser_nil ?_
        refine Sx.then_normal ?_
        exact ⟨k + 1, ⟨by omega, fun t h => by rcases Nat.lt_or_ge t k with h3 | h3; exact hsm t h3; rw [show t = k from by omega, ho, ho2, heq]⟩, (hT.keep [5, 10, 0, 1] rfl), (H.keep [] rfl rfl), by omega⟩
    · try simp only [decide_eq_true_eq, decide_eq_false_iff_not, Bool.not_eq_true', Bool.not_eq_false', Bool.not_eq_true, Bool.not_eq_false, Bool.and_eq_true, Bool.or_eq_false_iff, beq_iff_eq, bne_iff_ne, Int.not_lt, Int.not_le, ne_eq] at hc10
      refine wp_exit ?_
      refine Sx.then_exit ?_
      refine Sx.then_exit ?_
      refine Sx.block_exit ?_
      refine Sx.then_normal (hK6 _ _ ?_)
      clear hK6
      refine wp_seq_k fun K15 hK15 => ?_
      -- region 8 (same.go:132)
      refine Sx.wp_text [(0, .take)] rfl ?_
      refine Sx.st_take hT rfl rfl rfl rfl (Sx.x_assign hT rfl rfl) ?_
      clear hT; intro a hT
      replace hT := hT.keep [4, 14, 5, 10, 0, 1] rfl
      refine Sx.ser_nil ?_
      refine Sx.then_normal (hK15 _ _ ?_)
      clear hK15
      refine wp_ret ?_
      refine Sx.done1 (fn := Try.f20) hT rfl (.tmp (hT.get 4 _ rfl)) ?_
      refine ⟨ret_b (decide_eq_true (List.ext_getElem? fun t => ?_)).symm, H.ext⟩
      rcases Nat.lt_or_ge t k with h3 | h3
      · exact hsm t h3
      · rw [List.getElem?_eq_none (by omega), List.getElem?_eq_none (by omega)]

end Go.Proofs.Ytakohabmcgponaa
