/- Walks: ScanHalves. -/
import Derived.Test.YtainemoobhkeiaaDoorW13
import Derived.Test.YtainemoobhkeiaaDoorN7
set_option linter.unusedSimpArgs false
set_option linter.unusedVariables false
namespace Go.Proofs.YtainemoobhkeiaaDoor
open Sx
theorem Tryd.can6 : Sx.Can Tryd.prog 6 := ⟨_, Tryd.func6, by kernel_rfl, rfl⟩
theorem Tryd.can21 : Sx.Can Tryd.prog 21 := ⟨_, Tryd.func21, by kernel_rfl, rfl⟩
theorem Same_calls (k : Int) (n : Nat) (s : List UInt8) (j : Int) (m : Nat) (t : List UInt8) (w : World) : Calls Tryd.prog 21 #[.agg #[.int .i64 k, .float .f64 n, .string ⟨s.toArray⟩], .agg #[.int .i64 j, .float .f64 m, .string ⟨t.toArray⟩]] w fun e w' => e = .returned (.bool (sameV ⟨k, n, s⟩ ⟨j, m, t⟩)) ∧ Ext No w w' := by
  refine Sx.calls_into Tryd.func21 rfl Tryd.ntmps21 rfl fun a hT => ?_
  replace hT := hT.keep [0, 1] rfl
  have H : Sx.Hp w (Sx.No) w [] := Sx.Hp.start _ _
  refine wp_seq_k fun K1 hK1 => ?_
  -- region 0 (ref.go:47)
  refine Sx.wp_text [(0, .run), (1, .run), (2, .take)] rfl ?_
  refine Sx.st_eff hT rfl rfl rfl rfl (Sx.y_box hT rfl rfl rfl _) ?_
  clear hT; rintro _ w1 ⟨b1, rfl, N⟩ a hT
  replace H := H.new N; clear N
  refine Sx.st_eff hT rfl rfl rfl rfl (Sx.y_box hT rfl rfl rfl _) ?_
  clear hT; rintro _ w2 ⟨b2, rfl, N⟩ a hT
  replace H := H.new N; clear N
  refine Sx.st_take hT rfl rfl rfl rfl (Sx.x_assign hT rfl rfl) ?_
  clear hT; intro a hT
  replace hT := hT.keep [4, 3, 2, 0, 1] rfl
  refine Sx.ser_nil ?_
  refine Sx.then_normal (hK1 _ _ ?_)
  clear hK1
  refine wp_seq_k fun K2 hK2 => ?_
  -- region 1 (ref.go:47)
  refine Sx.wp_text [(0, .run), (1, .run), (2, .take), (3, .run), (4, .run), (5, .take), (6, .take), (7, .run), (8, .run), (9, .run), (10, .take), (11, .take), (12, .take)] rfl ?_
  refine Sx.st_run hT rfl rfl rfl rfl (Sx.y_loadS hT rfl Tryd.underlying25 Tryd.ti25 rfl ((H.blk 1 rfl).seg (k := 3) rfl) (by rfl)) ?_
  clear hT; intro a hT
  refine Sx.st_call hT rfl rfl rfl rfl rfl Tryd.can28 rfl (xMay_calls _ _ _ _) ?_
  rintro _ w3 ⟨rfl, E⟩
  refine ⟨_, rfl, ?_⟩
  clear hT; intro a hT
  replace H := H.pure E; clear E
  refine Sx.st_take hT rfl rfl rfl rfl (Sx.x_move hT rfl rfl) ?_
  clear hT; intro a hT
  -- guard (1, 2)
  refine Sx.Sl.two hT 7 rfl (fun hc3 hT => ?_) (fun hc3 hT => ?_)
  · try simp only [decide_eq_true_eq, decide_eq_false_iff_not, Bool.not_eq_true', Bool.not_eq_false', Bool.not_eq_true, Bool.not_eq_false, Bool.and_eq_true, Bool.or_eq_false_iff, beq_iff_eq, bne_iff_ne, Int.not_lt, Int.not_le, ne_eq] at hc3
    refine Sx.st_run hT rfl rfl rfl rfl (Sx.y_loadS hT rfl Tryd.underlying25 Tryd.ti25 rfl ((H.blk 0 rfl).seg (k := 3) rfl) (by rfl)) ?_
    clear hT; intro a hT
    refine Sx.st_call hT rfl rfl rfl rfl rfl Tryd.can28 rfl (xMay_calls _ _ _ _) ?_
    rintro _ w4 ⟨rfl, E⟩
    refine ⟨_, rfl, ?_⟩
    clear hT; intro a hT
    replace H := H.pure E; clear E
    refine Sx.st_take hT rfl rfl rfl rfl (Sx.x_pick_t hT rfl rfl rfl) ?_
    clear hT; intro a hT
    refine Sx.st_take hT rfl rfl rfl rfl (Sx.x_move hT rfl rfl) ?_
    clear hT; intro a hT
    -- guard (1, 6)
    refine Sx.Sl.two hT 11 rfl (fun hc4 hT => ?_) (fun hc4 hT => ?_)
    · try simp only [decide_eq_true_eq, decide_eq_false_iff_not, Bool.not_eq_true', Bool.not_eq_false', Bool.not_eq_true, Bool.not_eq_false, Bool.and_eq_true, Bool.or_eq_false_iff, beq_iff_eq, bne_iff_ne, Int.not_lt, Int.not_le, ne_eq] at hc4
      refine Sx.st_run hT rfl rfl rfl rfl (Sx.y_loadS hT rfl Tryd.underlying25 Tryd.ti25 rfl ((H.blk 1 rfl).seg (k := 3) rfl) (by rfl)) ?_
      clear hT; intro a hT
      refine Sx.st_run hT rfl rfl rfl rfl (Sx.y_loadS hT rfl Tryd.underlying25 Tryd.ti25 rfl ((H.blk 0 rfl).seg (k := 3) rfl) (by rfl)) ?_
      clear hT; intro a hT
      refine Sx.st_call hT rfl rfl rfl rfl rfl Tryd.can31 rfl (xCmp2_calls _ _ _ _ _ _ _) ?_
      rintro _ w5 ⟨rfl, E⟩
      refine ⟨_, rfl, ?_⟩
      clear hT; intro a hT
      replace H := H.pure E; clear E
      refine Sx.st_take hT rfl rfl rfl rfl ((fun w => Sx.x_eq w hT rfl rfl rfl)) ?_
      clear hT; intro a hT
      refine Sx.st_take hT rfl rfl rfl rfl (Sx.x_pick_t hT rfl rfl rfl) ?_
      clear hT; intro a hT
      refine Sx.st_take hT rfl rfl rfl rfl (Sx.x_assign hT rfl rfl) ?_
      clear hT; intro a hT
      replace hT := hT.keep [4, 3, 2, 0, 1] rfl
      refine Sx.ser_nil ?_
      refine Sx.then_normal (hK2 _ _ ?_)
      clear hK2
      refine wp_ret ?_
      refine Sx.done1 (fn := Tryd.f21) hT rfl (.tmp (hT.get 4 _ rfl)) ?_
      refine ⟨ret_b ?_, H.ext⟩
      clear hT H
      unfold sameV
      simp_all
    · try simp only [decide_eq_true_eq, decide_eq_false_iff_not, Bool.not_eq_true', Bool.not_eq_false', Bool.not_eq_true, Bool.not_eq_false, Bool.and_eq_true, Bool.or_eq_false_iff, beq_iff_eq, bne_iff_ne, Int.not_lt, Int.not_le, ne_eq] at hc4
      refine Sx.st_runskip hT rfl rfl rfl rfl ?_
      clear hT; intro a hT
      refine Sx.st_runskip hT rfl rfl rfl rfl ?_
      clear hT; intro a hT
      refine Sx.st_runskip hT rfl rfl rfl rfl ?_
      clear hT; intro a hT
      refine Sx.st_skip hT rfl rfl rfl rfl ?_
      clear hT; intro a hT
      refine Sx.st_take hT rfl rfl rfl rfl (Sx.x_pick_f hT rfl rfl rfl) ?_
      clear hT; intro a hT
      refine Sx.st_take hT rfl rfl rfl rfl (Sx.x_assign hT rfl rfl) ?_
      clear hT; intro a hT
      replace hT := hT.keep [4, 3, 2, 0, 1] rfl
      refine Sx.ser_nil ?_
      refine Sx.then_normal (hK2 _ _ ?_)
      clear hK2
      refine wp_ret ?_
      refine Sx.done1 (fn := Tryd.f21) hT rfl (.tmp (hT.get 4 _ rfl)) ?_
      refine ⟨ret_b ?_, H.ext⟩
      clear hT H
      unfold sameV
      simp_all
  · try simp only [decide_eq_true_eq, decide_eq_false_iff_not, Bool.not_eq_true', Bool.not_eq_false', Bool.not_eq_true, Bool.not_eq_false, Bool.and_eq_true, Bool.or_eq_false_iff, beq_iff_eq, bne_iff_ne, Int.not_lt, Int.not_le, ne_eq] at hc3
    refine Sx.st_runskip hT rfl rfl rfl rfl ?_
    clear hT; intro a hT
    refine Sx.st_runskip hT rfl rfl rfl rfl ?_
    clear hT; intro a hT
    refine Sx.st_take hT rfl rfl rfl rfl (Sx.x_pick_f hT rfl rfl rfl) ?_
    clear hT; intro a hT
    refine Sx.st_take hT rfl rfl rfl rfl (Sx.x_move hT rfl rfl) ?_
    clear hT; intro a hT
    refine Sx.st_runskip hT rfl rfl rfl rfl ?_
    clear hT; intro a hT
    refine Sx.st_runskip hT rfl rfl rfl rfl ?_
    clear hT; intro a hT
    refine Sx.st_runskip hT rfl rfl rfl rfl ?_
    clear hT; intro a hT
    refine Sx.st_skip hT rfl rfl rfl rfl ?_
    clear hT; intro a hT
    refine Sx.st_take hT rfl rfl rfl rfl (Sx.x_pick_f hT rfl rfl rfl) ?_
    clear hT; intro a hT
    refine Sx.st_take hT rfl rfl rfl rfl (Sx.x_assign hT rfl rfl) ?_
    clear hT; intro a hT
    replace hT := hT.keep [4, 3, 2, 0, 1] rfl
    refine Sx.ser_nil ?_
    refine Sx.then_normal (hK2 _ _ ?_)
    clear hK2
    refine wp_ret ?_
    refine Sx.done1 (fn := Tryd.f21) hT rfl (.tmp (hT.get 4 _ rfl)) ?_
    refine ⟨ret_b ?_, H.ext⟩
    clear hT H
    unfold sameV
    simp_all

theorem all_err {q : Query} {after : List UInt8} {l : List Pair} (h : ¬ (allQ q after l).2 = 0) : (allQ q after l).1 = [] := by
  unfold allQ at h ⊢
  (repeat' split) <;> simp_all

theorem Halves_calls (ad : Option Addr) (c : Nat) (l : List Pair) (q : Query) (cut : List UInt8) (w : World) (hs : Ss w ad Pair.cells 4 l) (hl : l.length ≤ 9223372036854775807) (hnil : ad = none → l.length = 0 ∧ c = 0) : Calls Tryd.prog 6 #[.slice ad l.length c, .agg #[.string ⟨q.fr.toArray⟩, .string ⟨q.to.toArray⟩, .int .i64 q.kind, .int .i64 q.lo.kind, .float .f64 q.lo.num, .string ⟨q.lo.text.toArray⟩, .int .i64 q.hi.kind, .float .f64 q.hi.num, .string ⟨q.hi.text.toArray⟩, .bool q.back, .int .i64 q.most, .string ⟨q.after.toArray⟩], .string ⟨cut.toArray⟩] w fun e w' => e = .returned (.bool true) ∧ Ext No w w' := by
  have R : Ro w No _ := Ro.of fun w' x => hs.ext_no x
  refine Sx.calls_into Tryd.func6 rfl Tryd.ntmps6 rfl fun a hT => ?_
  replace hT := hT.keep [0, 1, 2] rfl
  have H : Sx.Hp w (Sx.No) w [] := Sx.Hp.start _ _
  refine wp_seq_k fun K1 hK1 => ?_
  -- region 0 (law.go:161)
  refine Sx.wp_text [(0, .run), (1, .take)] rfl ?_
  refine Sx.st_eff hT rfl rfl rfl rfl (Sx.y_box hT rfl rfl rfl _) ?_
  clear hT; rintro _ w1 ⟨b1, rfl, N⟩ a hT
  replace H := H.new N; clear N
  refine Sx.st_take hT rfl rfl rfl rfl (Sx.x_assign hT rfl rfl) ?_
  clear hT; intro a hT
  replace hT := hT.keep [6, 4, 0, 1, 2] rfl
  refine Sx.ser_nil ?_
  refine Sx.then_normal (hK1 _ _ ?_)
  clear hK1
  refine wp_seq_k fun K2 hK2 => ?_
  refine wp_seq_k fun K3 hK3 => ?_
  -- region 1 (law.go:162)
  refine Sx.wp_text [(0, .run), (1, .take)] rfl ?_
  refine Sx.st_call hT rfl rfl rfl rfl rfl Tryd.can8 rfl (first_calls _) ?_
  rintro _ w2 ⟨rfl, E⟩
  refine ⟨_, rfl, ?_⟩
  clear hT; intro a hT
  replace H := H.pure E; clear E
  refine Sx.st_take hT rfl rfl rfl rfl (Sx.x_not hT rfl rfl) ?_
  clear hT; intro a hT
  replace hT := hT.keep [26, 6, 4, 0, 1, 2] rfl
  refine Sx.ser_nil ?_
  refine Sx.then_normal (hK3 _ _ ?_)
  clear hK3
  refine Sx.wp_if hT rfl (fun h => by cases h) (fun _ => ?_)
  refine wp_skip ?_
  refine Sx.then_normal (hK2 _ _ ?_)
  clear hK2
  refine wp_seq_k fun K4 hK4 => ?_
  refine wp_seq_k fun K5 hK5 => ?_
  -- region 3 (law.go:165)
  refine Sx.wp_text [(0, .take), (1, .run), (2, .run), (3, .take), (4, .take), (5, .take), (6, .take), (7, .take), (8, .take), (9, .take), (10, .take), (11, .take), (12, .take), (13, .take), (14, .take), (15, .take), (16, .take), (17, .run), (18, .take), (19, .take), (20, .take), (21, .take), (22, .run), (23, .take), (24, .take), (25, .take), (26, .take), (27, .run), (28, .take), (29, .take), (30, .take)] rfl ?_
  refine Sx.st_take hT rfl rfl rfl rfl (Sx.x_move hT rfl rfl) ?_
  clear hT; intro a hT
  refine Sx.st_run hT rfl rfl rfl rfl (Sx.y_loadS hT rfl Tryd.underlying27 Tryd.ti27 rfl ((H.blk 0 rfl).seg (k := 12) rfl) (by rfl)) ?_
  clear hT; intro a hT
  refine Sx.st_call hT rfl rfl rfl rfl rfl Tryd.can9 rfl (few_calls _ _ l q _ (R.at H.ext) hl) ?_
  rintro _ w3 ⟨rfl, E⟩
  refine ⟨_, rfl, ?_⟩
  clear hT; intro a hT
  replace H := H.pure E; clear E
  refine Sx.st_take hT rfl rfl rfl rfl (Sx.x_not hT rfl rfl) ?_
  clear hT; intro a hT
  refine Sx.st_take hT rfl rfl rfl rfl (Sx.x_move hT rfl rfl) ?_
  clear hT; intro a hT
  -- guard (3, 4)
  refine Sx.Sl.two hT 31 rfl (fun hc6 hT => ?_) (fun hc6 hT => ?_)
  · try simp only [decide_eq_true_eq, decide_eq_false_iff_not, Bool.not_eq_true', Bool.not_eq_false', Bool.not_eq_true, Bool.not_eq_false, Bool.and_eq_true, Bool.or_eq_false_iff, beq_iff_eq, bne_iff_ne, Int.not_lt, Int.not_le, ne_eq] at hc6
    refine Sx.st_skip hT rfl rfl rfl rfl ?_
    clear hT; intro a hT
    refine Sx.st_skip hT rfl rfl rfl rfl ?_
    clear hT; intro a hT
    refine Sx.st_skip hT rfl rfl rfl rfl ?_
    clear hT; intro a hT
    refine Sx.st_take hT rfl rfl rfl rfl (Sx.x_pick_t hT rfl rfl rfl) ?_
    clear hT; intro a hT
    refine Sx.st_take hT rfl rfl rfl rfl (Sx.x_move hT rfl rfl) ?_
    clear hT; intro a hT
    refine Sx.st_skip hT rfl rfl rfl rfl ?_
    clear hT; intro a hT
    refine Sx.st_skip hT rfl rfl rfl rfl ?_
    clear hT; intro a hT
    refine Sx.st_skip hT rfl rfl rfl rfl ?_
    clear hT; intro a hT
    refine Sx.st_take hT rfl rfl rfl rfl (Sx.x_pick_t hT rfl rfl rfl) ?_
    clear hT; intro a hT
    refine Sx.st_take hT rfl rfl rfl rfl (Sx.x_move hT rfl rfl) ?_
    clear hT; intro a hT
    refine Sx.st_skip hT rfl rfl rfl rfl ?_
    clear hT; intro a hT
    refine Sx.st_skip hT rfl rfl rfl rfl ?_
    clear hT; intro a hT
    refine Sx.st_runskip hT rfl rfl rfl rfl ?_
    clear hT; intro a hT
    refine Sx.st_skip hT rfl rfl rfl rfl ?_
    clear hT; intro a hT
    refine Sx.st_take hT rfl rfl rfl rfl (Sx.x_pick_t hT rfl rfl rfl) ?_
    clear hT; intro a hT
    refine Sx.st_take hT rfl rfl rfl rfl (Sx.x_move hT rfl rfl) ?_
    clear hT; intro a hT
    refine Sx.st_skip hT rfl rfl rfl rfl ?_
    clear hT; intro a hT
    refine Sx.st_runskip hT rfl rfl rfl rfl ?_
    clear hT; intro a hT
    refine Sx.st_skip hT rfl rfl rfl rfl ?_
    clear hT; intro a hT
    refine Sx.st_skip hT rfl rfl rfl rfl ?_
    clear hT; intro a hT
    refine Sx.st_skip hT rfl rfl rfl rfl ?_
    clear hT; intro a hT
    refine Sx.st_skip hT rfl rfl rfl rfl ?_
    clear hT; intro a hT
    refine Sx.st_runskip hT rfl rfl rfl rfl ?_
    clear hT; intro a hT
    refine Sx.st_skip hT rfl rfl rfl rfl ?_
    clear hT; intro a hT
    refine Sx.st_skip hT rfl rfl rfl rfl ?_
    clear hT; intro a hT
    refine Sx.st_take hT rfl rfl rfl rfl (Sx.x_pick_t hT rfl rfl rfl) ?_
    clear hT; intro a hT
    replace hT := hT.keep [57, 26, 6, 4, 0, 1, 2] rfl
    refine Sx.ser_nil ?_
    refine Sx.then_normal (hK5 _ _ ?_)
    clear hK5
    refine Sx.wp_if hT rfl (fun _ => ?_) (fun h => by cases h)
    refine wp_seq_k fun K7 hK7 => ?_
    -- region 4 (law.go:166)
    refine Sx.wp_text [(0, .run), (1, .take)] rfl ?_
    refine Sx.st_call hT rfl rfl rfl rfl rfl Tryd.can8 rfl (first_calls _) ?_
    rintro _ w4 ⟨rfl, E⟩
    refine ⟨_, rfl, ?_⟩
    clear hT; intro a hT
    replace H := H.pure E; clear E
    refine Sx.st_take hT rfl rfl rfl rfl (Sx.x_assign hT rfl rfl) ?_
    clear hT; intro a hT
    replace hT := hT.keep [6, 57, 26, 4, 0, 1, 2] rfl
    refine Sx.ser_nil ?_
    refine Sx.then_normal (hK7 _ _ ?_)
    clear hK7
    refine wp_ret ?_
    refine Sx.then_ret ?_
    refine Sx.done1 (fn := Tryd.f6) hT rfl (.tmp (hT.get 6 _ rfl)) ?_
    exact ⟨rfl, H.ext⟩
  · try simp only [decide_eq_true_eq, decide_eq_false_iff_not, Bool.not_eq_true', Bool.not_eq_false', Bool.not_eq_true, Bool.not_eq_false, Bool.and_eq_true, Bool.or_eq_false_iff, beq_iff_eq, bne_iff_ne, Int.not_lt, Int.not_le, ne_eq] at hc6
    have hfew := few_len hc6
    have hl3 : l.length ≤ 1000 := by omega
    have hal := allQ_len (qfw q) [] l
    have hbc := allQ_len (qlc (qfw q)) [] l
    have hbd := allQ_len (qld (qfw q)) [] l
    refine Sx.st_take hT rfl rfl rfl rfl (Sx.x_move hT rfl rfl) ?_
    clear hT; intro a hT
    refine Sx.st_take hT rfl rfl rfl rfl (Sx.x_lenStr hT rfl rfl Tryd.underlying9 rfl) ?_
    clear hT; intro a hT
    refine Sx.st_take hT rfl rfl rfl rfl ((fun w => Sx.x_lt w hT rfl rfl rfl)) ?_
    clear hT; intro a hT
    refine Sx.st_take hT rfl rfl rfl rfl (Sx.x_pick_f hT rfl rfl rfl) ?_
    clear hT; intro a hT
    refine Sx.st_take hT rfl rfl rfl rfl (Sx.x_move hT rfl rfl) ?_
    clear hT; intro a hT
    -- guard (3, 9)
    refine Sx.Sl.two hT 36 rfl (fun hc8 hT => ?_) (fun hc8 hT => ?_)
    · try simp only [decide_eq_true_eq, decide_eq_false_iff_not, Bool.not_eq_true', Bool.not_eq_false', Bool.not_eq_true, Bool.not_eq_false, Bool.and_eq_true, Bool.or_eq_false_iff, beq_iff_eq, bne_iff_ne, Int.not_lt, Int.not_le, ne_eq] at hc8
      refine Sx.st_skip hT rfl rfl rfl rfl ?_
      clear hT; intro a hT
      refine Sx.st_skip hT rfl rfl rfl rfl ?_
      clear hT; intro a hT
      refine Sx.st_skip hT rfl rfl rfl rfl ?_
      clear hT; intro a hT
      refine Sx.st_take hT rfl rfl rfl rfl (Sx.x_pick_t hT rfl rfl rfl) ?_
      clear hT; intro a hT
      refine Sx.st_take hT rfl rfl rfl rfl (Sx.x_move hT rfl rfl) ?_
      clear hT; intro a hT
      refine Sx.st_skip hT rfl rfl rfl rfl ?_
      clear hT; intro a hT
      refine Sx.st_skip hT rfl rfl rfl rfl ?_
      clear hT; intro a hT
      refine Sx.st_runskip hT rfl rfl rfl rfl ?_
      clear hT; intro a hT
      refine Sx.st_skip hT rfl rfl rfl rfl ?_
      clear hT; intro a hT
      refine Sx.st_take hT rfl rfl rfl rfl (Sx.x_pick_t hT rfl rfl rfl) ?_
      clear hT; intro a hT
      refine Sx.st_take hT rfl rfl rfl rfl (Sx.x_move hT rfl rfl) ?_
      clear hT; intro a hT
      refine Sx.st_skip hT rfl rfl rfl rfl ?_
      clear hT; intro a hT
      refine Sx.st_runskip hT rfl rfl rfl rfl ?_
      clear hT; intro a hT
      refine Sx.st_skip hT rfl rfl rfl rfl ?_
      clear hT; intro a hT
      refine Sx.st_skip hT rfl rfl rfl rfl ?_
      clear hT; intro a hT
      refine Sx.st_skip hT rfl rfl rfl rfl ?_
      clear hT; intro a hT
      refine Sx.st_skip hT rfl rfl rfl rfl ?_
      clear hT; intro a hT
      refine Sx.st_runskip hT rfl rfl rfl rfl ?_
      clear hT; intro a hT
      refine Sx.st_skip hT rfl rfl rfl rfl ?_
      clear hT; intro a hT
      refine Sx.st_skip hT rfl rfl rfl rfl ?_
      clear hT; intro a hT
      refine Sx.st_take hT rfl rfl rfl rfl (Sx.x_pick_t hT rfl rfl rfl) ?_
      clear hT; intro a hT
      replace hT := hT.keep [57, 26, 6, 4, 0, 1, 2] rfl
      refine Sx.ser_nil ?_
      refine Sx.then_normal (hK5 _ _ ?_)
      clear hK5
      refine Sx.wp_if hT rfl (fun _ => ?_) (fun h => by cases h)
      refine wp_seq_k fun K9 hK9 => ?_
      -- region 4 (law.go:166)
      refine Sx.wp_text [(0, .run), (1, .take)] rfl ?_
      refine Sx.st_call hT rfl rfl rfl rfl rfl Tryd.can8 rfl (first_calls _) ?_
      rintro _ w5 ⟨rfl, E⟩
      refine ⟨_, rfl, ?_⟩
      clear hT; intro a hT
      replace H := H.pure E; clear E
      refine Sx.st_take hT rfl rfl rfl rfl (Sx.x_assign hT rfl rfl) ?_
      clear hT; intro a hT
      replace hT := hT.keep [6, 57, 26, 4, 0, 1, 2] rfl
      refine Sx.ser_nil ?_
      refine Sx.then_normal (hK9 _ _ ?_)
      clear hK9
      refine wp_ret ?_
      refine Sx.then_ret ?_
      refine Sx.done1 (fn := Tryd.f6) hT rfl (.tmp (hT.get 6 _ rfl)) ?_
      exact ⟨rfl, H.ext⟩
    · try simp only [decide_eq_true_eq, decide_eq_false_iff_not, Bool.not_eq_true', Bool.not_eq_false', Bool.not_eq_true, Bool.not_eq_false, Bool.and_eq_true, Bool.or_eq_false_iff, beq_iff_eq, bne_iff_ne, Int.not_lt, Int.not_le, ne_eq] at hc8
      have hcn : cut ≠ [] := by intro h8; rw [h8] at hc8; simp at hc8
      refine Sx.st_take hT rfl rfl rfl rfl (Sx.x_move hT rfl rfl) ?_
      clear hT; intro a hT
      refine Sx.st_take hT rfl rfl rfl rfl (Sx.x_lenStr hT rfl rfl Tryd.underlying9 rfl) ?_
      clear hT; intro a hT
      refine Sx.st_take hT rfl rfl rfl rfl ((fun w => Sx.x_gt w hT rfl rfl rfl)) ?_
      clear hT; intro a hT
      refine Sx.st_take hT rfl rfl rfl rfl (Sx.x_pick_f hT rfl rfl rfl) ?_
      clear hT; intro a hT
      refine Sx.st_take hT rfl rfl rfl rfl (Sx.x_move hT rfl rfl) ?_
      clear hT; intro a hT
      -- guard (3, 14)
      refine Sx.Sl.two hT 41 rfl (fun hc10 hT => ?_) (fun hc10 hT => ?_)
      · try simp only [decide_eq_true_eq, decide_eq_false_iff_not, Bool.not_eq_true', Bool.not_eq_false', Bool.not_eq_true, Bool.not_eq_false, Bool.and_eq_true, Bool.or_eq_false_iff, beq_iff_eq, bne_iff_ne, Int.not_lt, Int.not_le, ne_eq] at hc10
        refine Sx.st_skip hT rfl rfl rfl rfl ?_
        clear hT; intro a hT
        refine Sx.st_skip hT rfl rfl rfl rfl ?_
        clear hT; intro a hT
        refine Sx.st_runskip hT rfl rfl rfl rfl ?_
        clear hT; intro a hT
        refine Sx.st_skip hT rfl rfl rfl rfl ?_
        clear hT; intro a hT
        refine Sx.st_take hT rfl rfl rfl rfl (Sx.x_pick_t hT rfl rfl rfl) ?_
        clear hT; intro a hT
        refine Sx.st_take hT rfl rfl rfl rfl (Sx.x_move hT rfl rfl) ?_
        clear hT; intro a hT
        refine Sx.st_skip hT rfl rfl rfl rfl ?_
        clear hT; intro a hT
        refine Sx.st_runskip hT rfl rfl rfl rfl ?_
        clear hT; intro a hT
        refine Sx.st_skip hT rfl rfl rfl rfl ?_
        clear hT; intro a hT
        refine Sx.st_skip hT rfl rfl rfl rfl ?_
        clear hT; intro a hT
        refine Sx.st_skip hT rfl rfl rfl rfl ?_
        clear hT; intro a hT
        refine Sx.st_skip hT rfl rfl rfl rfl ?_
        clear hT; intro a hT
        refine Sx.st_runskip hT rfl rfl rfl rfl ?_
        clear hT; intro a hT
        refine Sx.st_skip hT rfl rfl rfl rfl ?_
        clear hT; intro a hT
        refine Sx.st_skip hT rfl rfl rfl rfl ?_
        clear hT; intro a hT
        refine Sx.st_take hT rfl rfl rfl rfl (Sx.x_pick_t hT rfl rfl rfl) ?_
        clear hT; intro a hT
        replace hT := hT.keep [57, 26, 6, 4, 0, 1, 2] rfl
        refine Sx.ser_nil ?_
        refine Sx.then_normal (hK5 _ _ ?_)
        clear hK5
        refine Sx.wp_if hT rfl (fun _ => ?_) (fun h => by cases h)
        refine wp_seq_k fun K11 hK11 => ?_
        -- region 4 (law.go:166)
        refine Sx.wp_text [(0, .run), (1, .take)] rfl ?_
        refine Sx.st_call hT rfl rfl rfl rfl rfl Tryd.can8 rfl (first_calls _) ?_
        rintro _ w6 ⟨rfl, E⟩
        refine ⟨_, rfl, ?_⟩
        clear hT; intro a hT
        replace H := H.pure E; clear E
        refine Sx.st_take hT rfl rfl rfl rfl (Sx.x_assign hT rfl rfl) ?_
        clear hT; intro a hT
        replace hT := hT.keep [6, 57, 26, 4, 0, 1, 2] rfl
        refine Sx.ser_nil ?_
        refine Sx.then_normal (hK11 _ _ ?_)
        clear hK11
        refine wp_ret ?_
        refine Sx.then_ret ?_
        refine Sx.done1 (fn := Tryd.f6) hT rfl (.tmp (hT.get 6 _ rfl)) ?_
        exact ⟨rfl, H.ext⟩
      · try simp only [decide_eq_true_eq, decide_eq_false_iff_not, Bool.not_eq_true', Bool.not_eq_false', Bool.not_eq_true, Bool.not_eq_false, Bool.and_eq_true, Bool.or_eq_false_iff, beq_iff_eq, bne_iff_ne, Int.not_lt, Int.not_le, ne_eq] at hc10
        have hcl : cut.length ≤ 24 := by omega
        refine Sx.st_take hT rfl rfl rfl rfl (Sx.x_move hT rfl rfl) ?_
        clear hT; intro a hT
        refine Sx.st_take hT rfl rfl rfl rfl (Sx.x_fieldAddr hT rfl Tryd.fa27_0 rfl) ?_
        clear hT; intro a hT
        refine Sx.st_run hT rfl rfl rfl rfl (Sx.x_load1 hT rfl Tryd.fl9 rfl ((H.blk 0 rfl).nth rfl)) ?_
        clear hT; intro a hT
        refine Sx.st_take hT rfl rfl rfl rfl ((fun w => Sx.x_strlt w hT rfl rfl rfl)) ?_
        clear hT; intro a hT
        refine Sx.st_take hT rfl rfl rfl rfl (Sx.x_pick_f hT rfl rfl rfl) ?_
        clear hT; intro a hT
        refine Sx.st_take hT rfl rfl rfl rfl (Sx.x_move hT rfl rfl) ?_
        clear hT; intro a hT
        -- guard (3, 20)
        refine Sx.Sl.two hT 47 rfl (fun hc12 hT => ?_) (fun hc12 hT => ?_)
        · try simp only [decide_eq_true_eq, decide_eq_false_iff_not, Bool.not_eq_true', Bool.not_eq_false', Bool.not_eq_true, Bool.not_eq_false, Bool.and_eq_true, Bool.or_eq_false_iff, beq_iff_eq, bne_iff_ne, Int.not_lt, Int.not_le, ne_eq] at hc12
          refine Sx.st_skip hT rfl rfl rfl rfl ?_
          clear hT; intro a hT
          refine Sx.st_runskip hT rfl rfl rfl rfl ?_
          clear hT; intro a hT
          refine Sx.st_skip hT rfl rfl rfl rfl ?_
          clear hT; intro a hT
          refine Sx.st_skip hT rfl rfl rfl rfl ?_
          clear hT; intro a hT
          refine Sx.st_skip hT rfl rfl rfl rfl ?_
          clear hT; intro a hT
          refine Sx.st_skip hT rfl rfl rfl rfl ?_
          clear hT; intro a hT
          refine Sx.st_runskip hT rfl rfl rfl rfl ?_
          clear hT; intro a hT
          refine Sx.st_skip hT rfl rfl rfl rfl ?_
          clear hT; intro a hT
          refine Sx.st_skip hT rfl rfl rfl rfl ?_
          clear hT; intro a hT
          refine Sx.st_take hT rfl rfl rfl rfl (Sx.x_pick_t hT rfl rfl rfl) ?_
          clear hT; intro a hT
          replace hT := hT.keep [57, 26, 6, 4, 0, 1, 2] rfl
          refine Sx.ser_nil ?_
          refine Sx.then_normal (hK5 _ _ ?_)
          clear hK5
          refine Sx.wp_if hT rfl (fun _ => ?_) (fun h => by cases h)
          refine wp_seq_k fun K13 hK13 => ?_
          -- region 4 (law.go:166)
          refine Sx.wp_text [(0, .run), (1, .take)] rfl ?_
          refine Sx.st_call hT rfl rfl rfl rfl rfl Tryd.can8 rfl (first_calls _) ?_
          rintro _ w7 ⟨rfl, E⟩
          refine ⟨_, rfl, ?_⟩
          clear hT; intro a hT
          replace H := H.pure E; clear E
          refine Sx.st_take hT rfl rfl rfl rfl (Sx.x_assign hT rfl rfl) ?_
          clear hT; intro a hT
          replace hT := hT.keep [6, 57, 26, 4, 0, 1, 2] rfl
          refine Sx.ser_nil ?_
          refine Sx.then_normal (hK13 _ _ ?_)
          clear hK13
          refine wp_ret ?_
          refine Sx.then_ret ?_
          refine Sx.done1 (fn := Tryd.f6) hT rfl (.tmp (hT.get 6 _ rfl)) ?_
          exact ⟨rfl, H.ext⟩
        · try simp only [decide_eq_true_eq, decide_eq_false_iff_not, Bool.not_eq_true', Bool.not_eq_false', Bool.not_eq_true, Bool.not_eq_false, Bool.and_eq_true, Bool.or_eq_false_iff, beq_iff_eq, bne_iff_ne, Int.not_lt, Int.not_le, ne_eq] at hc12
          have hcf := hc12
          refine Sx.st_take hT rfl rfl rfl rfl (Sx.x_fieldAddr hT rfl Tryd.fa27_1 rfl) ?_
          clear hT; intro a hT
          refine Sx.st_run hT rfl rfl rfl rfl (Sx.x_load1 hT rfl Tryd.fl9 rfl ((H.blk 0 rfl).nth rfl)) ?_
          clear hT; intro a hT
          refine Sx.st_take hT rfl rfl rfl rfl ((fun w => Sx.x_strne w hT rfl rfl rfl)) ?_
          clear hT; intro a hT
          refine Sx.st_take hT rfl rfl rfl rfl (Sx.x_move hT rfl rfl) ?_
          clear hT; intro a hT
          -- guard (3, 24)
          refine Sx.Sl.two hT 51 rfl (fun hc14 hT => ?_) (fun hc14 hT => ?_)
          · try simp only [decide_eq_true_eq, decide_eq_false_iff_not, Bool.not_eq_true', Bool.not_eq_false', Bool.not_eq_true, Bool.not_eq_false, Bool.and_eq_true, Bool.or_eq_false_iff, beq_iff_eq, bne_iff_ne, Int.not_lt, Int.not_le, ne_eq] at hc14
            refine Sx.st_take hT rfl rfl rfl rfl (Sx.x_move hT rfl rfl) ?_
            clear hT; intro a hT
            refine Sx.st_take hT rfl rfl rfl rfl (Sx.x_fieldAddr hT rfl Tryd.fa27_1 rfl) ?_
            clear hT; intro a hT
            refine Sx.st_run hT rfl rfl rfl rfl (Sx.x_load1 hT rfl Tryd.fl9 rfl ((H.blk 0 rfl).nth rfl)) ?_
            clear hT; intro a hT
            refine Sx.st_take hT rfl rfl rfl rfl ((fun w => Sx.x_strge w hT rfl rfl rfl)) ?_
            clear hT; intro a hT
            refine Sx.st_take hT rfl rfl rfl rfl (Sx.x_pick_t hT rfl rfl rfl) ?_
            clear hT; intro a hT
            refine Sx.st_take hT rfl rfl rfl rfl (Sx.x_pick_f hT rfl rfl rfl) ?_
            clear hT; intro a hT
            replace hT := hT.keep [57, 26, 6, 4, 0, 1, 2] rfl
            refine Sx.ser_nil ?_
            refine Sx.then_normal (hK5 _ _ ?_)
            clear hK5
            -- cond 1
            refine Sx.wp_if hT rfl (fun hc15 => ?_) (fun hc15 => ?_)
            · try simp only [decide_eq_true_eq, decide_eq_false_iff_not, Bool.not_eq_true', Bool.not_eq_false', Bool.not_eq_true, Bool.not_eq_false, Bool.and_eq_true, Bool.or_eq_false_iff, beq_iff_eq, bne_iff_ne, Int.not_lt, Int.not_le, ne_eq] at hc15
              refine wp_seq_k fun K16 hK16 => ?_
              -- region 4 (law.go:166)
              refine Sx.wp_text [(0, .run), (1, .take)] rfl ?_
              refine Sx.st_call hT rfl rfl rfl rfl rfl Tryd.can8 rfl (first_calls _) ?_
              rintro _ w8 ⟨rfl, E⟩
              refine ⟨_, rfl, ?_⟩
              clear hT; intro a hT
              replace H := H.pure E; clear E
              refine Sx.st_take hT rfl rfl rfl rfl (Sx.x_assign hT rfl rfl) ?_
              clear hT; intro a hT
              replace hT := hT.keep [6, 57, 26, 4, 0, 1, 2] rfl
              refine Sx.ser_nil ?_
              refine Sx.then_normal (hK16 _ _ ?_)
              clear hK16
              refine wp_ret ?_
              refine Sx.then_ret ?_
              refine Sx.done1 (fn := Tryd.f6) hT rfl (.tmp (hT.get 6 _ rfl)) ?_
              exact ⟨rfl, H.ext⟩
            · try simp only [decide_eq_true_eq, decide_eq_false_iff_not, Bool.not_eq_true', Bool.not_eq_false', Bool.not_eq_true, Bool.not_eq_false, Bool.and_eq_true, Bool.or_eq_false_iff, beq_iff_eq, bne_iff_ne, Int.not_lt, Int.not_le, ne_eq] at hc15
              have hct : q.to = [] ∨ Op.bytesLess cut q.to = true := .inr (by simpa using hc15)
              refine wp_skip ?_
              refine Sx.then_normal (hK4 _ _ ?_)
              clear hK4
              refine wp_seq_k fun K17 hK17 => ?_
              -- region 5 (law.go:168)
              refine Sx.wp_text [(0, .take), (1, .run)] rfl ?_
              refine Sx.st_take hT rfl rfl rfl rfl (Sx.x_fieldAddr hT rfl Tryd.fa27_5 rfl) ?_
              clear hT; intro a hT
              refine Sx.st_act hT rfl rfl rfl (Sx.y_store1 hT rfl Tryd.ti4 rfl rfl rfl (H.blk 0 rfl) rfl) ?_
              rintro w9 ⟨hb, E, _⟩
              replace H := H.setB 0 rfl hb E rfl; clear hb E
              replace hT := hT.keep [57, 26, 6, 4, 0, 1, 2] rfl
              refine Sx.ser_nil ?_
              refine Sx.then_normal (hK17 _ _ ?_)
              clear hK17
              refine wp_seq_k fun K18 hK18 => ?_
              -- region 6 (law.go:169)
              refine Sx.wp_text [(0, .take), (1, .run), (2, .run), (3, .take), (4, .take), (5, .take), (6, .take), (7, .take)] rfl ?_
              refine Sx.st_take hT rfl rfl rfl rfl (Sx.x_move hT rfl rfl) ?_
              clear hT; intro a hT
              refine Sx.st_run hT rfl rfl rfl rfl (Sx.y_loadS hT rfl Tryd.underlying27 Tryd.ti27 rfl ((H.blk 0 rfl).seg (k := 12) rfl) (by rfl)) ?_
              clear hT; intro a hT
              refine Sx.st_call hT rfl rfl rfl rfl rfl Tryd.can13 rfl (All_calls _ _ l (qfw q) _ (R.at H.ext) hl3) ?_
              rintro _ w10 ⟨ad76, c76, rfl, K⟩
              refine ⟨_, rfl, ?_⟩
              clear hT; intro a hT
              replace H := H.more K rfl; clear K
              refine Sx.st_take hT rfl rfl rfl rfl (Sx.x_move hT rfl rfl) ?_
              clear hT; intro a hT
              refine Sx.st_take hT rfl rfl rfl rfl (Sx.x_extractL hT rfl rfl rfl) ?_
              clear hT; intro a hT
              refine Sx.st_take hT rfl rfl rfl rfl (Sx.x_extractL hT rfl rfl rfl) ?_
              clear hT; intro a hT
              refine Sx.st_take hT rfl rfl rfl rfl (Sx.x_assign hT rfl rfl) ?_
              clear hT; intro a hT
              refine Sx.st_take hT rfl rfl rfl rfl (Sx.x_assign hT rfl rfl) ?_
              clear hT; intro a hT
              replace hT := hT.keep [8, 7, 57, 26, 6, 4, 0, 1, 2] rfl
              refine Sx.ser_nil ?_
              refine Sx.then_normal (hK18 _ _ ?_)
              clear hK18
              refine wp_seq_k fun K19 hK19 => ?_
              refine wp_seq_k fun K20 hK20 => ?_
              -- region 7 (law.go:170)
              refine Sx.wp_text [(0, .take), (1, .take)] rfl ?_
              refine Sx.st_take hT rfl rfl rfl rfl (Sx.x_move hT rfl rfl) ?_
              clear hT; intro a hT
              refine Sx.st_take hT rfl rfl rfl rfl ((fun w => Sx.x_ne w hT rfl rfl rfl)) ?_
              clear hT; intro a hT
              replace hT := hT.keep [67, 8, 7, 57, 26, 6, 4, 0, 1, 2] rfl
              refine Sx.ser_nil ?_
              refine Sx.then_normal (hK20 _ _ ?_)
              clear hK20
              -- cond 2
              refine Sx.wp_if hT rfl (fun hc21 => ?_) (fun hc21 => ?_)
              · try simp only [decide_eq_true_eq, decide_eq_false_iff_not, Bool.not_eq_true', Bool.not_eq_false', Bool.not_eq_true, Bool.not_eq_false, Bool.and_eq_true, Bool.or_eq_false_iff, beq_iff_eq, bne_iff_ne, Int.not_lt, Int.not_le, ne_eq] at hc21
                refine wp_seq_k fun K22 hK22 => ?_
                -- region 8 (law.go:171)
                refine Sx.wp_text [(0, .run), (1, .take), (2, .take), (3, .take), (4, .take), (5, .take), (6, .take)] rfl ?_
                refine Sx.st_call hT rfl rfl rfl rfl rfl Tryd.can8 rfl (first_calls _) ?_
                rintro _ w11 ⟨rfl, E⟩
                refine ⟨_, rfl, ?_⟩
                clear hT; intro a hT
                replace H := H.pure E; clear E
                refine Sx.st_take hT rfl rfl rfl rfl (Sx.x_move hT rfl rfl) ?_
                clear hT; intro a hT
                refine Sx.st_take hT rfl rfl rfl rfl (Sx.x_move hT rfl rfl) ?_
                clear hT; intro a hT
                refine Sx.st_take hT rfl rfl rfl rfl (Sx.x_len_slice hT rfl rfl Tryd.underlying22 rfl) ?_
                clear hT; intro a hT
                refine Sx.st_take hT rfl rfl rfl rfl ((fun w => Sx.x_eq w hT rfl rfl rfl)) ?_
                clear hT; intro a hT
                refine Sx.st_take hT rfl rfl rfl rfl (Sx.x_pick_t hT rfl rfl rfl) ?_
                clear hT; intro a hT
                refine Sx.st_take hT rfl rfl rfl rfl (Sx.x_assign hT rfl rfl) ?_
                clear hT; intro a hT
                replace hT := hT.keep [6, 67, 8, 7, 57, 26, 4, 0, 1, 2] rfl
                refine Sx.ser_nil ?_
                refine Sx.then_normal (hK22 _ _ ?_)
                clear hK22
                refine wp_ret ?_
                refine Sx.then_ret ?_
                refine Sx.done1 (fn := Tryd.f6) hT rfl (.tmp (hT.get 6 _ rfl)) ?_
                exact ⟨ret_b (by rw [all_err (by assumption)]; rfl), H.ext⟩
              · try simp only [decide_eq_true_eq, decide_eq_false_iff_not, Bool.not_eq_true', Bool.not_eq_false', Bool.not_eq_true, Bool.not_eq_false, Bool.and_eq_true, Bool.or_eq_false_iff, beq_iff_eq, bne_iff_ne, Int.not_lt, Int.not_le, ne_eq] at hc21
                have hz := hc21
                obtain ⟨hzx, hzy, hxy⟩ := halves (q := (qfw q)) (cut := cut) rfl hz hcn hcl hcf hct
                have hxl : (allQ (qto (qfw q) cut) [] l).1.length + (allQ (qfr (qfw q) cut) [] l).1.length = (allQ (qfw q) [] l).1.length := by rw [← List.length_append, hxy]
                refine wp_skip ?_
                refine Sx.then_normal (hK19 _ _ ?_)
                clear hK19
                refine wp_seq_k fun K23 hK23 => ?_
                refine Sx.wp_join (G := Nat × Nat) (fun ⟨pa, pb⟩ => [(9, .pointer (some ⟨pa, 0, none⟩)), (10, .pointer (some ⟨pb, 0, none⟩))]) (fun ⟨pa, pb⟩ => [cB pa [.string ⟨(qfw q).fr.toArray⟩, .string ⟨(qfw q).to.toArray⟩, .int .i64 (qfw q).kind, .int .i64 (qfw q).lo.kind, .float .f64 (qfw q).lo.num, .string ⟨(qfw q).lo.text.toArray⟩, .int .i64 (qfw q).hi.kind, .float .f64 (qfw q).hi.num, .string ⟨(qfw q).hi.text.toArray⟩, .bool (qfw q).back, .int .i64 (qfw q).most, .string ⟨(qfw q).after.toArray⟩] 27, cB pb [.string ⟨(qfw q).fr.toArray⟩, .string ⟨(qfw q).to.toArray⟩, .int .i64 (qfw q).kind, .int .i64 (qfw q).lo.kind, .float .f64 (qfw q).lo.num, .string ⟨(qfw q).lo.text.toArray⟩, .int .i64 (qfw q).hi.kind, .float .f64 (qfw q).hi.num, .string ⟨(qfw q).hi.text.toArray⟩, .bool (qfw q).back, .int .i64 (qfw q).most, .string ⟨(qfw q).after.toArray⟩] 27]) (fun ⟨pa, pb⟩ => True) (hT.keep [67, 8, 7, 57, 26, 6, 4, 0, 1, 2] rfl) (H.keep [0, 1] rfl rfl) hK23 ?_ ?_
                · clear hT H hK23
                  rintro ⟨pa, pb⟩ a w12 hJ hT H
                  replace hT := hT.keep [9, 10, 67, 8, 7, 57, 26, 6, 4, 0, 1, 2] rfl
                  replace H := H.keep [0, 1, 2, 3] rfl rfl
                  clear hJ
                  refine wp_seq_k fun K24 hK24 => ?_
                  -- region 10 (law.go:174)
                  refine Sx.wp_text [(0, .take), (1, .take), (2, .run)] rfl ?_
                  refine Sx.st_take hT rfl rfl rfl rfl (Sx.x_move hT rfl rfl) ?_
                  clear hT; intro a hT
                  refine Sx.st_take hT rfl rfl rfl rfl (Sx.x_fieldAddr hT rfl Tryd.fa27_1 rfl) ?_
                  clear hT; intro a hT
                  refine Sx.st_act hT rfl rfl rfl (Sx.y_store1 hT rfl Tryd.ti9 rfl rfl rfl (H.blk 0 rfl) rfl) ?_
                  rintro w13 ⟨hb, E, _⟩
                  replace H := H.setB 0 rfl hb E rfl; clear hb E
                  replace hT := hT.keep [9, 10, 67, 8, 7, 57, 26, 6, 4, 0, 1, 2] rfl
                  refine Sx.ser_nil ?_
                  refine Sx.then_normal (hK24 _ _ ?_)
                  clear hK24
                  refine wp_seq_k fun K25 hK25 => ?_
                  -- region 11 (law.go:175)
                  refine Sx.wp_text [(0, .take), (1, .take), (2, .run)] rfl ?_
                  refine Sx.st_take hT rfl rfl rfl rfl (Sx.x_move hT rfl rfl) ?_
                  clear hT; intro a hT
                  refine Sx.st_take hT rfl rfl rfl rfl (Sx.x_fieldAddr hT rfl Tryd.fa27_0 rfl) ?_
                  clear hT; intro a hT
                  refine Sx.st_act hT rfl rfl rfl (Sx.y_store1 hT rfl Tryd.ti9 rfl rfl rfl (H.blk 1 rfl) rfl) ?_
                  rintro w14 ⟨hb, E, _⟩
                  replace H := H.setB 1 rfl hb E rfl; clear hb E
                  replace hT := hT.keep [9, 10, 67, 8, 7, 57, 26, 6, 4, 0, 1, 2] rfl
                  refine Sx.ser_nil ?_
                  refine Sx.then_normal (hK25 _ _ ?_)
                  clear hK25
                  refine wp_seq_k fun K26 hK26 => ?_
                  -- region 12 (law.go:176)
                  refine Sx.wp_text [(0, .take), (1, .run), (2, .run), (3, .take), (4, .take), (5, .take), (6, .take), (7, .take)] rfl ?_
                  refine Sx.st_take hT rfl rfl rfl rfl (Sx.x_move hT rfl rfl) ?_
                  clear hT; intro a hT
                  refine Sx.st_run hT rfl rfl rfl rfl (Sx.y_loadS hT rfl Tryd.underlying27 Tryd.ti27 rfl ((H.blk 0 rfl).seg (k := 12) rfl) (by rfl)) ?_
                  clear hT; intro a hT
                  refine Sx.st_call hT rfl rfl rfl rfl rfl Tryd.can13 rfl (All_calls _ _ l (qto (qfw q) cut) _ (R.at H.ext) hl3) ?_
                  rintro _ w15 ⟨ad82, c82, rfl, K⟩
                  refine ⟨_, rfl, ?_⟩
                  clear hT; intro a hT
                  replace H := H.more K rfl; clear K
                  refine Sx.st_take hT rfl rfl rfl rfl (Sx.x_move hT rfl rfl) ?_
                  clear hT; intro a hT
                  refine Sx.st_take hT rfl rfl rfl rfl (Sx.x_extractL hT rfl rfl rfl) ?_
                  clear hT; intro a hT
                  refine Sx.st_take hT rfl rfl rfl rfl (Sx.x_extractL hT rfl rfl rfl) ?_
                  clear hT; intro a hT
                  refine Sx.st_take hT rfl rfl rfl rfl (Sx.x_assign hT rfl rfl) ?_
                  clear hT; intro a hT
                  refine Sx.st_take hT rfl rfl rfl rfl (Sx.x_assign hT rfl rfl) ?_
                  clear hT; intro a hT
                  replace hT := hT.keep [12, 11, 9, 10, 67, 8, 7, 57, 26, 6, 4, 0, 1, 2] rfl
                  refine Sx.ser_nil ?_
                  refine Sx.then_normal (hK26 _ _ ?_)
                  clear hK26
                  refine wp_seq_k fun K27 hK27 => ?_
                  -- region 13 (law.go:177)
                  refine Sx.wp_text [(0, .take), (1, .run), (2, .run), (3, .take), (4, .take), (5, .take), (6, .take), (7, .take)] rfl ?_
                  refine Sx.st_take hT rfl rfl rfl rfl (Sx.x_move hT rfl rfl) ?_
                  clear hT; intro a hT
                  refine Sx.st_run hT rfl rfl rfl rfl (Sx.y_loadS hT rfl Tryd.underlying27 Tryd.ti27 rfl ((H.blk 2 rfl).seg (k := 12) rfl) (by rfl)) ?_
                  clear hT; intro a hT
                  refine Sx.st_call hT rfl rfl rfl rfl rfl Tryd.can13 rfl (All_calls _ _ l (qfr (qfw q) cut) _ (R.at H.ext) hl3) ?_
                  rintro _ w16 ⟨ad83, c83, rfl, K⟩
                  refine ⟨_, rfl, ?_⟩
                  clear hT; intro a hT
                  replace H := H.more K rfl; clear K
                  refine Sx.st_take hT rfl rfl rfl rfl (Sx.x_move hT rfl rfl) ?_
                  clear hT; intro a hT
                  refine Sx.st_take hT rfl rfl rfl rfl (Sx.x_extractL hT rfl rfl rfl) ?_
                  clear hT; intro a hT
                  refine Sx.st_take hT rfl rfl rfl rfl (Sx.x_extractL hT rfl rfl rfl) ?_
                  clear hT; intro a hT
                  refine Sx.st_take hT rfl rfl rfl rfl (Sx.x_assign hT rfl rfl) ?_
                  clear hT; intro a hT
                  refine Sx.st_take hT rfl rfl rfl rfl (Sx.x_assign hT rfl rfl) ?_
                  clear hT; intro a hT
                  replace hT := hT.keep [14, 13, 12, 11, 9, 10, 67, 8, 7, 57, 26, 6, 4, 0, 1, 2] rfl
                  refine Sx.ser_nil ?_
                  refine Sx.then_normal (hK27 _ _ ?_)
                  clear hK27
                  refine wp_seq_k fun K28 hK28 => ?_
                  refine wp_seq_k fun K29 hK29 => ?_
                  -- region 14 (law.go:178)
                  rw [hzx, hzy] at hT
                  refine Sx.wp_text [(0, .take), (1, .take), (2, .take), (3, .take), (4, .take), (5, .take), (6, .take), (7, .run), (8, .take), (9, .run), (10, .take), (11, .run), (12, .take), (13, .run), (14, .take), (15, .take)] rfl ?_
                  refine Sx.st_take hT rfl rfl rfl rfl (Sx.x_move hT rfl rfl) ?_
                  clear hT; intro a hT
                  refine Sx.st_take hT rfl rfl rfl rfl ((fun w => Sx.x_ne w hT rfl rfl rfl)) ?_
                  clear hT; intro a hT
                  refine Sx.st_take hT rfl rfl rfl rfl (Sx.x_move hT rfl rfl) ?_
                  clear hT; intro a hT
                  -- guard (14, 2)
                  refine Sx.Sl.two hT 94 rfl (fun hc30 hT => ?_) (fun hc30 hT => ?_)
                  · exfalso
                    try simp only [decide_eq_true_eq, decide_eq_false_iff_not, Bool.not_eq_true', Bool.not_eq_false', Bool.not_eq_true, Bool.not_eq_false, Bool.and_eq_true, Bool.or_eq_false_iff, beq_iff_eq, bne_iff_ne, Int.not_lt, Int.not_le, ne_eq] at hc30
                    first | (simp at hc30; done) | (simp at hc30; omega)
                  · try simp only [decide_eq_true_eq, decide_eq_false_iff_not, Bool.not_eq_true', Bool.not_eq_false', Bool.not_eq_true, Bool.not_eq_false, Bool.and_eq_true, Bool.or_eq_false_iff, beq_iff_eq, bne_iff_ne, Int.not_lt, Int.not_le, ne_eq] at hc30
                    refine Sx.st_take hT rfl rfl rfl rfl (Sx.x_move hT rfl rfl) ?_
                    clear hT; intro a hT
                    refine Sx.st_take hT rfl rfl rfl rfl ((fun w => Sx.x_ne w hT rfl rfl rfl)) ?_
                    clear hT; intro a hT
                    refine Sx.st_take hT rfl rfl rfl rfl (Sx.x_pick_f hT rfl rfl rfl) ?_
                    clear hT; intro a hT
                    refine Sx.st_take hT rfl rfl rfl rfl (Sx.x_move hT rfl rfl) ?_
                    clear hT; intro a hT
                    -- guard (14, 6)
                    refine Sx.Sl.two hT 98 rfl (fun hc31 hT => ?_) (fun hc31 hT => ?_)
                    · exfalso
                      try simp only [decide_eq_true_eq, decide_eq_false_iff_not, Bool.not_eq_true', Bool.not_eq_false', Bool.not_eq_true, Bool.not_eq_false, Bool.and_eq_true, Bool.or_eq_false_iff, beq_iff_eq, bne_iff_ne, Int.not_lt, Int.not_le, ne_eq] at hc31
                      first | (simp at hc31; done) | (simp at hc31; omega)
                    · try simp only [decide_eq_true_eq, decide_eq_false_iff_not, Bool.not_eq_true', Bool.not_eq_false', Bool.not_eq_true, Bool.not_eq_false, Bool.and_eq_true, Bool.or_eq_false_iff, beq_iff_eq, bne_iff_ne, Int.not_lt, Int.not_le, ne_eq] at hc31
                      refine Sx.st_eff hT rfl rfl rfl rfl (Sx.y_slice0 hT rfl Tryd.underlying22 Tryd.ti45 _) ?_
                      clear hT; rintro _ w17 ⟨b2, rfl, N⟩ a hT
                      replace H := H.new N; clear N
                      replace H := H.rowB 4 0 rfl rfl
                      refine Sx.st_take hT rfl rfl rfl rfl (Sx.x_move hT rfl rfl) ?_
                      clear hT; intro a hT
                      refine Sx.st_eff hT rfl rfl rfl rfl (Sx.x_append hT rfl rfl Tryd.underlying22 Tryd.ti45 rfl (by decide) rfl rfl (H.row 0 rfl) ((H.row 2 rfl).sv) (flat_one Pair.one _) (fun h9 => (H.row 2 rfl).nil' h9) (by unfold maxLen; omega) (by omega)) ?_
                      rintro _ w18 ⟨ad18, c18, rfl, hr, E, hown, -⟩
                      clear hT; intro a hT
                      replace H := H.setR 0 rfl hr E hown rfl; clear hr E hown
                      rw [Nat.zero_add, List.nil_append] at H
                      rw [Nat.zero_add] at hT
                      refine Sx.st_take hT rfl rfl rfl rfl (Sx.x_move hT rfl rfl) ?_
                      clear hT; intro a hT
                      refine Sx.st_eff hT rfl rfl rfl rfl (Sx.x_append hT rfl rfl Tryd.underlying22 Tryd.ti45 rfl (by decide) rfl rfl (H.row 0 rfl) ((H.row 1 rfl).sv) (flat_one Pair.one _) (fun h9 => (H.row 1 rfl).nil' h9) (by unfold maxLen; omega) (by omega)) ?_
                      rintro _ w19 ⟨ad19, c19, rfl, hr, E, hown, -⟩
                      clear hT; intro a hT
                      replace H := H.setR 0 rfl hr E hown rfl; clear hr E hown
                      rw [hxl] at hT H
                      rw [← List.flatMap_append, hxy] at H
                      refine Sx.st_take hT rfl rfl rfl rfl (Sx.x_move hT rfl rfl) ?_
                      clear hT; intro a hT
                      refine Sx.st_call hT rfl rfl rfl rfl rfl Tryd.can18 rfl (Pairs_calls _ _ _ _ (allQ (qfw q) [] l).1 _ ((H.row 0 rfl).ssn rfl) ((H.row 5 rfl).ssn rfl) (by omega)) ?_
                      rintro _ w20 ⟨rfl, E⟩
                      refine ⟨_, rfl, ?_⟩
                      clear hT; intro a hT
                      replace H := H.pure E; clear E
                      refine Sx.st_take hT rfl rfl rfl rfl (Sx.x_not hT rfl rfl) ?_
                      clear hT; intro a hT
                      refine Sx.st_take hT rfl rfl rfl rfl (Sx.x_pick_f hT rfl rfl rfl) ?_
                      clear hT; intro a hT
                      replace hT := hT.keep [107, 14, 13, 12, 11, 9, 10, 67, 8, 7, 57, 26, 6, 4, 0, 1, 2] rfl
                      refine Sx.ser_nil ?_
                      refine Sx.then_normal (hK29 _ _ ?_)
                      clear hK29
                      refine Sx.wp_if hT rfl (fun h => by cases h) (fun _ => ?_)
                      refine wp_skip ?_
                      refine Sx.then_normal (hK28 _ _ ?_)
                      clear hK28
                      refine wp_seq_k fun K32 hK32 => ?_
                      refine wp_seq_k fun K33 hK33 => ?_
                      -- region 16 (law.go:181)
                      refine Sx.wp_text [(0, .take), (1, .take), (2, .run), (3, .take), (4, .take), (5, .take), (6, .take), (7, .run), (8, .take), (9, .take), (10, .take), (11, .take), (12, .run), (13, .take), (14, .take)] rfl ?_
                      refine Sx.st_take hT rfl rfl rfl rfl (Sx.x_fieldAddr hT rfl Tryd.fa27_3 rfl) ?_
                      clear hT; intro a hT
                      refine Sx.st_take hT rfl rfl rfl rfl (Sx.x_fieldAddr hT rfl Tryd.fa25_0 rfl) ?_
                      clear hT; intro a hT
                      refine Sx.st_run hT rfl rfl rfl rfl (Sx.x_load1 hT rfl Tryd.fl3 rfl ((H.blk 6 rfl).nth rfl)) ?_
                      clear hT; intro a hT
                      refine Sx.st_take hT rfl rfl rfl rfl ((fun w => Sx.x_ne w hT rfl rfl rfl)) ?_
                      clear hT; intro a hT
                      refine Sx.st_take hT rfl rfl rfl rfl (Sx.x_move hT rfl rfl) ?_
                      clear hT; intro a hT
                      -- guard (16, 4)
                      refine Sx.Sl.two hT 112 rfl (fun hc34 hT => ?_) (fun hc34 hT => ?_)
                      · try simp only [decide_eq_true_eq, decide_eq_false_iff_not, Bool.not_eq_true', Bool.not_eq_false', Bool.not_eq_true, Bool.not_eq_false, Bool.and_eq_true, Bool.or_eq_false_iff, beq_iff_eq, bne_iff_ne, Int.not_lt, Int.not_le, ne_eq] at hc34
                        refine Sx.st_skip hT rfl rfl rfl rfl ?_
                        clear hT; intro a hT
                        refine Sx.st_skip hT rfl rfl rfl rfl ?_
                        clear hT; intro a hT
                        refine Sx.st_runskip hT rfl rfl rfl rfl ?_
                        clear hT; intro a hT
                        refine Sx.st_skip hT rfl rfl rfl rfl ?_
                        clear hT; intro a hT
                        refine Sx.st_take hT rfl rfl rfl rfl (Sx.x_pick_t hT rfl rfl rfl) ?_
                        clear hT; intro a hT
                        refine Sx.st_take hT rfl rfl rfl rfl (Sx.x_move hT rfl rfl) ?_
                        clear hT; intro a hT
                        refine Sx.st_skip hT rfl rfl rfl rfl ?_
                        clear hT; intro a hT
                        refine Sx.st_runskip hT rfl rfl rfl rfl ?_
                        clear hT; intro a hT
                        refine Sx.st_skip hT rfl rfl rfl rfl ?_
                        clear hT; intro a hT
                        refine Sx.st_take hT rfl rfl rfl rfl (Sx.x_pick_t hT rfl rfl rfl) ?_
                        clear hT; intro a hT
                        replace hT := hT.keep [122, 107, 14, 13, 12, 11, 9, 10, 67, 8, 7, 57, 26, 6, 4, 0, 1, 2] rfl
                        refine Sx.ser_nil ?_
                        refine Sx.then_normal (hK33 _ _ ?_)
                        clear hK33
                        refine Sx.wp_if hT rfl (fun _ => ?_) (fun h => by cases h)
                        refine wp_seq_k fun K35 hK35 => ?_
                        -- region 17 (law.go:182)
                        refine Sx.wp_text [(0, .run), (1, .take)] rfl ?_
                        refine Sx.st_call hT rfl rfl rfl rfl rfl Tryd.can8 rfl (first_calls _) ?_
                        rintro _ w21 ⟨rfl, E⟩
                        refine ⟨_, rfl, ?_⟩
                        clear hT; intro a hT
                        replace H := H.pure E; clear E
                        refine Sx.st_take hT rfl rfl rfl rfl (Sx.x_assign hT rfl rfl) ?_
                        clear hT; intro a hT
                        replace hT := hT.keep [6, 122, 107, 14, 13, 12, 11, 9, 10, 67, 8, 7, 57, 26, 4, 0, 1, 2] rfl
                        refine Sx.ser_nil ?_
                        refine Sx.then_normal (hK35 _ _ ?_)
                        clear hK35
                        refine wp_ret ?_
                        refine Sx.then_ret ?_
                        refine Sx.done1 (fn := Tryd.f6) hT rfl (.tmp (hT.get 6 _ rfl)) ?_
                        exact ⟨rfl, H.ext⟩
                      · try simp only [decide_eq_true_eq, decide_eq_false_iff_not, Bool.not_eq_true', Bool.not_eq_false', Bool.not_eq_true, Bool.not_eq_false, Bool.and_eq_true, Bool.or_eq_false_iff, beq_iff_eq, bne_iff_ne, Int.not_lt, Int.not_le, ne_eq] at hc34
                        have hlo := hc34
                        refine Sx.st_take hT rfl rfl rfl rfl (Sx.x_fieldAddr hT rfl Tryd.fa27_4 rfl) ?_
                        clear hT; intro a hT
                        refine Sx.st_take hT rfl rfl rfl rfl (Sx.x_fieldAddr hT rfl Tryd.fa25_0 rfl) ?_
                        clear hT; intro a hT
                        refine Sx.st_run hT rfl rfl rfl rfl (Sx.x_load1 hT rfl Tryd.fl3 rfl ((H.blk 6 rfl).nth rfl)) ?_
                        clear hT; intro a hT
                        refine Sx.st_take hT rfl rfl rfl rfl ((fun w => Sx.x_ne w hT rfl rfl rfl)) ?_
                        clear hT; intro a hT
                        refine Sx.st_take hT rfl rfl rfl rfl (Sx.x_pick_f hT rfl rfl rfl) ?_
                        clear hT; intro a hT
                        refine Sx.st_take hT rfl rfl rfl rfl (Sx.x_move hT rfl rfl) ?_
                        clear hT; intro a hT
                        -- guard (16, 10)
                        refine Sx.Sl.two hT 118 rfl (fun hc36 hT => ?_) (fun hc36 hT => ?_)
                        · try simp only [decide_eq_true_eq, decide_eq_false_iff_not, Bool.not_eq_true', Bool.not_eq_false', Bool.not_eq_true, Bool.not_eq_false, Bool.and_eq_true, Bool.or_eq_false_iff, beq_iff_eq, bne_iff_ne, Int.not_lt, Int.not_le, ne_eq] at hc36
                          refine Sx.st_skip hT rfl rfl rfl rfl ?_
                          clear hT; intro a hT
                          refine Sx.st_runskip hT rfl rfl rfl rfl ?_
                          clear hT; intro a hT
                          refine Sx.st_skip hT rfl rfl rfl rfl ?_
                          clear hT; intro a hT
                          refine Sx.st_take hT rfl rfl rfl rfl (Sx.x_pick_t hT rfl rfl rfl) ?_
                          clear hT; intro a hT
                          replace hT := hT.keep [122, 107, 14, 13, 12, 11, 9, 10, 67, 8, 7, 57, 26, 6, 4, 0, 1, 2] rfl
                          refine Sx.ser_nil ?_
                          refine Sx.then_normal (hK33 _ _ ?_)
                          clear hK33
                          refine Sx.wp_if hT rfl (fun _ => ?_) (fun h => by cases h)
                          refine wp_seq_k fun K37 hK37 => ?_
                          -- region 17 (law.go:182)
                          refine Sx.wp_text [(0, .run), (1, .take)] rfl ?_
                          refine Sx.st_call hT rfl rfl rfl rfl rfl Tryd.can8 rfl (first_calls _) ?_
                          rintro _ w22 ⟨rfl, E⟩
                          refine ⟨_, rfl, ?_⟩
                          clear hT; intro a hT
                          replace H := H.pure E; clear E
                          refine Sx.st_take hT rfl rfl rfl rfl (Sx.x_assign hT rfl rfl) ?_
                          clear hT; intro a hT
                          replace hT := hT.keep [6, 122, 107, 14, 13, 12, 11, 9, 10, 67, 8, 7, 57, 26, 4, 0, 1, 2] rfl
                          refine Sx.ser_nil ?_
                          refine Sx.then_normal (hK37 _ _ ?_)
                          clear hK37
                          refine wp_ret ?_
                          refine Sx.then_ret ?_
                          refine Sx.done1 (fn := Tryd.f6) hT rfl (.tmp (hT.get 6 _ rfl)) ?_
                          exact ⟨rfl, H.ext⟩
                        · try simp only [decide_eq_true_eq, decide_eq_false_iff_not, Bool.not_eq_true', Bool.not_eq_false', Bool.not_eq_true, Bool.not_eq_false, Bool.and_eq_true, Bool.or_eq_false_iff, beq_iff_eq, bne_iff_ne, Int.not_lt, Int.not_le, ne_eq] at hc36
                          have hhi := hc36
                          refine Sx.st_take hT rfl rfl rfl rfl (Sx.x_fieldAddr hT rfl Tryd.fa27_2 rfl) ?_
                          clear hT; intro a hT
                          refine Sx.st_run hT rfl rfl rfl rfl (Sx.x_load1 hT rfl Tryd.fl3 rfl ((H.blk 6 rfl).nth rfl)) ?_
                          clear hT; intro a hT
                          refine Sx.st_take hT rfl rfl rfl rfl ((fun w => Sx.x_ne w hT rfl rfl rfl)) ?_
                          clear hT; intro a hT
                          refine Sx.st_take hT rfl rfl rfl rfl (Sx.x_pick_f hT rfl rfl rfl) ?_
                          clear hT; intro a hT
                          replace hT := hT.keep [122, 107, 14, 13, 12, 11, 9, 10, 67, 8, 7, 57, 26, 6, 4, 0, 1, 2] rfl
                          refine Sx.ser_nil ?_
                          refine Sx.then_normal (hK33 _ _ ?_)
                          clear hK33
                          -- cond 4
                          refine Sx.wp_if hT rfl (fun hc38 => ?_) (fun hc38 => ?_)
                          · try simp only [decide_eq_true_eq, decide_eq_false_iff_not, Bool.not_eq_true', Bool.not_eq_false', Bool.not_eq_true, Bool.not_eq_false, Bool.and_eq_true, Bool.or_eq_false_iff, beq_iff_eq, bne_iff_ne, Int.not_lt, Int.not_le, ne_eq] at hc38
                            refine wp_seq_k fun K39 hK39 => ?_
                            -- region 17 (law.go:182)
                            refine Sx.wp_text [(0, .run), (1, .take)] rfl ?_
                            refine Sx.st_call hT rfl rfl rfl rfl rfl Tryd.can8 rfl (first_calls _) ?_
                            rintro _ w23 ⟨rfl, E⟩
                            refine ⟨_, rfl, ?_⟩
                            clear hT; intro a hT
                            replace H := H.pure E; clear E
                            refine Sx.st_take hT rfl rfl rfl rfl (Sx.x_assign hT rfl rfl) ?_
                            clear hT; intro a hT
                            replace hT := hT.keep [6, 122, 107, 14, 13, 12, 11, 9, 10, 67, 8, 7, 57, 26, 4, 0, 1, 2] rfl
                            refine Sx.ser_nil ?_
                            refine Sx.then_normal (hK39 _ _ ?_)
                            clear hK39
                            refine wp_ret ?_
                            refine Sx.then_ret ?_
                            refine Sx.done1 (fn := Tryd.f6) hT rfl (.tmp (hT.get 6 _ rfl)) ?_
                            exact ⟨rfl, H.ext⟩
                          · try simp only [decide_eq_true_eq, decide_eq_false_iff_not, Bool.not_eq_true', Bool.not_eq_false', Bool.not_eq_true, Bool.not_eq_false, Bool.and_eq_true, Bool.or_eq_false_iff, beq_iff_eq, bne_iff_ne, Int.not_lt, Int.not_le, ne_eq] at hc38
                            have hkd := hc38
                            obtain ⟨hzc, hzd, hcnt⟩ := counts (q := (qfw q)) rfl hz hkd hlo hhi
                            refine wp_skip ?_
                            refine Sx.then_normal (hK32 _ _ ?_)
                            clear hK32
                            refine wp_seq_k fun K40 hK40 => ?_
                            refine Sx.wp_join (G := Nat × Nat) (fun ⟨pc, pd⟩ => [(15, .pointer (some ⟨pc, 0, none⟩)), (16, .pointer (some ⟨pd, 0, none⟩))]) (fun ⟨pc, pd⟩ => [cB pc [.string ⟨(qfw q).fr.toArray⟩, .string ⟨(qfw q).to.toArray⟩, .int .i64 (qfw q).kind, .int .i64 (qfw q).lo.kind, .float .f64 (qfw q).lo.num, .string ⟨(qfw q).lo.text.toArray⟩, .int .i64 (qfw q).hi.kind, .float .f64 (qfw q).hi.num, .string ⟨(qfw q).hi.text.toArray⟩, .bool (qfw q).back, .int .i64 (qfw q).most, .string ⟨(qfw q).after.toArray⟩] 27, cB pd [.string ⟨(qfw q).fr.toArray⟩, .string ⟨(qfw q).to.toArray⟩, .int .i64 (qfw q).kind, .int .i64 (qfw q).lo.kind, .float .f64 (qfw q).lo.num, .string ⟨(qfw q).lo.text.toArray⟩, .int .i64 (qfw q).hi.kind, .float .f64 (qfw q).hi.num, .string ⟨(qfw q).hi.text.toArray⟩, .bool (qfw q).back, .int .i64 (qfw q).most, .string ⟨(qfw q).after.toArray⟩] 27]) (fun ⟨pc, pd⟩ => True) (hT.keep [122, 107, 14, 13, 12, 11, 9, 10, 67, 8, 7, 57, 26, 6, 4, 0, 1, 2] rfl) (H.keep [0, 1, 2, 3, 4, 5, 6] rfl rfl) hK40 ?_ ?_
                            · clear hT H hK40
                              rintro ⟨pc, pd⟩ a w24 hJ hT H
                              replace hT := hT.keep [15, 16, 122, 107, 14, 13, 12, 11, 9, 10, 67, 8, 7, 57, 26, 6, 4, 0, 1, 2] rfl
                              replace H := H.keep [0, 1, 2, 3, 4, 5, 6, 7, 8] rfl rfl
                              clear hJ
                              refine wp_seq_k fun K41 hK41 => ?_
                              -- region 19 (law.go:185)
                              refine Sx.wp_draws (fun u => Sx.Ext (Sx.One pc) u) [(0, .take), (1, .take), (2, .held), (3, .take), (4, .keep), (5, .take), (6, .run)] (by kernel_rfl) (by kernel_rfl) (fun u E _ => ?_)
                              replace H := H.pure E; clear E
                              have hH : Sx.Ext (Sx.One pc) u u := Sx.Ext.refl _ _
                              have Hu := H
                              refine Sx.st_take hT rfl rfl rfl rfl (Sx.x_bld hT rfl Tryd.bld25 rfl rfl) ?_
                              clear hT; intro a hT
                              refine Sx.st_take hT rfl rfl rfl rfl (Sx.x_fieldAddr hT rfl Tryd.fa27_3 rfl) ?_
                              clear hT; intro a hT
                              refine Sx.st_held hT rfl rfl rfl rfl hH (fun w' h' => Sx.y_loadS hT rfl Tryd.underlying25 Tryd.ti25 rfl ((Hu.heldB 8 rfl h' (Hu.off 8 0 rfl rfl rfl)).seg (k := 3) rfl) (by rfl)) ?_
                              clear hT; intro a hT
                              refine Sx.st_take hT rfl rfl rfl rfl (Sx.x_fieldAddr hT rfl Tryd.fa27_3 rfl) ?_
                              clear hT; intro a hT
                              refine Sx.st_actkeep hT rfl rfl rfl (Sx.y_storeS hT rfl Tryd.ti25 rfl rfl rfl rfl rfl (H.blk 0 rfl) rfl) ?_
                              rintro w25 ⟨hb, E, _⟩
                              refine ⟨hH.same E, ?_⟩
                              replace hH := hH.same E
                              replace H := H.setB 0 rfl hb E rfl; clear hb E
                              refine Sx.st_take hT rfl rfl rfl rfl (Sx.x_fieldAddr hT rfl Tryd.fa27_4 rfl) ?_
                              clear hT; intro a hT
                              refine Sx.st_act hT rfl rfl rfl (Sx.y_storeS hT rfl Tryd.ti25 rfl rfl rfl rfl rfl (H.blk 0 rfl) rfl) ?_
                              rintro w26 ⟨hb, E, _⟩
                              replace H := H.setB 0 rfl hb E rfl; clear hb E
                              replace hT := hT.keep [15, 16, 122, 107, 14, 13, 12, 11, 9, 10, 67, 8, 7, 57, 26, 6, 4, 0, 1, 2] rfl
                              clear Hu hH
                              refine Sx.ser_calm ?_
                              refine Sx.then_normal (hK41 _ _ ?_)
                              clear hK41
                              refine wp_seq_k fun K42 hK42 => ?_
                              -- region 20 (law.go:186)
                              refine Sx.wp_text [(0, .take), (1, .take), (2, .run)] rfl ?_
                              refine Sx.st_take hT rfl rfl rfl rfl (Sx.x_bld hT rfl Tryd.bld25 rfl rfl) ?_
                              clear hT; intro a hT
                              refine Sx.st_take hT rfl rfl rfl rfl (Sx.x_fieldAddr hT rfl Tryd.fa27_3 rfl) ?_
                              clear hT; intro a hT
                              refine Sx.st_act hT rfl rfl rfl (Sx.y_storeS hT rfl Tryd.ti25 rfl rfl rfl rfl rfl (H.blk 1 rfl) rfl) ?_
                              rintro w27 ⟨hb, E, _⟩
                              replace H := H.setB 1 rfl hb E rfl; clear hb E
                              replace hT := hT.keep [15, 16, 122, 107, 14, 13, 12, 11, 9, 10, 67, 8, 7, 57, 26, 6, 4, 0, 1, 2] rfl
                              refine Sx.ser_nil ?_
                              refine Sx.then_normal (hK42 _ _ ?_)
                              clear hK42
                              refine wp_seq_k fun K43 hK43 => ?_
                              -- region 21 (law.go:187)
                              refine Sx.wp_text [(0, .take), (1, .run), (2, .run), (3, .take), (4, .take), (5, .take), (6, .take), (7, .take)] rfl ?_
                              refine Sx.st_take hT rfl rfl rfl rfl (Sx.x_move hT rfl rfl) ?_
                              clear hT; intro a hT
                              refine Sx.st_run hT rfl rfl rfl rfl (Sx.y_loadS hT rfl Tryd.underlying27 Tryd.ti27 rfl ((H.blk 0 rfl).seg (k := 12) rfl) (by rfl)) ?_
                              clear hT; intro a hT
                              refine Sx.st_call hT rfl rfl rfl rfl rfl Tryd.can15 rfl (Count_calls _ _ l (qlc (qfw q)) _ (R.at H.ext) hl3) ?_
                              rintro _ w28 ⟨rfl, E⟩
                              refine ⟨_, rfl, ?_⟩
                              clear hT; intro a hT
                              replace H := H.pure E; clear E
                              refine Sx.st_take hT rfl rfl rfl rfl (Sx.x_move hT rfl rfl) ?_
                              clear hT; intro a hT
                              refine Sx.st_take hT rfl rfl rfl rfl (Sx.x_extractL hT rfl rfl rfl) ?_
                              clear hT; intro a hT
                              refine Sx.st_take hT rfl rfl rfl rfl (Sx.x_extractL hT rfl rfl rfl) ?_
                              clear hT; intro a hT
                              refine Sx.st_take hT rfl rfl rfl rfl (Sx.x_assign hT rfl rfl) ?_
                              clear hT; intro a hT
                              refine Sx.st_take hT rfl rfl rfl rfl (Sx.x_assign hT rfl rfl) ?_
                              clear hT; intro a hT
                              replace hT := hT.keep [18, 17, 15, 16, 122, 107, 14, 13, 12, 11, 9, 10, 67, 8, 7, 57, 26, 6, 4, 0, 1, 2] rfl
                              refine Sx.ser_nil ?_
                              refine Sx.then_normal (hK43 _ _ ?_)
                              clear hK43
                              refine wp_seq_k fun K44 hK44 => ?_
                              -- region 22 (law.go:188)
                              refine Sx.wp_text [(0, .take), (1, .run), (2, .run), (3, .take), (4, .take), (5, .take), (6, .take), (7, .take)] rfl ?_
                              refine Sx.st_take hT rfl rfl rfl rfl (Sx.x_move hT rfl rfl) ?_
                              clear hT; intro a hT
                              refine Sx.st_run hT rfl rfl rfl rfl (Sx.y_loadS hT rfl Tryd.underlying27 Tryd.ti27 rfl ((H.blk 1 rfl).seg (k := 12) rfl) (by rfl)) ?_
                              clear hT; intro a hT
                              refine Sx.st_call hT rfl rfl rfl rfl rfl Tryd.can15 rfl (Count_calls _ _ l (qld (qfw q)) _ (R.at H.ext) hl3) ?_
                              rintro _ w29 ⟨rfl, E⟩
                              refine ⟨_, rfl, ?_⟩
                              clear hT; intro a hT
                              replace H := H.pure E; clear E
                              refine Sx.st_take hT rfl rfl rfl rfl (Sx.x_move hT rfl rfl) ?_
                              clear hT; intro a hT
                              refine Sx.st_take hT rfl rfl rfl rfl (Sx.x_extractL hT rfl rfl rfl) ?_
                              clear hT; intro a hT
                              refine Sx.st_take hT rfl rfl rfl rfl (Sx.x_extractL hT rfl rfl rfl) ?_
                              clear hT; intro a hT
                              refine Sx.st_take hT rfl rfl rfl rfl (Sx.x_assign hT rfl rfl) ?_
                              clear hT; intro a hT
                              refine Sx.st_take hT rfl rfl rfl rfl (Sx.x_assign hT rfl rfl) ?_
                              clear hT; intro a hT
                              replace hT := hT.keep [20, 19, 18, 17, 15, 16, 122, 107, 14, 13, 12, 11, 9, 10, 67, 8, 7, 57, 26, 6, 4, 0, 1, 2] rfl
                              refine Sx.ser_nil ?_
                              refine Sx.then_normal (hK44 _ _ ?_)
                              clear hK44
                              refine wp_seq_k fun K45 hK45 => ?_
                              -- region 23 (law.go:189)
                              refine Sx.wp_text [(0, .take), (1, .run), (2, .run), (3, .take), (4, .take), (5, .take), (6, .take), (7, .take)] rfl ?_
                              refine Sx.st_take hT rfl rfl rfl rfl (Sx.x_move hT rfl rfl) ?_
                              clear hT; intro a hT
                              refine Sx.st_run hT rfl rfl rfl rfl (Sx.y_loadS hT rfl Tryd.underlying27 Tryd.ti27 rfl ((H.blk 8 rfl).seg (k := 12) rfl) (by rfl)) ?_
                              clear hT; intro a hT
                              refine Sx.st_call hT rfl rfl rfl rfl rfl Tryd.can15 rfl (Count_calls _ _ l (qfw q) _ (R.at H.ext) hl3) ?_
                              rintro _ w30 ⟨rfl, E⟩
                              refine ⟨_, rfl, ?_⟩
                              clear hT; intro a hT
                              replace H := H.pure E; clear E
                              refine Sx.st_take hT rfl rfl rfl rfl (Sx.x_move hT rfl rfl) ?_
                              clear hT; intro a hT
                              refine Sx.st_take hT rfl rfl rfl rfl (Sx.x_extractL hT rfl rfl rfl) ?_
                              clear hT; intro a hT
                              refine Sx.st_take hT rfl rfl rfl rfl (Sx.x_extractL hT rfl rfl rfl) ?_
                              clear hT; intro a hT
                              refine Sx.st_take hT rfl rfl rfl rfl (Sx.x_assign hT rfl rfl) ?_
                              clear hT; intro a hT
                              refine Sx.st_take hT rfl rfl rfl rfl (Sx.x_assign hT rfl rfl) ?_
                              clear hT; intro a hT
                              replace hT := hT.keep [22, 21, 20, 19, 18, 17, 15, 16, 122, 107, 14, 13, 12, 11, 9, 10, 67, 8, 7, 57, 26, 6, 4, 0, 1, 2] rfl
                              refine Sx.ser_nil ?_
                              refine Sx.then_normal (hK45 _ _ ?_)
                              clear hK45
                              refine wp_seq_k fun K46 hK46 => ?_
                              -- region 24 (law.go:190)
                              refine Sx.wp_text [(0, .take)] rfl ?_
                              refine Sx.st_take hT rfl rfl rfl rfl (Sx.x_assign hT rfl rfl) ?_
                              clear hT; intro a hT
                              replace hT := hT.keep [23, 22, 21, 20, 19, 18, 17, 15, 16, 122, 107, 14, 13, 12, 11, 9, 10, 67, 8, 7, 57, 26, 6, 4, 0, 1, 2] rfl
                              refine Sx.ser_nil ?_
                              refine Sx.then_normal (hK46 _ _ ?_)
                              clear hK46
                              refine wp_seq_k fun K47 hK47 => ?_
                              refine wp_seq_k fun K48 hK48 => ?_
                              -- region 25 (law.go:191)
                              refine Sx.wp_text [(0, .take)] rfl ?_
                              refine Sx.st_take hT rfl rfl rfl rfl (Sx.x_assign hT rfl rfl) ?_
                              clear hT; intro a hT
                              replace hT := hT.keep [24, 23, 22, 21, 20, 19, 18, 17, 15, 16, 122, 107, 14, 13, 12, 11, 9, 10, 67, 8, 7, 57, 26, 6, 4, 0, 1, 2] rfl
                              refine Sx.ser_nil ?_
                              refine Sx.then_normal (hK48 _ _ ?_)
                              clear hK48
                              refine wp_block ?_
                              -- loop 0
                              refine Sx.wp_loopH (G := Nat) (fun k => [(24, .int .i64 (k : Int)), (23, .int .i64 ((fil (fun p : Pair => sameV p.val q.lo) (allQ (qfw q) [] l).1 k).length : Int))]) (fun k => []) (fun k => k ≤ (allQ (qfw q) [] l).1.length) (fun k => (allQ (qfw q) [] l).1.length - k) 0 (hT.keep [24, 23, 22, 21, 20, 19, 18, 17, 15, 16, 122, 107, 14, 13, 12, 11, 9, 10, 67, 8, 7, 57, 26, 6, 4, 0, 1, 2] rfl) (H.keep [0, 1, 2, 3, 4, 5, 6, 7, 8] rfl rfl) (Nat.zero_le _) ?_
                              clear hT H
                              rintro k a w31 hJ hT H
                              replace hT := hT.keep [24, 23, 22, 21, 20, 19, 18, 17, 15, 16, 122, 107, 14, 13, 12, 11, 9, 10, 67, 8, 7, 57, 26, 6, 4, 0, 1, 2] rfl
                              replace H := H.keep [0, 1, 2, 3, 4, 5, 6, 7, 8] rfl rfl
                              have hk : k ≤ (allQ (qfw q) [] l).1.length := hJ
                              have hfl := fil_len (fun p : Pair => sameV p.val q.lo) (allQ (qfw q) [] l).1 k
                              refine wp_seq_k fun K49 hK49 => ?_
                              refine wp_seq_k fun K50 hK50 => ?_
                              -- region 26 (law.go:191)
                              refine Sx.wp_text [(0, .take), (1, .take), (2, .take), (3, .take)] rfl ?_
                              refine Sx.st_take hT rfl rfl rfl rfl (Sx.x_move hT rfl rfl) ?_
                              clear hT; intro a hT
                              refine Sx.st_take hT rfl rfl rfl rfl (Sx.x_move hT rfl rfl) ?_
                              clear hT; intro a hT
                              refine Sx.st_take hT rfl rfl rfl rfl (Sx.x_len_slice hT rfl rfl Tryd.underlying22 rfl) ?_
                              clear hT; intro a hT
                              refine Sx.st_take hT rfl rfl rfl rfl ((fun w => Sx.x_lt w hT rfl rfl rfl)) ?_
                              clear hT; intro a hT
                              replace hT := hT.keep [154, 24, 23, 22, 21, 20, 19, 18, 17, 15, 16, 122, 107, 14, 13, 12, 11, 9, 10, 67, 8, 7, 57, 26, 6, 4, 0, 1, 2] rfl
                              refine Sx.ser_nil ?_
                              refine Sx.then_normal (hK50 _ _ ?_)
                              clear hK50
                              -- cond 5
                              refine Sx.wp_if hT rfl (fun hc51 => ?_) (fun hc51 => ?_)
                              · try simp only [decide_eq_true_eq, decide_eq_false_iff_not, Bool.not_eq_true', Bool.not_eq_false', Bool.not_eq_true, Bool.not_eq_false, Bool.and_eq_true, Bool.or_eq_false_iff, beq_iff_eq, bne_iff_ne, Int.not_lt, Int.not_le, ne_eq] at hc51
                                obtain ⟨o, ho⟩ : ∃ o, (allQ (qfw q) [] l).1[k]? = some o := ⟨_, List.getElem?_eq_getElem (by omega)⟩
                                refine wp_skip ?_
                                refine Sx.then_normal (hK49 _ _ ?_)
                                clear hK49
                                refine wp_seq_k fun K52 hK52 => ?_
                                refine wp_block ?_
                                refine wp_seq_k fun K53 hK53 => ?_
                                -- region 28 (law.go:192)
                                refine Sx.wp_draws (fun u => Sx.Ext (Sx.No) u) [(0, .take), (1, .take), (2, .take), (3, .take), (4, .held), (5, .take), (6, .held), (7, .run)] (by kernel_rfl) (by kernel_rfl) (fun u E _ => ?_)
                                replace H := H.pure E; clear E
                                have hH : Sx.Ext (Sx.No) u u := Sx.Ext.refl _ _
                                have Hu := H
                                refine Sx.st_take hT rfl rfl rfl rfl (Sx.x_move hT rfl rfl) ?_
                                clear hT; intro a hT
                                refine Sx.st_take hT rfl rfl rfl rfl (Sx.x_move hT rfl rfl) ?_
                                clear hT; intro a hT
                                refine Sx.st_take hT rfl rfl rfl rfl (Sx.x_index (k := k) hT rfl Tryd.underlying22 Tryd.ti45 (H.row 7 rfl).sv rfl rfl (by first | rfl | omega) (by omega)) ?_
                                clear hT; intro a hT
                                refine Sx.st_take hT rfl rfl rfl rfl (Sx.x_fieldAddr hT rfl Tryd.fa45_1 rfl) ?_
                                clear hT; intro a hT
                                refine Sx.st_held hT rfl rfl rfl rfl hH (fun w' h' => Sx.y_loadS hT rfl Tryd.underlying25 Tryd.ti25 rfl ((((Hu.heldR 7 rfl h' Sx.off_No).ssn rfl).cs Pair.len ho).seg (i := 1) (k := 3) rfl) (by rfl)) ?_
                                clear hT; intro a hT
                                refine Sx.st_take hT rfl rfl rfl rfl (Sx.x_fieldAddr hT rfl Tryd.fa27_3 rfl) ?_
                                clear hT; intro a hT
                                refine Sx.st_held hT rfl rfl rfl rfl hH (fun w' h' => Sx.y_loadS hT rfl Tryd.underlying25 Tryd.ti25 rfl ((Hu.heldB 8 rfl h' Sx.off_No).seg (k := 3) rfl) (by rfl)) ?_
                                clear hT; intro a hT
                                refine Sx.st_call hT rfl rfl rfl rfl rfl Tryd.can21 rfl (Same_calls o.val.kind o.val.num o.val.text q.lo.kind q.lo.num q.lo.text _) ?_
                                rintro _ w32 ⟨rfl, E⟩
                                refine ⟨_, rfl, ?_⟩
                                clear hT; intro a hT
                                replace H := H.pure E; clear E
                                replace hT := hT.keep [164, 154, 24, 23, 22, 21, 20, 19, 18, 17, 15, 16, 122, 107, 14, 13, 12, 11, 9, 10, 67, 8, 7, 57, 26, 6, 4, 0, 1, 2] rfl
                                clear Hu hH
                                refine Sx.ser_calm ?_
                                refine Sx.then_normal (hK53 _ _ ?_)
                                clear hK53
                                -- cond 6
                                refine Sx.wp_if hT rfl (fun hc54 => ?_) (fun hc54 => ?_)
                                · try simp only [decide_eq_true_eq, decide_eq_false_iff_not, Bool.not_eq_true', Bool.not_eq_false', Bool.not_eq_true, Bool.not_eq_false, Bool.and_eq_true, Bool.or_eq_false_iff, beq_iff_eq, bne_iff_ne, Int.not_lt, Int.not_le, ne_eq] at hc54
                                  have hma := hc54
                                  -- region 29 (law.go:193)
                                  refine Sx.wp_text [(0, .take), (1, .take), (2, .take)] rfl ?_
                                  refine Sx.st_take hT rfl rfl rfl rfl (Sx.x_move hT rfl rfl) ?_
                                  clear hT; intro a hT
                                  refine Sx.st_take hT rfl rfl rfl rfl ((fun w => Sx.x_add w hT rfl rfl rfl (Sx.wrap64 (by omega)))) ?_
                                  clear hT; intro a hT
                                  refine Sx.st_take hT rfl rfl rfl rfl (Sx.x_assign hT rfl rfl) ?_
                                  clear hT; intro a hT
                                  replace hT := hT.keep [23, 164, 154, 24, 22, 21, 20, 19, 18, 17, 15, 16, 122, 107, 14, 13, 12, 11, 9, 10, 67, 8, 7, 57, 26, 6, 4, 0, 1, 2] rfl
                                  refine Sx.ser_nil ?_
                                  refine Sx.block_normal ?_
                                  refine Sx.then_normal (hK52 _ _ ?_)
                                  clear hK52
                                  -- region 27 (law.go:191)
                                  refine Sx.wp_text [(0, .take), (1, .take), (2, .take)] rfl ?_
                                  refine Sx.st_take hT rfl rfl rfl rfl (Sx.x_move hT rfl rfl) ?_
                                  clear hT; intro a hT
                                  refine Sx.st_take hT rfl rfl rfl rfl ((fun w => Sx.x_add w hT rfl rfl rfl (Sx.wrap64 (by omega)))) ?_
                                  clear hT; intro a hT
                                  refine Sx.st_take hT rfl rfl rfl rfl (Sx.x_assign hT rfl rfl) ?_
                                  clear hT; intro a hT
                                  replace hT := hT.keep [24, 23, 164, 154, 22, 21, 20, 19, 18, 17, 15, 16, 122, 107, 14, 13, 12, 11, 9, 10, 67, 8, 7, 57, 26, 6, 4, 0, 1, 2] rfl
                                  refine Sx.ser_nil ?_
                                  refine Sx.then_normal ?_
                                  exact ⟨k + 1, (by omega), ((hT.keep [24, 23, 22, 21, 20, 19, 18, 17, 15, 16, 122, 107, 14, 13, 12, 11, 9, 10, 67, 8, 7, 57, 26, 6, 4, 0, 1, 2] rfl).conv (by rw [fil_yes (f := (fun p : Pair => sameV p.val q.lo)) ho hma, pairs_len]; rfl)), (H.keep [0, 1, 2, 3, 4, 5, 6, 7, 8] rfl rfl), by omega⟩
                                · try simp only [decide_eq_true_eq, decide_eq_false_iff_not, Bool.not_eq_true', Bool.not_eq_false', Bool.not_eq_true, Bool.not_eq_false, Bool.and_eq_true, Bool.or_eq_false_iff, beq_iff_eq, bne_iff_ne, Int.not_lt, Int.not_le, ne_eq] at hc54
                                  have hma := hc54
                                  refine wp_skip ?_
                                  refine Sx.block_normal ?_
                                  refine Sx.then_normal (hK52 _ _ ?_)
                                  clear hK52
                                  -- region 27 (law.go:191)
                                  refine Sx.wp_text [(0, .take), (1, .take), (2, .take)] rfl ?_
                                  refine Sx.st_take hT rfl rfl rfl rfl (Sx.x_move hT rfl rfl) ?_
                                  clear hT; intro a hT
                                  refine Sx.st_take hT rfl rfl rfl rfl ((fun w => Sx.x_add w hT rfl rfl rfl (Sx.wrap64 (by omega)))) ?_
                                  clear hT; intro a hT
                                  refine Sx.st_take hT rfl rfl rfl rfl (Sx.x_assign hT rfl rfl) ?_
                                  clear hT; intro a hT
                                  replace hT := hT.keep [24, 164, 154, 23, 22, 21, 20, 19, 18, 17, 15, 16, 122, 107, 14, 13, 12, 11, 9, 10, 67, 8, 7, 57, 26, 6, 4, 0, 1, 2] rfl
                                  refine Sx.ser_nil ?_
                                  refine Sx.then_normal ?_
                                  exact ⟨k + 1, (by omega), ((hT.keep [24, 23, 22, 21, 20, 19, 18, 17, 15, 16, 122, 107, 14, 13, 12, 11, 9, 10, 67, 8, 7, 57, 26, 6, 4, 0, 1, 2] rfl).conv (by rw [fil_no (f := (fun p : Pair => sameV p.val q.lo)) ho hma]; rfl)), (H.keep [0, 1, 2, 3, 4, 5, 6, 7, 8] rfl rfl), by omega⟩
                              · try simp only [decide_eq_true_eq, decide_eq_false_iff_not, Bool.not_eq_true', Bool.not_eq_false', Bool.not_eq_true, Bool.not_eq_false, Bool.and_eq_true, Bool.or_eq_false_iff, beq_iff_eq, bne_iff_ne, Int.not_lt, Int.not_le, ne_eq] at hc51
                                obtain rfl : k = (allQ (qfw q) [] l).1.length := by omega
                                refine wp_exit ?_
                                refine Sx.then_exit ?_
                                refine Sx.then_exit ?_
                                refine Sx.block_exit ?_
                                refine Sx.then_normal (hK47 _ _ ?_)
                                clear hK47
                                refine wp_seq_k fun K55 hK55 => ?_
                                -- region 30 (law.go:196)
                                rw [hzc, hzd, hz] at hT
                                have hfl := fil_len (fun p : Pair => sameV p.val q.lo) (allQ (qfw q) [] l).1 (allQ (qfw q) [] l).1.length
                                replace hcnt : (allQ (qlc (qfw q)) [] l).1.length + (allQ (qfw q) [] l).1.length = (allQ (qld (qfw q)) [] l).1.length + (fil (fun p : Pair => sameV p.val q.lo) (allQ (qfw q) [] l).1 (allQ (qfw q) [] l).1.length).length := hcnt
                                refine Sx.wp_text [(0, .run), (1, .take), (2, .take), (3, .take), (4, .take), (5, .take), (6, .take), (7, .take), (8, .take), (9, .take), (10, .take), (11, .take), (12, .take), (13, .take), (14, .take), (15, .take), (16, .take), (17, .take), (18, .take), (19, .take), (20, .take), (21, .take), (22, .take)] rfl ?_
                                refine Sx.st_call hT rfl rfl rfl rfl rfl Tryd.can8 rfl (first_calls _) ?_
                                rintro _ w33 ⟨rfl, E⟩
                                refine ⟨_, rfl, ?_⟩
                                clear hT; intro a hT
                                replace H := H.pure E; clear E
                                refine Sx.st_take hT rfl rfl rfl rfl (Sx.x_move hT rfl rfl) ?_
                                clear hT; intro a hT
                                refine Sx.st_take hT rfl rfl rfl rfl (Sx.x_move hT rfl rfl) ?_
                                clear hT; intro a hT
                                refine Sx.st_take hT rfl rfl rfl rfl ((fun w => Sx.x_eq w hT rfl rfl rfl)) ?_
                                clear hT; intro a hT
                                refine Sx.st_take hT rfl rfl rfl rfl (Sx.x_pick_t hT rfl rfl rfl) ?_
                                clear hT; intro a hT
                                refine Sx.st_take hT rfl rfl rfl rfl (Sx.x_move hT rfl rfl) ?_
                                clear hT; intro a hT
                                -- guard (30, 5)
                                refine Sx.Sl.two hT 172 rfl (fun hc56 hT => ?_) (fun hc56 hT => ?_)
                                · try simp only [decide_eq_true_eq, decide_eq_false_iff_not, Bool.not_eq_true', Bool.not_eq_false', Bool.not_eq_true, Bool.not_eq_false, Bool.and_eq_true, Bool.or_eq_false_iff, beq_iff_eq, bne_iff_ne, Int.not_lt, Int.not_le, ne_eq] at hc56
                                  refine Sx.st_take hT rfl rfl rfl rfl (Sx.x_move hT rfl rfl) ?_
                                  clear hT; intro a hT
                                  refine Sx.st_take hT rfl rfl rfl rfl ((fun w => Sx.x_eq w hT rfl rfl rfl)) ?_
                                  clear hT; intro a hT
                                  refine Sx.st_take hT rfl rfl rfl rfl (Sx.x_pick_t hT rfl rfl rfl) ?_
                                  clear hT; intro a hT
                                  refine Sx.st_take hT rfl rfl rfl rfl (Sx.x_move hT rfl rfl) ?_
                                  clear hT; intro a hT
                                  -- guard (30, 9)
                                  refine Sx.Sl.two hT 176 rfl (fun hc57 hT => ?_) (fun hc57 hT => ?_)
                                  · try simp only [decide_eq_true_eq, decide_eq_false_iff_not, Bool.not_eq_true', Bool.not_eq_false', Bool.not_eq_true, Bool.not_eq_false, Bool.and_eq_true, Bool.or_eq_false_iff, beq_iff_eq, bne_iff_ne, Int.not_lt, Int.not_le, ne_eq] at hc57
                                    refine Sx.st_take hT rfl rfl rfl rfl (Sx.x_move hT rfl rfl) ?_
                                    clear hT; intro a hT
                                    refine Sx.st_take hT rfl rfl rfl rfl ((fun w => Sx.x_eq w hT rfl rfl rfl)) ?_
                                    clear hT; intro a hT
                                    refine Sx.st_take hT rfl rfl rfl rfl (Sx.x_pick_t hT rfl rfl rfl) ?_
                                    clear hT; intro a hT
                                    refine Sx.st_take hT rfl rfl rfl rfl (Sx.x_move hT rfl rfl) ?_
                                    clear hT; intro a hT
                                    -- guard (30, 13)
                                    refine Sx.Sl.two hT 180 rfl (fun hc58 hT => ?_) (fun hc58 hT => ?_)
                                    · try simp only [decide_eq_true_eq, decide_eq_false_iff_not, Bool.not_eq_true', Bool.not_eq_false', Bool.not_eq_true, Bool.not_eq_false, Bool.and_eq_true, Bool.or_eq_false_iff, beq_iff_eq, bne_iff_ne, Int.not_lt, Int.not_le, ne_eq] at hc58
                                      refine Sx.st_take hT rfl rfl rfl rfl (Sx.x_move hT rfl rfl) ?_
                                      clear hT; intro a hT
                                      refine Sx.st_take hT rfl rfl rfl rfl (Sx.x_move hT rfl rfl) ?_
                                      clear hT; intro a hT
                                      refine Sx.st_take hT rfl rfl rfl rfl ((fun w => Sx.x_add w hT rfl rfl rfl (Sx.wrap64 (by omega)))) ?_
                                      clear hT; intro a hT
                                      refine Sx.st_take hT rfl rfl rfl rfl (Sx.x_move hT rfl rfl) ?_
                                      clear hT; intro a hT
                                      refine Sx.st_take hT rfl rfl rfl rfl ((fun w => Sx.x_sub w hT rfl rfl rfl (Sx.wrap64 (by omega)))) ?_
                                      clear hT; intro a hT
                                      refine Sx.st_take hT rfl rfl rfl rfl (Sx.x_move hT rfl rfl) ?_
                                      clear hT; intro a hT
                                      refine Sx.st_take hT rfl rfl rfl rfl ((fun w => Sx.x_eq w hT rfl rfl rfl)) ?_
                                      clear hT; intro a hT
                                      refine Sx.st_take hT rfl rfl rfl rfl (Sx.x_pick_t hT rfl rfl rfl) ?_
                                      clear hT; intro a hT
                                      refine Sx.st_take hT rfl rfl rfl rfl (Sx.x_assign hT rfl rfl) ?_
                                      clear hT; intro a hT
                                      replace hT := hT.keep [6, 154, 24, 23, 22, 21, 20, 19, 18, 17, 15, 16, 122, 107, 14, 13, 12, 11, 9, 10, 67, 8, 7, 57, 26, 4, 0, 1, 2] rfl
                                      refine Sx.ser_nil ?_
                                      refine Sx.then_normal (hK55 _ _ ?_)
                                      clear hK55
                                      refine wp_ret ?_
                                      refine Sx.done1 (fn := Tryd.f6) hT rfl (.tmp (hT.get 6 _ rfl)) ?_
                                      exact ⟨ret_b (by rw [decide_eq_true_eq]; omega), H.ext⟩
                                    · exfalso
                                      try simp only [decide_eq_true_eq, decide_eq_false_iff_not, Bool.not_eq_true', Bool.not_eq_false', Bool.not_eq_true, Bool.not_eq_false, Bool.and_eq_true, Bool.or_eq_false_iff, beq_iff_eq, bne_iff_ne, Int.not_lt, Int.not_le, ne_eq] at hc58
                                      first | (simp at hc58; done) | (simp at hc58; omega)
                                  · exfalso
                                    try simp only [decide_eq_true_eq, decide_eq_false_iff_not, Bool.not_eq_true', Bool.not_eq_false', Bool.not_eq_true, Bool.not_eq_false, Bool.and_eq_true, Bool.or_eq_false_iff, beq_iff_eq, bne_iff_ne, Int.not_lt, Int.not_le, ne_eq] at hc57
                                    first | (simp at hc57; done) | (simp at hc57; omega)
                                · exfalso
                                  try simp only [decide_eq_true_eq, decide_eq_false_iff_not, Bool.not_eq_true', Bool.not_eq_false', Bool.not_eq_true, Bool.not_eq_false, Bool.and_eq_true, Bool.or_eq_false_iff, beq_iff_eq, bne_iff_ne, Int.not_lt, Int.not_le, ne_eq] at hc56
                                  first | (simp at hc56; done) | (simp at hc56; omega)
                            · clear hK40; intro hJK40
                              -- region 18 (law.go:184)
                              refine Sx.wp_drawsF (fun u => Sx.Ext (Sx.No) u) [(0, .held), (1, .held)] 2 .keep [(3, .keep), (4, .keep), (5, .run)] 3 .keep [(2, .keep), (4, .keep), (5, .run)] (by kernel_rfl) (by kernel_rfl) (fun u E _ => ?_)
                              replace H := H.pure E; clear E
                              have hH : Sx.Ext (Sx.No) u u := Sx.Ext.refl _ _
                              have Hu := H
                              refine Sx.st_held hT rfl rfl rfl rfl hH (fun w' h' => Sx.y_loadS hT rfl Tryd.underlying27 Tryd.ti27 rfl ((Hu.heldB 6 rfl h' Sx.off_No).seg (k := 12) rfl) (by rfl)) ?_
                              clear hT; intro a hT
                              refine Sx.st_held hT rfl rfl rfl rfl hH (fun w' h' => Sx.y_loadS hT rfl Tryd.underlying27 Tryd.ti27 rfl ((Hu.heldB 6 rfl h' Sx.off_No).seg (k := 12) rfl) (by rfl)) ?_
                              clear hT; intro a hT
                              refine Sx.ser_fork ?_ ?_
                              · skip
                                refine Sx.st_effkeep hT rfl rfl rfl rfl (Sx.y_alloc hT rfl Tryd.ti27 rfl _) ?_
                                rintro _ w34 ⟨b3, rfl, N⟩
                                have q_b3 : u.heap.size ≤ b3 := by have h8 := hH.size; have h9 := N.at_; omega
                                refine ⟨hH.step N.ext, ?_⟩
                                replace hH := hH.step N.ext
                                clear hT; intro a hT
                                replace H := H.new N; clear N
                                refine Sx.st_effkeep hT rfl rfl rfl rfl (Sx.y_alloc hT rfl Tryd.ti27 rfl _) ?_
                                rintro _ w35 ⟨b4, rfl, N⟩
                                have q_b4 : u.heap.size ≤ b4 := by have h8 := hH.size; have h9 := N.at_; omega
                                refine ⟨hH.step N.ext, ?_⟩
                                replace hH := hH.step N.ext
                                clear hT; intro a hT
                                replace H := H.new N; clear N
                                refine Sx.st_actkeep hT rfl rfl rfl (Sx.y_storeS hT rfl Tryd.ti27 rfl rfl rfl rfl rfl (H.blk 1 rfl) rfl) ?_
                                rintro w36 ⟨hb, E, _⟩
                                refine ⟨hH.fresh E q_b3, ?_⟩
                                replace hH := hH.fresh E q_b3
                                replace H := H.setB 1 rfl hb E rfl; clear hb E
                                refine Sx.st_act hT rfl rfl rfl (Sx.y_storeS hT rfl Tryd.ti27 rfl rfl rfl rfl rfl (H.blk 0 rfl) rfl) ?_
                                rintro w37 ⟨hb, E, _⟩
                                replace H := H.setB 0 rfl hb E rfl; clear hb E
                                replace hT := hT.keep [16, 15, 122, 107, 14, 13, 12, 11, 9, 10, 67, 8, 7, 57, 26, 6, 4, 0, 1, 2] rfl
                                clear Hu hH
                                refine Sx.ser_calm ?_
                                exact Sx.then_normal (hJK40 (b3, b4) _ _ trivial (hT.keep [15, 16, 122, 107, 14, 13, 12, 11, 9, 10, 67, 8, 7, 57, 26, 6, 4, 0, 1, 2] rfl) (H.keep [1, 0, 2, 3, 4, 5, 6, 7, 8] rfl rfl))
                              · skip
                                refine Sx.st_effkeep hT rfl rfl rfl rfl (Sx.y_alloc hT rfl Tryd.ti27 rfl _) ?_
                                rintro _ w38 ⟨b5, rfl, N⟩
                                have q_b5 : u.heap.size ≤ b5 := by have h8 := hH.size; have h9 := N.at_; omega
                                refine ⟨hH.step N.ext, ?_⟩
                                replace hH := hH.step N.ext
                                clear hT; intro a hT
                                replace H := H.new N; clear N
                                refine Sx.st_effkeep hT rfl rfl rfl rfl (Sx.y_alloc hT rfl Tryd.ti27 rfl _) ?_
                                rintro _ w39 ⟨b6, rfl, N⟩
                                have q_b6 : u.heap.size ≤ b6 := by have h8 := hH.size; have h9 := N.at_; omega
                                refine ⟨hH.step N.ext, ?_⟩
                                replace hH := hH.step N.ext
                                clear hT; intro a hT
                                replace H := H.new N; clear N
                                refine Sx.st_actkeep hT rfl rfl rfl (Sx.y_storeS hT rfl Tryd.ti27 rfl rfl rfl rfl rfl (H.blk 0 rfl) rfl) ?_
                                rintro w40 ⟨hb, E, _⟩
                                refine ⟨hH.fresh E q_b6, ?_⟩
                                replace hH := hH.fresh E q_b6
                                replace H := H.setB 0 rfl hb E rfl; clear hb E
                                refine Sx.st_act hT rfl rfl rfl (Sx.y_storeS hT rfl Tryd.ti27 rfl rfl rfl rfl rfl (H.blk 1 rfl) rfl) ?_
                                rintro w41 ⟨hb, E, _⟩
                                replace H := H.setB 1 rfl hb E rfl; clear hb E
                                replace hT := hT.keep [15, 16, 122, 107, 14, 13, 12, 11, 9, 10, 67, 8, 7, 57, 26, 6, 4, 0, 1, 2] rfl
                                clear Hu hH
                                refine Sx.ser_calm ?_
                                exact Sx.then_normal (hJK40 (b6, b5) _ _ trivial (hT.keep [15, 16, 122, 107, 14, 13, 12, 11, 9, 10, 67, 8, 7, 57, 26, 6, 4, 0, 1, 2] rfl) (H.keep [0, 1, 2, 3, 4, 5, 6, 7, 8] rfl rfl))
                · clear hK23; intro hJK23
                  -- region 9 (law.go:173)
                  refine Sx.wp_drawsF (fun u => Sx.Ext (Sx.No) u) [(0, .held), (1, .held)] 2 .keep [(3, .keep), (4, .keep), (5, .run)] 3 .keep [(2, .keep), (4, .keep), (5, .run)] (by kernel_rfl) (by kernel_rfl) (fun u E _ => ?_)
                  replace H := H.pure E; clear E
                  have hH : Sx.Ext (Sx.No) u u := Sx.Ext.refl _ _
                  have Hu := H
                  refine Sx.st_held hT rfl rfl rfl rfl hH (fun w' h' => Sx.y_loadS hT rfl Tryd.underlying27 Tryd.ti27 rfl ((Hu.heldB 1 rfl h' Sx.off_No).seg (k := 12) rfl) (by rfl)) ?_
                  clear hT; intro a hT
                  refine Sx.st_held hT rfl rfl rfl rfl hH (fun w' h' => Sx.y_loadS hT rfl Tryd.underlying27 Tryd.ti27 rfl ((Hu.heldB 1 rfl h' Sx.off_No).seg (k := 12) rfl) (by rfl)) ?_
                  clear hT; intro a hT
                  refine Sx.ser_fork ?_ ?_
                  · skip
                    refine Sx.st_effkeep hT rfl rfl rfl rfl (Sx.y_alloc hT rfl Tryd.ti27 rfl _) ?_
                    rintro _ w42 ⟨b7, rfl, N⟩
                    have q_b7 : u.heap.size ≤ b7 := by have h8 := hH.size; have h9 := N.at_; omega
                    refine ⟨hH.step N.ext, ?_⟩
                    replace hH := hH.step N.ext
                    clear hT; intro a hT
                    replace H := H.new N; clear N
                    refine Sx.st_effkeep hT rfl rfl rfl rfl (Sx.y_alloc hT rfl Tryd.ti27 rfl _) ?_
                    rintro _ w43 ⟨b8, rfl, N⟩
                    have q_b8 : u.heap.size ≤ b8 := by have h8 := hH.size; have h9 := N.at_; omega
                    refine ⟨hH.step N.ext, ?_⟩
                    replace hH := hH.step N.ext
                    clear hT; intro a hT
                    replace H := H.new N; clear N
                    refine Sx.st_actkeep hT rfl rfl rfl (Sx.y_storeS hT rfl Tryd.ti27 rfl rfl rfl rfl rfl (H.blk 1 rfl) rfl) ?_
                    rintro w44 ⟨hb, E, _⟩
                    refine ⟨hH.fresh E q_b7, ?_⟩
                    replace hH := hH.fresh E q_b7
                    replace H := H.setB 1 rfl hb E rfl; clear hb E
                    refine Sx.st_act hT rfl rfl rfl (Sx.y_storeS hT rfl Tryd.ti27 rfl rfl rfl rfl rfl (H.blk 0 rfl) rfl) ?_
                    rintro w45 ⟨hb, E, _⟩
                    replace H := H.setB 0 rfl hb E rfl; clear hb E
                    replace hT := hT.keep [10, 9, 67, 8, 7, 57, 26, 6, 4, 0, 1, 2] rfl
                    clear Hu hH
                    refine Sx.ser_calm ?_
                    exact Sx.then_normal (hJK23 (b7, b8) _ _ trivial (hT.keep [9, 10, 67, 8, 7, 57, 26, 6, 4, 0, 1, 2] rfl) (H.keep [1, 0, 2, 3] rfl rfl))
                  · skip
                    refine Sx.st_effkeep hT rfl rfl rfl rfl (Sx.y_alloc hT rfl Tryd.ti27 rfl _) ?_
                    rintro _ w46 ⟨b9, rfl, N⟩
                    have q_b9 : u.heap.size ≤ b9 := by have h8 := hH.size; have h9 := N.at_; omega
                    refine ⟨hH.step N.ext, ?_⟩
                    replace hH := hH.step N.ext
                    clear hT; intro a hT
                    replace H := H.new N; clear N
                    refine Sx.st_effkeep hT rfl rfl rfl rfl (Sx.y_alloc hT rfl Tryd.ti27 rfl _) ?_
                    rintro _ w47 ⟨b10, rfl, N⟩
                    have q_b10 : u.heap.size ≤ b10 := by have h8 := hH.size; have h9 := N.at_; omega
                    refine ⟨hH.step N.ext, ?_⟩
                    replace hH := hH.step N.ext
                    clear hT; intro a hT
                    replace H := H.new N; clear N
                    refine Sx.st_actkeep hT rfl rfl rfl (Sx.y_storeS hT rfl Tryd.ti27 rfl rfl rfl rfl rfl (H.blk 0 rfl) rfl) ?_
                    rintro w48 ⟨hb, E, _⟩
                    refine ⟨hH.fresh E q_b10, ?_⟩
                    replace hH := hH.fresh E q_b10
                    replace H := H.setB 0 rfl hb E rfl; clear hb E
                    refine Sx.st_act hT rfl rfl rfl (Sx.y_storeS hT rfl Tryd.ti27 rfl rfl rfl rfl rfl (H.blk 1 rfl) rfl) ?_
                    rintro w49 ⟨hb, E, _⟩
                    replace H := H.setB 1 rfl hb E rfl; clear hb E
                    replace hT := hT.keep [9, 10, 67, 8, 7, 57, 26, 6, 4, 0, 1, 2] rfl
                    clear Hu hH
                    refine Sx.ser_calm ?_
                    exact Sx.then_normal (hJK23 (b10, b9) _ _ trivial (hT.keep [9, 10, 67, 8, 7, 57, 26, 6, 4, 0, 1, 2] rfl) (H.keep [0, 1, 2, 3] rfl rfl))
          · try simp only [decide_eq_true_eq, decide_eq_false_iff_not, Bool.not_eq_true', Bool.not_eq_false', Bool.not_eq_true, Bool.not_eq_false, Bool.and_eq_true, Bool.or_eq_false_iff, beq_iff_eq, bne_iff_ne, Int.not_lt, Int.not_le, ne_eq] at hc14
            have hct : q.to = [] ∨ Op.bytesLess cut q.to = true := .inl (by simpa using hc14)
            refine Sx.st_skip hT rfl rfl rfl rfl ?_
            clear hT; intro a hT
            refine Sx.st_skip hT rfl rfl rfl rfl ?_
            clear hT; intro a hT
            refine Sx.st_runskip hT rfl rfl rfl rfl ?_
            clear hT; intro a hT
            refine Sx.st_skip hT rfl rfl rfl rfl ?_
            clear hT; intro a hT
            refine Sx.st_take hT rfl rfl rfl rfl (Sx.x_pick_f hT rfl rfl rfl) ?_
            clear hT; intro a hT
            refine Sx.st_take hT rfl rfl rfl rfl (Sx.x_pick_f hT rfl rfl rfl) ?_
            clear hT; intro a hT
            replace hT := hT.keep [57, 26, 6, 4, 0, 1, 2] rfl
            refine Sx.ser_nil ?_
            refine Sx.then_normal (hK5 _ _ ?_)
            clear hK5
            refine Sx.wp_if hT rfl (fun h => by cases h) (fun _ => ?_)
            skip
            refine wp_skip ?_
            refine Sx.then_normal (hK4 _ _ ?_)
            clear hK4
            refine wp_seq_k fun K59 hK59 => ?_
            -- region 5 (law.go:168)
            refine Sx.wp_text [(0, .take), (1, .run)] rfl ?_
            refine Sx.st_take hT rfl rfl rfl rfl (Sx.x_fieldAddr hT rfl Tryd.fa27_5 rfl) ?_
            clear hT; intro a hT
            refine Sx.st_act hT rfl rfl rfl (Sx.y_store1 hT rfl Tryd.ti4 rfl rfl rfl (H.blk 0 rfl) rfl) ?_
            rintro w50 ⟨hb, E, _⟩
            replace H := H.setB 0 rfl hb E rfl; clear hb E
            replace hT := hT.keep [57, 26, 6, 4, 0, 1, 2] rfl
            refine Sx.ser_nil ?_
            refine Sx.then_normal (hK59 _ _ ?_)
            clear hK59
            refine wp_seq_k fun K60 hK60 => ?_
            -- region 6 (law.go:169)
            refine Sx.wp_text [(0, .take), (1, .run), (2, .run), (3, .take), (4, .take), (5, .take), (6, .take), (7, .take)] rfl ?_
            refine Sx.st_take hT rfl rfl rfl rfl (Sx.x_move hT rfl rfl) ?_
            clear hT; intro a hT
            refine Sx.st_run hT rfl rfl rfl rfl (Sx.y_loadS hT rfl Tryd.underlying27 Tryd.ti27 rfl ((H.blk 0 rfl).seg (k := 12) rfl) (by rfl)) ?_
            clear hT; intro a hT
            refine Sx.st_call hT rfl rfl rfl rfl rfl Tryd.can13 rfl (All_calls _ _ l (qfw q) _ (R.at H.ext) hl3) ?_
            rintro _ w51 ⟨ad76, c76, rfl, K⟩
            refine ⟨_, rfl, ?_⟩
            clear hT; intro a hT
            replace H := H.more K rfl; clear K
            refine Sx.st_take hT rfl rfl rfl rfl (Sx.x_move hT rfl rfl) ?_
            clear hT; intro a hT
            refine Sx.st_take hT rfl rfl rfl rfl (Sx.x_extractL hT rfl rfl rfl) ?_
            clear hT; intro a hT
            refine Sx.st_take hT rfl rfl rfl rfl (Sx.x_extractL hT rfl rfl rfl) ?_
            clear hT; intro a hT
            refine Sx.st_take hT rfl rfl rfl rfl (Sx.x_assign hT rfl rfl) ?_
            clear hT; intro a hT
            refine Sx.st_take hT rfl rfl rfl rfl (Sx.x_assign hT rfl rfl) ?_
            clear hT; intro a hT
            replace hT := hT.keep [8, 7, 57, 26, 6, 4, 0, 1, 2] rfl
            refine Sx.ser_nil ?_
            refine Sx.then_normal (hK60 _ _ ?_)
            clear hK60
            refine wp_seq_k fun K61 hK61 => ?_
            refine wp_seq_k fun K62 hK62 => ?_
            -- region 7 (law.go:170)
            refine Sx.wp_text [(0, .take), (1, .take)] rfl ?_
            refine Sx.st_take hT rfl rfl rfl rfl (Sx.x_move hT rfl rfl) ?_
            clear hT; intro a hT
            refine Sx.st_take hT rfl rfl rfl rfl ((fun w => Sx.x_ne w hT rfl rfl rfl)) ?_
            clear hT; intro a hT
            replace hT := hT.keep [67, 8, 7, 57, 26, 6, 4, 0, 1, 2] rfl
            refine Sx.ser_nil ?_
            refine Sx.then_normal (hK62 _ _ ?_)
            clear hK62
            -- cond 2
            refine Sx.wp_if hT rfl (fun hc63 => ?_) (fun hc63 => ?_)
            · try simp only [decide_eq_true_eq, decide_eq_false_iff_not, Bool.not_eq_true', Bool.not_eq_false', Bool.not_eq_true, Bool.not_eq_false, Bool.and_eq_true, Bool.or_eq_false_iff, beq_iff_eq, bne_iff_ne, Int.not_lt, Int.not_le, ne_eq] at hc63
              refine wp_seq_k fun K64 hK64 => ?_
              -- region 8 (law.go:171)
              refine Sx.wp_text [(0, .run), (1, .take), (2, .take), (3, .take), (4, .take), (5, .take), (6, .take)] rfl ?_
              refine Sx.st_call hT rfl rfl rfl rfl rfl Tryd.can8 rfl (first_calls _) ?_
              rintro _ w52 ⟨rfl, E⟩
              refine ⟨_, rfl, ?_⟩
              clear hT; intro a hT
              replace H := H.pure E; clear E
              refine Sx.st_take hT rfl rfl rfl rfl (Sx.x_move hT rfl rfl) ?_
              clear hT; intro a hT
              refine Sx.st_take hT rfl rfl rfl rfl (Sx.x_move hT rfl rfl) ?_
              clear hT; intro a hT
              refine Sx.st_take hT rfl rfl rfl rfl (Sx.x_len_slice hT rfl rfl Tryd.underlying22 rfl) ?_
              clear hT; intro a hT
              refine Sx.st_take hT rfl rfl rfl rfl ((fun w => Sx.x_eq w hT rfl rfl rfl)) ?_
              clear hT; intro a hT
              refine Sx.st_take hT rfl rfl rfl rfl (Sx.x_pick_t hT rfl rfl rfl) ?_
              clear hT; intro a hT
              refine Sx.st_take hT rfl rfl rfl rfl (Sx.x_assign hT rfl rfl) ?_
              clear hT; intro a hT
              replace hT := hT.keep [6, 67, 8, 7, 57, 26, 4, 0, 1, 2] rfl
              refine Sx.ser_nil ?_
              refine Sx.then_normal (hK64 _ _ ?_)
              clear hK64
              refine wp_ret ?_
              refine Sx.then_ret ?_
              refine Sx.done1 (fn := Tryd.f6) hT rfl (.tmp (hT.get 6 _ rfl)) ?_
              exact ⟨ret_b (by rw [all_err (by assumption)]; rfl), H.ext⟩
            · try simp only [decide_eq_true_eq, decide_eq_false_iff_not, Bool.not_eq_true', Bool.not_eq_false', Bool.not_eq_true, Bool.not_eq_false, Bool.and_eq_true, Bool.or_eq_false_iff, beq_iff_eq, bne_iff_ne, Int.not_lt, Int.not_le, ne_eq] at hc63
              have hz := hc63
              obtain ⟨hzx, hzy, hxy⟩ := halves (q := (qfw q)) (cut := cut) rfl hz hcn hcl hcf hct
              have hxl : (allQ (qto (qfw q) cut) [] l).1.length + (allQ (qfr (qfw q) cut) [] l).1.length = (allQ (qfw q) [] l).1.length := by rw [← List.length_append, hxy]
              refine wp_skip ?_
              refine Sx.then_normal (hK61 _ _ ?_)
              clear hK61
              refine wp_seq_k fun K65 hK65 => ?_
              refine Sx.wp_join (G := Nat × Nat) (fun ⟨pa, pb⟩ => [(9, .pointer (some ⟨pa, 0, none⟩)), (10, .pointer (some ⟨pb, 0, none⟩))]) (fun ⟨pa, pb⟩ => [cB pa [.string ⟨(qfw q).fr.toArray⟩, .string ⟨(qfw q).to.toArray⟩, .int .i64 (qfw q).kind, .int .i64 (qfw q).lo.kind, .float .f64 (qfw q).lo.num, .string ⟨(qfw q).lo.text.toArray⟩, .int .i64 (qfw q).hi.kind, .float .f64 (qfw q).hi.num, .string ⟨(qfw q).hi.text.toArray⟩, .bool (qfw q).back, .int .i64 (qfw q).most, .string ⟨(qfw q).after.toArray⟩] 27, cB pb [.string ⟨(qfw q).fr.toArray⟩, .string ⟨(qfw q).to.toArray⟩, .int .i64 (qfw q).kind, .int .i64 (qfw q).lo.kind, .float .f64 (qfw q).lo.num, .string ⟨(qfw q).lo.text.toArray⟩, .int .i64 (qfw q).hi.kind, .float .f64 (qfw q).hi.num, .string ⟨(qfw q).hi.text.toArray⟩, .bool (qfw q).back, .int .i64 (qfw q).most, .string ⟨(qfw q).after.toArray⟩] 27]) (fun ⟨pa, pb⟩ => True) (hT.keep [67, 8, 7, 57, 26, 6, 4, 0, 1, 2] rfl) (H.keep [0, 1] rfl rfl) hK65 ?_ ?_
              · clear hT H hK65
                rintro ⟨pa, pb⟩ a w53 hJ hT H
                replace hT := hT.keep [9, 10, 67, 8, 7, 57, 26, 6, 4, 0, 1, 2] rfl
                replace H := H.keep [0, 1, 2, 3] rfl rfl
                clear hJ
                refine wp_seq_k fun K66 hK66 => ?_
                -- region 10 (law.go:174)
                refine Sx.wp_text [(0, .take), (1, .take), (2, .run)] rfl ?_
                refine Sx.st_take hT rfl rfl rfl rfl (Sx.x_move hT rfl rfl) ?_
                clear hT; intro a hT
                refine Sx.st_take hT rfl rfl rfl rfl (Sx.x_fieldAddr hT rfl Tryd.fa27_1 rfl) ?_
                clear hT; intro a hT
                refine Sx.st_act hT rfl rfl rfl (Sx.y_store1 hT rfl Tryd.ti9 rfl rfl rfl (H.blk 0 rfl) rfl) ?_
                rintro w54 ⟨hb, E, _⟩
                replace H := H.setB 0 rfl hb E rfl; clear hb E
                replace hT := hT.keep [9, 10, 67, 8, 7, 57, 26, 6, 4, 0, 1, 2] rfl
                refine Sx.ser_nil ?_
                refine Sx.then_normal (hK66 _ _ ?_)
                clear hK66
                refine wp_seq_k fun K67 hK67 => ?_
                -- region 11 (law.go:175)
                refine Sx.wp_text [(0, .take), (1, .take), (2, .run)] rfl ?_
                refine Sx.st_take hT rfl rfl rfl rfl (Sx.x_move hT rfl rfl) ?_
                clear hT; intro a hT
                refine Sx.st_take hT rfl rfl rfl rfl (Sx.x_fieldAddr hT rfl Tryd.fa27_0 rfl) ?_
                clear hT; intro a hT
                refine Sx.st_act hT rfl rfl rfl (Sx.y_store1 hT rfl Tryd.ti9 rfl rfl rfl (H.blk 1 rfl) rfl) ?_
                rintro w55 ⟨hb, E, _⟩
                replace H := H.setB 1 rfl hb E rfl; clear hb E
                replace hT := hT.keep [9, 10, 67, 8, 7, 57, 26, 6, 4, 0, 1, 2] rfl
                refine Sx.ser_nil ?_
                refine Sx.then_normal (hK67 _ _ ?_)
                clear hK67
                refine wp_seq_k fun K68 hK68 => ?_
                -- region 12 (law.go:176)
                refine Sx.wp_text [(0, .take), (1, .run), (2, .run), (3, .take), (4, .take), (5, .take), (6, .take), (7, .take)] rfl ?_
                refine Sx.st_take hT rfl rfl rfl rfl (Sx.x_move hT rfl rfl) ?_
                clear hT; intro a hT
                refine Sx.st_run hT rfl rfl rfl rfl (Sx.y_loadS hT rfl Tryd.underlying27 Tryd.ti27 rfl ((H.blk 0 rfl).seg (k := 12) rfl) (by rfl)) ?_
                clear hT; intro a hT
                refine Sx.st_call hT rfl rfl rfl rfl rfl Tryd.can13 rfl (All_calls _ _ l (qto (qfw q) cut) _ (R.at H.ext) hl3) ?_
                rintro _ w56 ⟨ad82, c82, rfl, K⟩
                refine ⟨_, rfl, ?_⟩
                clear hT; intro a hT
                replace H := H.more K rfl; clear K
                refine Sx.st_take hT rfl rfl rfl rfl (Sx.x_move hT rfl rfl) ?_
                clear hT; intro a hT
                refine Sx.st_take hT rfl rfl rfl rfl (Sx.x_extractL hT rfl rfl rfl) ?_
                clear hT; intro a hT
                refine Sx.st_take hT rfl rfl rfl rfl (Sx.x_extractL hT rfl rfl rfl) ?_
                clear hT; intro a hT
                refine Sx.st_take hT rfl rfl rfl rfl (Sx.x_assign hT rfl rfl) ?_
                clear hT; intro a hT
                refine Sx.st_take hT rfl rfl rfl rfl (Sx.x_assign hT rfl rfl) ?_
                clear hT; intro a hT
                replace hT := hT.keep [12, 11, 9, 10, 67, 8, 7, 57, 26, 6, 4, 0, 1, 2] rfl
                refine Sx.ser_nil ?_
                refine Sx.then_normal (hK68 _ _ ?_)
                clear hK68
                refine wp_seq_k fun K69 hK69 => ?_
                -- region 13 (law.go:177)
                refine Sx.wp_text [(0, .take), (1, .run), (2, .run), (3, .take), (4, .take), (5, .take), (6, .take), (7, .take)] rfl ?_
                refine Sx.st_take hT rfl rfl rfl rfl (Sx.x_move hT rfl rfl) ?_
                clear hT; intro a hT
                refine Sx.st_run hT rfl rfl rfl rfl (Sx.y_loadS hT rfl Tryd.underlying27 Tryd.ti27 rfl ((H.blk 2 rfl).seg (k := 12) rfl) (by rfl)) ?_
                clear hT; intro a hT
                refine Sx.st_call hT rfl rfl rfl rfl rfl Tryd.can13 rfl (All_calls _ _ l (qfr (qfw q) cut) _ (R.at H.ext) hl3) ?_
                rintro _ w57 ⟨ad83, c83, rfl, K⟩
                refine ⟨_, rfl, ?_⟩
                clear hT; intro a hT
                replace H := H.more K rfl; clear K
                refine Sx.st_take hT rfl rfl rfl rfl (Sx.x_move hT rfl rfl) ?_
                clear hT; intro a hT
                refine Sx.st_take hT rfl rfl rfl rfl (Sx.x_extractL hT rfl rfl rfl) ?_
                clear hT; intro a hT
                refine Sx.st_take hT rfl rfl rfl rfl (Sx.x_extractL hT rfl rfl rfl) ?_
                clear hT; intro a hT
                refine Sx.st_take hT rfl rfl rfl rfl (Sx.x_assign hT rfl rfl) ?_
                clear hT; intro a hT
                refine Sx.st_take hT rfl rfl rfl rfl (Sx.x_assign hT rfl rfl) ?_
                clear hT; intro a hT
                replace hT := hT.keep [14, 13, 12, 11, 9, 10, 67, 8, 7, 57, 26, 6, 4, 0, 1, 2] rfl
                refine Sx.ser_nil ?_
                refine Sx.then_normal (hK69 _ _ ?_)
                clear hK69
                refine wp_seq_k fun K70 hK70 => ?_
                refine wp_seq_k fun K71 hK71 => ?_
                -- region 14 (law.go:178)
                rw [hzx, hzy] at hT
                refine Sx.wp_text [(0, .take), (1, .take), (2, .take), (3, .take), (4, .take), (5, .take), (6, .take), (7, .run), (8, .take), (9, .run), (10, .take), (11, .run), (12, .take), (13, .run), (14, .take), (15, .take)] rfl ?_
                refine Sx.st_take hT rfl rfl rfl rfl (Sx.x_move hT rfl rfl) ?_
                clear hT; intro a hT
                refine Sx.st_take hT rfl rfl rfl rfl ((fun w => Sx.x_ne w hT rfl rfl rfl)) ?_
                clear hT; intro a hT
                refine Sx.st_take hT rfl rfl rfl rfl (Sx.x_move hT rfl rfl) ?_
                clear hT; intro a hT
                -- guard (14, 2)
                refine Sx.Sl.two hT 94 rfl (fun hc72 hT => ?_) (fun hc72 hT => ?_)
                · exfalso
                  try simp only [decide_eq_true_eq, decide_eq_false_iff_not, Bool.not_eq_true', Bool.not_eq_false', Bool.not_eq_true, Bool.not_eq_false, Bool.and_eq_true, Bool.or_eq_false_iff, beq_iff_eq, bne_iff_ne, Int.not_lt, Int.not_le, ne_eq] at hc72
                  first | (simp at hc72; done) | (simp at hc72; omega)
                · try simp only [decide_eq_true_eq, decide_eq_false_iff_not, Bool.not_eq_true', Bool.not_eq_false', Bool.not_eq_true, Bool.not_eq_false, Bool.and_eq_true, Bool.or_eq_false_iff, beq_iff_eq, bne_iff_ne, Int.not_lt, Int.not_le, ne_eq] at hc72
                  refine Sx.st_take hT rfl rfl rfl rfl (Sx.x_move hT rfl rfl) ?_
                  clear hT; intro a hT
                  refine Sx.st_take hT rfl rfl rfl rfl ((fun w => Sx.x_ne w hT rfl rfl rfl)) ?_
                  clear hT; intro a hT
                  refine Sx.st_take hT rfl rfl rfl rfl (Sx.x_pick_f hT rfl rfl rfl) ?_
                  clear hT; intro a hT
                  refine Sx.st_take hT rfl rfl rfl rfl (Sx.x_move hT rfl rfl) ?_
                  clear hT; intro a hT
                  -- guard (14, 6)
                  refine Sx.Sl.two hT 98 rfl (fun hc73 hT => ?_) (fun hc73 hT => ?_)
                  · exfalso
                    try simp only [decide_eq_true_eq, decide_eq_false_iff_not, Bool.not_eq_true', Bool.not_eq_false', Bool.not_eq_true, Bool.not_eq_false, Bool.and_eq_true, Bool.or_eq_false_iff, beq_iff_eq, bne_iff_ne, Int.not_lt, Int.not_le, ne_eq] at hc73
                    first | (simp at hc73; done) | (simp at hc73; omega)
                  · try simp only [decide_eq_true_eq, decide_eq_false_iff_not, Bool.not_eq_true', Bool.not_eq_false', Bool.not_eq_true, Bool.not_eq_false, Bool.and_eq_true, Bool.or_eq_false_iff, beq_iff_eq, bne_iff_ne, Int.not_lt, Int.not_le, ne_eq] at hc73
                    refine Sx.st_eff hT rfl rfl rfl rfl (Sx.y_slice0 hT rfl Tryd.underlying22 Tryd.ti45 _) ?_
                    clear hT; rintro _ w58 ⟨b11, rfl, N⟩ a hT
                    replace H := H.new N; clear N
                    replace H := H.rowB 4 0 rfl rfl
                    refine Sx.st_take hT rfl rfl rfl rfl (Sx.x_move hT rfl rfl) ?_
                    clear hT; intro a hT
                    refine Sx.st_eff hT rfl rfl rfl rfl (Sx.x_append hT rfl rfl Tryd.underlying22 Tryd.ti45 rfl (by decide) rfl rfl (H.row 0 rfl) ((H.row 2 rfl).sv) (flat_one Pair.one _) (fun h9 => (H.row 2 rfl).nil' h9) (by unfold maxLen; omega) (by omega)) ?_
                    rintro _ w59 ⟨ad59, c59, rfl, hr, E, hown, -⟩
                    clear hT; intro a hT
                    replace H := H.setR 0 rfl hr E hown rfl; clear hr E hown
                    rw [Nat.zero_add, List.nil_append] at H
                    rw [Nat.zero_add] at hT
                    refine Sx.st_take hT rfl rfl rfl rfl (Sx.x_move hT rfl rfl) ?_
                    clear hT; intro a hT
                    refine Sx.st_eff hT rfl rfl rfl rfl (Sx.x_append hT rfl rfl Tryd.underlying22 Tryd.ti45 rfl (by decide) rfl rfl (H.row 0 rfl) ((H.row 1 rfl).sv) (flat_one Pair.one _) (fun h9 => (H.row 1 rfl).nil' h9) (by unfold maxLen; omega) (by omega)) ?_
                    rintro _ w60 ⟨ad60, c60, rfl, hr, E, hown, -⟩
                    clear hT; intro a hT
                    replace H := H.setR 0 rfl hr E hown rfl; clear hr E hown
                    rw [hxl] at hT H
                    rw [← List.flatMap_append, hxy] at H
                    refine Sx.st_take hT rfl rfl rfl rfl (Sx.x_move hT rfl rfl) ?_
                    clear hT; intro a hT
                    refine Sx.st_call hT rfl rfl rfl rfl rfl Tryd.can18 rfl (Pairs_calls _ _ _ _ (allQ (qfw q) [] l).1 _ ((H.row 0 rfl).ssn rfl) ((H.row 5 rfl).ssn rfl) (by omega)) ?_
                    rintro _ w61 ⟨rfl, E⟩
                    refine ⟨_, rfl, ?_⟩
                    clear hT; intro a hT
                    replace H := H.pure E; clear E
                    refine Sx.st_take hT rfl rfl rfl rfl (Sx.x_not hT rfl rfl) ?_
                    clear hT; intro a hT
                    refine Sx.st_take hT rfl rfl rfl rfl (Sx.x_pick_f hT rfl rfl rfl) ?_
                    clear hT; intro a hT
                    replace hT := hT.keep [107, 14, 13, 12, 11, 9, 10, 67, 8, 7, 57, 26, 6, 4, 0, 1, 2] rfl
                    refine Sx.ser_nil ?_
                    refine Sx.then_normal (hK71 _ _ ?_)
                    clear hK71
                    refine Sx.wp_if hT rfl (fun h => by cases h) (fun _ => ?_)
                    refine wp_skip ?_
                    refine Sx.then_normal (hK70 _ _ ?_)
                    clear hK70
                    refine wp_seq_k fun K74 hK74 => ?_
                    refine wp_seq_k fun K75 hK75 => ?_
                    -- region 16 (law.go:181)
                    refine Sx.wp_text [(0, .take), (1, .take), (2, .run), (3, .take), (4, .take), (5, .take), (6, .take), (7, .run), (8, .take), (9, .take), (10, .take), (11, .take), (12, .run), (13, .take), (14, .take)] rfl ?_
                    refine Sx.st_take hT rfl rfl rfl rfl (Sx.x_fieldAddr hT rfl Tryd.fa27_3 rfl) ?_
                    clear hT; intro a hT
                    refine Sx.st_take hT rfl rfl rfl rfl (Sx.x_fieldAddr hT rfl Tryd.fa25_0 rfl) ?_
                    clear hT; intro a hT
                    refine Sx.st_run hT rfl rfl rfl rfl (Sx.x_load1 hT rfl Tryd.fl3 rfl ((H.blk 6 rfl).nth rfl)) ?_
                    clear hT; intro a hT
                    refine Sx.st_take hT rfl rfl rfl rfl ((fun w => Sx.x_ne w hT rfl rfl rfl)) ?_
                    clear hT; intro a hT
                    refine Sx.st_take hT rfl rfl rfl rfl (Sx.x_move hT rfl rfl) ?_
                    clear hT; intro a hT
                    -- guard (16, 4)
                    refine Sx.Sl.two hT 112 rfl (fun hc76 hT => ?_) (fun hc76 hT => ?_)
                    · try simp only [decide_eq_true_eq, decide_eq_false_iff_not, Bool.not_eq_true', Bool.not_eq_false', Bool.not_eq_true, Bool.not_eq_false, Bool.and_eq_true, Bool.or_eq_false_iff, beq_iff_eq, bne_iff_ne, Int.not_lt, Int.not_le, ne_eq] at hc76
                      refine Sx.st_skip hT rfl rfl rfl rfl ?_
                      clear hT; intro a hT
                      refine Sx.st_skip hT rfl rfl rfl rfl ?_
                      clear hT; intro a hT
                      refine Sx.st_runskip hT rfl rfl rfl rfl ?_
                      clear hT; intro a hT
                      refine Sx.st_skip hT rfl rfl rfl rfl ?_
                      clear hT; intro a hT
                      refine Sx.st_take hT rfl rfl rfl rfl (Sx.x_pick_t hT rfl rfl rfl) ?_
                      clear hT; intro a hT
                      refine Sx.st_take hT rfl rfl rfl rfl (Sx.x_move hT rfl rfl) ?_
                      clear hT; intro a hT
                      refine Sx.st_skip hT rfl rfl rfl rfl ?_
                      clear hT; intro a hT
                      refine Sx.st_runskip hT rfl rfl rfl rfl ?_
                      clear hT; intro a hT
                      refine Sx.st_skip hT rfl rfl rfl rfl ?_
                      clear hT; intro a hT
                      refine Sx.st_take hT rfl rfl rfl rfl (Sx.x_pick_t hT rfl rfl rfl) ?_
                      clear hT; intro a hT
                      replace hT := hT.keep [122, 107, 14, 13, 12, 11, 9, 10, 67, 8, 7, 57, 26, 6, 4, 0, 1, 2] rfl
                      refine Sx.ser_nil ?_
                      refine Sx.then_normal (hK75 _ _ ?_)
                      clear hK75
                      refine Sx.wp_if hT rfl (fun _ => ?_) (fun h => by cases h)
                      refine wp_seq_k fun K77 hK77 => ?_
                      -- region 17 (law.go:182)
                      refine Sx.wp_text [(0, .run), (1, .take)] rfl ?_
                      refine Sx.st_call hT rfl rfl rfl rfl rfl Tryd.can8 rfl (first_calls _) ?_
                      rintro _ w62 ⟨rfl, E⟩
                      refine ⟨_, rfl, ?_⟩
                      clear hT; intro a hT
                      replace H := H.pure E; clear E
                      refine Sx.st_take hT rfl rfl rfl rfl (Sx.x_assign hT rfl rfl) ?_
                      clear hT; intro a hT
                      replace hT := hT.keep [6, 122, 107, 14, 13, 12, 11, 9, 10, 67, 8, 7, 57, 26, 4, 0, 1, 2] rfl
                      refine Sx.ser_nil ?_
                      refine Sx.then_normal (hK77 _ _ ?_)
                      clear hK77
                      refine wp_ret ?_
                      refine Sx.then_ret ?_
                      refine Sx.done1 (fn := Tryd.f6) hT rfl (.tmp (hT.get 6 _ rfl)) ?_
                      exact ⟨rfl, H.ext⟩
                    · try simp only [decide_eq_true_eq, decide_eq_false_iff_not, Bool.not_eq_true', Bool.not_eq_false', Bool.not_eq_true, Bool.not_eq_false, Bool.and_eq_true, Bool.or_eq_false_iff, beq_iff_eq, bne_iff_ne, Int.not_lt, Int.not_le, ne_eq] at hc76
                      have hlo := hc76
                      refine Sx.st_take hT rfl rfl rfl rfl (Sx.x_fieldAddr hT rfl Tryd.fa27_4 rfl) ?_
                      clear hT; intro a hT
                      refine Sx.st_take hT rfl rfl rfl rfl (Sx.x_fieldAddr hT rfl Tryd.fa25_0 rfl) ?_
                      clear hT; intro a hT
                      refine Sx.st_run hT rfl rfl rfl rfl (Sx.x_load1 hT rfl Tryd.fl3 rfl ((H.blk 6 rfl).nth rfl)) ?_
                      clear hT; intro a hT
                      refine Sx.st_take hT rfl rfl rfl rfl ((fun w => Sx.x_ne w hT rfl rfl rfl)) ?_
                      clear hT; intro a hT
                      refine Sx.st_take hT rfl rfl rfl rfl (Sx.x_pick_f hT rfl rfl rfl) ?_
                      clear hT; intro a hT
                      refine Sx.st_take hT rfl rfl rfl rfl (Sx.x_move hT rfl rfl) ?_
                      clear hT; intro a hT
                      -- guard (16, 10)
                      refine Sx.Sl.two hT 118 rfl (fun hc78 hT => ?_) (fun hc78 hT => ?_)
                      · try simp only [decide_eq_true_eq, decide_eq_false_iff_not, Bool.not_eq_true', Bool.not_eq_false', Bool.not_eq_true, Bool.not_eq_false, Bool.and_eq_true, Bool.or_eq_false_iff, beq_iff_eq, bne_iff_ne, Int.not_lt, Int.not_le, ne_eq] at hc78
                        refine Sx.st_skip hT rfl rfl rfl rfl ?_
                        clear hT; intro a hT
                        refine Sx.st_runskip hT rfl rfl rfl rfl ?_
                        clear hT; intro a hT
                        refine Sx.st_skip hT rfl rfl rfl rfl ?_
                        clear hT; intro a hT
                        refine Sx.st_take hT rfl rfl rfl rfl (Sx.x_pick_t hT rfl rfl rfl) ?_
                        clear hT; intro a hT
                        replace hT := hT.keep [122, 107, 14, 13, 12, 11, 9, 10, 67, 8, 7, 57, 26, 6, 4, 0, 1, 2] rfl
                        refine Sx.ser_nil ?_
                        refine Sx.then_normal (hK75 _ _ ?_)
                        clear hK75
                        refine Sx.wp_if hT rfl (fun _ => ?_) (fun h => by cases h)
                        refine wp_seq_k fun K79 hK79 => ?_
                        -- region 17 (law.go:182)
                        refine Sx.wp_text [(0, .run), (1, .take)] rfl ?_
                        refine Sx.st_call hT rfl rfl rfl rfl rfl Tryd.can8 rfl (first_calls _) ?_
                        rintro _ w63 ⟨rfl, E⟩
                        refine ⟨_, rfl, ?_⟩
                        clear hT; intro a hT
                        replace H := H.pure E; clear E
                        refine Sx.st_take hT rfl rfl rfl rfl (Sx.x_assign hT rfl rfl) ?_
                        clear hT; intro a hT
                        replace hT := hT.keep [6, 122, 107, 14, 13, 12, 11, 9, 10, 67, 8, 7, 57, 26, 4, 0, 1, 2] rfl
                        refine Sx.ser_nil ?_
                        refine Sx.then_normal (hK79 _ _ ?_)
                        clear hK79
                        refine wp_ret ?_
                        refine Sx.then_ret ?_
                        refine Sx.done1 (fn := Tryd.f6) hT rfl (.tmp (hT.get 6 _ rfl)) ?_
                        exact ⟨rfl, H.ext⟩
                      · try simp only [decide_eq_true_eq, decide_eq_false_iff_not, Bool.not_eq_true', Bool.not_eq_false', Bool.not_eq_true, Bool.not_eq_false, Bool.and_eq_true, Bool.or_eq_false_iff, beq_iff_eq, bne_iff_ne, Int.not_lt, Int.not_le, ne_eq] at hc78
                        have hhi := hc78
                        refine Sx.st_take hT rfl rfl rfl rfl (Sx.x_fieldAddr hT rfl Tryd.fa27_2 rfl) ?_
                        clear hT; intro a hT
                        refine Sx.st_run hT rfl rfl rfl rfl (Sx.x_load1 hT rfl Tryd.fl3 rfl ((H.blk 6 rfl).nth rfl)) ?_
                        clear hT; intro a hT
                        refine Sx.st_take hT rfl rfl rfl rfl ((fun w => Sx.x_ne w hT rfl rfl rfl)) ?_
                        clear hT; intro a hT
                        refine Sx.st_take hT rfl rfl rfl rfl (Sx.x_pick_f hT rfl rfl rfl) ?_
                        clear hT; intro a hT
                        replace hT := hT.keep [122, 107, 14, 13, 12, 11, 9, 10, 67, 8, 7, 57, 26, 6, 4, 0, 1, 2] rfl
                        refine Sx.ser_nil ?_
                        refine Sx.then_normal (hK75 _ _ ?_)
                        clear hK75
                        -- cond 4
                        refine Sx.wp_if hT rfl (fun hc80 => ?_) (fun hc80 => ?_)
                        · try simp only [decide_eq_true_eq, decide_eq_false_iff_not, Bool.not_eq_true', Bool.not_eq_false', Bool.not_eq_true, Bool.not_eq_false, Bool.and_eq_true, Bool.or_eq_false_iff, beq_iff_eq, bne_iff_ne, Int.not_lt, Int.not_le, ne_eq] at hc80
                          refine wp_seq_k fun K81 hK81 => ?_
                          -- region 17 (law.go:182)
                          refine Sx.wp_text [(0, .run), (1, .take)] rfl ?_
                          refine Sx.st_call hT rfl rfl rfl rfl rfl Tryd.can8 rfl (first_calls _) ?_
                          rintro _ w64 ⟨rfl, E⟩
                          refine ⟨_, rfl, ?_⟩
                          clear hT; intro a hT
                          replace H := H.pure E; clear E
                          refine Sx.st_take hT rfl rfl rfl rfl (Sx.x_assign hT rfl rfl) ?_
                          clear hT; intro a hT
                          replace hT := hT.keep [6, 122, 107, 14, 13, 12, 11, 9, 10, 67, 8, 7, 57, 26, 4, 0, 1, 2] rfl
                          refine Sx.ser_nil ?_
                          refine Sx.then_normal (hK81 _ _ ?_)
                          clear hK81
                          refine wp_ret ?_
                          refine Sx.then_ret ?_
                          refine Sx.done1 (fn := Tryd.f6) hT rfl (.tmp (hT.get 6 _ rfl)) ?_
                          exact ⟨rfl, H.ext⟩
                        · try simp only [decide_eq_true_eq, decide_eq_false_iff_not, Bool.not_eq_true', Bool.not_eq_false', Bool.not_eq_true, Bool.not_eq_false, Bool.and_eq_true, Bool.or_eq_false_iff, beq_iff_eq, bne_iff_ne, Int.not_lt, Int.not_le, ne_eq] at hc80
                          have hkd := hc80
                          obtain ⟨hzc, hzd, hcnt⟩ := counts (q := (qfw q)) rfl hz hkd hlo hhi
                          refine wp_skip ?_
                          refine Sx.then_normal (hK74 _ _ ?_)
                          clear hK74
                          refine wp_seq_k fun K82 hK82 => ?_
                          refine Sx.wp_join (G := Nat × Nat) (fun ⟨pc, pd⟩ => [(15, .pointer (some ⟨pc, 0, none⟩)), (16, .pointer (some ⟨pd, 0, none⟩))]) (fun ⟨pc, pd⟩ => [cB pc [.string ⟨(qfw q).fr.toArray⟩, .string ⟨(qfw q).to.toArray⟩, .int .i64 (qfw q).kind, .int .i64 (qfw q).lo.kind, .float .f64 (qfw q).lo.num, .string ⟨(qfw q).lo.text.toArray⟩, .int .i64 (qfw q).hi.kind, .float .f64 (qfw q).hi.num, .string ⟨(qfw q).hi.text.toArray⟩, .bool (qfw q).back, .int .i64 (qfw q).most, .string ⟨(qfw q).after.toArray⟩] 27, cB pd [.string ⟨(qfw q).fr.toArray⟩, .string ⟨(qfw q).to.toArray⟩, .int .i64 (qfw q).kind, .int .i64 (qfw q).lo.kind, .float .f64 (qfw q).lo.num, .string ⟨(qfw q).lo.text.toArray⟩, .int .i64 (qfw q).hi.kind, .float .f64 (qfw q).hi.num, .string ⟨(qfw q).hi.text.toArray⟩, .bool (qfw q).back, .int .i64 (qfw q).most, .string ⟨(qfw q).after.toArray⟩] 27]) (fun ⟨pc, pd⟩ => True) (hT.keep [122, 107, 14, 13, 12, 11, 9, 10, 67, 8, 7, 57, 26, 6, 4, 0, 1, 2] rfl) (H.keep [0, 1, 2, 3, 4, 5, 6] rfl rfl) hK82 ?_ ?_
                          · clear hT H hK82
                            rintro ⟨pc, pd⟩ a w65 hJ hT H
                            replace hT := hT.keep [15, 16, 122, 107, 14, 13, 12, 11, 9, 10, 67, 8, 7, 57, 26, 6, 4, 0, 1, 2] rfl
                            replace H := H.keep [0, 1, 2, 3, 4, 5, 6, 7, 8] rfl rfl
                            clear hJ
                            refine wp_seq_k fun K83 hK83 => ?_
                            -- region 19 (law.go:185)
                            refine Sx.wp_draws (fun u => Sx.Ext (Sx.One pc) u) [(0, .take), (1, .take), (2, .held), (3, .take), (4, .keep), (5, .take), (6, .run)] (by kernel_rfl) (by kernel_rfl) (fun u E _ => ?_)
                            replace H := H.pure E; clear E
                            have hH : Sx.Ext (Sx.One pc) u u := Sx.Ext.refl _ _
                            have Hu := H
                            refine Sx.st_take hT rfl rfl rfl rfl (Sx.x_bld hT rfl Tryd.bld25 rfl rfl) ?_
                            clear hT; intro a hT
                            refine Sx.st_take hT rfl rfl rfl rfl (Sx.x_fieldAddr hT rfl Tryd.fa27_3 rfl) ?_
                            clear hT; intro a hT
                            refine Sx.st_held hT rfl rfl rfl rfl hH (fun w' h' => Sx.y_loadS hT rfl Tryd.underlying25 Tryd.ti25 rfl ((Hu.heldB 8 rfl h' (Hu.off 8 0 rfl rfl rfl)).seg (k := 3) rfl) (by rfl)) ?_
                            clear hT; intro a hT
                            refine Sx.st_take hT rfl rfl rfl rfl (Sx.x_fieldAddr hT rfl Tryd.fa27_3 rfl) ?_
                            clear hT; intro a hT
                            refine Sx.st_actkeep hT rfl rfl rfl (Sx.y_storeS hT rfl Tryd.ti25 rfl rfl rfl rfl rfl (H.blk 0 rfl) rfl) ?_
                            rintro w66 ⟨hb, E, _⟩
                            refine ⟨hH.same E, ?_⟩
                            replace hH := hH.same E
                            replace H := H.setB 0 rfl hb E rfl; clear hb E
                            refine Sx.st_take hT rfl rfl rfl rfl (Sx.x_fieldAddr hT rfl Tryd.fa27_4 rfl) ?_
                            clear hT; intro a hT
                            refine Sx.st_act hT rfl rfl rfl (Sx.y_storeS hT rfl Tryd.ti25 rfl rfl rfl rfl rfl (H.blk 0 rfl) rfl) ?_
                            rintro w67 ⟨hb, E, _⟩
                            replace H := H.setB 0 rfl hb E rfl; clear hb E
                            replace hT := hT.keep [15, 16, 122, 107, 14, 13, 12, 11, 9, 10, 67, 8, 7, 57, 26, 6, 4, 0, 1, 2] rfl
                            clear Hu hH
                            refine Sx.ser_calm ?_
                            refine Sx.then_normal (hK83 _ _ ?_)
                            clear hK83
                            refine wp_seq_k fun K84 hK84 => ?_
                            -- region 20 (law.go:186)
                            refine Sx.wp_text [(0, .take), (1, .take), (2, .run)] rfl ?_
                            refine Sx.st_take hT rfl rfl rfl rfl (Sx.x_bld hT rfl Tryd.bld25 rfl rfl) ?_
                            clear hT; intro a hT
                            refine Sx.st_take hT rfl rfl rfl rfl (Sx.x_fieldAddr hT rfl Tryd.fa27_3 rfl) ?_
                            clear hT; intro a hT
                            refine Sx.st_act hT rfl rfl rfl (Sx.y_storeS hT rfl Tryd.ti25 rfl rfl rfl rfl rfl (H.blk 1 rfl) rfl) ?_
                            rintro w68 ⟨hb, E, _⟩
                            replace H := H.setB 1 rfl hb E rfl; clear hb E
                            replace hT := hT.keep [15, 16, 122, 107, 14, 13, 12, 11, 9, 10, 67, 8, 7, 57, 26, 6, 4, 0, 1, 2] rfl
                            refine Sx.ser_nil ?_
                            refine Sx.then_normal (hK84 _ _ ?_)
                            clear hK84
                            refine wp_seq_k fun K85 hK85 => ?_
                            -- region 21 (law.go:187)
                            refine Sx.wp_text [(0, .take), (1, .run), (2, .run), (3, .take), (4, .take), (5, .take), (6, .take), (7, .take)] rfl ?_
                            refine Sx.st_take hT rfl rfl rfl rfl (Sx.x_move hT rfl rfl) ?_
                            clear hT; intro a hT
                            refine Sx.st_run hT rfl rfl rfl rfl (Sx.y_loadS hT rfl Tryd.underlying27 Tryd.ti27 rfl ((H.blk 0 rfl).seg (k := 12) rfl) (by rfl)) ?_
                            clear hT; intro a hT
                            refine Sx.st_call hT rfl rfl rfl rfl rfl Tryd.can15 rfl (Count_calls _ _ l (qlc (qfw q)) _ (R.at H.ext) hl3) ?_
                            rintro _ w69 ⟨rfl, E⟩
                            refine ⟨_, rfl, ?_⟩
                            clear hT; intro a hT
                            replace H := H.pure E; clear E
                            refine Sx.st_take hT rfl rfl rfl rfl (Sx.x_move hT rfl rfl) ?_
                            clear hT; intro a hT
                            refine Sx.st_take hT rfl rfl rfl rfl (Sx.x_extractL hT rfl rfl rfl) ?_
                            clear hT; intro a hT
                            refine Sx.st_take hT rfl rfl rfl rfl (Sx.x_extractL hT rfl rfl rfl) ?_
                            clear hT; intro a hT
                            refine Sx.st_take hT rfl rfl rfl rfl (Sx.x_assign hT rfl rfl) ?_
                            clear hT; intro a hT
                            refine Sx.st_take hT rfl rfl rfl rfl (Sx.x_assign hT rfl rfl) ?_
                            clear hT; intro a hT
                            replace hT := hT.keep [18, 17, 15, 16, 122, 107, 14, 13, 12, 11, 9, 10, 67, 8, 7, 57, 26, 6, 4, 0, 1, 2] rfl
                            refine Sx.ser_nil ?_
                            refine Sx.then_normal (hK85 _ _ ?_)
                            clear hK85
                            refine wp_seq_k fun K86 hK86 => ?_
                            -- region 22 (law.go:188)
                            refine Sx.wp_text [(0, .take), (1, .run), (2, .run), (3, .take), (4, .take), (5, .take), (6, .take), (7, .take)] rfl ?_
                            refine Sx.st_take hT rfl rfl rfl rfl (Sx.x_move hT rfl rfl) ?_
                            clear hT; intro a hT
                            refine Sx.st_run hT rfl rfl rfl rfl (Sx.y_loadS hT rfl Tryd.underlying27 Tryd.ti27 rfl ((H.blk 1 rfl).seg (k := 12) rfl) (by rfl)) ?_
                            clear hT; intro a hT
                            refine Sx.st_call hT rfl rfl rfl rfl rfl Tryd.can15 rfl (Count_calls _ _ l (qld (qfw q)) _ (R.at H.ext) hl3) ?_
                            rintro _ w70 ⟨rfl, E⟩
                            refine ⟨_, rfl, ?_⟩
                            clear hT; intro a hT
                            replace H := H.pure E; clear E
                            refine Sx.st_take hT rfl rfl rfl rfl (Sx.x_move hT rfl rfl) ?_
                            clear hT; intro a hT
                            refine Sx.st_take hT rfl rfl rfl rfl (Sx.x_extractL hT rfl rfl rfl) ?_
                            clear hT; intro a hT
                            refine Sx.st_take hT rfl rfl rfl rfl (Sx.x_extractL hT rfl rfl rfl) ?_
                            clear hT; intro a hT
                            refine Sx.st_take hT rfl rfl rfl rfl (Sx.x_assign hT rfl rfl) ?_
                            clear hT; intro a hT
                            refine Sx.st_take hT rfl rfl rfl rfl (Sx.x_assign hT rfl rfl) ?_
                            clear hT; intro a hT
                            replace hT := hT.keep [20, 19, 18, 17, 15, 16, 122, 107, 14, 13, 12, 11, 9, 10, 67, 8, 7, 57, 26, 6, 4, 0, 1, 2] rfl
                            refine Sx.ser_nil ?_
                            refine Sx.then_normal (hK86 _ _ ?_)
                            clear hK86
                            refine wp_seq_k fun K87 hK87 => ?_
                            -- region 23 (law.go:189)
                            refine Sx.wp_text [(0, .take), (1, .run), (2, .run), (3, .take), (4, .take), (5, .take), (6, .take), (7, .take)] rfl ?_
                            refine Sx.st_take hT rfl rfl rfl rfl (Sx.x_move hT rfl rfl) ?_
                            clear hT; intro a hT
                            refine Sx.st_run hT rfl rfl rfl rfl (Sx.y_loadS hT rfl Tryd.underlying27 Tryd.ti27 rfl ((H.blk 8 rfl).seg (k := 12) rfl) (by rfl)) ?_
                            clear hT; intro a hT
                            refine Sx.st_call hT rfl rfl rfl rfl rfl Tryd.can15 rfl (Count_calls _ _ l (qfw q) _ (R.at H.ext) hl3) ?_
                            rintro _ w71 ⟨rfl, E⟩
                            refine ⟨_, rfl, ?_⟩
                            clear hT; intro a hT
                            replace H := H.pure E; clear E
                            refine Sx.st_take hT rfl rfl rfl rfl (Sx.x_move hT rfl rfl) ?_
                            clear hT; intro a hT
                            refine Sx.st_take hT rfl rfl rfl rfl (Sx.x_extractL hT rfl rfl rfl) ?_
                            clear hT; intro a hT
                            refine Sx.st_take hT rfl rfl rfl rfl (Sx.x_extractL hT rfl rfl rfl) ?_
                            clear hT; intro a hT
                            refine Sx.st_take hT rfl rfl rfl rfl (Sx.x_assign hT rfl rfl) ?_
                            clear hT; intro a hT
                            refine Sx.st_take hT rfl rfl rfl rfl (Sx.x_assign hT rfl rfl) ?_
                            clear hT; intro a hT
                            replace hT := hT.keep [22, 21, 20, 19, 18, 17, 15, 16, 122, 107, 14, 13, 12, 11, 9, 10, 67, 8, 7, 57, 26, 6, 4, 0, 1, 2] rfl
                            refine Sx.ser_nil ?_
                            refine Sx.then_normal (hK87 _ _ ?_)
                            clear hK87
                            refine wp_seq_k fun K88 hK88 => ?_
                            -- region 24 (law.go:190)
                            refine Sx.wp_text [(0, .take)] rfl ?_
                            refine Sx.st_take hT rfl rfl rfl rfl (Sx.x_assign hT rfl rfl) ?_
                            clear hT; intro a hT
                            replace hT := hT.keep [23, 22, 21, 20, 19, 18, 17, 15, 16, 122, 107, 14, 13, 12, 11, 9, 10, 67, 8, 7, 57, 26, 6, 4, 0, 1, 2] rfl
                            refine Sx.ser_nil ?_
                            refine Sx.then_normal (hK88 _ _ ?_)
                            clear hK88
                            refine wp_seq_k fun K89 hK89 => ?_
                            refine wp_seq_k fun K90 hK90 => ?_
                            -- region 25 (law.go:191)
                            refine Sx.wp_text [(0, .take)] rfl ?_
                            refine Sx.st_take hT rfl rfl rfl rfl (Sx.x_assign hT rfl rfl) ?_
                            clear hT; intro a hT
                            replace hT := hT.keep [24, 23, 22, 21, 20, 19, 18, 17, 15, 16, 122, 107, 14, 13, 12, 11, 9, 10, 67, 8, 7, 57, 26, 6, 4, 0, 1, 2] rfl
                            refine Sx.ser_nil ?_
                            refine Sx.then_normal (hK90 _ _ ?_)
                            clear hK90
                            refine wp_block ?_
                            -- loop 0
                            refine Sx.wp_loopH (G := Nat) (fun k => [(24, .int .i64 (k : Int)), (23, .int .i64 ((fil (fun p : Pair => sameV p.val q.lo) (allQ (qfw q) [] l).1 k).length : Int))]) (fun k => []) (fun k => k ≤ (allQ (qfw q) [] l).1.length) (fun k => (allQ (qfw q) [] l).1.length - k) 0 (hT.keep [24, 23, 22, 21, 20, 19, 18, 17, 15, 16, 122, 107, 14, 13, 12, 11, 9, 10, 67, 8, 7, 57, 26, 6, 4, 0, 1, 2] rfl) (H.keep [0, 1, 2, 3, 4, 5, 6, 7, 8] rfl rfl) (Nat.zero_le _) ?_
                            clear hT H
                            rintro k a w72 hJ hT H
                            replace hT := hT.keep [24, 23, 22, 21, 20, 19, 18, 17, 15, 16, 122, 107, 14, 13, 12, 11, 9, 10, 67, 8, 7, 57, 26, 6, 4, 0, 1, 2] rfl
                            replace H := H.keep [0, 1, 2, 3, 4, 5, 6, 7, 8] rfl rfl
                            have hk : k ≤ (allQ (qfw q) [] l).1.length := hJ
                            have hfl := fil_len (fun p : Pair => sameV p.val q.lo) (allQ (qfw q) [] l).1 k
                            refine wp_seq_k fun K91 hK91 => ?_
                            refine wp_seq_k fun K92 hK92 => ?_
                            -- region 26 (law.go:191)
                            refine Sx.wp_text [(0, .take), (1, .take), (2, .take), (3, .take)] rfl ?_
                            refine Sx.st_take hT rfl rfl rfl rfl (Sx.x_move hT rfl rfl) ?_
                            clear hT; intro a hT
                            refine Sx.st_take hT rfl rfl rfl rfl (Sx.x_move hT rfl rfl) ?_
                            clear hT; intro a hT
                            refine Sx.st_take hT rfl rfl rfl rfl (Sx.x_len_slice hT rfl rfl Tryd.underlying22 rfl) ?_
                            clear hT; intro a hT
                            refine Sx.st_take hT rfl rfl rfl rfl ((fun w => Sx.x_lt w hT rfl rfl rfl)) ?_
                            clear hT; intro a hT
                            replace hT := hT.keep [154, 24, 23, 22, 21, 20, 19, 18, 17, 15, 16, 122, 107, 14, 13, 12, 11, 9, 10, 67, 8, 7, 57, 26, 6, 4, 0, 1, 2] rfl
                            refine Sx.ser_nil ?_
                            refine Sx.then_normal (hK92 _ _ ?_)
                            clear hK92
                            -- cond 5
                            refine Sx.wp_if hT rfl (fun hc93 => ?_) (fun hc93 => ?_)
                            · try simp only [decide_eq_true_eq, decide_eq_false_iff_not, Bool.not_eq_true', Bool.not_eq_false', Bool.not_eq_true, Bool.not_eq_false, Bool.and_eq_true, Bool.or_eq_false_iff, beq_iff_eq, bne_iff_ne, Int.not_lt, Int.not_le, ne_eq] at hc93
                              obtain ⟨o, ho⟩ : ∃ o, (allQ (qfw q) [] l).1[k]? = some o := ⟨_, List.getElem?_eq_getElem (by omega)⟩
                              refine wp_skip ?_
                              refine Sx.then_normal (hK91 _ _ ?_)
                              clear hK91
                              refine wp_seq_k fun K94 hK94 => ?_
                              refine wp_block ?_
                              refine wp_seq_k fun K95 hK95 => ?_
                              -- region 28 (law.go:192)
                              refine Sx.wp_draws (fun u => Sx.Ext (Sx.No) u) [(0, .take), (1, .take), (2, .take), (3, .take), (4, .held), (5, .take), (6, .held), (7, .run)] (by kernel_rfl) (by kernel_rfl) (fun u E _ => ?_)
                              replace H := H.pure E; clear E
                              have hH : Sx.Ext (Sx.No) u u := Sx.Ext.refl _ _
                              have Hu := H
                              refine Sx.st_take hT rfl rfl rfl rfl (Sx.x_move hT rfl rfl) ?_
                              clear hT; intro a hT
                              refine Sx.st_take hT rfl rfl rfl rfl (Sx.x_move hT rfl rfl) ?_
                              clear hT; intro a hT
                              refine Sx.st_take hT rfl rfl rfl rfl (Sx.x_index (k := k) hT rfl Tryd.underlying22 Tryd.ti45 (H.row 7 rfl).sv rfl rfl (by first | rfl | omega) (by omega)) ?_
                              clear hT; intro a hT
                              refine Sx.st_take hT rfl rfl rfl rfl (Sx.x_fieldAddr hT rfl Tryd.fa45_1 rfl) ?_
                              clear hT; intro a hT
                              refine Sx.st_held hT rfl rfl rfl rfl hH (fun w' h' => Sx.y_loadS hT rfl Tryd.underlying25 Tryd.ti25 rfl ((((Hu.heldR 7 rfl h' Sx.off_No).ssn rfl).cs Pair.len ho).seg (i := 1) (k := 3) rfl) (by rfl)) ?_
                              clear hT; intro a hT
                              refine Sx.st_take hT rfl rfl rfl rfl (Sx.x_fieldAddr hT rfl Tryd.fa27_3 rfl) ?_
                              clear hT; intro a hT
                              refine Sx.st_held hT rfl rfl rfl rfl hH (fun w' h' => Sx.y_loadS hT rfl Tryd.underlying25 Tryd.ti25 rfl ((Hu.heldB 8 rfl h' Sx.off_No).seg (k := 3) rfl) (by rfl)) ?_
                              clear hT; intro a hT
                              refine Sx.st_call hT rfl rfl rfl rfl rfl Tryd.can21 rfl (Same_calls o.val.kind o.val.num o.val.text q.lo.kind q.lo.num q.lo.text _) ?_
                              rintro _ w73 ⟨rfl, E⟩
                              refine ⟨_, rfl, ?_⟩
                              clear hT; intro a hT
                              replace H := H.pure E; clear E
                              replace hT := hT.keep [164, 154, 24, 23, 22, 21, 20, 19, 18, 17, 15, 16, 122, 107, 14, 13, 12, 11, 9, 10, 67, 8, 7, 57, 26, 6, 4, 0, 1, 2] rfl
                              clear Hu hH
                              refine Sx.ser_calm ?_
                              refine Sx.then_normal (hK95 _ _ ?_)
                              clear hK95
                              -- cond 6
                              refine Sx.wp_if hT rfl (fun hc96 => ?_) (fun hc96 => ?_)
                              · try simp only [decide_eq_true_eq, decide_eq_false_iff_not, Bool.not_eq_true', Bool.not_eq_false', Bool.not_eq_true, Bool.not_eq_false, Bool.and_eq_true, Bool.or_eq_false_iff, beq_iff_eq, bne_iff_ne, Int.not_lt, Int.not_le, ne_eq] at hc96
                                have hma := hc96
                                -- region 29 (law.go:193)
                                refine Sx.wp_text [(0, .take), (1, .take), (2, .take)] rfl ?_
                                refine Sx.st_take hT rfl rfl rfl rfl (Sx.x_move hT rfl rfl) ?_
                                clear hT; intro a hT
                                refine Sx.st_take hT rfl rfl rfl rfl ((fun w => Sx.x_add w hT rfl rfl rfl (Sx.wrap64 (by omega)))) ?_
                                clear hT; intro a hT
                                refine Sx.st_take hT rfl rfl rfl rfl (Sx.x_assign hT rfl rfl) ?_
                                clear hT; intro a hT
                                replace hT := hT.keep [23, 164, 154, 24, 22, 21, 20, 19, 18, 17, 15, 16, 122, 107, 14, 13, 12, 11, 9, 10, 67, 8, 7, 57, 26, 6, 4, 0, 1, 2] rfl
                                refine Sx.ser_nil ?_
                                refine Sx.block_normal ?_
                                refine Sx.then_normal (hK94 _ _ ?_)
                                clear hK94
                                -- region 27 (law.go:191)
                                refine Sx.wp_text [(0, .take), (1, .take), (2, .take)] rfl ?_
                                refine Sx.st_take hT rfl rfl rfl rfl (Sx.x_move hT rfl rfl) ?_
                                clear hT; intro a hT
                                refine Sx.st_take hT rfl rfl rfl rfl ((fun w => Sx.x_add w hT rfl rfl rfl (Sx.wrap64 (by omega)))) ?_
                                clear hT; intro a hT
                                refine Sx.st_take hT rfl rfl rfl rfl (Sx.x_assign hT rfl rfl) ?_
                                clear hT; intro a hT
                                replace hT := hT.keep [24, 23, 164, 154, 22, 21, 20, 19, 18, 17, 15, 16, 122, 107, 14, 13, 12, 11, 9, 10, 67, 8, 7, 57, 26, 6, 4, 0, 1, 2] rfl
                                refine Sx.ser_nil ?_
                                refine Sx.then_normal ?_
                                exact ⟨k + 1, (by omega), ((hT.keep [24, 23, 22, 21, 20, 19, 18, 17, 15, 16, 122, 107, 14, 13, 12, 11, 9, 10, 67, 8, 7, 57, 26, 6, 4, 0, 1, 2] rfl).conv (by rw [fil_yes (f := (fun p : Pair => sameV p.val q.lo)) ho hma, pairs_len]; rfl)), (H.keep [0, 1, 2, 3, 4, 5, 6, 7, 8] rfl rfl), by omega⟩
                              · try simp only [decide_eq_true_eq, decide_eq_false_iff_not, Bool.not_eq_true', Bool.not_eq_false', Bool.not_eq_true, Bool.not_eq_false, Bool.and_eq_true, Bool.or_eq_false_iff, beq_iff_eq, bne_iff_ne, Int.not_lt, Int.not_le, ne_eq] at hc96
                                have hma := hc96
                                refine wp_skip ?_
                                refine Sx.block_normal ?_
                                refine Sx.then_normal (hK94 _ _ ?_)
                                clear hK94
                                -- region 27 (law.go:191)
                                refine Sx.wp_text [(0, .take), (1, .take), (2, .take)] rfl ?_
                                refine Sx.st_take hT rfl rfl rfl rfl (Sx.x_move hT rfl rfl) ?_
                                clear hT; intro a hT
                                refine Sx.st_take hT rfl rfl rfl rfl ((fun w => Sx.x_add w hT rfl rfl rfl (Sx.wrap64 (by omega)))) ?_
                                clear hT; intro a hT
                                refine Sx.st_take hT rfl rfl rfl rfl (Sx.x_assign hT rfl rfl) ?_
                                clear hT; intro a hT
                                replace hT := hT.keep [24, 164, 154, 23, 22, 21, 20, 19, 18, 17, 15, 16, 122, 107, 14, 13, 12, 11, 9, 10, 67, 8, 7, 57, 26, 6, 4, 0, 1, 2] rfl
                                refine Sx.ser_nil ?_
                                refine Sx.then_normal ?_
                                exact ⟨k + 1, (by omega), ((hT.keep [24, 23, 22, 21, 20, 19, 18, 17, 15, 16, 122, 107, 14, 13, 12, 11, 9, 10, 67, 8, 7, 57, 26, 6, 4, 0, 1, 2] rfl).conv (by rw [fil_no (f := (fun p : Pair => sameV p.val q.lo)) ho hma]; rfl)), (H.keep [0, 1, 2, 3, 4, 5, 6, 7, 8] rfl rfl), by omega⟩
                            · try simp only [decide_eq_true_eq, decide_eq_false_iff_not, Bool.not_eq_true', Bool.not_eq_false', Bool.not_eq_true, Bool.not_eq_false, Bool.and_eq_true, Bool.or_eq_false_iff, beq_iff_eq, bne_iff_ne, Int.not_lt, Int.not_le, ne_eq] at hc93
                              obtain rfl : k = (allQ (qfw q) [] l).1.length := by omega
                              refine wp_exit ?_
                              refine Sx.then_exit ?_
                              refine Sx.then_exit ?_
                              refine Sx.block_exit ?_
                              refine Sx.then_normal (hK89 _ _ ?_)
                              clear hK89
                              refine wp_seq_k fun K97 hK97 => ?_
                              -- region 30 (law.go:196)
                              rw [hzc, hzd, hz] at hT
                              have hfl := fil_len (fun p : Pair => sameV p.val q.lo) (allQ (qfw q) [] l).1 (allQ (qfw q) [] l).1.length
                              replace hcnt : (allQ (qlc (qfw q)) [] l).1.length + (allQ (qfw q) [] l).1.length = (allQ (qld (qfw q)) [] l).1.length + (fil (fun p : Pair => sameV p.val q.lo) (allQ (qfw q) [] l).1 (allQ (qfw q) [] l).1.length).length := hcnt
                              refine Sx.wp_text [(0, .run), (1, .take), (2, .take), (3, .take), (4, .take), (5, .take), (6, .take), (7, .take), (8, .take), (9, .take), (10, .take), (11, .take), (12, .take), (13, .take), (14, .take), (15, .take), (16, .take), (17, .take), (18, .take), (19, .take), (20, .take), (21, .take), (22, .take)] rfl ?_
                              refine Sx.st_call hT rfl rfl rfl rfl rfl Tryd.can8 rfl (first_calls _) ?_
                              rintro _ w74 ⟨rfl, E⟩
                              refine ⟨_, rfl, ?_⟩
                              clear hT; intro a hT
                              replace H := H.pure E; clear E
                              refine Sx.st_take hT rfl rfl rfl rfl (Sx.x_move hT rfl rfl) ?_
                              clear hT; intro a hT
                              refine Sx.st_take hT rfl rfl rfl rfl (Sx.x_move hT rfl rfl) ?_
                              clear hT; intro a hT
                              refine Sx.st_take hT rfl rfl rfl rfl ((fun w => Sx.x_eq w hT rfl rfl rfl)) ?_
                              clear hT; intro a hT
                              refine Sx.st_take hT rfl rfl rfl rfl (Sx.x_pick_t hT rfl rfl rfl) ?_
                              clear hT; intro a hT
                              refine Sx.st_take hT rfl rfl rfl rfl (Sx.x_move hT rfl rfl) ?_
                              clear hT; intro a hT
                              -- guard (30, 5)
                              refine Sx.Sl.two hT 172 rfl (fun hc98 hT => ?_) (fun hc98 hT => ?_)
                              · try simp only [decide_eq_true_eq, decide_eq_false_iff_not, Bool.not_eq_true', Bool.not_eq_false', Bool.not_eq_true, Bool.not_eq_false, Bool.and_eq_true, Bool.or_eq_false_iff, beq_iff_eq, bne_iff_ne, Int.not_lt, Int.not_le, ne_eq] at hc98
                                refine Sx.st_take hT rfl rfl rfl rfl (Sx.x_move hT rfl rfl) ?_
                                clear hT; intro a hT
                                refine Sx.st_take hT rfl rfl rfl rfl ((fun w => Sx.x_eq w hT rfl rfl rfl)) ?_
                                clear hT; intro a hT
                                refine Sx.st_take hT rfl rfl rfl rfl (Sx.x_pick_t hT rfl rfl rfl) ?_
                                clear hT; intro a hT
                                refine Sx.st_take hT rfl rfl rfl rfl (Sx.x_move hT rfl rfl) ?_
                                clear hT; intro a hT
                                -- guard (30, 9)
                                refine Sx.Sl.two hT 176 rfl (fun hc99 hT => ?_) (fun hc99 hT => ?_)
                                · try simp only [decide_eq_true_eq, decide_eq_false_iff_not, Bool.not_eq_true', Bool.not_eq_false', Bool.not_eq_true, Bool.not_eq_false, Bool.and_eq_true, Bool.or_eq_false_iff, beq_iff_eq, bne_iff_ne, Int.not_lt, Int.not_le, ne_eq] at hc99
                                  refine Sx.st_take hT rfl rfl rfl rfl (Sx.x_move hT rfl rfl) ?_
                                  clear hT; intro a hT
                                  refine Sx.st_take hT rfl rfl rfl rfl ((fun w => Sx.x_eq w hT rfl rfl rfl)) ?_
                                  clear hT; intro a hT
                                  refine Sx.st_take hT rfl rfl rfl rfl (Sx.x_pick_t hT rfl rfl rfl) ?_
                                  clear hT; intro a hT
                                  refine Sx.st_take hT rfl rfl rfl rfl (Sx.x_move hT rfl rfl) ?_
                                  clear hT; intro a hT
                                  -- guard (30, 13)
                                  refine Sx.Sl.two hT 180 rfl (fun hc100 hT => ?_) (fun hc100 hT => ?_)
                                  · try simp only [decide_eq_true_eq, decide_eq_false_iff_not, Bool.not_eq_true', Bool.not_eq_false', Bool.not_eq_true, Bool.not_eq_false, Bool.and_eq_true, Bool.or_eq_false_iff, beq_iff_eq, bne_iff_ne, Int.not_lt, Int.not_le, ne_eq] at hc100
                                    refine Sx.st_take hT rfl rfl rfl rfl (Sx.x_move hT rfl rfl) ?_
                                    clear hT; intro a hT
                                    refine Sx.st_take hT rfl rfl rfl rfl (Sx.x_move hT rfl rfl) ?_
                                    clear hT; intro a hT
                                    refine Sx.st_take hT rfl rfl rfl rfl ((fun w => Sx.x_add w hT rfl rfl rfl (Sx.wrap64 (by omega)))) ?_
                                    clear hT; intro a hT
                                    refine Sx.st_take hT rfl rfl rfl rfl (Sx.x_move hT rfl rfl) ?_
                                    clear hT; intro a hT
                                    refine Sx.st_take hT rfl rfl rfl rfl ((fun w => Sx.x_sub w hT rfl rfl rfl (Sx.wrap64 (by omega)))) ?_
                                    clear hT; intro a hT
                                    refine Sx.st_take hT rfl rfl rfl rfl (Sx.x_move hT rfl rfl) ?_
                                    clear hT; intro a hT
                                    refine Sx.st_take hT rfl rfl rfl rfl ((fun w => Sx.x_eq w hT rfl rfl rfl)) ?_
                                    clear hT; intro a hT
                                    refine Sx.st_take hT rfl rfl rfl rfl (Sx.x_pick_t hT rfl rfl rfl) ?_
                                    clear hT; intro a hT
                                    refine Sx.st_take hT rfl rfl rfl rfl (Sx.x_assign hT rfl rfl) ?_
                                    clear hT; intro a hT
                                    replace hT := hT.keep [6, 154, 24, 23, 22, 21, 20, 19, 18, 17, 15, 16, 122, 107, 14, 13, 12, 11, 9, 10, 67, 8, 7, 57, 26, 4, 0, 1, 2] rfl
                                    refine Sx.ser_nil ?_
                                    refine Sx.then_normal (hK97 _ _ ?_)
                                    clear hK97
                                    refine wp_ret ?_
                                    refine Sx.done1 (fn := Tryd.f6) hT rfl (.tmp (hT.get 6 _ rfl)) ?_
                                    exact ⟨ret_b (by rw [decide_eq_true_eq]; omega), H.ext⟩
                                  · exfalso
                                    try simp only [decide_eq_true_eq, decide_eq_false_iff_not, Bool.not_eq_true', Bool.not_eq_false', Bool.not_eq_true, Bool.not_eq_false, Bool.and_eq_true, Bool.or_eq_false_iff, beq_iff_eq, bne_iff_ne, Int.not_lt, Int.not_le, ne_eq] at hc100
                                    first | (simp at hc100; done) | (simp at hc100; omega)
                                · exfalso
                                  try simp only [decide_eq_true_eq, decide_eq_false_iff_not, Bool.not_eq_true', Bool.not_eq_false', Bool.not_eq_true, Bool.not_eq_false, Bool.and_eq_true, Bool.or_eq_false_iff, beq_iff_eq, bne_iff_ne, Int.not_lt, Int.not_le, ne_eq] at hc99
                                  first | (simp at hc99; done) | (simp at hc99; omega)
                              · exfalso
                                try simp only [decide_eq_true_eq, decide_eq_false_iff_not, Bool.not_eq_true', Bool.not_eq_false', Bool.not_eq_true, Bool.not_eq_false, Bool.and_eq_true, Bool.or_eq_false_iff, beq_iff_eq, bne_iff_ne, Int.not_lt, Int.not_le, ne_eq] at hc98
                                first | (simp at hc98; done) | (simp at hc98; omega)
                          · clear hK82; intro hJK82
                            -- region 18 (law.go:184)
                            refine Sx.wp_drawsF (fun u => Sx.Ext (Sx.No) u) [(0, .held), (1, .held)] 2 .keep [(3, .keep), (4, .keep), (5, .run)] 3 .keep [(2, .keep), (4, .keep), (5, .run)] (by kernel_rfl) (by kernel_rfl) (fun u E _ => ?_)
                            replace H := H.pure E; clear E
                            have hH : Sx.Ext (Sx.No) u u := Sx.Ext.refl _ _
                            have Hu := H
                            refine Sx.st_held hT rfl rfl rfl rfl hH (fun w' h' => Sx.y_loadS hT rfl Tryd.underlying27 Tryd.ti27 rfl ((Hu.heldB 6 rfl h' Sx.off_No).seg (k := 12) rfl) (by rfl)) ?_
                            clear hT; intro a hT
                            refine Sx.st_held hT rfl rfl rfl rfl hH (fun w' h' => Sx.y_loadS hT rfl Tryd.underlying27 Tryd.ti27 rfl ((Hu.heldB 6 rfl h' Sx.off_No).seg (k := 12) rfl) (by rfl)) ?_
                            clear hT; intro a hT
                            refine Sx.ser_fork ?_ ?_
                            · skip
                              refine Sx.st_effkeep hT rfl rfl rfl rfl (Sx.y_alloc hT rfl Tryd.ti27 rfl _) ?_
                              rintro _ w75 ⟨b12, rfl, N⟩
                              have q_b12 : u.heap.size ≤ b12 := by have h8 := hH.size; have h9 := N.at_; omega
                              refine ⟨hH.step N.ext, ?_⟩
                              replace hH := hH.step N.ext
                              clear hT; intro a hT
                              replace H := H.new N; clear N
                              refine Sx.st_effkeep hT rfl rfl rfl rfl (Sx.y_alloc hT rfl Tryd.ti27 rfl _) ?_
                              rintro _ w76 ⟨b13, rfl, N⟩
                              have q_b13 : u.heap.size ≤ b13 := by have h8 := hH.size; have h9 := N.at_; omega
                              refine ⟨hH.step N.ext, ?_⟩
                              replace hH := hH.step N.ext
                              clear hT; intro a hT
                              replace H := H.new N; clear N
                              refine Sx.st_actkeep hT rfl rfl rfl (Sx.y_storeS hT rfl Tryd.ti27 rfl rfl rfl rfl rfl (H.blk 1 rfl) rfl) ?_
                              rintro w77 ⟨hb, E, _⟩
                              refine ⟨hH.fresh E q_b12, ?_⟩
                              replace hH := hH.fresh E q_b12
                              replace H := H.setB 1 rfl hb E rfl; clear hb E
                              refine Sx.st_act hT rfl rfl rfl (Sx.y_storeS hT rfl Tryd.ti27 rfl rfl rfl rfl rfl (H.blk 0 rfl) rfl) ?_
                              rintro w78 ⟨hb, E, _⟩
                              replace H := H.setB 0 rfl hb E rfl; clear hb E
                              replace hT := hT.keep [16, 15, 122, 107, 14, 13, 12, 11, 9, 10, 67, 8, 7, 57, 26, 6, 4, 0, 1, 2] rfl
                              clear Hu hH
                              refine Sx.ser_calm ?_
                              exact Sx.then_normal (hJK82 (b12, b13) _ _ trivial (hT.keep [15, 16, 122, 107, 14, 13, 12, 11, 9, 10, 67, 8, 7, 57, 26, 6, 4, 0, 1, 2] rfl) (H.keep [1, 0, 2, 3, 4, 5, 6, 7, 8] rfl rfl))
                            · skip
                              refine Sx.st_effkeep hT rfl rfl rfl rfl (Sx.y_alloc hT rfl Tryd.ti27 rfl _) ?_
                              rintro _ w79 ⟨b14, rfl, N⟩
                              have q_b14 : u.heap.size ≤ b14 := by have h8 := hH.size; have h9 := N.at_; omega
                              refine ⟨hH.step N.ext, ?_⟩
                              replace hH := hH.step N.ext
                              clear hT; intro a hT
                              replace H := H.new N; clear N
                              refine Sx.st_effkeep hT rfl rfl rfl rfl (Sx.y_alloc hT rfl Tryd.ti27 rfl _) ?_
                              rintro _ w80 ⟨b15, rfl, N⟩
                              have q_b15 : u.heap.size ≤ b15 := by have h8 := hH.size; have h9 := N.at_; omega
                              refine ⟨hH.step N.ext, ?_⟩
                              replace hH := hH.step N.ext
                              clear hT; intro a hT
                              replace H := H.new N; clear N
                              refine Sx.st_actkeep hT rfl rfl rfl (Sx.y_storeS hT rfl Tryd.ti27 rfl rfl rfl rfl rfl (H.blk 0 rfl) rfl) ?_
                              rintro w81 ⟨hb, E, _⟩
                              refine ⟨hH.fresh E q_b15, ?_⟩
                              replace hH := hH.fresh E q_b15
                              replace H := H.setB 0 rfl hb E rfl; clear hb E
                              refine Sx.st_act hT rfl rfl rfl (Sx.y_storeS hT rfl Tryd.ti27 rfl rfl rfl rfl rfl (H.blk 1 rfl) rfl) ?_
                              rintro w82 ⟨hb, E, _⟩
                              replace H := H.setB 1 rfl hb E rfl; clear hb E
                              replace hT := hT.keep [15, 16, 122, 107, 14, 13, 12, 11, 9, 10, 67, 8, 7, 57, 26, 6, 4, 0, 1, 2] rfl
                              clear Hu hH
                              refine Sx.ser_calm ?_
                              exact Sx.then_normal (hJK82 (b15, b14) _ _ trivial (hT.keep [15, 16, 122, 107, 14, 13, 12, 11, 9, 10, 67, 8, 7, 57, 26, 6, 4, 0, 1, 2] rfl) (H.keep [0, 1, 2, 3, 4, 5, 6, 7, 8] rfl rfl))
              · clear hK65; intro hJK65
                -- region 9 (law.go:173)
                refine Sx.wp_drawsF (fun u => Sx.Ext (Sx.No) u) [(0, .held), (1, .held)] 2 .keep [(3, .keep), (4, .keep), (5, .run)] 3 .keep [(2, .keep), (4, .keep), (5, .run)] (by kernel_rfl) (by kernel_rfl) (fun u E _ => ?_)
                replace H := H.pure E; clear E
                have hH : Sx.Ext (Sx.No) u u := Sx.Ext.refl _ _
                have Hu := H
                refine Sx.st_held hT rfl rfl rfl rfl hH (fun w' h' => Sx.y_loadS hT rfl Tryd.underlying27 Tryd.ti27 rfl ((Hu.heldB 1 rfl h' Sx.off_No).seg (k := 12) rfl) (by rfl)) ?_
                clear hT; intro a hT
                refine Sx.st_held hT rfl rfl rfl rfl hH (fun w' h' => Sx.y_loadS hT rfl Tryd.underlying27 Tryd.ti27 rfl ((Hu.heldB 1 rfl h' Sx.off_No).seg (k := 12) rfl) (by rfl)) ?_
                clear hT; intro a hT
                refine Sx.ser_fork ?_ ?_
                · skip
                  refine Sx.st_effkeep hT rfl rfl rfl rfl (Sx.y_alloc hT rfl Tryd.ti27 rfl _) ?_
                  rintro _ w83 ⟨b16, rfl, N⟩
                  have q_b16 : u.heap.size ≤ b16 := by have h8 := hH.size; have h9 := N.at_; omega
                  refine ⟨hH.step N.ext, ?_⟩
                  replace hH := hH.step N.ext
                  clear hT; intro a hT
                  replace H := H.new N; clear N
                  refine Sx.st_effkeep hT rfl rfl rfl rfl (Sx.y_alloc hT rfl Tryd.ti27 rfl _) ?_
                  rintro _ w84 ⟨b17, rfl, N⟩
                  have q_b17 : u.heap.size ≤ b17 := by have h8 := hH.size; have h9 := N.at_; omega
                  refine ⟨hH.step N.ext, ?_⟩
                  replace hH := hH.step N.ext
                  clear hT; intro a hT
                  replace H := H.new N; clear N
                  refine Sx.st_actkeep hT rfl rfl rfl (Sx.y_storeS hT rfl Tryd.ti27 rfl rfl rfl rfl rfl (H.blk 1 rfl) rfl) ?_
                  rintro w85 ⟨hb, E, _⟩
                  refine ⟨hH.fresh E q_b16, ?_⟩
                  replace hH := hH.fresh E q_b16
                  replace H := H.setB 1 rfl hb E rfl; clear hb E
                  refine Sx.st_act hT rfl rfl rfl (Sx.y_storeS hT rfl Tryd.ti27 rfl rfl rfl rfl rfl (H.blk 0 rfl) rfl) ?_
                  rintro w86 ⟨hb, E, _⟩
                  replace H := H.setB 0 rfl hb E rfl; clear hb E
                  replace hT := hT.keep [10, 9, 67, 8, 7, 57, 26, 6, 4, 0, 1, 2] rfl
                  clear Hu hH
                  refine Sx.ser_calm ?_
                  exact Sx.then_normal (hJK65 (b16, b17) _ _ trivial (hT.keep [9, 10, 67, 8, 7, 57, 26, 6, 4, 0, 1, 2] rfl) (H.keep [1, 0, 2, 3] rfl rfl))
                · skip
                  refine Sx.st_effkeep hT rfl rfl rfl rfl (Sx.y_alloc hT rfl Tryd.ti27 rfl _) ?_
                  rintro _ w87 ⟨b18, rfl, N⟩
                  have q_b18 : u.heap.size ≤ b18 := by have h8 := hH.size; have h9 := N.at_; omega
                  refine ⟨hH.step N.ext, ?_⟩
                  replace hH := hH.step N.ext
                  clear hT; intro a hT
                  replace H := H.new N; clear N
                  refine Sx.st_effkeep hT rfl rfl rfl rfl (Sx.y_alloc hT rfl Tryd.ti27 rfl _) ?_
                  rintro _ w88 ⟨b19, rfl, N⟩
                  have q_b19 : u.heap.size ≤ b19 := by have h8 := hH.size; have h9 := N.at_; omega
                  refine ⟨hH.step N.ext, ?_⟩
                  replace hH := hH.step N.ext
                  clear hT; intro a hT
                  replace H := H.new N; clear N
                  refine Sx.st_actkeep hT rfl rfl rfl (Sx.y_storeS hT rfl Tryd.ti27 rfl rfl rfl rfl rfl (H.blk 0 rfl) rfl) ?_
                  rintro w89 ⟨hb, E, _⟩
                  refine ⟨hH.fresh E q_b19, ?_⟩
                  replace hH := hH.fresh E q_b19
                  replace H := H.setB 0 rfl hb E rfl; clear hb E
                  refine Sx.st_act hT rfl rfl rfl (Sx.y_storeS hT rfl Tryd.ti27 rfl rfl rfl rfl rfl (H.blk 1 rfl) rfl) ?_
                  rintro w90 ⟨hb, E, _⟩
                  replace H := H.setB 1 rfl hb E rfl; clear hb E
                  replace hT := hT.keep [9, 10, 67, 8, 7, 57, 26, 6, 4, 0, 1, 2] rfl
                  clear Hu hH
                  refine Sx.ser_calm ?_
                  exact Sx.then_normal (hJK65 (b19, b18) _ _ trivial (hT.keep [9, 10, 67, 8, 7, 57, 26, 6, 4, 0, 1, 2] rfl) (H.keep [0, 1, 2, 3] rfl rfl))

end Go.Proofs.YtainemoobhkeiaaDoor
