/- Walks: ScanRuns. -/
import Derived.Test.YtainemoobhkeiaaDoorW11
set_option linter.unusedSimpArgs false
set_option linter.unusedVariables false
namespace Go.Proofs.YtainemoobhkeiaaDoor
open Sx
theorem Tryd.can3 : Sx.Can Tryd.prog 3 := ⟨_, Tryd.func3, by kernel_rfl, rfl⟩
theorem xRun2 (ad : Option Addr) (c : Nat) (l : List Pair) (q : Query) (w : World) (hs : Ss w ad Pair.cells 4 l) (hl : l.length ≤ 1000) : Calls Tryd.prog 11 #[.slice ad l.length c, .agg #[.string ⟨q.fr.toArray⟩, .string ⟨q.to.toArray⟩, .int .i64 q.kind, .int .i64 q.lo.kind, .float .f64 q.lo.num, .string ⟨q.lo.text.toArray⟩, .int .i64 q.hi.kind, .float .f64 q.hi.num, .string ⟨q.hi.text.toArray⟩, .bool q.back, .int .i64 q.most, .string ⟨q.after.toArray⟩]] w fun e w' => ∃ ad' c', e = .returned (.tuple #[.slice ad' (runQ q l).1.length c', .string ⟨(runQ q l).2.1.toArray⟩, .int .i64 (runQ q l).2.2]) ∧ (ad' = none → (runQ q l).1.length = 0 ∧ c' = 0) ∧ Hp w No w' [cR 45 4 ad' (runQ q l).1.length c' ((runQ q l).1.flatMap Pair.cells)] := by
  have h := xRun_calls ad c l q w hs hl
  rw [xrunQ_eq] at h
  exact h
theorem xAll2 (ad : Option Addr) (c : Nat) (l : List Pair) (q : Query) (w : World) (hs : Ss w ad Pair.cells 4 l) (hl : l.length ≤ 1000) : Calls Tryd.prog 14 #[.slice ad l.length c, .agg #[.string ⟨q.fr.toArray⟩, .string ⟨q.to.toArray⟩, .int .i64 q.kind, .int .i64 q.lo.kind, .float .f64 q.lo.num, .string ⟨q.lo.text.toArray⟩, .int .i64 q.hi.kind, .float .f64 q.hi.num, .string ⟨q.hi.text.toArray⟩, .bool q.back, .int .i64 q.most, .string ⟨q.after.toArray⟩]] w fun e w' => ∃ ad' c', e = .returned (.tuple #[.slice ad' (allQ q [] l).1.length c', .int .i64 (allQ q [] l).2]) ∧ Hp w No w' [cR 45 4 ad' (allQ q [] l).1.length c' ((allQ q [] l).1.flatMap Pair.cells)] := by
  have h := xAll_calls ad c l q w hs hl
  rw [xallQ_eq] at h
  exact h
theorem runQ_len (q : Query) (l : List Pair) : (runQ q l).1.length ≤ l.length := by
  have h := allQ_len q q.after l
  have h2 := List.length_take_le' q.most.toNat (allQ q q.after l).1
  unfold runQ
  split <;> dsimp only <;> omega
theorem few_len {l : List Pair} {q : Query} (h : fewQ l q = true) : l.length ≤ 300 := by
  unfold fewQ at h
  simp only [Bool.and_eq_true, decide_eq_true_eq] at h
  exact h.1
def spoilt : Pair := ⟨[115, 112, 111, 105, 108, 116], ⟨0, 0, []⟩⟩

theorem Runs_calls (ad : Option Addr) (c : Nat) (l : List Pair) (q : Query) (w : World) (hs : Ss w ad Pair.cells 4 l) (hl : l.length ≤ 9223372036854775807) (hnil : ad = none → l.length = 0 ∧ c = 0) : Calls Tryd.prog 3 #[.slice ad l.length c, .agg #[.string ⟨q.fr.toArray⟩, .string ⟨q.to.toArray⟩, .int .i64 q.kind, .int .i64 q.lo.kind, .float .f64 q.lo.num, .string ⟨q.lo.text.toArray⟩, .int .i64 q.hi.kind, .float .f64 q.hi.num, .string ⟨q.hi.text.toArray⟩, .bool q.back, .int .i64 q.most, .string ⟨q.after.toArray⟩]] w fun e w' => e = .returned (.bool true) ∧ Ext No w w' := by
  have R : Ro w No _ := Ro.of fun w' x => hs.ext_no x
  refine Sx.calls_into Tryd.func3 rfl Tryd.ntmps3 rfl fun a hT => ?_
  replace hT := hT.keep [0, 1] rfl
  have H : Sx.Hp w (Sx.No) w [] := Sx.Hp.start _ _
  refine wp_seq_k fun K1 hK1 => ?_
  -- region 0 (law.go:45)
  refine Sx.wp_text [(0, .run), (1, .take)] rfl ?_
  refine Sx.st_eff hT rfl rfl rfl rfl (Sx.y_box hT rfl rfl rfl _) ?_
  clear hT; rintro _ w1 ⟨b1, rfl, N⟩ a hT
  replace H := H.new N; clear N
  refine Sx.st_take hT rfl rfl rfl rfl (Sx.x_assign hT rfl rfl) ?_
  clear hT; intro a hT
  replace hT := hT.keep [4, 3, 0, 1] rfl
  refine Sx.ser_nil ?_
  refine Sx.then_normal (hK1 _ _ ?_)
  clear hK1
  refine wp_seq_k fun K2 hK2 => ?_
  refine wp_seq_k fun K3 hK3 => ?_
  -- region 1 (law.go:46)
  refine Sx.wp_text [(0, .run), (1, .take)] rfl ?_
  refine Sx.st_call hT rfl rfl rfl rfl rfl Tryd.can8 rfl (first_calls _) ?_
  rintro _ w2 ⟨rfl, E⟩
  refine ⟨_, rfl, ?_⟩
  clear hT; intro a hT
  replace H := H.pure E; clear E
  refine Sx.st_take hT rfl rfl rfl rfl (Sx.x_not hT rfl rfl) ?_
  clear hT; intro a hT
  replace hT := hT.keep [20, 4, 3, 0, 1] rfl
  refine Sx.ser_nil ?_
  refine Sx.then_normal (hK3 _ _ ?_)
  clear hK3
  refine Sx.wp_if hT rfl (fun h => by cases h) (fun _ => ?_)
  refine wp_skip ?_
  refine Sx.then_normal (hK2 _ _ ?_)
  clear hK2
  refine wp_seq_k fun K4 hK4 => ?_
  refine wp_seq_k fun K5 hK5 => ?_
  -- region 3 (law.go:49)
  refine Sx.wp_text [(0, .take), (1, .run), (2, .run), (3, .take)] rfl ?_
  refine Sx.st_take hT rfl rfl rfl rfl (Sx.x_move hT rfl rfl) ?_
  clear hT; intro a hT
  refine Sx.st_run hT rfl rfl rfl rfl (Sx.y_loadS hT rfl Tryd.underlying27 Tryd.ti27 rfl ((H.blk 0 rfl).seg (k := 12) rfl) (by rfl)) ?_
  clear hT; intro a hT
  refine Sx.st_call hT rfl rfl rfl rfl rfl Tryd.can9 rfl (few_calls _ _ l q _ (R.at H.ext) hl) ?_
  rintro _ w3 ⟨rfl, E⟩
  refine ⟨_, rfl, ?_⟩
  clear hT; intro a hT
  replace H := H.pure E; clear E
  refine Sx.st_take hT rfl rfl rfl rfl (Sx.x_not hT rfl rfl) ?_
  clear hT; intro a hT
  replace hT := hT.keep [24, 20, 4, 3, 0, 1] rfl
  refine Sx.ser_nil ?_
  refine Sx.then_normal (hK5 _ _ ?_)
  clear hK5
  -- cond 1
  refine Sx.wp_if hT rfl (fun hc6 => ?_) (fun hc6 => ?_)
  · try simp only [decide_eq_true_eq, decide_eq_false_iff_not, Bool.not_eq_true', Bool.not_eq_false', Bool.not_eq_true, Bool.not_eq_false, Bool.and_eq_true, Bool.or_eq_false_iff, beq_iff_eq, bne_iff_ne, Int.not_lt, Int.not_le, ne_eq] at hc6
    refine wp_seq_k fun K7 hK7 => ?_
    -- region 4 (law.go:50)
    refine Sx.wp_text [(0, .run), (1, .take)] rfl ?_
    refine Sx.st_call hT rfl rfl rfl rfl rfl Tryd.can8 rfl (first_calls _) ?_
    rintro _ w4 ⟨rfl, E⟩
    refine ⟨_, rfl, ?_⟩
    clear hT; intro a hT
    replace H := H.pure E; clear E
    refine Sx.st_take hT rfl rfl rfl rfl (Sx.x_assign hT rfl rfl) ?_
    clear hT; intro a hT
    replace hT := hT.keep [4, 24, 20, 3, 0, 1] rfl
    refine Sx.ser_nil ?_
    refine Sx.then_normal (hK7 _ _ ?_)
    clear hK7
    refine wp_ret ?_
    refine Sx.then_ret ?_
    refine Sx.done1 (fn := Tryd.f3) hT rfl (.tmp (hT.get 4 _ rfl)) ?_
    exact ⟨rfl, H.ext⟩
  · try simp only [decide_eq_true_eq, decide_eq_false_iff_not, Bool.not_eq_true', Bool.not_eq_false', Bool.not_eq_true, Bool.not_eq_false, Bool.and_eq_true, Bool.or_eq_false_iff, beq_iff_eq, bne_iff_ne, Int.not_lt, Int.not_le, ne_eq] at hc6
    have hfew := few_len hc6
    have hl3 : l.length ≤ 1000 := by omega
    have hrl := runQ_len q l
    have hal := allQ_len q [] l
    refine wp_skip ?_
    refine Sx.then_normal (hK4 _ _ ?_)
    clear hK4
    refine wp_seq_k fun K8 hK8 => ?_
    -- region 5 (law.go:52)
    refine Sx.wp_text [(0, .run), (1, .take), (2, .run), (3, .take)] rfl ?_
    refine Sx.st_eff hT rfl rfl rfl rfl (Sx.y_slice0 hT rfl Tryd.underlying22 Tryd.ti45 _) ?_
    clear hT; rintro _ w5 ⟨b2, rfl, N⟩ a hT
    replace H := H.new N; clear N
    replace H := H.rowB 4 0 rfl rfl
    refine Sx.st_take hT rfl rfl rfl rfl (Sx.x_move hT rfl rfl) ?_
    clear hT; intro a hT
    refine Sx.st_eff hT rfl rfl rfl rfl (Sx.x_append hT rfl rfl Tryd.underlying22 Tryd.ti45 rfl (by decide) rfl rfl (H.row 0 rfl) ((R.at H.ext).sv) (flat_one Pair.one l) hnil (by unfold maxLen; omega) (by omega)) ?_
    rintro _ w6 ⟨ad6, c6, rfl, hr, E, hown, -⟩
    clear hT; intro a hT
    replace H := H.setR 0 rfl hr E hown rfl; clear hr E hown
    rw [Nat.zero_add, List.nil_append] at H
    rw [Nat.zero_add] at hT
    refine Sx.st_take hT rfl rfl rfl rfl (Sx.x_assign hT rfl rfl) ?_
    clear hT; intro a hT
    replace hT := hT.keep [5, 24, 20, 4, 3, 0, 1] rfl
    refine Sx.ser_nil ?_
    refine Sx.then_normal (hK8 _ _ ?_)
    clear hK8
    refine wp_seq_k fun K9 hK9 => ?_
    -- region 6 (law.go:53)
    refine Sx.wp_text [(0, .take), (1, .run), (2, .run), (3, .take), (4, .take), (5, .take), (6, .take), (7, .take), (8, .take), (9, .take)] rfl ?_
    refine Sx.st_take hT rfl rfl rfl rfl (Sx.x_move hT rfl rfl) ?_
    clear hT; intro a hT
    refine Sx.st_run hT rfl rfl rfl rfl (Sx.y_loadS hT rfl Tryd.underlying27 Tryd.ti27 rfl ((H.blk 1 rfl).seg (k := 12) rfl) (by rfl)) ?_
    clear hT; intro a hT
    refine Sx.st_call hT rfl rfl rfl rfl rfl Tryd.can10 rfl (Run_calls _ _ l q _ ((H.row 0 rfl).ssn rfl) hl3) ?_
    rintro _ w7 ⟨ad1, c1, rfl, -, K⟩
    refine ⟨_, rfl, ?_⟩
    clear hT; intro a hT
    replace H := H.more K rfl; clear K
    refine Sx.st_take hT rfl rfl rfl rfl (Sx.x_move hT rfl rfl) ?_
    clear hT; intro a hT
    refine Sx.st_take hT rfl rfl rfl rfl (Sx.x_extractL hT rfl rfl rfl) ?_
    clear hT; intro a hT
    refine Sx.st_take hT rfl rfl rfl rfl (Sx.x_extractL hT rfl rfl rfl) ?_
    clear hT; intro a hT
    refine Sx.st_take hT rfl rfl rfl rfl (Sx.x_extractL hT rfl rfl rfl) ?_
    clear hT; intro a hT
    refine Sx.st_take hT rfl rfl rfl rfl (Sx.x_assign hT rfl rfl) ?_
    clear hT; intro a hT
    refine Sx.st_take hT rfl rfl rfl rfl (Sx.x_assign hT rfl rfl) ?_
    clear hT; intro a hT
    refine Sx.st_take hT rfl rfl rfl rfl (Sx.x_assign hT rfl rfl) ?_
    clear hT; intro a hT
    replace hT := hT.keep [8, 7, 6, 5, 24, 20, 4, 3, 0, 1] rfl
    refine Sx.ser_nil ?_
    refine Sx.then_normal (hK9 _ _ ?_)
    clear hK9
    refine wp_seq_k fun K10 hK10 => ?_
    -- region 7 (law.go:54)
    refine Sx.wp_text [(0, .take), (1, .run), (2, .run), (3, .run), (4, .take), (5, .take), (6, .take), (7, .take), (8, .take), (9, .take), (10, .take)] rfl ?_
    refine Sx.st_take hT rfl rfl rfl rfl (Sx.x_move hT rfl rfl) ?_
    clear hT; intro a hT
    refine Sx.st_run hT rfl rfl rfl rfl (Sx.y_loadS hT rfl Tryd.underlying27 Tryd.ti27 rfl ((H.blk 2 rfl).seg (k := 12) rfl) (by rfl)) ?_
    clear hT; intro a hT
    refine Sx.st_call hT rfl rfl rfl rfl rfl Tryd.can12 rfl (Plain_calls _ _) ?_
    rintro _ w8 ⟨rfl, E⟩
    refine ⟨_, rfl, ?_⟩
    clear hT; intro a hT
    replace H := H.pure E; clear E
    refine Sx.st_call hT rfl rfl rfl rfl rfl Tryd.can11 rfl (xRun2 _ _ l q _ (R.at H.ext) hl3) ?_
    rintro _ w9 ⟨ad2, c2, rfl, -, K⟩
    refine ⟨_, rfl, ?_⟩
    clear hT; intro a hT
    replace H := H.more K rfl; clear K
    refine Sx.st_take hT rfl rfl rfl rfl (Sx.x_move hT rfl rfl) ?_
    clear hT; intro a hT
    refine Sx.st_take hT rfl rfl rfl rfl (Sx.x_extractL hT rfl rfl rfl) ?_
    clear hT; intro a hT
    refine Sx.st_take hT rfl rfl rfl rfl (Sx.x_extractL hT rfl rfl rfl) ?_
    clear hT; intro a hT
    refine Sx.st_take hT rfl rfl rfl rfl (Sx.x_extractL hT rfl rfl rfl) ?_
    clear hT; intro a hT
    refine Sx.st_take hT rfl rfl rfl rfl (Sx.x_assign hT rfl rfl) ?_
    clear hT; intro a hT
    refine Sx.st_take hT rfl rfl rfl rfl (Sx.x_assign hT rfl rfl) ?_
    clear hT; intro a hT
    refine Sx.st_take hT rfl rfl rfl rfl (Sx.x_assign hT rfl rfl) ?_
    clear hT; intro a hT
    replace hT := hT.keep [11, 10, 9, 8, 7, 6, 5, 24, 20, 4, 3, 0, 1] rfl
    refine Sx.ser_nil ?_
    refine Sx.then_normal (hK10 _ _ ?_)
    clear hK10
    refine wp_seq_k fun K11 hK11 => ?_
    -- region 8 (law.go:55)
    refine Sx.wp_text [(0, .take), (1, .run), (2, .run), (3, .take), (4, .take), (5, .take), (6, .take), (7, .take)] rfl ?_
    refine Sx.st_take hT rfl rfl rfl rfl (Sx.x_move hT rfl rfl) ?_
    clear hT; intro a hT
    refine Sx.st_run hT rfl rfl rfl rfl (Sx.y_loadS hT rfl Tryd.underlying27 Tryd.ti27 rfl ((H.blk 3 rfl).seg (k := 12) rfl) (by rfl)) ?_
    clear hT; intro a hT
    refine Sx.st_call hT rfl rfl rfl rfl rfl Tryd.can13 rfl (All_calls _ _ l q _ ((H.row 2 rfl).ssn rfl) hl3) ?_
    rintro _ w10 ⟨ad3, c3, rfl, K⟩
    refine ⟨_, rfl, ?_⟩
    clear hT; intro a hT
    replace H := H.more K rfl; clear K
    refine Sx.st_take hT rfl rfl rfl rfl (Sx.x_move hT rfl rfl) ?_
    clear hT; intro a hT
    refine Sx.st_take hT rfl rfl rfl rfl (Sx.x_extractL hT rfl rfl rfl) ?_
    clear hT; intro a hT
    refine Sx.st_take hT rfl rfl rfl rfl (Sx.x_extractL hT rfl rfl rfl) ?_
    clear hT; intro a hT
    refine Sx.st_take hT rfl rfl rfl rfl (Sx.x_assign hT rfl rfl) ?_
    clear hT; intro a hT
    refine Sx.st_take hT rfl rfl rfl rfl (Sx.x_assign hT rfl rfl) ?_
    clear hT; intro a hT
    replace hT := hT.keep [13, 12, 11, 10, 9, 8, 7, 6, 5, 24, 20, 4, 3, 0, 1] rfl
    refine Sx.ser_nil ?_
    refine Sx.then_normal (hK11 _ _ ?_)
    clear hK11
    refine wp_seq_k fun K12 hK12 => ?_
    -- region 9 (law.go:56)
    refine Sx.wp_text [(0, .take), (1, .run), (2, .run), (3, .run), (4, .take), (5, .take), (6, .take), (7, .take), (8, .take)] rfl ?_
    refine Sx.st_take hT rfl rfl rfl rfl (Sx.x_move hT rfl rfl) ?_
    clear hT; intro a hT
    refine Sx.st_run hT rfl rfl rfl rfl (Sx.y_loadS hT rfl Tryd.underlying27 Tryd.ti27 rfl ((H.blk 4 rfl).seg (k := 12) rfl) (by rfl)) ?_
    clear hT; intro a hT
    refine Sx.st_call hT rfl rfl rfl rfl rfl Tryd.can12 rfl (Plain_calls _ _) ?_
    rintro _ w11 ⟨rfl, E⟩
    refine ⟨_, rfl, ?_⟩
    clear hT; intro a hT
    replace H := H.pure E; clear E
    refine Sx.st_call hT rfl rfl rfl rfl rfl Tryd.can14 rfl (xAll2 _ _ l q _ (R.at H.ext) hl3) ?_
    rintro _ w12 ⟨ad4, c4, rfl, K⟩
    refine ⟨_, rfl, ?_⟩
    clear hT; intro a hT
    replace H := H.more K rfl; clear K
    refine Sx.st_take hT rfl rfl rfl rfl (Sx.x_move hT rfl rfl) ?_
    clear hT; intro a hT
    refine Sx.st_take hT rfl rfl rfl rfl (Sx.x_extractL hT rfl rfl rfl) ?_
    clear hT; intro a hT
    refine Sx.st_take hT rfl rfl rfl rfl (Sx.x_extractL hT rfl rfl rfl) ?_
    clear hT; intro a hT
    refine Sx.st_take hT rfl rfl rfl rfl (Sx.x_assign hT rfl rfl) ?_
    clear hT; intro a hT
    refine Sx.st_take hT rfl rfl rfl rfl (Sx.x_assign hT rfl rfl) ?_
    clear hT; intro a hT
    replace hT := hT.keep [15, 14, 13, 12, 11, 10, 9, 8, 7, 6, 5, 24, 20, 4, 3, 0, 1] rfl
    refine Sx.ser_nil ?_
    refine Sx.then_normal (hK12 _ _ ?_)
    clear hK12
    refine wp_seq_k fun K13 hK13 => ?_
    -- region 10 (law.go:57)
    refine Sx.wp_text [(0, .take), (1, .run), (2, .run), (3, .take), (4, .take), (5, .take), (6, .take), (7, .take)] rfl ?_
    refine Sx.st_take hT rfl rfl rfl rfl (Sx.x_move hT rfl rfl) ?_
    clear hT; intro a hT
    refine Sx.st_run hT rfl rfl rfl rfl (Sx.y_loadS hT rfl Tryd.underlying27 Tryd.ti27 rfl ((H.blk 5 rfl).seg (k := 12) rfl) (by rfl)) ?_
    clear hT; intro a hT
    refine Sx.st_call hT rfl rfl rfl rfl rfl Tryd.can15 rfl (Count_calls _ _ l q _ ((H.row 4 rfl).ssn rfl) hl3) ?_
    rintro _ w13 ⟨rfl, E⟩
    refine ⟨_, rfl, ?_⟩
    clear hT; intro a hT
    replace H := H.pure E; clear E
    refine Sx.st_take hT rfl rfl rfl rfl (Sx.x_move hT rfl rfl) ?_
    clear hT; intro a hT
    refine Sx.st_take hT rfl rfl rfl rfl (Sx.x_extractL hT rfl rfl rfl) ?_
    clear hT; intro a hT
    refine Sx.st_take hT rfl rfl rfl rfl (Sx.x_extractL hT rfl rfl rfl) ?_
    clear hT; intro a hT
    refine Sx.st_take hT rfl rfl rfl rfl (Sx.x_assign hT rfl rfl) ?_
    clear hT; intro a hT
    refine Sx.st_take hT rfl rfl rfl rfl (Sx.x_assign hT rfl rfl) ?_
    clear hT; intro a hT
    replace hT := hT.keep [17, 16, 15, 14, 13, 12, 11, 10, 9, 8, 7, 6, 5, 24, 20, 4, 3, 0, 1] rfl
    refine Sx.ser_nil ?_
    refine Sx.then_normal (hK13 _ _ ?_)
    clear hK13
    refine wp_seq_k fun K14 hK14 => ?_
    refine wp_seq_k fun K15 hK15 => ?_
    -- region 11 (law.go:58)
    refine Sx.wp_draws (fun u => Sx.Ext (Sx.No) u) [(0, .held), (2, .held), (1, .keep), (3, .run), (4, .run), (5, .take), (6, .take), (7, .take), (8, .take), (9, .run), (10, .take), (11, .take), (12, .take), (13, .take), (14, .take), (15, .take), (16, .take), (17, .take), (18, .take), (19, .take), (20, .take), (21, .take), (22, .take), (23, .take), (24, .take), (25, .run), (26, .take), (27, .take), (28, .take), (29, .take), (30, .take), (31, .take), (32, .take), (33, .take), (34, .take), (35, .take), (36, .take), (37, .take), (38, .take), (39, .take), (40, .take), (41, .take), (42, .take), (43, .take)] (by kernel_rfl) (by kernel_rfl) (fun u E _ => ?_)
    replace H := H.pure E; clear E
    have hH : Sx.Ext (Sx.No) u u := Sx.Ext.refl _ _
    have Hu := H
    refine Sx.st_held hT rfl rfl rfl rfl hH (fun w' h' => Sx.y_loadS hT rfl Tryd.underlying27 Tryd.ti27 rfl ((Hu.heldB 5 rfl h' Sx.off_No).seg (k := 12) rfl) (by rfl)) ?_
    clear hT; intro a hT
    refine Sx.st_held hT rfl rfl rfl rfl hH (fun w' h' => Sx.y_loadS hT rfl Tryd.underlying27 Tryd.ti27 rfl ((Hu.heldB 5 rfl h' Sx.off_No).seg (k := 12) rfl) (by rfl)) ?_
    clear hT; intro a hT
    refine Sx.st_callkeep hT rfl rfl rfl rfl rfl Tryd.can16 rfl (Check_calls _ _) ?_
    rintro _ w14 ⟨rfl, E⟩
    refine ⟨_, rfl, hH.step E, ?_⟩
    replace hH := hH.step E
    clear hT; intro a hT
    replace H := H.pure E; clear E
    refine Sx.st_call hT rfl rfl rfl rfl rfl Tryd.can12 rfl (Plain_calls _ _) ?_
    rintro _ w15 ⟨rfl, E⟩
    refine ⟨_, rfl, ?_⟩
    clear hT; intro a hT
    replace H := H.pure E; clear E
    refine Sx.st_call hT rfl rfl rfl rfl rfl Tryd.can17 rfl (xCheck_calls _ _) ?_
    rintro _ w16 ⟨rfl, E⟩
    refine ⟨_, rfl, ?_⟩
    clear hT; intro a hT
    replace H := H.pure E; clear E
    refine Sx.st_take hT rfl rfl rfl rfl ((fun w => Sx.x_ne w hT rfl rfl rfl)) ?_
    clear hT; intro a hT
    refine Sx.st_take hT rfl rfl rfl rfl (Sx.x_move hT rfl rfl) ?_
    clear hT; intro a hT
    -- guard (11, 6)
    refine Sx.Sl.two hT 69 rfl (fun hc16 hT => ?_) (fun hc16 hT => ?_)
    · exfalso
      try simp only [decide_eq_true_eq, decide_eq_false_iff_not, Bool.not_eq_true', Bool.not_eq_false', Bool.not_eq_true, Bool.not_eq_false, Bool.and_eq_true, Bool.or_eq_false_iff, beq_iff_eq, bne_iff_ne, Int.not_lt, Int.not_le, ne_eq] at hc16
      first | (simp at hc16; done) | (simp at hc16; omega)
    · try simp only [decide_eq_true_eq, decide_eq_false_iff_not, Bool.not_eq_true', Bool.not_eq_false', Bool.not_eq_true, Bool.not_eq_false, Bool.and_eq_true, Bool.or_eq_false_iff, beq_iff_eq, bne_iff_ne, Int.not_lt, Int.not_le, ne_eq] at hc16
      refine Sx.st_take hT rfl rfl rfl rfl (Sx.x_move hT rfl rfl) ?_
      clear hT; intro a hT
      refine Sx.st_take hT rfl rfl rfl rfl (Sx.x_move hT rfl rfl) ?_
      clear hT; intro a hT
      refine Sx.st_call hT rfl rfl rfl rfl rfl Tryd.can18 rfl (Pairs_calls _ _ _ _ (runQ q l).1 _ ((H.wr 3 rfl).ssn rfl) ((H.row 2 rfl).ssn rfl) (by omega)) ?_
      rintro _ w17 ⟨rfl, E⟩
      refine ⟨_, rfl, ?_⟩
      clear hT; intro a hT
      replace H := H.pure E; clear E
      refine Sx.st_take hT rfl rfl rfl rfl (Sx.x_not hT rfl rfl) ?_
      clear hT; intro a hT
      refine Sx.st_take hT rfl rfl rfl rfl (Sx.x_pick_f hT rfl rfl rfl) ?_
      clear hT; intro a hT
      refine Sx.st_take hT rfl rfl rfl rfl (Sx.x_move hT rfl rfl) ?_
      clear hT; intro a hT
      refine Sx.st_take hT rfl rfl rfl rfl (Sx.x_move hT rfl rfl) ?_
      clear hT; intro a hT
      refine Sx.st_take hT rfl rfl rfl rfl (Sx.x_move hT rfl rfl) ?_
      clear hT; intro a hT
      refine Sx.st_take hT rfl rfl rfl rfl ((fun w => Sx.x_strne w hT rfl rfl rfl)) ?_
      clear hT; intro a hT
      refine Sx.st_take hT rfl rfl rfl rfl (Sx.x_pick_f hT rfl rfl rfl) ?_
      clear hT; intro a hT
      refine Sx.st_take hT rfl rfl rfl rfl (Sx.x_move hT rfl rfl) ?_
      clear hT; intro a hT
      -- guard (11, 17)
      refine Sx.Sl.two hT 80 rfl (fun hc17 hT => ?_) (fun hc17 hT => ?_)
      · exfalso
        try simp only [decide_eq_true_eq, decide_eq_false_iff_not, Bool.not_eq_true', Bool.not_eq_false', Bool.not_eq_true, Bool.not_eq_false, Bool.and_eq_true, Bool.or_eq_false_iff, beq_iff_eq, bne_iff_ne, Int.not_lt, Int.not_le, ne_eq] at hc17
        first | (simp at hc17; done) | (simp at hc17; omega)
      · try simp only [decide_eq_true_eq, decide_eq_false_iff_not, Bool.not_eq_true', Bool.not_eq_false', Bool.not_eq_true, Bool.not_eq_false, Bool.and_eq_true, Bool.or_eq_false_iff, beq_iff_eq, bne_iff_ne, Int.not_lt, Int.not_le, ne_eq] at hc17
        refine Sx.st_take hT rfl rfl rfl rfl (Sx.x_move hT rfl rfl) ?_
        clear hT; intro a hT
        refine Sx.st_take hT rfl rfl rfl rfl (Sx.x_move hT rfl rfl) ?_
        clear hT; intro a hT
        refine Sx.st_take hT rfl rfl rfl rfl ((fun w => Sx.x_ne w hT rfl rfl rfl)) ?_
        clear hT; intro a hT
        refine Sx.st_take hT rfl rfl rfl rfl (Sx.x_pick_f hT rfl rfl rfl) ?_
        clear hT; intro a hT
        refine Sx.st_take hT rfl rfl rfl rfl (Sx.x_move hT rfl rfl) ?_
        clear hT; intro a hT
        -- guard (11, 22)
        refine Sx.Sl.two hT 85 rfl (fun hc18 hT => ?_) (fun hc18 hT => ?_)
        · exfalso
          try simp only [decide_eq_true_eq, decide_eq_false_iff_not, Bool.not_eq_true', Bool.not_eq_false', Bool.not_eq_true, Bool.not_eq_false, Bool.and_eq_true, Bool.or_eq_false_iff, beq_iff_eq, bne_iff_ne, Int.not_lt, Int.not_le, ne_eq] at hc18
          first | (simp at hc18; done) | (simp at hc18; omega)
        · try simp only [decide_eq_true_eq, decide_eq_false_iff_not, Bool.not_eq_true', Bool.not_eq_false', Bool.not_eq_true, Bool.not_eq_false, Bool.and_eq_true, Bool.or_eq_false_iff, beq_iff_eq, bne_iff_ne, Int.not_lt, Int.not_le, ne_eq] at hc18
          refine Sx.st_take hT rfl rfl rfl rfl (Sx.x_move hT rfl rfl) ?_
          clear hT; intro a hT
          refine Sx.st_take hT rfl rfl rfl rfl (Sx.x_move hT rfl rfl) ?_
          clear hT; intro a hT
          refine Sx.st_call hT rfl rfl rfl rfl rfl Tryd.can18 rfl (Pairs_calls _ _ _ _ (allQ q [] l).1 _ ((H.row 1 rfl).ssn rfl) ((H.row 0 rfl).ssn rfl) (by omega)) ?_
          rintro _ w18 ⟨rfl, E⟩
          refine ⟨_, rfl, ?_⟩
          clear hT; intro a hT
          replace H := H.pure E; clear E
          refine Sx.st_take hT rfl rfl rfl rfl (Sx.x_not hT rfl rfl) ?_
          clear hT; intro a hT
          refine Sx.st_take hT rfl rfl rfl rfl (Sx.x_pick_f hT rfl rfl rfl) ?_
          clear hT; intro a hT
          refine Sx.st_take hT rfl rfl rfl rfl (Sx.x_move hT rfl rfl) ?_
          clear hT; intro a hT
          refine Sx.st_take hT rfl rfl rfl rfl (Sx.x_move hT rfl rfl) ?_
          clear hT; intro a hT
          refine Sx.st_take hT rfl rfl rfl rfl (Sx.x_move hT rfl rfl) ?_
          clear hT; intro a hT
          refine Sx.st_take hT rfl rfl rfl rfl ((fun w => Sx.x_ne w hT rfl rfl rfl)) ?_
          clear hT; intro a hT
          refine Sx.st_take hT rfl rfl rfl rfl (Sx.x_pick_f hT rfl rfl rfl) ?_
          clear hT; intro a hT
          refine Sx.st_take hT rfl rfl rfl rfl (Sx.x_move hT rfl rfl) ?_
          clear hT; intro a hT
          -- guard (11, 33)
          refine Sx.Sl.two hT 96 rfl (fun hc19 hT => ?_) (fun hc19 hT => ?_)
          · exfalso
            try simp only [decide_eq_true_eq, decide_eq_false_iff_not, Bool.not_eq_true', Bool.not_eq_false', Bool.not_eq_true, Bool.not_eq_false, Bool.and_eq_true, Bool.or_eq_false_iff, beq_iff_eq, bne_iff_ne, Int.not_lt, Int.not_le, ne_eq] at hc19
            first | (simp at hc19; done) | (simp at hc19; omega)
          · try simp only [decide_eq_true_eq, decide_eq_false_iff_not, Bool.not_eq_true', Bool.not_eq_false', Bool.not_eq_true, Bool.not_eq_false, Bool.and_eq_true, Bool.or_eq_false_iff, beq_iff_eq, bne_iff_ne, Int.not_lt, Int.not_le, ne_eq] at hc19
            refine Sx.st_take hT rfl rfl rfl rfl (Sx.x_move hT rfl rfl) ?_
            clear hT; intro a hT
            refine Sx.st_take hT rfl rfl rfl rfl (Sx.x_move hT rfl rfl) ?_
            clear hT; intro a hT
            refine Sx.st_take hT rfl rfl rfl rfl (Sx.x_len_slice hT rfl rfl Tryd.underlying22 rfl) ?_
            clear hT; intro a hT
            refine Sx.st_take hT rfl rfl rfl rfl ((fun w => Sx.x_ne w hT rfl rfl rfl)) ?_
            clear hT; intro a hT
            refine Sx.st_take hT rfl rfl rfl rfl (Sx.x_pick_f hT rfl rfl rfl) ?_
            clear hT; intro a hT
            refine Sx.st_take hT rfl rfl rfl rfl (Sx.x_move hT rfl rfl) ?_
            clear hT; intro a hT
            -- guard (11, 39)
            refine Sx.Sl.two hT 102 rfl (fun hc20 hT => ?_) (fun hc20 hT => ?_)
            · exfalso
              try simp only [decide_eq_true_eq, decide_eq_false_iff_not, Bool.not_eq_true', Bool.not_eq_false', Bool.not_eq_true, Bool.not_eq_false, Bool.and_eq_true, Bool.or_eq_false_iff, beq_iff_eq, bne_iff_ne, Int.not_lt, Int.not_le, ne_eq] at hc20
              first | (simp at hc20; done) | (simp at hc20; omega)
            · try simp only [decide_eq_true_eq, decide_eq_false_iff_not, Bool.not_eq_true', Bool.not_eq_false', Bool.not_eq_true, Bool.not_eq_false, Bool.and_eq_true, Bool.or_eq_false_iff, beq_iff_eq, bne_iff_ne, Int.not_lt, Int.not_le, ne_eq] at hc20
              refine Sx.st_take hT rfl rfl rfl rfl (Sx.x_move hT rfl rfl) ?_
              clear hT; intro a hT
              refine Sx.st_take hT rfl rfl rfl rfl (Sx.x_move hT rfl rfl) ?_
              clear hT; intro a hT
              refine Sx.st_take hT rfl rfl rfl rfl ((fun w => Sx.x_ne w hT rfl rfl rfl)) ?_
              clear hT; intro a hT
              refine Sx.st_take hT rfl rfl rfl rfl (Sx.x_pick_f hT rfl rfl rfl) ?_
              clear hT; intro a hT
              replace hT := hT.keep [106, 17, 16, 15, 14, 13, 12, 11, 10, 9, 8, 7, 6, 5, 24, 20, 4, 3, 0, 1] rfl
              clear Hu hH
              refine Sx.ser_calm ?_
              refine Sx.then_normal (hK15 _ _ ?_)
              clear hK15
              -- cond 2
              refine Sx.wp_if hT rfl (fun hc21 => ?_) (fun hc21 => ?_)
              · exfalso
                try simp only [decide_eq_true_eq, decide_eq_false_iff_not, Bool.not_eq_true', Bool.not_eq_false', Bool.not_eq_true, Bool.not_eq_false, Bool.and_eq_true, Bool.or_eq_false_iff, beq_iff_eq, bne_iff_ne, Int.not_lt, Int.not_le, ne_eq] at hc21
                first | (simp at hc21; done) | (simp at hc21; omega)
              · try simp only [decide_eq_true_eq, decide_eq_false_iff_not, Bool.not_eq_true', Bool.not_eq_false', Bool.not_eq_true, Bool.not_eq_false, Bool.and_eq_true, Bool.or_eq_false_iff, beq_iff_eq, bne_iff_ne, Int.not_lt, Int.not_le, ne_eq] at hc21
                refine wp_skip ?_
                refine Sx.then_normal (hK14 _ _ ?_)
                clear hK14
                refine wp_seq_k fun K22 hK22 => ?_
                refine wp_seq_k fun K23 hK23 => ?_
                -- region 13 (law.go:61)
                refine Sx.wp_text [(0, .take)] rfl ?_
                refine Sx.st_take hT rfl rfl rfl rfl (Sx.x_assign hT rfl rfl) ?_
                clear hT; intro a hT
                replace hT := hT.keep [18, 106, 17, 16, 15, 14, 13, 12, 11, 10, 9, 8, 7, 6, 5, 24, 20, 4, 3, 0, 1] rfl
                refine Sx.ser_nil ?_
                refine Sx.then_normal (hK23 _ _ ?_)
                clear hK23
                refine wp_block ?_
                -- loop 0
                refine Sx.wp_loopH (G := Nat × List Pair) (fun ⟨k, zs⟩ => [(18, .int .i64 (k : Int))]) (fun ⟨k, zs⟩ => [cW 45 4 ad1 (runQ q l).1.length (zs.flatMap Pair.cells)]) (fun ⟨k, zs⟩ => zs.length = (runQ q l).1.length ∧ k ≤ (runQ q l).1.length) (fun ⟨k, zs⟩ => (runQ q l).1.length - k) (0, (runQ q l).1) (hT.keep [18, 106, 17, 16, 15, 14, 13, 12, 11, 10, 9, 8, 7, 6, 5, 24, 20, 4, 3, 0, 1] rfl) (H.keep [3, 0, 1, 2, 4, 5] rfl rfl) (⟨rfl, Nat.zero_le _⟩) ?_
                clear hT H
                rintro ⟨k, zs⟩ a w19 hJ hT H
                replace hT := hT.keep [18, 106, 17, 16, 15, 14, 13, 12, 11, 10, 9, 8, 7, 6, 5, 24, 20, 4, 3, 0, 1] rfl
                replace H := H.keep [0, 1, 2, 3, 4, 5] rfl rfl
                obtain ⟨hzl, hk⟩ := hJ
                refine wp_seq_k fun K24 hK24 => ?_
                refine wp_seq_k fun K25 hK25 => ?_
                -- region 14 (law.go:61)
                refine Sx.wp_text [(0, .take), (1, .take), (2, .take), (3, .take)] rfl ?_
                refine Sx.st_take hT rfl rfl rfl rfl (Sx.x_move hT rfl rfl) ?_
                clear hT; intro a hT
                refine Sx.st_take hT rfl rfl rfl rfl (Sx.x_move hT rfl rfl) ?_
                clear hT; intro a hT
                refine Sx.st_take hT rfl rfl rfl rfl (Sx.x_len_slice hT rfl rfl Tryd.underlying22 rfl) ?_
                clear hT; intro a hT
                refine Sx.st_take hT rfl rfl rfl rfl ((fun w => Sx.x_lt w hT rfl rfl rfl)) ?_
                clear hT; intro a hT
                replace hT := hT.keep [110, 18, 106, 17, 16, 15, 14, 13, 12, 11, 10, 9, 8, 7, 6, 5, 24, 20, 4, 3, 0, 1] rfl
                refine Sx.ser_nil ?_
                refine Sx.then_normal (hK25 _ _ ?_)
                clear hK25
                -- cond 3
                refine Sx.wp_if hT rfl (fun hc26 => ?_) (fun hc26 => ?_)
                · try simp only [decide_eq_true_eq, decide_eq_false_iff_not, Bool.not_eq_true', Bool.not_eq_false', Bool.not_eq_true, Bool.not_eq_false, Bool.and_eq_true, Bool.or_eq_false_iff, beq_iff_eq, bne_iff_ne, Int.not_lt, Int.not_le, ne_eq] at hc26
                  refine wp_skip ?_
                  refine Sx.then_normal (hK24 _ _ ?_)
                  clear hK24
                  refine wp_seq_k fun K27 hK27 => ?_
                  refine wp_block ?_
                  -- region 16 (law.go:62)
                  refine Sx.wp_text [(0, .take), (1, .take), (2, .take), (3, .take), (4, .run)] rfl ?_
                  refine Sx.st_take hT rfl rfl rfl rfl (Sx.x_move hT rfl rfl) ?_
                  clear hT; intro a hT
                  refine Sx.st_take hT rfl rfl rfl rfl (Sx.x_move hT rfl rfl) ?_
                  clear hT; intro a hT
                  refine Sx.st_take hT rfl rfl rfl rfl (Sx.x_bld hT rfl Tryd.bld45 rfl rfl) ?_
                  clear hT; intro a hT
                  refine Sx.st_take hT rfl rfl rfl rfl (Sx.x_index hT rfl Tryd.underlying22 Tryd.ti45 (H.wr 0 rfl).sv rfl rfl rfl (by omega)) ?_
                  clear hT; intro a hT
                  refine Sx.st_act hT rfl rfl rfl (Sx.x_storeW (k := k) (r := spoilt) hT rfl Tryd.ti45 rfl rfl Pair.len Pair.one rfl (H.wr 0 rfl) hzl.symm (by omega)) ?_
                  rintro w20 ⟨hr, E, hz⟩
                  replace H := H.setW 0 rfl hr E hz rfl; clear hr E hz
                  replace hT := hT.keep [110, 18, 106, 17, 16, 15, 14, 13, 12, 11, 10, 9, 8, 7, 6, 5, 24, 20, 4, 3, 0, 1] rfl
                  refine Sx.ser_nil ?_
                  refine Sx.block_normal ?_
                  refine Sx.then_normal (hK27 _ _ ?_)
                  clear hK27
                  -- region 15 (law.go:61)
                  refine Sx.wp_text [(0, .take), (1, .take), (2, .take)] rfl ?_
                  refine Sx.st_take hT rfl rfl rfl rfl (Sx.x_move hT rfl rfl) ?_
                  clear hT; intro a hT
                  refine Sx.st_take hT rfl rfl rfl rfl ((fun w => Sx.x_add w hT rfl rfl rfl (Sx.wrap64 (by omega)))) ?_
                  clear hT; intro a hT
                  refine Sx.st_take hT rfl rfl rfl rfl (Sx.x_assign hT rfl rfl) ?_
                  clear hT; intro a hT
                  replace hT := hT.keep [18, 110, 106, 17, 16, 15, 14, 13, 12, 11, 10, 9, 8, 7, 6, 5, 24, 20, 4, 3, 0, 1] rfl
                  refine Sx.ser_nil ?_
                  refine Sx.then_normal ?_
                  exact ⟨(k + 1, zs.set k spoilt), ⟨by rw [List.length_set]; exact hzl, by show k + 1 ≤ _; omega⟩, (hT.keep [18, 106, 17, 16, 15, 14, 13, 12, 11, 10, 9, 8, 7, 6, 5, 24, 20, 4, 3, 0, 1] rfl), (H.keep [0, 1, 2, 3, 4, 5] rfl rfl), by show _ - (k + 1) < _ - k; omega⟩
                · try simp only [decide_eq_true_eq, decide_eq_false_iff_not, Bool.not_eq_true', Bool.not_eq_false', Bool.not_eq_true, Bool.not_eq_false, Bool.and_eq_true, Bool.or_eq_false_iff, beq_iff_eq, bne_iff_ne, Int.not_lt, Int.not_le, ne_eq] at hc26
                  refine wp_exit ?_
                  refine Sx.then_exit ?_
                  refine Sx.then_exit ?_
                  refine Sx.block_exit ?_
                  refine Sx.then_normal (hK22 _ _ ?_)
                  clear hK22
                  refine wp_seq_k fun K28 hK28 => ?_
                  -- region 17 (law.go:64)
                  refine Sx.wp_text [(0, .run), (1, .take), (2, .take), (3, .take), (4, .run), (5, .take), (6, .take), (7, .take), (8, .take), (9, .run), (10, .take), (11, .take)] rfl ?_
                  refine Sx.st_call hT rfl rfl rfl rfl rfl Tryd.can8 rfl (first_calls _) ?_
                  rintro _ w21 ⟨rfl, E⟩
                  refine ⟨_, rfl, ?_⟩
                  clear hT; intro a hT
                  replace H := H.pure E; clear E
                  refine Sx.st_take hT rfl rfl rfl rfl (Sx.x_move hT rfl rfl) ?_
                  clear hT; intro a hT
                  refine Sx.st_take hT rfl rfl rfl rfl (Sx.x_move hT rfl rfl) ?_
                  clear hT; intro a hT
                  refine Sx.st_take hT rfl rfl rfl rfl (Sx.x_move hT rfl rfl) ?_
                  clear hT; intro a hT
                  refine Sx.st_call hT rfl rfl rfl rfl rfl Tryd.can18 rfl (Pairs_calls _ _ _ _ l _ ((H.row 4 rfl).ssn rfl) (R.at H.ext) (by omega)) ?_
                  rintro _ w22 ⟨rfl, E⟩
                  refine ⟨_, rfl, ?_⟩
                  clear hT; intro a hT
                  replace H := H.pure E; clear E
                  refine Sx.st_take hT rfl rfl rfl rfl (Sx.x_pick_t hT rfl rfl rfl) ?_
                  clear hT; intro a hT
                  refine Sx.st_take hT rfl rfl rfl rfl (Sx.x_move hT rfl rfl) ?_
                  clear hT; intro a hT
                  refine Sx.st_take hT rfl rfl rfl rfl (Sx.x_move hT rfl rfl) ?_
                  clear hT; intro a hT
                  refine Sx.st_take hT rfl rfl rfl rfl (Sx.x_move hT rfl rfl) ?_
                  clear hT; intro a hT
                  refine Sx.st_call hT rfl rfl rfl rfl rfl Tryd.can18 rfl (Pairs_calls _ _ _ _ (allQ q [] l).1 _ ((H.row 2 rfl).ssn rfl) ((H.row 1 rfl).ssn rfl) (by omega)) ?_
                  rintro _ w23 ⟨rfl, E⟩
                  refine ⟨_, rfl, ?_⟩
                  clear hT; intro a hT
                  replace H := H.pure E; clear E
                  refine Sx.st_take hT rfl rfl rfl rfl (Sx.x_pick_t hT rfl rfl rfl) ?_
                  clear hT; intro a hT
                  refine Sx.st_take hT rfl rfl rfl rfl (Sx.x_assign hT rfl rfl) ?_
                  clear hT; intro a hT
                  replace hT := hT.keep [4, 110, 18, 106, 17, 16, 15, 14, 13, 12, 11, 10, 9, 8, 7, 6, 5, 24, 20, 3, 0, 1] rfl
                  refine Sx.ser_nil ?_
                  refine Sx.then_normal (hK28 _ _ ?_)
                  clear hK28
                  refine wp_ret ?_
                  refine Sx.done1 (fn := Tryd.f3) hT rfl (.tmp (hT.get 4 _ rfl)) ?_
                  exact ⟨rfl, H.ext⟩

end Go.Proofs.YtainemoobhkeiaaDoor
