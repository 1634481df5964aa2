/- Walks: routes. -/
import Derived.Test.YtakohabmcgponaaW6
set_option linter.unusedSimpArgs false
set_option linter.unusedVariables false
namespace Go.Proofs.Ytakohabmcgponaa
open Sx
theorem Try.bld37 : Sx.Bld Try.prog 37 #[.int .i64 0, .int .i64 0, .float .f64 0, .float .f64 0] #[(0, 1), (1, 1), (2, 1), (3, 1)] := ⟨_, _, _, _, Try.ti37, rfl, Try.underlying37, fun w => by simp [Sx.placesOf, Sx.run_sizeOf Try.ti3, Sx.run_sizeOf Try.ti35]⟩
theorem Try.can15 : Sx.Can Try.prog 15 := ⟨_, Try.func15, by kernel_rfl, rfl⟩
def rz : Rg := ⟨0, 0, 0, 0⟩
def routeL (L : List Rg) (l : List UInt8) : Option Rg := if keyF l = true then routeF L (ofF l) 12 else none
theorem route_yes {L : List Rg} {x k : Nat} {r : Rg} (h : gt L (((k + 1 : Nat)) : Int) = some r) (hi : inF r x = true) : routeF L x (k + 1) = some r := by
  unfold routeF; rw [h]; dsimp only; rw [if_pos hi]
theorem route_out {L : List Rg} {x k : Nat} {r : Rg} (h : gt L (((k + 1 : Nat)) : Int) = some r) (hi : inF r x = false) : routeF L x (k + 1) = routeF L x k := by
  conv => lhs; unfold routeF
  rw [h]; dsimp only; rw [if_neg (by rw [hi]; decide)]
theorem route_none {L : List Rg} {x k : Nat} (h : gt L (((k + 1 : Nat)) : Int) = none) : routeF L x (k + 1) = routeF L x k := by
  conv => lhs; unfold routeF
  rw [h]

theorem Route_calls {p b : Nat} {L : List Rg} (l : List UInt8) (hl : l.length ≤ 9223372036854775807) {w : World} (hD : Blk w p [.map (some b)] 72) (hM : Mp Try.prog 3 w b (tb L)) : Calls Try.prog 15 #[.pointer (some ⟨p, 0, none⟩), .string ⟨l.toArray⟩] w fun e w' => e = .returned (.tuple #[.agg #[.int .i64 ((routeL L l).getD rz).id, .int .i64 ((routeL L l).getD rz).epoch, .float .f64 ((routeL L l).getD rz).lo, .float .f64 ((routeL L l).getD rz).hi], .bool (routeL L l).isSome]) ∧ Ext No w w' := by
  have R : Ro w No _ := Ro.of fun w' x => hD.ext_no x
  refine Sx.calls_into Try.func15 rfl Try.ntmps15 rfl fun a hT => ?_
  replace hT := hT.keep [0, 1] rfl
  have H : Sx.Hp w (Sx.No) w [] := Sx.Hp.start _ _
  refine wp_seq_k fun K1 hK1 => ?_
  -- region 0 (dir.go:56)
  refine Sx.wp_text [(0, .run), (1, .take)] rfl ?_
  refine Sx.st_eff hT rfl rfl rfl rfl (Sx.y_alloc hT rfl Try.ti37 rfl _) ?_
  clear hT; rintro _ w1 ⟨b1, rfl, N⟩ a hT
  replace H := H.new N; clear N
  refine Sx.st_take hT rfl rfl rfl rfl (Sx.x_assign hT rfl rfl) ?_
  clear hT; intro a hT
  replace hT := hT.keep [5, 4, 0, 1] rfl
  refine Sx.ser_nil ?_
  refine Sx.then_normal (hK1 _ _ ?_)
  clear hK1
  refine wp_seq_k fun K2 hK2 => ?_
  refine wp_seq_k fun K3 hK3 => ?_
  -- region 1 (dir.go:57)
  refine Sx.wp_text [(0, .take), (1, .run), (2, .take)] rfl ?_
  refine Sx.st_take hT rfl rfl rfl rfl (Sx.x_move hT rfl rfl) ?_
  clear hT; intro a hT
  refine Sx.st_call hT rfl rfl rfl rfl rfl Try.can33 rfl (Key_calls l hl _) ?_
  rintro _ w2 ⟨rfl, E⟩
  refine ⟨_, rfl, ?_⟩
  clear hT; intro a hT
  replace H := H.pure E; clear E
  refine Sx.st_take hT rfl rfl rfl rfl (Sx.x_not hT rfl rfl) ?_
  clear hT; intro a hT
  replace hT := hT.keep [12, 5, 4, 0, 1] rfl
  refine Sx.ser_nil ?_
  refine Sx.then_normal (hK3 _ _ ?_)
  clear hK3
  -- cond 0
  refine Sx.wp_if hT rfl (fun hc4 => ?_) (fun hc4 => ?_)
  · try simp only [decide_eq_true_eq, decide_eq_false_iff_not, Bool.not_eq_true', Bool.not_eq_false', Bool.not_eq_true, Bool.not_eq_false, Bool.and_eq_true, Bool.or_eq_false_iff, beq_iff_eq, bne_iff_ne, Int.not_lt, Int.not_le, ne_eq] at hc4
    have hky : keyF l = false := hc4
    refine wp_seq_k fun K5 hK5 => ?_
    -- region 2 (dir.go:58)
    refine Sx.wp_text [(0, .take), (1, .run), (2, .take)] rfl ?_
    refine Sx.st_take hT rfl rfl rfl rfl (Sx.x_bld hT rfl Try.bld37 rfl rfl) ?_
    clear hT; intro a hT
    refine Sx.st_act hT rfl rfl rfl (Sx.y_storeS hT rfl Try.ti37 rfl rfl rfl rfl rfl (H.blk 0 rfl) rfl) ?_
    rintro w3 ⟨hb, E, _⟩
    replace H := H.setB 0 rfl hb E rfl; clear hb E
    refine Sx.st_take hT rfl rfl rfl rfl (Sx.x_assign hT rfl rfl) ?_
    clear hT; intro a hT
    replace hT := hT.keep [5, 12, 4, 0, 1] rfl
    refine Sx.ser_nil ?_
    refine Sx.then_normal (hK5 _ _ ?_)
    clear hK5
    refine wp_ret ?_
    refine Sx.then_ret ?_
    refine Sx.done2 (fn := Try.f15) hT rfl (.cell (hT.get 4 _ rfl) (Sx.run_resS Try.underlying37 Try.ti37 ((H.blk 0 rfl).seg (k := 4) rfl) (by rfl))) (.tmp (hT.get 5 _ rfl)) ?_
    have e9 : routeL L l = none := by
      unfold routeL
      rw [if_neg (by rw [hky]; decide)]
    rw [e9]
    exact ⟨rfl, H.ext⟩
  · try simp only [decide_eq_true_eq, decide_eq_false_iff_not, Bool.not_eq_true', Bool.not_eq_false', Bool.not_eq_true, Bool.not_eq_false, Bool.and_eq_true, Bool.or_eq_false_iff, beq_iff_eq, bne_iff_ne, Int.not_lt, Int.not_le, ne_eq] at hc4
    have hky : keyF l = true := hc4
    refine wp_skip ?_
    refine Sx.then_normal (hK2 _ _ ?_)
    clear hK2
    refine wp_seq_k fun K6 hK6 => ?_
    -- region 3 (dir.go:60)
    refine Sx.wp_text [(0, .take), (1, .run), (2, .take)] rfl ?_
    refine Sx.st_take hT rfl rfl rfl rfl (Sx.x_move hT rfl rfl) ?_
    clear hT; intro a hT
    refine Sx.st_call hT rfl rfl rfl rfl rfl Try.can34 rfl (Of_calls l hl _) ?_
    rintro _ w4 ⟨rfl, E⟩
    refine ⟨_, rfl, ?_⟩
    clear hT; intro a hT
    replace H := H.pure E; clear E
    refine Sx.st_take hT rfl rfl rfl rfl (Sx.x_assign hT rfl rfl) ?_
    clear hT; intro a hT
    replace hT := hT.keep [6, 12, 5, 4, 0, 1] rfl
    refine Sx.ser_nil ?_
    refine Sx.then_normal (hK6 _ _ ?_)
    clear hK6
    refine wp_seq_k fun K7 hK7 => ?_
    refine wp_seq_k fun K8 hK8 => ?_
    -- region 4 (dir.go:61)
    refine Sx.wp_text [(0, .take)] rfl ?_
    refine Sx.st_take hT rfl rfl rfl rfl (Sx.x_assign hT rfl rfl) ?_
    clear hT; intro a hT
    replace hT := hT.keep [7, 6, 12, 5, 4, 0, 1] rfl
    refine Sx.ser_nil ?_
    refine Sx.then_normal (hK8 _ _ ?_)
    clear hK8
    refine wp_block ?_
    -- loop 0
    refine Sx.wp_loopH (G := Nat) (fun k => [(7, .int .i64 (k : Int))]) (fun k => []) (fun k => k ≤ 12 ∧ routeF L (ofF l) k = routeF L (ofF l) 12) (fun k => k) 12 (hT.keep [7, 6, 12, 4, 0, 1] rfl) (H.keep [0] rfl rfl) (⟨Nat.le_refl _, rfl⟩) ?_
    clear hT H
    rintro k a w5 hJ hT H
    replace hT := hT.keep [7, 6, 12, 4, 0, 1] rfl
    replace H := H.keep [0] rfl rfl
    obtain ⟨hk, hrt⟩ := hJ
    refine wp_seq_k fun K9 hK9 => ?_
    refine wp_seq_k fun K10 hK10 => ?_
    -- region 5 (dir.go:61)
    refine Sx.wp_text [(0, .take), (1, .take)] rfl ?_
    refine Sx.st_take hT rfl rfl rfl rfl (Sx.x_move hT rfl rfl) ?_
    clear hT; intro a hT
    refine Sx.st_take hT rfl rfl rfl rfl ((fun w => Sx.x_ge w hT rfl rfl rfl)) ?_
    clear hT; intro a hT
    replace hT := hT.keep [17, 7, 6, 12, 4, 0, 1] rfl
    refine Sx.ser_nil ?_
    refine Sx.then_normal (hK10 _ _ ?_)
    clear hK10
    -- cond 1
    refine Sx.wp_if hT rfl (fun hc11 => ?_) (fun hc11 => ?_)
    · try simp only [decide_eq_true_eq, decide_eq_false_iff_not, Bool.not_eq_true', Bool.not_eq_false', Bool.not_eq_true, Bool.not_eq_false, Bool.and_eq_true, Bool.or_eq_false_iff, beq_iff_eq, bne_iff_ne, Int.not_lt, Int.not_le, ne_eq] at hc11
      obtain ⟨k, rfl⟩ : ∃ k9, k = k9 + 1 := ⟨k - 1, by omega⟩
      refine wp_skip ?_
      refine Sx.then_normal (hK9 _ _ ?_)
      clear hK9
      refine wp_seq_k fun K12 hK12 => ?_
      refine wp_block ?_
      refine wp_seq_k fun K13 hK13 => ?_
      by_cases hgo : ∃ o9, gt L (((k + 1 : Nat)) : Int) = some o9
      · skip
        obtain ⟨old, hg⟩ := hgo
        have hg2 : gt L ((k : Int) + 1) = some old := hg
        -- region 7 (dir.go:62)
        refine Sx.wp_text [(0, .take), (1, .take), (2, .take), (3, .run), (4, .take), (5, .run), (6, .take), (7, .take), (8, .take), (9, .run), (10, .run), (11, .take)] rfl ?_
        refine Sx.st_take hT rfl rfl rfl rfl (Sx.x_move hT rfl rfl) ?_
        clear hT; intro a hT
        refine Sx.st_take hT rfl rfl rfl rfl (Sx.x_nilCheck hT rfl rfl) ?_
        clear hT; intro a hT
        refine Sx.st_take hT rfl rfl rfl rfl (Sx.x_fieldAddr hT rfl Try.fa72_0 rfl) ?_
        clear hT; intro a hT
        refine Sx.st_run hT rfl rfl rfl rfl (Sx.x_load1 hT rfl Try.fl70 rfl (by first | exact ((H.blk 0 rfl).nth rfl) | exact ((R.at H.ext).nth rfl))) ?_
        clear hT; intro a hT
        refine Sx.st_take hT rfl rfl rfl rfl (Sx.x_move hT rfl rfl) ?_
        clear hT; intro a hT
        refine Sx.st_run hT rfl rfl rfl rfl (Sx.x_lookupOk hT rfl Try.underlying70 (Go.Maps.int_keyed Try.underlying3) Try.ti37 rfl rfl (Go.Maps.keyOf_int_mk Try.underlying3 (Sx.wf64 (by omega) (by omega))) (hM.ext H.ext (not_No _))) ?_
        clear hT; intro a hT
        rw [(look_yes hg _).1, (look_yes hg (.int .i64 0)).2] at hT
        refine Sx.st_take hT rfl rfl rfl rfl (Sx.x_move hT rfl rfl) ?_
        clear hT; intro a hT
        refine Sx.st_take hT rfl rfl rfl rfl (Sx.x_extractL hT rfl rfl rfl) ?_
        clear hT; intro a hT
        refine Sx.st_take hT rfl rfl rfl rfl (Sx.x_extractL hT rfl rfl rfl) ?_
        clear hT; intro a hT
        refine Sx.st_eff hT rfl rfl rfl rfl (Sx.y_alloc hT rfl Try.ti37 rfl _) ?_
        clear hT; rintro _ w6 ⟨b2, rfl, N⟩ a hT
        replace H := H.new N; clear N
        refine Sx.st_act hT rfl rfl rfl (Sx.y_storeS hT rfl Try.ti37 rfl rfl rfl rfl rfl (H.blk 0 rfl) rfl) ?_
        rintro w7 ⟨hb, E, _⟩
        replace H := H.setB 0 rfl hb E rfl; clear hb E
        refine Sx.st_take hT rfl rfl rfl rfl (Sx.x_assign hT rfl rfl) ?_
        clear hT; intro a hT
        replace hT := hT.keep [9, 8, 17, 7, 6, 12, 4, 0, 1] rfl
        refine Sx.ser_nil ?_
        refine Sx.then_normal (hK13 _ _ ?_)
        clear hK13
        refine wp_seq_k fun K14 hK14 => ?_
        -- region 8 (dir.go:62)
        refine Sx.wp_text [(0, .take), (1, .take), (2, .run), (3, .take), (4, .run), (5, .take)] rfl ?_
        refine Sx.st_take hT rfl rfl rfl rfl (Sx.x_move hT rfl rfl) ?_
        clear hT; intro a hT
        refine Sx.st_take hT rfl rfl rfl rfl (Sx.x_move hT rfl rfl) ?_
        clear hT; intro a hT
        refine Sx.st_run hT rfl rfl rfl rfl (Sx.y_loadS hT rfl Try.underlying37 Try.ti37 rfl ((H.blk 0 rfl).seg (k := 4) rfl) (by rfl)) ?_
        clear hT; intro a hT
        refine Sx.st_take hT rfl rfl rfl rfl (Sx.x_move hT rfl rfl) ?_
        clear hT; intro a hT
        refine Sx.st_call hT rfl rfl rfl rfl rfl Try.can35 rfl (In_calls _ _ _) ?_
        rintro _ w8 ⟨rfl, E⟩
        refine ⟨_, rfl, ?_⟩
        clear hT; intro a hT
        replace H := H.pure E; clear E
        refine Sx.st_take hT rfl rfl rfl rfl (Sx.x_pick_t hT rfl rfl rfl) ?_
        clear hT; intro a hT
        replace hT := hT.keep [34, 9, 8, 17, 7, 6, 12, 4, 0, 1] rfl
        refine Sx.ser_nil ?_
        refine Sx.then_normal (hK14 _ _ ?_)
        clear hK14
        -- cond 2
        refine Sx.wp_if hT rfl (fun hc15 => ?_) (fun hc15 => ?_)
        · try simp only [decide_eq_true_eq, decide_eq_false_iff_not, Bool.not_eq_true', Bool.not_eq_false', Bool.not_eq_true, Bool.not_eq_false, Bool.and_eq_true, Bool.or_eq_false_iff, beq_iff_eq, bne_iff_ne, Int.not_lt, Int.not_le, ne_eq] at hc15
          have hin : inF old (ofF l) = true := hc15
          refine wp_seq_k fun K16 hK16 => ?_
          -- region 9 (dir.go:63)
          refine Sx.wp_text [(0, .run), (1, .run), (2, .take)] rfl ?_
          refine Sx.st_run hT rfl rfl rfl rfl (Sx.y_loadS hT rfl Try.underlying37 Try.ti37 rfl ((H.blk 0 rfl).seg (k := 4) rfl) (by rfl)) ?_
          clear hT; intro a hT
          refine Sx.st_act hT rfl rfl rfl (Sx.y_storeS hT rfl Try.ti37 rfl rfl rfl rfl rfl (H.blk 1 rfl) rfl) ?_
          rintro w9 ⟨hb, E, _⟩
          replace H := H.setB 1 rfl hb E rfl; clear hb E
          refine Sx.st_take hT rfl rfl rfl rfl (Sx.x_assign hT rfl rfl) ?_
          clear hT; intro a hT
          replace hT := hT.keep [5, 34, 9, 8, 17, 7, 6, 12, 4, 0, 1] rfl
          refine Sx.ser_nil ?_
          refine Sx.then_normal (hK16 _ _ ?_)
          clear hK16
          refine wp_ret ?_
          refine Sx.block_ret ?_
          refine Sx.then_ret ?_
          refine Sx.then_ret ?_
          refine Sx.block_ret ?_
          refine Sx.then_ret ?_
          refine Sx.done2 (fn := Try.f15) hT rfl (.cell (hT.get 4 _ rfl) (Sx.run_resS Try.underlying37 Try.ti37 ((H.blk 1 rfl).seg (k := 4) rfl) (by rfl))) (.tmp (hT.get 5 _ rfl)) ?_
          have e9 : routeL L l = some old := by
            unfold routeL
            rw [if_pos hky, ← hrt]
            exact route_yes hg hin
          rw [e9]
          exact ⟨rfl, H.ext⟩
        · try simp only [decide_eq_true_eq, decide_eq_false_iff_not, Bool.not_eq_true', Bool.not_eq_false', Bool.not_eq_true, Bool.not_eq_false, Bool.and_eq_true, Bool.or_eq_false_iff, beq_iff_eq, bne_iff_ne, Int.not_lt, Int.not_le, ne_eq] at hc15
          have hin : inF old (ofF l) = false := hc15
          refine wp_skip ?_
          refine Sx.block_normal ?_
          refine Sx.then_normal (hK12 _ _ ?_)
          clear hK12
          -- region 6 (dir.go:61)
          refine Sx.wp_text [(0, .take), (1, .take), (2, .take)] rfl ?_
          refine Sx.st_take hT rfl rfl rfl rfl (Sx.x_move hT rfl rfl) ?_
          clear hT; intro a hT
          refine Sx.st_take hT rfl rfl rfl rfl ((fun w => Sx.x_sub w hT rfl rfl rfl (Sx.wrap64 (by omega)))) ?_
          clear hT; intro a hT
          refine Sx.st_take hT rfl rfl rfl rfl (Sx.x_assign hT rfl rfl) ?_
          clear hT; intro a hT
          replace hT := hT.keep [7, 34, 9, 8, 17, 6, 12, 4, 0, 1] rfl
          refine Sx.ser_nil ?_
          refine Sx.then_normal ?_
          exact ⟨k, ⟨by omega, (route_out hg hin).symm.trans hrt⟩, ((hT.keep [7, 6, 12, 4, 0, 1] rfl).conv (by rw [show (((k + 1 : Nat)) : Int) - 1 = (k : Int) from by omega]; try rfl)), (H.keep [1] rfl rfl), (by omega)⟩
      · skip
        have hg : gt L (((k + 1 : Nat)) : Int) = none := by
          cases h9 : gt L (((k + 1 : Nat)) : Int) with
          | none => rfl
          | some y => exact absurd ⟨y, h9⟩ hgo
        have hg2 : gt L ((k : Int) + 1) = none := hg
        -- region 7 (dir.go:62)
        refine Sx.wp_text [(0, .take), (1, .take), (2, .take), (3, .run), (4, .take), (5, .run), (6, .take), (7, .take), (8, .take), (9, .run), (10, .run), (11, .take)] rfl ?_
        refine Sx.st_take hT rfl rfl rfl rfl (Sx.x_move hT rfl rfl) ?_
        clear hT; intro a hT
        refine Sx.st_take hT rfl rfl rfl rfl (Sx.x_nilCheck hT rfl rfl) ?_
        clear hT; intro a hT
        refine Sx.st_take hT rfl rfl rfl rfl (Sx.x_fieldAddr hT rfl Try.fa72_0 rfl) ?_
        clear hT; intro a hT
        refine Sx.st_run hT rfl rfl rfl rfl (Sx.x_load1 hT rfl Try.fl70 rfl (by first | exact ((H.blk 0 rfl).nth rfl) | exact ((R.at H.ext).nth rfl))) ?_
        clear hT; intro a hT
        refine Sx.st_take hT rfl rfl rfl rfl (Sx.x_move hT rfl rfl) ?_
        clear hT; intro a hT
        refine Sx.st_run hT rfl rfl rfl rfl (Sx.x_lookupOk hT rfl Try.underlying70 (Go.Maps.int_keyed Try.underlying3) Try.ti37 rfl rfl (Go.Maps.keyOf_int_mk Try.underlying3 (Sx.wf64 (by omega) (by omega))) (hM.ext H.ext (not_No _))) ?_
        clear hT; intro a hT
        rw [(look_no hg _).1, (look_no hg (.int .i64 0)).2] at hT
        refine Sx.st_take hT rfl rfl rfl rfl (Sx.x_move hT rfl rfl) ?_
        clear hT; intro a hT
        refine Sx.st_take hT rfl rfl rfl rfl (Sx.x_extractL hT rfl rfl rfl) ?_
        clear hT; intro a hT
        refine Sx.st_take hT rfl rfl rfl rfl (Sx.x_extractL hT rfl rfl rfl) ?_
        clear hT; intro a hT
        refine Sx.st_eff hT rfl rfl rfl rfl (Sx.y_alloc hT rfl Try.ti37 rfl _) ?_
        clear hT; rintro _ w10 ⟨b3, rfl, N⟩ a hT
        replace H := H.new N; clear N
        refine Sx.st_act hT rfl rfl rfl (Sx.y_storeS hT rfl Try.ti37 rfl rfl rfl rfl rfl (H.blk 0 rfl) rfl) ?_
        rintro w11 ⟨hb, E, _⟩
        replace H := H.setB 0 rfl hb E rfl; clear hb E
        refine Sx.st_take hT rfl rfl rfl rfl (Sx.x_assign hT rfl rfl) ?_
        clear hT; intro a hT
        replace hT := hT.keep [9, 8, 17, 7, 6, 12, 4, 0, 1] rfl
        refine Sx.ser_nil ?_
        refine Sx.then_normal (hK13 _ _ ?_)
        clear hK13
        refine wp_seq_k fun K17 hK17 => ?_
        -- region 8 (dir.go:62)
        refine Sx.wp_text [(0, .take), (1, .take), (2, .run), (3, .take), (4, .run), (5, .take)] rfl ?_
        refine Sx.st_take hT rfl rfl rfl rfl (Sx.x_move hT rfl rfl) ?_
        clear hT; intro a hT
        refine Sx.st_take hT rfl rfl rfl rfl (Sx.x_move hT rfl rfl) ?_
        clear hT; intro a hT
        refine Sx.st_runskip hT rfl rfl rfl rfl ?_
        clear hT; intro a hT
        refine Sx.st_skip hT rfl rfl rfl rfl ?_
        clear hT; intro a hT
        refine Sx.st_runskip hT rfl rfl rfl rfl ?_
        clear hT; intro a hT
        refine Sx.st_take hT rfl rfl rfl rfl (Sx.x_pick_f hT rfl rfl rfl) ?_
        clear hT; intro a hT
        replace hT := hT.keep [34, 9, 8, 17, 7, 6, 12, 4, 0, 1] rfl
        refine Sx.ser_nil ?_
        refine Sx.then_normal (hK17 _ _ ?_)
        clear hK17
        refine Sx.wp_if hT rfl (fun h => by cases h) (fun _ => ?_)
        skip
        refine wp_skip ?_
        refine Sx.block_normal ?_
        refine Sx.then_normal (hK12 _ _ ?_)
        clear hK12
        -- region 6 (dir.go:61)
        refine Sx.wp_text [(0, .take), (1, .take), (2, .take)] rfl ?_
        refine Sx.st_take hT rfl rfl rfl rfl (Sx.x_move hT rfl rfl) ?_
        clear hT; intro a hT
        refine Sx.st_take hT rfl rfl rfl rfl ((fun w => Sx.x_sub w hT rfl rfl rfl (Sx.wrap64 (by omega)))) ?_
        clear hT; intro a hT
        refine Sx.st_take hT rfl rfl rfl rfl (Sx.x_assign hT rfl rfl) ?_
        clear hT; intro a hT
        replace hT := hT.keep [7, 34, 9, 8, 17, 6, 12, 4, 0, 1] rfl
        refine Sx.ser_nil ?_
        refine Sx.then_normal ?_
        exact ⟨k, ⟨by omega, (route_none hg).symm.trans hrt⟩, ((hT.keep [7, 6, 12, 4, 0, 1] rfl).conv (by rw [show (((k + 1 : Nat)) : Int) - 1 = (k : Int) from by omega]; try rfl)), (H.keep [1] rfl rfl), (by omega)⟩
    · try simp only [decide_eq_true_eq, decide_eq_false_iff_not, Bool.not_eq_true', Bool.not_eq_false', Bool.not_eq_true, Bool.not_eq_false, Bool.and_eq_true, Bool.or_eq_false_iff, beq_iff_eq, bne_iff_ne, Int.not_lt, Int.not_le, ne_eq] at hc11
      have hk0 : k = 0 := by omega
      refine wp_exit ?_
      refine Sx.then_exit ?_
      refine Sx.then_exit ?_
      refine Sx.block_exit ?_
      refine Sx.then_normal (hK7 _ _ ?_)
      clear hK7
      refine wp_seq_k fun K18 hK18 => ?_
      -- region 10 (dir.go:66)
      refine Sx.wp_text [(0, .take), (1, .run), (2, .take)] rfl ?_
      refine Sx.st_take hT rfl rfl rfl rfl (Sx.x_bld hT rfl Try.bld37 rfl rfl) ?_
      clear hT; intro a hT
      refine Sx.st_act hT rfl rfl rfl (Sx.y_storeS hT rfl Try.ti37 rfl rfl rfl rfl rfl (H.blk 0 rfl) rfl) ?_
      rintro w12 ⟨hb, E, _⟩
      replace H := H.setB 0 rfl hb E rfl; clear hb E
      refine Sx.st_take hT rfl rfl rfl rfl (Sx.x_assign hT rfl rfl) ?_
      clear hT; intro a hT
      replace hT := hT.keep [5, 17, 7, 6, 12, 4, 0, 1] rfl
      refine Sx.ser_nil ?_
      refine Sx.then_normal (hK18 _ _ ?_)
      clear hK18
      refine wp_ret ?_
      refine Sx.done2 (fn := Try.f15) hT rfl (.cell (hT.get 4 _ rfl) (Sx.run_resS Try.underlying37 Try.ti37 ((H.blk 0 rfl).seg (k := 4) rfl) (by rfl))) (.tmp (hT.get 5 _ rfl)) ?_
      have e9 : routeL L l = none := by
        unfold routeL
        rw [if_pos hky, ← hrt, hk0]
        rfl
      rw [e9]
      exact ⟨rfl, H.ext⟩

end Go.Proofs.Ytakohabmcgponaa
