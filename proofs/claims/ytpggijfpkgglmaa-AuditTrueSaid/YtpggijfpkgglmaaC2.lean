/- Walks: keys and writes. -/
import Derived.Test.YtpggijfpkgglmaaC1
set_option linter.unusedSimpArgs false
set_option linter.unusedVariables false
namespace Go.Proofs.Ytpggijfpkgglmaa
open Sx
theorem Try.ti34 : Sx.TI Try.prog 34 (.slice none 0 0) 1 24 := .mk' (by kernel_rfl)
theorem Try.ti41 : Sx.TI Try.prog 41 (.agg #[.string .empty, .int .i64 0, .float .f64 0, .string .empty]) 4 48 := .mk' (by kernel_rfl)
theorem Try.ti73 : Sx.TI Try.prog 73 (.agg #[.string .empty, .int .i64 0, .float .f64 0, .string .empty]) 4 48 := .mk' (by kernel_rfl)
theorem Try.ti98 : Sx.TI Try.prog 98 (.slice none 0 0) 1 24 := .mk' (by kernel_rfl)
theorem Try.ti111 : Sx.TI Try.prog 111 (.agg #[.int .i64 0, .int .i64 0, .int .i64 0, .int .i64 0, .int .i64 0, .int .i64 0, .slice none 0 0, .slice none 0 0]) 8 96 := .mk' (by kernel_rfl)
theorem Try.fl34 : Sx.Flat Try.prog 34 := ⟨_, Try.underlying34, trivial⟩
theorem Try.fl98 : Sx.Flat Try.prog 98 := ⟨_, Try.underlying98, trivial⟩
theorem Try.fa41_0 : Sx.FA Try.prog 41 0 0 := ⟨_, _, _, _, _, Try.underlying41, rfl, rfl, Try.ti9, by decide⟩
theorem Try.fa41_1 : Sx.FA Try.prog 41 1 1 := ⟨_, _, _, _, _, Try.underlying41, rfl, rfl, Try.ti39, by decide⟩
theorem Try.fa73_0 : Sx.FA Try.prog 73 0 0 := ⟨_, _, _, _, _, Try.underlying73, rfl, rfl, Try.ti9, by decide⟩
theorem Try.fa73_1 : Sx.FA Try.prog 73 1 1 := ⟨_, _, _, _, _, Try.underlying73, rfl, rfl, Try.ti39, by decide⟩
theorem Try.fa111_0 : Sx.FA Try.prog 111 0 0 := ⟨_, _, _, _, _, Try.underlying111, rfl, rfl, Try.ti33, by decide⟩
theorem Try.fa111_1 : Sx.FA Try.prog 111 1 3 := ⟨_, _, _, _, _, Try.underlying111, rfl, rfl, Try.ti24, by decide⟩
theorem Try.fa111_2 : Sx.FA Try.prog 111 2 6 := ⟨_, _, _, _, _, Try.underlying111, rfl, rfl, Try.ti98, by decide⟩
theorem Try.fa111_3 : Sx.FA Try.prog 111 3 7 := ⟨_, _, _, _, _, Try.underlying111, rfl, rfl, Try.ti34, by decide⟩
theorem Try.bld24 : Sx.Bld Try.prog 24 #[.int .i64 0, .int .i64 0, .int .i64 0] #[(0, 1), (1, 1), (2, 1)] := ⟨_, _, _, _, Try.ti24, rfl, Try.underlying24, fun w => by simp [Sx.placesOf, Sx.run_sizeOf Try.ti3]⟩
theorem Try.can14 : Sx.Can Try.prog 14 := ⟨_, Try.func14, by kernel_rfl, rfl⟩
theorem Try.can33 : Sx.Can Try.prog 33 := ⟨_, Try.func33, by kernel_rfl, rfl⟩
theorem Try.can34 : Sx.Can Try.prog 34 := ⟨_, Try.func34, by kernel_rfl, rfl⟩
theorem Try.can38 : Sx.Can Try.prog 38 := ⟨_, Try.func38, by kernel_rfl, rfl⟩
theorem Try.can76 : Sx.Can Try.prog 76 := ⟨_, Try.func76, by kernel_rfl, rfl⟩
theorem Try.can82 : Sx.Can Try.prog 82 := ⟨_, Try.func82, by kernel_rfl, rfl⟩
theorem Try.can94 : Sx.Can Try.prog 94 := ⟨_, Try.func94, by kernel_rfl, rfl⟩
theorem Try.can95 : Sx.Can Try.prog 95 := ⟨_, Try.func95, by kernel_rfl, rfl⟩
theorem Try.eq24 (a0 : Int) (a1 : Int) (a2 : Int) (b0 : Int) (b1 : Int) (b2 : Int) : Sx.EqAt Try.prog 2 24 (.agg #[.int .i64 a0, .int .i64 a1, .int .i64 a2]) (.agg #[.int .i64 b0, .int .i64 b1, .int .i64 b2]) (decide (a0 = b0 ∧ a1 = b1 ∧ a2 = b2)) := by
  refine Sx.EqAt.as (Sx.EqAt.struct Try.underlying24 (by kernel_rfl) ⟨by decide, _, _, _, _, (Sx.run_part1 Try.fl3 rfl), (Sx.run_part1 Try.fl3 rfl), (Sx.EqAt.int Try.underlying3 _ _), ⟨by decide, _, _, _, _, (Sx.run_part1 Try.fl3 rfl), (Sx.run_part1 Try.fl3 rfl), (Sx.EqAt.int Try.underlying3 _ _), ⟨by decide, _, _, _, _, (Sx.run_part1 Try.fl3 rfl), (Sx.run_part1 Try.fl3 rfl), (Sx.EqAt.int Try.underlying3 _ _), rfl, rfl⟩, rfl⟩, rfl⟩) ?_
  simp [Bool.decide_and]
theorem rise_calls {ad : Option Addr} {c : Nat} (l : List Key) {w : World} (hs : Ss w ad kc 1 l) (hl : l.length ≤ 9223372036854775806) : Calls Try.prog 94 #[.slice ad l.length c] w fun e w' => e = .returned (.bool (keysOk l && decide (l.length ≤ 16))) ∧ Ext No w w' := by
  have R : Ro w No _ := Ro.of fun w' x => hs.ext_no x
  refine Sx.calls_into Try.func94 rfl Try.ntmps94 rfl fun a hT => ?_
  replace hT := hT.keep [0] rfl
  have H : Sx.Hp w (Sx.No) w [] := Sx.Hp.start _ _
  refine wp_seq_k fun K1 hK1 => ?_
  refine Sx.wp_text [(0, .take)] rfl ?_
  refine Sx.st_take hT rfl rfl rfl rfl (Sx.x_assign hT rfl rfl) ?_
  clear hT; intro a hT
  replace hT := hT.keep [2, 0] rfl
  refine Sx.ser_nil ?_
  refine Sx.then_normal (hK1 _ _ ?_)
  clear hK1
  refine wp_seq_k fun K2 hK2 => ?_
  refine wp_seq_k fun K3 hK3 => ?_
  refine Sx.wp_text [(0, .take), (1, .take), (2, .take)] rfl ?_
  refine Sx.st_take hT rfl rfl rfl rfl (Sx.x_move hT rfl rfl) ?_
  clear hT; intro a hT
  refine Sx.st_take hT rfl rfl rfl rfl (Sx.x_len_slice hT rfl rfl Try.underlying98 rfl) ?_
  clear hT; intro a hT
  refine Sx.st_take hT rfl rfl rfl rfl (Sx.x_move hT rfl rfl) ?_
  clear hT; intro a hT
  replace hT := hT.keep [7, 6, 5, 2, 0] rfl
  refine Sx.ser_nil ?_
  refine Sx.then_normal (hK3 _ _ ?_)
  clear hK3
  refine wp_block ?_
  refine Sx.wp_loopH (G := Nat) (fun k => [(7, .int .i64 (k : Int))]) (fun k => []) (fun k => k ≤ l.length ∧ ∀ i, i < k → kbad l i = false) (fun k => l.length - k) 0 (hT.keep [7, 6, 5, 0] rfl) (H.keep [] rfl rfl) (⟨Nat.zero_le _, fun i h => by omega⟩) ?_
  clear hT H
  rintro k a w1 hJ hT H
  replace hT := hT.keep [7, 6, 5, 0] rfl
  replace H := H.keep [] rfl rfl
  obtain ⟨hk, hok⟩ := hJ
  refine wp_seq_k fun K4 hK4 => ?_
  refine Sx.wp_text [(0, .take)] rfl ?_
  refine Sx.st_take hT rfl rfl rfl rfl ((fun w => Sx.x_lt w hT rfl rfl rfl)) ?_
  clear hT; intro a hT
  replace hT := hT.keep [8, 7, 6, 5, 0] rfl
  refine Sx.ser_nil ?_
  refine Sx.then_normal (hK4 _ _ ?_)
  clear hK4
  refine wp_seq_k fun K5 hK5 => ?_
  refine Sx.wp_if hT rfl (fun hc6 => ?_) (fun hc6 => ?_)
  · try simp only [Sx.bq] at hc6
    obtain ⟨o, ho⟩ : ∃ q9, l[k]? = some q9 := ⟨_, List.getElem?_eq_getElem (by omega)⟩
    refine wp_skip ?_
    refine Sx.then_normal (hK5 _ _ ?_)
    clear hK5
    refine wp_seq_k fun K7 hK7 => ?_
    refine wp_block ?_
    refine wp_seq_k fun K8 hK8 => ?_
    refine Sx.wp_text [(0, .take), (1, .take), (2, .run), (3, .take), (4, .take)] rfl ?_
    refine Sx.st_take hT rfl rfl rfl rfl (Sx.x_move hT rfl rfl) ?_
    clear hT; intro a hT
    refine Sx.st_take hT rfl rfl rfl rfl (Sx.x_index (k := k) hT rfl Try.underlying98 Try.ti9 (R.at H.ext).sv rfl rfl (by first | rfl | omega) (by omega)) ?_
    clear hT; intro a hT
    refine Sx.st_run hT rfl rfl rfl rfl (Sx.x_load1 hT rfl Try.fl9 rfl (by first | exact ((R.at H.ext).cell (j := 0) kc_len ho rfl) | exact ((R.at H.ext).cell (j := 0) kc_len hy rfl))) ?_
    clear hT; intro a hT
    refine Sx.st_take hT rfl rfl rfl rfl (Sx.x_assign hT rfl rfl) ?_
    clear hT; intro a hT
    refine Sx.st_take hT rfl rfl rfl rfl (Sx.x_assign hT rfl rfl) ?_
    clear hT; intro a hT
    replace hT := hT.keep [4, 3, 8, 7, 6, 5, 0] rfl
    refine Sx.ser_nil ?_
    refine Sx.then_normal (hK8 _ _ ?_)
    clear hK8
    refine wp_seq_k fun K9 hK9 => ?_
    refine Sx.wp_text [(0, .take), (1, .run), (2, .take), (3, .take), (4, .take), (5, .take), (6, .take), (7, .take), (8, .take), (9, .take), (10, .take), (11, .run), (12, .take), (13, .take), (14, .take), (15, .take)] rfl ?_
    refine Sx.st_take hT rfl rfl rfl rfl (Sx.x_move hT rfl rfl) ?_
    clear hT; intro a hT
    refine Sx.st_call hT rfl rfl rfl rfl rfl Try.can67 rfl (Key_calls _ _) ?_
    rintro _ w2 ⟨rfl, E⟩
    refine ⟨_, rfl, ?_⟩
    clear hT; intro a hT
    replace H := H.pure E; clear E
    refine Sx.st_take hT rfl rfl rfl rfl (Sx.x_not hT rfl rfl) ?_
    clear hT; intro a hT
    refine Sx.st_take hT rfl rfl rfl rfl (Sx.x_move hT rfl rfl) ?_
    clear hT; intro a hT
    refine Sx.Sl.two hT 15 rfl (fun hc10 hT => ?_) (fun hc10 hT => ?_)
    · try simp only [Sx.bq] at hc10
      have hky : keyB o = false := hc10
      refine Sx.st_skip hT rfl rfl rfl rfl ?_
      clear hT; intro a hT
      refine Sx.st_skip hT rfl rfl rfl rfl ?_
      clear hT; intro a hT
      refine Sx.st_skip hT rfl rfl rfl rfl ?_
      clear hT; intro a hT
      refine Sx.st_skip hT rfl rfl rfl rfl ?_
      clear hT; intro a hT
      refine Sx.st_skip hT rfl rfl rfl rfl ?_
      clear hT; intro a hT
      refine Sx.st_skip hT rfl rfl rfl rfl ?_
      clear hT; intro a hT
      refine Sx.st_skip hT rfl rfl rfl rfl ?_
      clear hT; intro a hT
      refine Sx.st_runskip hT rfl rfl rfl rfl ?_
      clear hT; intro a hT
      refine Sx.st_skip hT rfl rfl rfl rfl ?_
      clear hT; intro a hT
      refine Sx.st_skip hT rfl rfl rfl rfl ?_
      clear hT; intro a hT
      refine Sx.st_skip hT rfl rfl rfl rfl ?_
      clear hT; intro a hT
      refine Sx.st_take hT rfl rfl rfl rfl (Sx.x_pick_t hT rfl rfl rfl) ?_
      clear hT; intro a hT
      replace hT := hT.keep [27, 4, 3, 8, 7, 6, 5, 0] rfl
      refine Sx.ser_nil ?_
      refine Sx.then_normal (hK9 _ _ ?_)
      clear hK9
      refine Sx.wp_if hT rfl (fun _ => ?_) (fun h => by cases h)
      have hkb : kbad l k = true := kbad_key ho hky
      refine wp_seq_k fun K11 hK11 => ?_
      refine Sx.wp_text [(0, .take)] rfl ?_
      refine Sx.st_take hT rfl rfl rfl rfl (Sx.x_assign hT rfl rfl) ?_
      clear hT; intro a hT
      replace hT := hT.keep [2, 27, 4, 3, 8, 7, 6, 5, 0] rfl
      refine Sx.ser_nil ?_
      refine Sx.then_normal (hK11 _ _ ?_)
      clear hK11
      refine wp_ret ?_
      refine Sx.block_ret ?_
      refine Sx.then_ret ?_
      refine Sx.then_ret ?_
      refine Sx.block_ret ?_
      refine Sx.then_ret ?_
      refine Sx.done1 (fn := Try.f94) hT rfl (.tmp (hT.get 2 _ rfl)) ?_
      refine ⟨ret_b ?_, H.ext⟩
      unfold keysOk
      rw [allOk_no (by omega) (kbad_key ho hky)]
      rfl
    · try simp only [Sx.bq] at hc10
      have hky : keyB o = true := hc10
      refine Sx.st_take hT rfl rfl rfl rfl (Sx.x_move hT rfl rfl) ?_
      clear hT; intro a hT
      refine Sx.st_take hT rfl rfl rfl rfl ((fun w => Sx.x_gt w hT rfl rfl rfl)) ?_
      clear hT; intro a hT
      refine Sx.st_take hT rfl rfl rfl rfl (Sx.x_move hT rfl rfl) ?_
      clear hT; intro a hT
      refine Sx.Sl.two hT 18 rfl (fun hc12 hT => ?_) (fun hc12 hT => ?_)
      · try simp only [Sx.bq] at hc12
        obtain ⟨y, hy⟩ : ∃ q9, l[k - 1]? = some q9 := ⟨_, List.getElem?_eq_getElem (by omega)⟩
        have hkp := kbad_pos ho hky (by omega) hy
        refine Sx.st_take hT rfl rfl rfl rfl (Sx.x_move hT rfl rfl) ?_
        clear hT; intro a hT
        refine Sx.st_take hT rfl rfl rfl rfl (Sx.x_move hT rfl rfl) ?_
        clear hT; intro a hT
        refine Sx.st_take hT rfl rfl rfl rfl ((fun w => Sx.x_sub w hT rfl rfl rfl (Sx.wrap64 (by omega)))) ?_
        clear hT; intro a hT
        refine Sx.st_take hT rfl rfl rfl rfl (Sx.x_index (k := k - 1) hT rfl Try.underlying98 Try.ti9 (R.at H.ext).sv rfl rfl (by first | rfl | omega) (by omega)) ?_
        clear hT; intro a hT
        refine Sx.st_run hT rfl rfl rfl rfl (Sx.x_load1 hT rfl Try.fl9 rfl (by first | exact ((R.at H.ext).cell (j := 0) kc_len ho rfl) | exact ((R.at H.ext).cell (j := 0) kc_len hy rfl))) ?_
        clear hT; intro a hT
        refine Sx.st_take hT rfl rfl rfl rfl (Sx.x_move hT rfl rfl) ?_
        clear hT; intro a hT
        refine Sx.st_take hT rfl rfl rfl rfl ((fun w => Sx.x_strge w hT rfl rfl rfl)) ?_
        clear hT; intro a hT
        refine Sx.st_take hT rfl rfl rfl rfl (Sx.x_pick_t hT rfl rfl rfl) ?_
        clear hT; intro a hT
        refine Sx.st_take hT rfl rfl rfl rfl (Sx.x_pick_f hT rfl rfl rfl) ?_
        clear hT; intro a hT
        replace hT := hT.keep [27, 4, 3, 8, 7, 6, 5, 0] rfl
        refine Sx.ser_nil ?_
        refine Sx.then_normal (hK9 _ _ ?_)
        clear hK9
        refine Sx.wp_if hT rfl (fun hc13 => ?_) (fun hc13 => ?_)
        · try simp only [Sx.bq] at hc13
          have hkb : kbad l k = true := by rw [hkp]; simpa using hc13
          refine wp_seq_k fun K14 hK14 => ?_
          refine Sx.wp_text [(0, .take)] rfl ?_
          refine Sx.st_take hT rfl rfl rfl rfl (Sx.x_assign hT rfl rfl) ?_
          clear hT; intro a hT
          replace hT := hT.keep [2, 27, 4, 3, 8, 7, 6, 5, 0] rfl
          refine Sx.ser_nil ?_
          refine Sx.then_normal (hK14 _ _ ?_)
          clear hK14
          refine wp_ret ?_
          refine Sx.block_ret ?_
          refine Sx.then_ret ?_
          refine Sx.then_ret ?_
          refine Sx.block_ret ?_
          refine Sx.then_ret ?_
          refine Sx.done1 (fn := Try.f94) hT rfl (.tmp (hT.get 2 _ rfl)) ?_
          refine ⟨ret_b ?_, H.ext⟩
          unfold keysOk
          rw [allOk_no (by omega) (hkb)]
          rfl
        · try simp only [Sx.bq] at hc13
          have hkb : kbad l k = false := by rw [hkp]; simpa using hc13
          refine wp_skip ?_
          refine Sx.block_normal ?_
          refine Sx.then_normal (hK7 _ _ ?_)
          clear hK7
          refine Sx.wp_text [(0, .take), (1, .take)] rfl ?_
          refine Sx.st_take hT rfl rfl rfl rfl ((fun w => Sx.x_add w hT rfl rfl rfl (Sx.wrap64 (by omega)))) ?_
          clear hT; intro a hT
          refine Sx.st_take hT rfl rfl rfl rfl (Sx.x_move hT rfl rfl) ?_
          clear hT; intro a hT
          replace hT := hT.keep [7, 27, 4, 3, 8, 6, 5, 0] rfl
          refine Sx.ser_nil ?_
          refine Sx.then_normal ?_
          exact ⟨k + 1, ⟨by omega, ok_up hok hkb⟩, (hT.keep [7, 6, 5, 0] rfl), (H.keep [] rfl rfl), by omega⟩
      · try simp only [Sx.bq] at hc12
        have hkb := kbad_zero ho hky (by omega)
        refine Sx.st_skip hT rfl rfl rfl rfl ?_
        clear hT; intro a hT
        refine Sx.st_skip hT rfl rfl rfl rfl ?_
        clear hT; intro a hT
        refine Sx.st_skip hT rfl rfl rfl rfl ?_
        clear hT; intro a hT
        refine Sx.st_skip hT rfl rfl rfl rfl ?_
        clear hT; intro a hT
        refine Sx.st_runskip hT rfl rfl rfl rfl ?_
        clear hT; intro a hT
        refine Sx.st_skip hT rfl rfl rfl rfl ?_
        clear hT; intro a hT
        refine Sx.st_skip hT rfl rfl rfl rfl ?_
        clear hT; intro a hT
        refine Sx.st_take hT rfl rfl rfl rfl (Sx.x_pick_f hT rfl rfl rfl) ?_
        clear hT; intro a hT
        refine Sx.st_take hT rfl rfl rfl rfl (Sx.x_pick_f hT rfl rfl rfl) ?_
        clear hT; intro a hT
        replace hT := hT.keep [27, 4, 3, 8, 7, 6, 5, 0] rfl
        refine Sx.ser_nil ?_
        refine Sx.then_normal (hK9 _ _ ?_)
        clear hK9
        refine Sx.wp_if hT rfl (fun h => by cases h) (fun _ => ?_)
        skip
        refine wp_skip ?_
        refine Sx.block_normal ?_
        refine Sx.then_normal (hK7 _ _ ?_)
        clear hK7
        refine Sx.wp_text [(0, .take), (1, .take)] rfl ?_
        refine Sx.st_take hT rfl rfl rfl rfl ((fun w => Sx.x_add w hT rfl rfl rfl (Sx.wrap64 (by omega)))) ?_
        clear hT; intro a hT
        refine Sx.st_take hT rfl rfl rfl rfl (Sx.x_move hT rfl rfl) ?_
        clear hT; intro a hT
        replace hT := hT.keep [7, 27, 4, 3, 8, 6, 5, 0] rfl
        refine Sx.ser_nil ?_
        refine Sx.then_normal ?_
        exact ⟨k + 1, ⟨by omega, ok_up hok hkb⟩, (hT.keep [7, 6, 5, 0] rfl), (H.keep [] rfl rfl), by omega⟩
  · try simp only [Sx.bq] at hc6
    have hkl : k = l.length := by omega
    rw [hkl] at hok
    refine wp_exit ?_
    refine Sx.then_exit ?_
    refine Sx.then_exit ?_
    refine Sx.block_exit ?_
    refine Sx.then_normal (hK2 _ _ ?_)
    clear hK2
    refine wp_seq_k fun K15 hK15 => ?_
    refine Sx.wp_text [(0, .take), (1, .take), (2, .take), (3, .take)] rfl ?_
    refine Sx.st_take hT rfl rfl rfl rfl (Sx.x_move hT rfl rfl) ?_
    clear hT; intro a hT
    refine Sx.st_take hT rfl rfl rfl rfl (Sx.x_len_slice hT rfl rfl Try.underlying98 rfl) ?_
    clear hT; intro a hT
    refine Sx.st_take hT rfl rfl rfl rfl ((fun w => Sx.x_le w hT rfl rfl rfl)) ?_
    clear hT; intro a hT
    refine Sx.st_take hT rfl rfl rfl rfl (Sx.x_assign hT rfl rfl) ?_
    clear hT; intro a hT
    replace hT := hT.keep [2, 8, 7, 6, 5, 0] rfl
    refine Sx.ser_nil ?_
    refine Sx.then_normal (hK15 _ _ ?_)
    clear hK15
    refine wp_ret ?_
    refine Sx.done1 (fn := Try.f94) hT rfl (.tmp (hT.get 2 _ rfl)) ?_
    refine ⟨ret_b ?_, H.ext⟩
    unfold keysOk
    rw [allOk_of hok, Bool.true_and]
    exact decide_eq_decide.2 (by omega)

theorem writeKeys_calls {ad : Option Addr} {c : Nat} (l : List Wt) {w : World} (hs : Ss w ad Wt.cells 4 l) (hl : l.length ≤ 1000000) : Calls Try.prog 95 #[.slice ad l.length c] w fun e w' => ∃ ad' c', e = .returned (.slice ad' (wkeys l).length c') ∧ Hp w No w' [cR 9 1 ad' (wkeys l).length c' ((wkeys l).flatMap kc)] := by
  have R : Ro w No _ := Ro.of fun w' x => hs.ext_no x
  refine Sx.calls_into Try.func95 rfl Try.ntmps95 rfl fun a hT => ?_
  replace hT := hT.keep [0] rfl
  have H : Sx.Hp w (Sx.No) w [] := Sx.Hp.start _ _
  refine wp_seq_k fun K1 hK1 => ?_
  refine Sx.wp_text [(0, .take)] rfl ?_
  refine Sx.st_take hT rfl rfl rfl rfl (Sx.x_assign hT rfl rfl) ?_
  clear hT; intro a hT
  replace hT := hT.keep [2, 0] rfl
  refine Sx.ser_nil ?_
  refine Sx.then_normal (hK1 _ _ ?_)
  clear hK1
  refine wp_seq_k fun K2 hK2 => ?_
  refine Sx.wp_text [(0, .take)] rfl ?_
  refine Sx.st_take hT rfl rfl rfl rfl (Sx.x_assign hT rfl rfl) ?_
  clear hT; intro a hT
  replace hT := hT.keep [3, 2, 0] rfl
  refine Sx.ser_nil ?_
  refine Sx.then_normal (hK2 _ _ ?_)
  clear hK2
  refine wp_seq_k fun K3 hK3 => ?_
  refine wp_seq_k fun K4 hK4 => ?_
  refine Sx.wp_text [(0, .take), (1, .take), (2, .take)] rfl ?_
  refine Sx.st_take hT rfl rfl rfl rfl (Sx.x_move hT rfl rfl) ?_
  clear hT; intro a hT
  refine Sx.st_take hT rfl rfl rfl rfl (Sx.x_len_slice hT rfl rfl Try.underlying34 rfl) ?_
  clear hT; intro a hT
  refine Sx.st_take hT rfl rfl rfl rfl (Sx.x_move hT rfl rfl) ?_
  clear hT; intro a hT
  replace hT := hT.keep [8, 7, 6, 3, 2, 0] rfl
  refine Sx.ser_nil ?_
  refine Sx.then_normal (hK4 _ _ ?_)
  clear hK4
  refine wp_block ?_
  replace H := H.nilR 9 1
  refine Sx.wp_loopH (G := Nat × Option Addr × Nat) (fun ⟨k, ad2, c2⟩ => [(8, .int .i64 (k : Int)), (3, .slice ad2 k c2)]) (fun ⟨k, ad2, c2⟩ => [cR 9 1 ad2 k c2 (((l.take k).map Wt.key).flatMap kc)]) (fun ⟨k, ad2, c2⟩ => k ≤ l.length) (fun ⟨k, ad2, c2⟩ => l.length - k) (0, none, 0) (hT.keep [8, 3, 7, 6, 2, 0] rfl) (H.keep [0] rfl rfl) (Nat.zero_le _) ?_
  clear hT H
  rintro ⟨k, ad2, c2⟩ a w1 hJ hT H
  replace hT := hT.keep [8, 3, 7, 6, 2, 0] rfl
  replace H := H.keep [0] rfl rfl
  have hk : k ≤ l.length := hJ
  refine wp_seq_k fun K5 hK5 => ?_
  refine Sx.wp_text [(0, .take)] rfl ?_
  refine Sx.st_take hT rfl rfl rfl rfl ((fun w => Sx.x_lt w hT rfl rfl rfl)) ?_
  clear hT; intro a hT
  replace hT := hT.keep [9, 8, 3, 7, 6, 2, 0] rfl
  refine Sx.ser_nil ?_
  refine Sx.then_normal (hK5 _ _ ?_)
  clear hK5
  refine wp_seq_k fun K6 hK6 => ?_
  refine Sx.wp_if hT rfl (fun hc7 => ?_) (fun hc7 => ?_)
  · try simp only [Sx.bq] at hc7
    obtain ⟨o, ho⟩ : ∃ q9, l[k]? = some q9 := ⟨_, List.getElem?_eq_getElem (by omega)⟩
    refine wp_skip ?_
    refine Sx.then_normal (hK6 _ _ ?_)
    clear hK6
    refine wp_seq_k fun K8 hK8 => ?_
    refine wp_block ?_
    refine wp_seq_k fun K9 hK9 => ?_
    refine Sx.wp_text [(0, .take), (1, .run), (2, .run), (3, .run)] rfl ?_
    refine Sx.st_take hT rfl rfl rfl rfl (Sx.x_index (k := k) hT rfl Try.underlying34 Try.ti41 (R.at H.ext).sv rfl rfl (by first | rfl | omega) (by omega)) ?_
    clear hT; intro a hT
    refine Sx.st_run hT rfl rfl rfl rfl (Sx.y_loadS hT rfl Try.underlying41 Try.ti41 rfl ((R.at H.ext).cs Wt.len ho) (by rfl)) ?_
    clear hT; intro a hT
    refine Sx.st_eff hT rfl rfl rfl rfl (Sx.y_alloc hT rfl Try.ti41 rfl _) ?_
    clear hT; rintro _ w2 ⟨b1, rfl, N⟩ a hT
    replace H := H.new N; clear N
    refine Sx.st_act hT rfl rfl rfl (Sx.y_storeS hT rfl Try.ti41 rfl rfl rfl rfl rfl (H.blk 0 rfl) rfl) ?_
    rintro w3 ⟨hb, E, _⟩
    replace H := H.setB 0 rfl hb E rfl; clear hb E
    replace hT := hT.keep [5, 9, 8, 3, 7, 6, 2, 0] rfl
    refine Sx.ser_nil ?_
    refine Sx.then_normal (hK9 _ _ ?_)
    clear hK9
    refine Sx.wp_text [(0, .take), (1, .take), (2, .run), (3, .run), (4, .run), (5, .take)] rfl ?_
    refine Sx.st_take hT rfl rfl rfl rfl (Sx.x_move hT rfl rfl) ?_
    clear hT; intro a hT
    refine Sx.st_take hT rfl rfl rfl rfl (Sx.x_fieldAddr hT rfl Try.fa41_0 rfl) ?_
    clear hT; intro a hT
    refine Sx.st_run hT rfl rfl rfl rfl (Sx.x_load1 hT rfl Try.fl9 rfl ((H.blk 0 rfl).nth rfl)) ?_
    clear hT; intro a hT
    refine Sx.st_eff hT rfl rfl rfl rfl (Sx.y_slice1 hT rfl Try.underlying98 Try.ti9 rfl rfl rfl rfl rfl rfl _) ?_
    clear hT; rintro _ w4 ⟨b2, rfl, N⟩ a hT
    replace H := H.new N; clear N
    refine Sx.st_eff hT rfl rfl rfl rfl (Sx.x_append hT rfl rfl Try.underlying98 Try.ti9 rfl (by decide) rfl rfl (H.row 2 rfl) ((H.blk 0 rfl).sv1 rfl) (by simp [Value.oneCell']) (fun h => by cases h) (by unfold maxLen; omega) (by omega)) ?_
    rintro _ w5 ⟨ad5, c5, rfl, hr, E, hown, -⟩
    clear hT; intro a hT
    replace H := H.setR 2 rfl hr E hown rfl; clear hr E hown
    refine Sx.st_take hT rfl rfl rfl rfl (Sx.x_assign hT rfl rfl) ?_
    clear hT; intro a hT
    replace hT := hT.keep [3, 5, 9, 8, 7, 6, 2, 0] rfl
    refine Sx.ser_nil ?_
    refine Sx.block_normal ?_
    refine Sx.then_normal (hK8 _ _ ?_)
    clear hK8
    refine Sx.wp_text [(0, .take), (1, .take)] rfl ?_
    refine Sx.st_take hT rfl rfl rfl rfl ((fun w => Sx.x_add w hT rfl rfl rfl (Sx.wrap64 (by omega)))) ?_
    clear hT; intro a hT
    refine Sx.st_take hT rfl rfl rfl rfl (Sx.x_move hT rfl rfl) ?_
    clear hT; intro a hT
    replace hT := hT.keep [8, 3, 5, 9, 7, 6, 2, 0] rfl
    refine Sx.ser_nil ?_
    refine Sx.then_normal ?_
    rw [tk_k ho] at H
    exact ⟨(k + 1, ad5, c5), (show k + 1 ≤ _ by omega), (hT.keep [8, 3, 7, 6, 2, 0] rfl), (H.keep [2] rfl rfl), by show _ - (k + 1) < _ - k; omega⟩
  · try simp only [Sx.bq] at hc7
    have hkl : k = l.length := by omega
    rw [hkl] at H hT
    rw [List.take_length] at H
    refine wp_exit ?_
    refine Sx.then_exit ?_
    refine Sx.then_exit ?_
    refine Sx.block_exit ?_
    refine Sx.then_normal (hK3 _ _ ?_)
    clear hK3
    refine wp_seq_k fun K10 hK10 => ?_
    refine Sx.wp_text [(0, .take), (1, .take)] rfl ?_
    refine Sx.st_take hT rfl rfl rfl rfl (Sx.x_move hT rfl rfl) ?_
    clear hT; intro a hT
    refine Sx.st_take hT rfl rfl rfl rfl (Sx.x_assign hT rfl rfl) ?_
    clear hT; intro a hT
    replace hT := hT.keep [2, 9, 8, 3, 7, 6, 0] rfl
    refine Sx.ser_nil ?_
    refine Sx.then_normal (hK10 _ _ ?_)
    clear hK10
    refine wp_ret ?_
    refine Sx.done1 (fn := Try.f95) hT rfl (.tmp (hT.get 2 _ rfl)) ?_
    rw [show (wkeys l).length = l.length from by unfold wkeys; rw [List.length_map]]
    exact ⟨_, _, rfl, H.keep [0] rfl rfl⟩

theorem PendingMay_calls (t : Tn) (s : Stp) {ad : Option Addr} {c : Nat} (rl : List Key) {ad2 : Option Addr} {c2 : Nat} (l : List Wt) {w : World} (hs : Ss w ad kc 1 rl) (hs2 : Ss w ad2 Wt.cells 4 l) (hrl : rl.length ≤ 9223372036854775806) (hl : l.length ≤ 1000000) : Calls Try.prog 76 #[.agg #[.int .i64 t.co, .int .i64 t.li, .int .i64 t.sq, .int .i64 s.w, .int .i64 s.l, .int .i64 s.n, .slice ad rl.length c, .slice ad2 l.length c2]] w fun e w' => e = .returned (.int .i64 (pmay t s rl l)) ∧ Ext No w w' := by
  have R : Ro w No _ := Ro.of fun w' x => hs.ext_no x
  have R2 : Ro w No _ := Ro.of fun w' x => hs2.ext_no x
  refine Sx.calls_into Try.func76 rfl Try.ntmps76 rfl fun a hT => ?_
  replace hT := hT.keep [0] rfl
  have H : Sx.Hp w (Sx.No) w [] := Sx.Hp.start _ _
  refine wp_seq_k fun K1 hK1 => ?_
  refine Sx.wp_text [(0, .run), (1, .take)] rfl ?_
  refine Sx.st_eff hT rfl rfl rfl rfl (Sx.y_box hT rfl rfl rfl _) ?_
  clear hT; rintro _ w1 ⟨b1, rfl, N⟩ a hT
  replace H := H.new N; clear N
  refine Sx.st_take hT rfl rfl rfl rfl (Sx.x_assign hT rfl rfl) ?_
  clear hT; intro a hT
  replace hT := hT.keep [2, 1, 0] rfl
  refine Sx.ser_nil ?_
  refine Sx.then_normal (hK1 _ _ ?_)
  clear hK1
  refine wp_seq_k fun K2 hK2 => ?_
  refine wp_block ?_
  refine wp_seq_k fun K3 hK3 => ?_
  refine Sx.wp_text [(0, .take), (1, .run), (2, .run), (3, .take), (4, .take)] rfl ?_
  refine Sx.st_take hT rfl rfl rfl rfl (Sx.x_fieldAddr hT rfl Try.fa111_0 rfl) ?_
  clear hT; intro a hT
  refine Sx.st_run hT rfl rfl rfl rfl (Sx.y_loadS hT rfl Try.underlying33 Try.ti33 rfl ((H.blk 0 rfl).seg (k := 3) rfl) (by rfl)) ?_
  clear hT; intro a hT
  refine Sx.st_call hT rfl rfl rfl rfl rfl Try.can92 rfl (TxnMay_calls _ _) ?_
  rintro _ w2 ⟨rfl, E⟩
  refine ⟨_, rfl, ?_⟩
  clear hT; intro a hT
  replace H := H.pure E; clear E
  refine Sx.st_take hT rfl rfl rfl rfl (Sx.x_not hT rfl rfl) ?_
  clear hT; intro a hT
  refine Sx.st_take hT rfl rfl rfl rfl (Sx.x_assign hT rfl rfl) ?_
  clear hT; intro a hT
  replace hT := hT.keep [5, 2, 1, 0] rfl
  refine Sx.ser_nil ?_
  refine Sx.then_normal (hK3 _ _ ?_)
  clear hK3
  refine Sx.wp_if hT rfl (fun hc4 => ?_) (fun hc4 => ?_)
  · try simp only [Sx.bq] at hc4
    have ht : mayT t = false := hc4
    refine wp_seq_k fun K5 hK5 => ?_
    refine Sx.wp_text [(0, .take)] rfl ?_
    refine Sx.st_take hT rfl rfl rfl rfl (Sx.x_assign hT rfl rfl) ?_
    clear hT; intro a hT
    replace hT := hT.keep [2, 5, 1, 0] rfl
    refine Sx.ser_nil ?_
    refine Sx.then_normal (hK5 _ _ ?_)
    clear hK5
    refine wp_ret ?_
    refine Sx.block_ret ?_
    refine Sx.then_ret ?_
    clear hK2
    refine Sx.done1 (fn := Try.f76) hT rfl (.tmp (hT.get 2 _ rfl)) ?_
    refine ⟨ret_i ?_, H.ext⟩
    unfold pmay
    rw [if_pos ht]
  · try simp only [Sx.bq] at hc4
    have ht : mayT t = true := hc4
    refine wp_seq_k fun K6 hK6 => ?_
    refine Sx.wp_text [(0, .take), (1, .run), (2, .run), (3, .take), (4, .take), (5, .take), (6, .run), (7, .take), (8, .take), (9, .take), (10, .take)] rfl ?_
    refine Sx.st_take hT rfl rfl rfl rfl (Sx.x_fieldAddr hT rfl Try.fa111_1 rfl) ?_
    clear hT; intro a hT
    refine Sx.st_run hT rfl rfl rfl rfl (Sx.y_loadS hT rfl Try.underlying24 Try.ti24 rfl ((H.blk 0 rfl).seg (k := 3) rfl) (by rfl)) ?_
    clear hT; intro a hT
    refine Sx.st_call hT rfl rfl rfl rfl rfl Try.can93 rfl (MayS_calls _ _) ?_
    rintro _ w3 ⟨rfl, E⟩
    refine ⟨_, rfl, ?_⟩
    clear hT; intro a hT
    replace H := H.pure E; clear E
    refine Sx.st_take hT rfl rfl rfl rfl (Sx.x_not hT rfl rfl) ?_
    clear hT; intro a hT
    refine Sx.st_take hT rfl rfl rfl rfl (Sx.x_move hT rfl rfl) ?_
    clear hT; intro a hT
    refine Sx.Sl.two hT 15 rfl (fun hc7 hT => ?_) (fun hc7 hT => ?_)
    · try simp only [Sx.bq] at hc7
      refine Sx.st_skip hT rfl rfl rfl rfl ?_
      clear hT; intro a hT
      refine Sx.st_runskip hT rfl rfl rfl rfl ?_
      clear hT; intro a hT
      refine Sx.st_skip hT rfl rfl rfl rfl ?_
      clear hT; intro a hT
      refine Sx.st_skip hT rfl rfl rfl rfl ?_
      clear hT; intro a hT
      refine Sx.st_take hT rfl rfl rfl rfl (Sx.x_pick_t hT rfl rfl rfl) ?_
      clear hT; intro a hT
      refine Sx.st_take hT rfl rfl rfl rfl (Sx.x_assign hT rfl rfl) ?_
      clear hT; intro a hT
      replace hT := hT.keep [10, 5, 2, 1, 0] rfl
      refine Sx.ser_nil ?_
      refine Sx.then_normal (hK6 _ _ ?_)
      clear hK6
      refine Sx.wp_if hT rfl (fun _ => ?_) (fun h => by cases h)
      have hsn : mayS s = false ∨ s = sz0 := .inl (by assumption)
      refine wp_seq_k fun K8 hK8 => ?_
      refine Sx.wp_text [(0, .take)] rfl ?_
      refine Sx.st_take hT rfl rfl rfl rfl (Sx.x_assign hT rfl rfl) ?_
      clear hT; intro a hT
      replace hT := hT.keep [2, 10, 5, 1, 0] rfl
      refine Sx.ser_nil ?_
      refine Sx.then_normal (hK8 _ _ ?_)
      clear hK8
      refine wp_ret ?_
      refine Sx.block_ret ?_
      refine Sx.then_ret ?_
      clear hK2
      refine Sx.done1 (fn := Try.f76) hT rfl (.tmp (hT.get 2 _ rfl)) ?_
      refine ⟨ret_i ?_, H.ext⟩
      unfold pmay
      rw [if_neg (by rw [ht]; decide)]
      rw [if_pos hsn]
    · try simp only [Sx.bq] at hc7
      have hsm : mayS s = true := hc7
      refine Sx.st_take hT rfl rfl rfl rfl (Sx.x_fieldAddr hT rfl Try.fa111_1 rfl) ?_
      clear hT; intro a hT
      refine Sx.st_run hT rfl rfl rfl rfl (Sx.y_loadS hT rfl Try.underlying24 Try.ti24 rfl ((H.blk 0 rfl).seg (k := 3) rfl) (by rfl)) ?_
      clear hT; intro a hT
      refine Sx.st_take hT rfl rfl rfl rfl (Sx.x_bld hT rfl Try.bld24 rfl rfl) ?_
      clear hT; intro a hT
      refine Sx.st_take hT rfl rfl rfl rfl (Sx.x_eqS hT rfl (by kernel_rfl) (Try.eq24 _ _ _ _ _ _) rfl rfl rfl) ?_
      clear hT; intro a hT
      refine Sx.st_take hT rfl rfl rfl rfl (Sx.x_pick_f hT rfl rfl rfl) ?_
      clear hT; intro a hT
      refine Sx.st_take hT rfl rfl rfl rfl (Sx.x_assign hT rfl rfl) ?_
      clear hT; intro a hT
      replace hT := hT.keep [10, 5, 2, 1, 0] rfl
      refine Sx.ser_nil ?_
      refine Sx.then_normal (hK6 _ _ ?_)
      clear hK6
      refine Sx.wp_if hT rfl (fun hc9 => ?_) (fun hc9 => ?_)
      · try simp only [Sx.bq] at hc9
        have hsn : mayS s = false ∨ s = sz0 := by right; obtain ⟨a, b, c⟩ := s; unfold sz0; simp_all
        refine wp_seq_k fun K10 hK10 => ?_
        refine Sx.wp_text [(0, .take)] rfl ?_
        refine Sx.st_take hT rfl rfl rfl rfl (Sx.x_assign hT rfl rfl) ?_
        clear hT; intro a hT
        replace hT := hT.keep [2, 10, 5, 1, 0] rfl
        refine Sx.ser_nil ?_
        refine Sx.then_normal (hK10 _ _ ?_)
        clear hK10
        refine wp_ret ?_
        refine Sx.block_ret ?_
        refine Sx.then_ret ?_
        clear hK2
        refine Sx.done1 (fn := Try.f76) hT rfl (.tmp (hT.get 2 _ rfl)) ?_
        refine ⟨ret_i ?_, H.ext⟩
        unfold pmay
        rw [if_neg (by rw [ht]; decide)]
        rw [if_pos hsn]
      · try simp only [Sx.bq] at hc9
        have hsz : s ≠ sz0 := by intro h9; subst h9; simp [sz0] at hc9
        refine wp_seq_k fun K11 hK11 => ?_
        refine Sx.wp_text [(0, .take), (1, .run), (2, .run), (3, .take), (4, .take), (5, .take), (6, .run), (7, .run), (8, .run), (9, .take), (10, .take), (11, .take)] rfl ?_
        refine Sx.st_take hT rfl rfl rfl rfl (Sx.x_fieldAddr hT rfl Try.fa111_2 rfl) ?_
        clear hT; intro a hT
        refine Sx.st_run hT rfl rfl rfl rfl (Sx.x_load1 hT rfl Try.fl98 rfl ((H.blk 0 rfl).nth rfl)) ?_
        clear hT; intro a hT
        refine Sx.st_call hT rfl rfl rfl rfl rfl Try.can94 rfl (rise_calls rl (R.at H.ext) hrl) ?_
        rintro _ w4 ⟨rfl, E⟩
        refine ⟨_, rfl, ?_⟩
        clear hT; intro a hT
        replace H := H.pure E; clear E
        refine Sx.st_take hT rfl rfl rfl rfl (Sx.x_not hT rfl rfl) ?_
        clear hT; intro a hT
        refine Sx.st_take hT rfl rfl rfl rfl (Sx.x_move hT rfl rfl) ?_
        clear hT; intro a hT
        refine Sx.Sl.two hT 26 rfl (fun hc12 hT => ?_) (fun hc12 hT => ?_)
        · try simp only [Sx.bq] at hc12
          refine Sx.st_skip hT rfl rfl rfl rfl ?_
          clear hT; intro a hT
          refine Sx.st_runskip hT rfl rfl rfl rfl ?_
          clear hT; intro a hT
          refine Sx.st_runskip hT rfl rfl rfl rfl ?_
          clear hT; intro a hT
          refine Sx.st_runskip hT rfl rfl rfl rfl ?_
          clear hT; intro a hT
          refine Sx.st_skip hT rfl rfl rfl rfl ?_
          clear hT; intro a hT
          refine Sx.st_take hT rfl rfl rfl rfl (Sx.x_pick_t hT rfl rfl rfl) ?_
          clear hT; intro a hT
          refine Sx.st_take hT rfl rfl rfl rfl (Sx.x_assign hT rfl rfl) ?_
          clear hT; intro a hT
          replace hT := hT.keep [21, 10, 5, 2, 1, 0] rfl
          refine Sx.ser_nil ?_
          refine Sx.then_normal (hK11 _ _ ?_)
          clear hK11
          refine Sx.wp_if hT rfl (fun _ => ?_) (fun h => by cases h)
          have hrk : (keysOk rl && decide (rl.length ≤ 16)) = false ∨ (keysOk (wkeys l) && decide (l.length ≤ 16)) = false := .inl (by assumption)
          refine wp_seq_k fun K13 hK13 => ?_
          refine Sx.wp_text [(0, .take)] rfl ?_
          refine Sx.st_take hT rfl rfl rfl rfl (Sx.x_assign hT rfl rfl) ?_
          clear hT; intro a hT
          replace hT := hT.keep [2, 21, 10, 5, 1, 0] rfl
          refine Sx.ser_nil ?_
          refine Sx.then_normal (hK13 _ _ ?_)
          clear hK13
          refine wp_ret ?_
          refine Sx.block_ret ?_
          refine Sx.then_ret ?_
          clear hK2
          refine Sx.done1 (fn := Try.f76) hT rfl (.tmp (hT.get 2 _ rfl)) ?_
          refine ⟨ret_i ?_, H.ext⟩
          unfold pmay
          rw [if_neg (by rw [ht]; decide)]
          rw [if_neg (fun h9 => h9.elim (fun h8 => by rw [hsm] at h8; cases h8) hsz)]
          rw [if_pos hrk]
        · try simp only [Sx.bq] at hc12
          have hrr := hc12
          refine Sx.st_take hT rfl rfl rfl rfl (Sx.x_fieldAddr hT rfl Try.fa111_3 rfl) ?_
          clear hT; intro a hT
          refine Sx.st_run hT rfl rfl rfl rfl (Sx.x_load1 hT rfl Try.fl34 rfl ((H.blk 0 rfl).nth rfl)) ?_
          clear hT; intro a hT
          refine Sx.st_call hT rfl rfl rfl rfl rfl Try.can95 rfl (writeKeys_calls l (R2.at H.ext) hl) ?_
          rintro _ w5 ⟨adk, ck, rfl, K⟩
          refine ⟨_, rfl, ?_⟩
          clear hT; intro a hT
          replace H := H.more K rfl; clear K
          refine Sx.st_call hT rfl rfl rfl rfl rfl Try.can94 rfl (rise_calls (wkeys l) ((H.row 0 rfl).ssn rfl) (by unfold wkeys; rw [List.length_map]; omega)) ?_
          rintro _ w6 ⟨rfl, E⟩
          refine ⟨_, rfl, ?_⟩
          clear hT; intro a hT
          replace H := H.pure E; clear E
          rw [show (wkeys l).length = l.length from by unfold wkeys; rw [List.length_map]] at hT
          refine Sx.st_take hT rfl rfl rfl rfl (Sx.x_not hT rfl rfl) ?_
          clear hT; intro a hT
          refine Sx.st_take hT rfl rfl rfl rfl (Sx.x_pick_f hT rfl rfl rfl) ?_
          clear hT; intro a hT
          refine Sx.st_take hT rfl rfl rfl rfl (Sx.x_assign hT rfl rfl) ?_
          clear hT; intro a hT
          replace hT := hT.keep [21, 10, 5, 2, 1, 0] rfl
          refine Sx.ser_nil ?_
          refine Sx.then_normal (hK11 _ _ ?_)
          clear hK11
          refine Sx.wp_if hT rfl (fun hc14 => ?_) (fun hc14 => ?_)
          · try simp only [Sx.bq] at hc14
            have hrk : (keysOk rl && decide (rl.length ≤ 16)) = false ∨ (keysOk (wkeys l) && decide (l.length ≤ 16)) = false := .inr hc14
            refine wp_seq_k fun K15 hK15 => ?_
            refine Sx.wp_text [(0, .take)] rfl ?_
            refine Sx.st_take hT rfl rfl rfl rfl (Sx.x_assign hT rfl rfl) ?_
            clear hT; intro a hT
            replace hT := hT.keep [2, 21, 10, 5, 1, 0] rfl
            refine Sx.ser_nil ?_
            refine Sx.then_normal (hK15 _ _ ?_)
            clear hK15
            refine wp_ret ?_
            refine Sx.block_ret ?_
            refine Sx.then_ret ?_
            clear hK2
            refine Sx.done1 (fn := Try.f76) hT rfl (.tmp (hT.get 2 _ rfl)) ?_
            refine ⟨ret_i ?_, H.ext⟩
            unfold pmay
            rw [if_neg (by rw [ht]; decide)]
            rw [if_neg (fun h9 => h9.elim (fun h8 => by rw [hsm] at h8; cases h8) hsz)]
            rw [if_pos hrk]
          · try simp only [Sx.bq] at hc14
            have hrw := hc14
            refine wp_skip ?_
            refine Sx.block_normal ?_
            refine Sx.then_normal (hK2 _ _ ?_)
            clear hK2
            refine wp_seq_k fun K16 hK16 => ?_
            refine wp_seq_k fun K17 hK17 => ?_
            refine Sx.wp_text [(0, .take), (1, .run), (2, .take), (3, .take)] rfl ?_
            refine Sx.st_take hT rfl rfl rfl rfl (Sx.x_fieldAddr hT rfl Try.fa111_3 rfl) ?_
            clear hT; intro a hT
            refine Sx.st_run hT rfl rfl rfl rfl (Sx.x_load1 hT rfl Try.fl34 rfl ((H.blk 1 rfl).nth rfl)) ?_
            clear hT; intro a hT
            refine Sx.st_take hT rfl rfl rfl rfl (Sx.x_len_slice hT rfl rfl Try.underlying34 rfl) ?_
            clear hT; intro a hT
            refine Sx.st_take hT rfl rfl rfl rfl (Sx.x_move hT rfl rfl) ?_
            clear hT; intro a hT
            replace hT := hT.keep [36, 35, 34, 21, 10, 5, 2, 1, 0] rfl
            refine Sx.ser_nil ?_
            refine Sx.then_normal (hK17 _ _ ?_)
            clear hK17
            refine wp_block ?_
            refine Sx.wp_loopH (G := Nat) (fun k => [(36, .int .i64 (k : Int))]) (fun k => []) (fun k => k ≤ l.length ∧ ∀ (i : Nat) x, i < k → l[i]? = some x → mayV x.v = true) (fun k => l.length - k) 0 (hT.keep [36, 35, 34, 21, 10, 5, 1, 0] rfl) (H.keep [0, 1] rfl rfl) (⟨Nat.zero_le _, fun i x h => by omega⟩) ?_
            clear hT H
            rintro k a w7 hJ hT H
            replace hT := hT.keep [36, 35, 34, 21, 10, 5, 1, 0] rfl
            replace H := H.keep [0, 1] rfl rfl
            obtain ⟨hk, hall⟩ := hJ
            refine wp_seq_k fun K18 hK18 => ?_
            refine Sx.wp_text [(0, .take)] rfl ?_
            refine Sx.st_take hT rfl rfl rfl rfl ((fun w => Sx.x_lt w hT rfl rfl rfl)) ?_
            clear hT; intro a hT
            replace hT := hT.keep [37, 36, 35, 34, 21, 10, 5, 1, 0] rfl
            refine Sx.ser_nil ?_
            refine Sx.then_normal (hK18 _ _ ?_)
            clear hK18
            refine wp_seq_k fun K19 hK19 => ?_
            refine Sx.wp_if hT rfl (fun hc20 => ?_) (fun hc20 => ?_)
            · try simp only [Sx.bq] at hc20
              obtain ⟨o, ho⟩ : ∃ q9, l[k]? = some q9 := ⟨_, List.getElem?_eq_getElem (by omega)⟩
              refine wp_skip ?_
              refine Sx.then_normal (hK19 _ _ ?_)
              clear hK19
              refine wp_seq_k fun K21 hK21 => ?_
              refine wp_block ?_
              refine wp_seq_k fun K22 hK22 => ?_
              refine Sx.wp_text [(0, .take), (1, .run), (2, .run), (3, .run)] rfl ?_
              refine Sx.st_take hT rfl rfl rfl rfl (Sx.x_index (k := k) hT rfl Try.underlying34 Try.ti41 (R2.at H.ext).sv rfl rfl (by first | rfl | omega) (by omega)) ?_
              clear hT; intro a hT
              refine Sx.st_run hT rfl rfl rfl rfl (Sx.y_loadS hT rfl Try.underlying41 Try.ti41 rfl (by first | exact ((H.blk 1 rfl).seg (k := 4) rfl) | exact ((R2.at H.ext).cs Wt.len ho)) (by rfl)) ?_
              clear hT; intro a hT
              refine Sx.st_eff hT rfl rfl rfl rfl (Sx.y_alloc hT rfl Try.ti41 rfl _) ?_
              clear hT; rintro _ w8 ⟨b2, rfl, N⟩ a hT
              replace H := H.new N; clear N
              refine Sx.st_act hT rfl rfl rfl (Sx.y_storeS hT rfl Try.ti41 rfl rfl rfl rfl rfl (H.blk 0 rfl) rfl) ?_
              rintro w9 ⟨hb, E, _⟩
              replace H := H.setB 0 rfl hb E rfl; clear hb E
              replace hT := hT.keep [4, 37, 36, 35, 34, 21, 10, 5, 1, 0] rfl
              refine Sx.ser_nil ?_
              refine Sx.then_normal (hK22 _ _ ?_)
              clear hK22
              refine wp_seq_k fun K23 hK23 => ?_
              refine Sx.wp_text [(0, .take), (1, .run), (2, .run), (3, .take)] rfl ?_
              refine Sx.st_take hT rfl rfl rfl rfl (Sx.x_fieldAddr hT rfl Try.fa41_1 rfl) ?_
              clear hT; intro a hT
              refine Sx.st_run hT rfl rfl rfl rfl (Sx.y_loadS hT rfl Try.underlying39 Try.ti39 rfl ((H.blk 0 rfl).seg (k := 3) rfl) (by rfl)) ?_
              clear hT; intro a hT
              refine Sx.st_call hT rfl rfl rfl rfl rfl Try.can68 rfl (MayV_calls _ _) ?_
              rintro _ w10 ⟨rfl, E⟩
              refine ⟨_, rfl, ?_⟩
              clear hT; intro a hT
              replace H := H.pure E; clear E
              refine Sx.st_take hT rfl rfl rfl rfl (Sx.x_not hT rfl rfl) ?_
              clear hT; intro a hT
              replace hT := hT.keep [43, 4, 37, 36, 35, 34, 21, 10, 5, 1, 0] rfl
              refine Sx.ser_nil ?_
              refine Sx.then_normal (hK23 _ _ ?_)
              clear hK23
              refine Sx.wp_if hT rfl (fun hc24 => ?_) (fun hc24 => ?_)
              · try simp only [Sx.bq] at hc24
                have hov : mayV o.v = false := hc24
                refine wp_seq_k fun K25 hK25 => ?_
                refine Sx.wp_text [(0, .take)] rfl ?_
                refine Sx.st_take hT rfl rfl rfl rfl (Sx.x_assign hT rfl rfl) ?_
                clear hT; intro a hT
                replace hT := hT.keep [2, 43, 4, 37, 36, 35, 34, 21, 10, 5, 1, 0] rfl
                refine Sx.ser_nil ?_
                refine Sx.then_normal (hK25 _ _ ?_)
                clear hK25
                refine wp_ret ?_
                refine Sx.block_ret ?_
                refine Sx.then_ret ?_
                refine Sx.then_ret ?_
                refine Sx.block_ret ?_
                refine Sx.then_ret ?_
                clear hK21 hK16
                refine Sx.done1 (fn := Try.f76) hT rfl (.tmp (hT.get 2 _ rfl)) ?_
                refine ⟨ret_i ?_, H.ext⟩
                unfold pmay
                rw [if_neg (by rw [ht]; decide)]
                rw [if_neg (fun h9 => h9.elim (fun h8 => by rw [hsm] at h8; cases h8) hsz)]
                rw [if_neg (fun h9 => h9.elim (fun h8 => by simp [hrr] at h8) (fun h8 => by simp [hrw] at h8))]
                rw [if_neg]
                intro h9
                have := List.all_eq_true.1 h9 o (List.mem_of_getElem? ho)
                rw [hov] at this
                cases this
              · try simp only [Sx.bq] at hc24
                have hov : mayV o.v = true := hc24
                refine wp_skip ?_
                refine Sx.block_normal ?_
                refine Sx.then_normal (hK21 _ _ ?_)
                clear hK21
                refine Sx.wp_text [(0, .take), (1, .take)] rfl ?_
                refine Sx.st_take hT rfl rfl rfl rfl ((fun w => Sx.x_add w hT rfl rfl rfl (Sx.wrap64 (by omega)))) ?_
                clear hT; intro a hT
                refine Sx.st_take hT rfl rfl rfl rfl (Sx.x_move hT rfl rfl) ?_
                clear hT; intro a hT
                replace hT := hT.keep [36, 43, 4, 37, 35, 34, 21, 10, 5, 1, 0] rfl
                refine Sx.ser_nil ?_
                refine Sx.then_normal ?_
                exact ⟨k + 1, ⟨by omega, fun i x h1 h2 => by rcases Nat.lt_or_ge i k with h3 | h3; exact hall i x h3 h2; obtain rfl : i = k := (by omega); rw [ho] at h2; cases h2; exact hov⟩, (hT.keep [36, 35, 34, 21, 10, 5, 1, 0] rfl), (H.keep [1, 2] rfl rfl), by omega⟩
            · try simp only [Sx.bq] at hc20
              refine wp_exit ?_
              refine Sx.then_exit ?_
              refine Sx.then_exit ?_
              refine Sx.block_exit ?_
              refine Sx.then_normal (hK16 _ _ ?_)
              clear hK16
              refine wp_seq_k fun K26 hK26 => ?_
              refine Sx.wp_text [(0, .take)] rfl ?_
              refine Sx.st_take hT rfl rfl rfl rfl (Sx.x_assign hT rfl rfl) ?_
              clear hT; intro a hT
              replace hT := hT.keep [2, 37, 36, 35, 34, 21, 10, 5, 1, 0] rfl
              refine Sx.ser_nil ?_
              refine Sx.then_normal (hK26 _ _ ?_)
              clear hK26
              refine wp_ret ?_
              refine Sx.done1 (fn := Try.f76) hT rfl (.tmp (hT.get 2 _ rfl)) ?_
              refine ⟨ret_i ?_, H.ext⟩
              unfold pmay
              rw [if_neg (by rw [ht]; decide)]
              rw [if_neg (fun h9 => h9.elim (fun h8 => by rw [hsm] at h8; cases h8) hsz)]
              rw [if_neg (fun h9 => h9.elim (fun h8 => by simp [hrr] at h8) (fun h8 => by simp [hrw] at h8))]
              rw [if_pos (List.all_eq_true.2 fun x hx => by obtain ⟨i, hi⟩ := List.mem_iff_getElem?.1 hx; exact hall i x (by have := (List.getElem?_eq_some_iff.1 hi).1; omega) hi)]

theorem xWrites_calls {ad : Option Addr} {c : Nat} (l : List Wt) {w : World} (hs : Ss w ad Wt.cells 4 l) (hl : l.length ≤ 1000000) (m9 : Nat) : Calls Try.prog 82 #[.slice ad l.length c, .int .i64 (m9 : Int)] w fun e w' => e = .returned (.bool (okW l m9)) ∧ Ext No w w' := by
  have R : Ro w No _ := Ro.of fun w' x => hs.ext_no x
  refine Sx.calls_into Try.func82 rfl Try.ntmps82 rfl fun a hT => ?_
  replace hT := hT.keep [0, 1] rfl
  have H : Sx.Hp w (Sx.No) w [] := Sx.Hp.start _ _
  refine wp_seq_k fun K1 hK1 => ?_
  refine Sx.wp_text [(0, .take)] rfl ?_
  refine Sx.st_take hT rfl rfl rfl rfl (Sx.x_assign hT rfl rfl) ?_
  clear hT; intro a hT
  replace hT := hT.keep [4, 0, 1] rfl
  refine Sx.ser_nil ?_
  refine Sx.then_normal (hK1 _ _ ?_)
  clear hK1
  refine wp_seq_k fun K2 hK2 => ?_
  refine wp_seq_k fun K3 hK3 => ?_
  refine Sx.wp_text [(0, .take), (1, .take), (2, .take), (3, .take)] rfl ?_
  refine Sx.st_take hT rfl rfl rfl rfl (Sx.x_move hT rfl rfl) ?_
  clear hT; intro a hT
  refine Sx.st_take hT rfl rfl rfl rfl (Sx.x_len_slice hT rfl rfl Try.underlying34 rfl) ?_
  clear hT; intro a hT
  refine Sx.st_take hT rfl rfl rfl rfl (Sx.x_move hT rfl rfl) ?_
  clear hT; intro a hT
  refine Sx.st_take hT rfl rfl rfl rfl ((fun w => Sx.x_gt w hT rfl rfl rfl)) ?_
  clear hT; intro a hT
  replace hT := hT.keep [9, 4, 0, 1] rfl
  refine Sx.ser_nil ?_
  refine Sx.then_normal (hK3 _ _ ?_)
  clear hK3
  refine Sx.wp_if hT rfl (fun hc4 => ?_) (fun hc4 => ?_)
  · try simp only [Sx.bq] at hc4
    refine wp_seq_k fun K5 hK5 => ?_
    refine Sx.wp_text [(0, .take)] rfl ?_
    refine Sx.st_take hT rfl rfl rfl rfl (Sx.x_assign hT rfl rfl) ?_
    clear hT; intro a hT
    replace hT := hT.keep [4, 9, 0, 1] rfl
    refine Sx.ser_nil ?_
    refine Sx.then_normal (hK5 _ _ ?_)
    clear hK5
    refine wp_ret ?_
    refine Sx.then_ret ?_
    clear hK2
    refine Sx.done1 (fn := Try.f82) hT rfl (.tmp (hT.get 4 _ rfl)) ?_
    refine ⟨ret_b ?_, H.ext⟩
    unfold okW
    rw [decide_eq_false (by omega), Bool.false_and]
  · try simp only [Sx.bq] at hc4
    refine wp_skip ?_
    refine Sx.then_normal (hK2 _ _ ?_)
    clear hK2
    refine wp_seq_k fun K6 hK6 => ?_
    refine wp_seq_k fun K7 hK7 => ?_
    refine Sx.wp_text [(0, .take)] rfl ?_
    refine Sx.st_take hT rfl rfl rfl rfl (Sx.x_assign hT rfl rfl) ?_
    clear hT; intro a hT
    replace hT := hT.keep [5, 9, 4, 0, 1] rfl
    refine Sx.ser_nil ?_
    refine Sx.then_normal (hK7 _ _ ?_)
    clear hK7
    refine wp_block ?_
    refine Sx.wp_loopH (G := Nat) (fun k => [(5, .int .i64 (k : Int))]) (fun k => []) (fun k => k ≤ l.length ∧ ∀ i, i < k → wbad l i = false) (fun k => l.length - k) 0 (hT.keep [5, 9, 0, 1] rfl) (H.keep [] rfl rfl) (⟨Nat.zero_le _, fun i h => by omega⟩) ?_
    clear hT H
    rintro k a w1 hJ hT H
    replace hT := hT.keep [5, 9, 0, 1] rfl
    replace H := H.keep [] rfl rfl
    obtain ⟨hk, hok⟩ := hJ
    refine wp_seq_k fun K8 hK8 => ?_
    refine wp_seq_k fun K9 hK9 => ?_
    refine Sx.wp_text [(0, .take), (1, .take), (2, .take), (3, .take)] rfl ?_
    refine Sx.st_take hT rfl rfl rfl rfl (Sx.x_move hT rfl rfl) ?_
    clear hT; intro a hT
    refine Sx.st_take hT rfl rfl rfl rfl (Sx.x_move hT rfl rfl) ?_
    clear hT; intro a hT
    refine Sx.st_take hT rfl rfl rfl rfl (Sx.x_len_slice hT rfl rfl Try.underlying34 rfl) ?_
    clear hT; intro a hT
    refine Sx.st_take hT rfl rfl rfl rfl ((fun w => Sx.x_lt w hT rfl rfl rfl)) ?_
    clear hT; intro a hT
    replace hT := hT.keep [13, 5, 9, 0, 1] rfl
    refine Sx.ser_nil ?_
    refine Sx.then_normal (hK9 _ _ ?_)
    clear hK9
    refine Sx.wp_if hT rfl (fun hc10 => ?_) (fun hc10 => ?_)
    · try simp only [Sx.bq] at hc10
      obtain ⟨o, ho⟩ : ∃ q9, l[k]? = some q9 := ⟨_, List.getElem?_eq_getElem (by omega)⟩
      have hom : (l.map Wt.key)[k]? = some o.key := by rw [List.getElem?_map, ho]; rfl
      refine wp_skip ?_
      refine Sx.then_normal (hK8 _ _ ?_)
      clear hK8
      refine wp_seq_k fun K11 hK11 => ?_
      refine wp_block ?_
      refine wp_seq_k fun K12 hK12 => ?_
      refine Sx.wp_draws (fun u => Sx.Ext (Sx.No) u) [(0, .take), (1, .take), (2, .take), (3, .take), (4, .held), (5, .keep), (6, .take), (7, .take), (8, .take), (9, .take), (10, .take), (11, .take), (12, .take), (13, .take), (14, .take), (15, .held), (16, .take), (17, .take), (18, .take), (19, .take), (20, .take), (21, .held), (22, .take), (23, .take), (24, .take), (25, .take), (26, .take), (27, .take), (28, .take), (29, .take), (30, .held), (31, .run), (32, .take), (33, .take)] (by kernel_rfl) (by kernel_rfl) (fun u E _ => ?_)
      replace H := H.pure E; clear E
      have hH : Sx.Ext (Sx.No) u u := Sx.Ext.refl _ _
      have Hu := H
      refine Sx.st_take hT rfl rfl rfl rfl (Sx.x_move hT rfl rfl) ?_
      clear hT; intro a hT
      refine Sx.st_take hT rfl rfl rfl rfl (Sx.x_move hT rfl rfl) ?_
      clear hT; intro a hT
      refine Sx.st_take hT rfl rfl rfl rfl (Sx.x_index (k := k) hT rfl Try.underlying34 Try.ti41 (R.at H.ext).sv rfl rfl (by first | rfl | omega) (by omega)) ?_
      clear hT; intro a hT
      refine Sx.st_take hT rfl rfl rfl rfl (Sx.x_fieldAddr hT rfl Try.fa41_0 rfl) ?_
      clear hT; intro a hT
      refine Sx.st_held hT rfl rfl rfl rfl hH (fun w' h' => Sx.x_load1 hT rfl Try.fl9 rfl (by first | exact ((R.at (Hu.ext.step h')).cell (j := 0) Wt.len ho rfl) | exact ((R.at (Hu.ext.step h')).cell (j := 0) Wt.len hy rfl))) ?_
      clear hT; intro a hT
      refine Sx.st_callkeep hT rfl rfl rfl rfl rfl Try.can69 rfl (xKey_calls _ _) ?_
      rintro _ w2 ⟨rfl, E⟩
      refine ⟨_, rfl, hH.step E, ?_⟩
      replace hH := hH.step E
      clear hT; intro a hT
      replace H := H.pure E; clear E
      refine Sx.st_take hT rfl rfl rfl rfl (Sx.x_not hT rfl rfl) ?_
      clear hT; intro a hT
      refine Sx.st_take hT rfl rfl rfl rfl (Sx.x_move hT rfl rfl) ?_
      clear hT; intro a hT
      refine Sx.Sl.two hT 23 rfl (fun hc13 hT => ?_) (fun hc13 hT => ?_)
      · try simp only [Sx.bq] at hc13
        have hky : keyB o.key = false := hc13
        have hwb : wbad l k = true := by unfold wbad; rw [kbad_key hom hky]; rfl
        refine Sx.st_skip hT rfl rfl rfl rfl ?_
        clear hT; intro a hT
        refine Sx.st_skip hT rfl rfl rfl rfl ?_
        clear hT; intro a hT
        refine Sx.st_skip hT rfl rfl rfl rfl ?_
        clear hT; intro a hT
        refine Sx.st_skip hT rfl rfl rfl rfl ?_
        clear hT; intro a hT
        refine Sx.st_skip hT rfl rfl rfl rfl ?_
        clear hT; intro a hT
        refine Sx.st_skip hT rfl rfl rfl rfl ?_
        clear hT; intro a hT
        refine Sx.st_skip hT rfl rfl rfl rfl ?_
        clear hT; intro a hT
        refine Sx.st_heldskip hT rfl rfl rfl rfl hH ?_
        clear hT; intro a hT
        refine Sx.st_skip hT rfl rfl rfl rfl ?_
        clear hT; intro a hT
        refine Sx.st_skip hT rfl rfl rfl rfl ?_
        clear hT; intro a hT
        refine Sx.st_skip hT rfl rfl rfl rfl ?_
        clear hT; intro a hT
        refine Sx.st_skip hT rfl rfl rfl rfl ?_
        clear hT; intro a hT
        refine Sx.st_skip hT rfl rfl rfl rfl ?_
        clear hT; intro a hT
        refine Sx.st_heldskip hT rfl rfl rfl rfl hH ?_
        clear hT; intro a hT
        refine Sx.st_skip hT rfl rfl rfl rfl ?_
        clear hT; intro a hT
        refine Sx.st_skip hT rfl rfl rfl rfl ?_
        clear hT; intro a hT
        refine Sx.st_take hT rfl rfl rfl rfl (Sx.x_pick_t hT rfl rfl rfl) ?_
        clear hT; intro a hT
        refine Sx.st_take hT rfl rfl rfl rfl (Sx.x_move hT rfl rfl) ?_
        clear hT; intro a hT
        refine Sx.st_skip hT rfl rfl rfl rfl ?_
        clear hT; intro a hT
        refine Sx.st_skip hT rfl rfl rfl rfl ?_
        clear hT; intro a hT
        refine Sx.st_skip hT rfl rfl rfl rfl ?_
        clear hT; intro a hT
        refine Sx.st_skip hT rfl rfl rfl rfl ?_
        clear hT; intro a hT
        refine Sx.st_heldskip hT rfl rfl rfl rfl hH ?_
        clear hT; intro a hT
        refine Sx.st_runskip hT rfl rfl rfl rfl ?_
        clear hT; intro a hT
        refine Sx.st_skip hT rfl rfl rfl rfl ?_
        clear hT; intro a hT
        refine Sx.st_take hT rfl rfl rfl rfl (Sx.x_pick_t hT rfl rfl rfl) ?_
        clear hT; intro a hT
        replace hT := hT.keep [49, 13, 5, 9, 0, 1] rfl
        clear Hu hH
        refine Sx.ser_calm ?_
        refine Sx.then_normal (hK12 _ _ ?_)
        clear hK12
        refine Sx.wp_if hT rfl (fun _ => ?_) (fun h => by cases h)
        skip
        refine wp_seq_k fun K14 hK14 => ?_
        refine Sx.wp_text [(0, .take)] rfl ?_
        refine Sx.st_take hT rfl rfl rfl rfl (Sx.x_assign hT rfl rfl) ?_
        clear hT; intro a hT
        replace hT := hT.keep [4, 49, 13, 5, 9, 0, 1] rfl
        refine Sx.ser_nil ?_
        refine Sx.then_normal (hK14 _ _ ?_)
        clear hK14
        refine wp_ret ?_
        refine Sx.block_ret ?_
        refine Sx.then_ret ?_
        refine Sx.then_ret ?_
        refine Sx.block_ret ?_
        refine Sx.then_ret ?_
        clear hK11 hK6
        refine Sx.done1 (fn := Try.f82) hT rfl (.tmp (hT.get 4 _ rfl)) ?_
        refine ⟨ret_b ?_, H.ext⟩
        unfold okW
        rw [decide_eq_true (by omega), Bool.true_and]
        rw [allOk_no (k := k) (by omega) hwb]
      · try simp only [Sx.bq] at hc13
        have hky : keyB o.key = true := hc13
        refine Sx.st_take hT rfl rfl rfl rfl (Sx.x_move hT rfl rfl) ?_
        clear hT; intro a hT
        refine Sx.st_take hT rfl rfl rfl rfl ((fun w => Sx.x_gt w hT rfl rfl rfl)) ?_
        clear hT; intro a hT
        refine Sx.st_take hT rfl rfl rfl rfl (Sx.x_move hT rfl rfl) ?_
        clear hT; intro a hT
        refine Sx.Sl.two hT 26 rfl (fun hc15 hT => ?_) (fun hc15 hT => ?_)
        · try simp only [Sx.bq] at hc15
          obtain ⟨y, hy⟩ : ∃ q9, l[k - 1]? = some q9 := ⟨_, List.getElem?_eq_getElem (by omega)⟩
          have hkp := kbad_pos hom hky (by omega) (y := y.key) (by rw [List.getElem?_map, hy]; rfl)
          refine Sx.st_take hT rfl rfl rfl rfl (Sx.x_move hT rfl rfl) ?_
          clear hT; intro a hT
          refine Sx.st_take hT rfl rfl rfl rfl (Sx.x_move hT rfl rfl) ?_
          clear hT; intro a hT
          refine Sx.st_take hT rfl rfl rfl rfl (Sx.x_index (k := k) hT rfl Try.underlying34 Try.ti41 (R.at H.ext).sv rfl rfl (by first | rfl | omega) (by omega)) ?_
          clear hT; intro a hT
          refine Sx.st_take hT rfl rfl rfl rfl (Sx.x_fieldAddr hT rfl Try.fa41_0 rfl) ?_
          clear hT; intro a hT
          refine Sx.st_held hT rfl rfl rfl rfl hH (fun w' h' => Sx.x_load1 hT rfl Try.fl9 rfl (by first | exact ((R.at (Hu.ext.step h')).cell (j := 0) Wt.len ho rfl) | exact ((R.at (Hu.ext.step h')).cell (j := 0) Wt.len hy rfl))) ?_
          clear hT; intro a hT
          refine Sx.st_take hT rfl rfl rfl rfl (Sx.x_move hT rfl rfl) ?_
          clear hT; intro a hT
          refine Sx.st_take hT rfl rfl rfl rfl (Sx.x_move hT rfl rfl) ?_
          clear hT; intro a hT
          refine Sx.st_take hT rfl rfl rfl rfl ((fun w => Sx.x_sub w hT rfl rfl rfl (Sx.wrap64 (by omega)))) ?_
          clear hT; intro a hT
          refine Sx.st_take hT rfl rfl rfl rfl (Sx.x_index (k := k - 1) hT rfl Try.underlying34 Try.ti41 (R.at H.ext).sv rfl rfl (by first | rfl | omega) (by omega)) ?_
          clear hT; intro a hT
          refine Sx.st_take hT rfl rfl rfl rfl (Sx.x_fieldAddr hT rfl Try.fa41_0 rfl) ?_
          clear hT; intro a hT
          refine Sx.st_held hT rfl rfl rfl rfl hH (fun w' h' => Sx.x_load1 hT rfl Try.fl9 rfl (by first | exact ((R.at (Hu.ext.step h')).cell (j := 0) Wt.len ho rfl) | exact ((R.at (Hu.ext.step h')).cell (j := 0) Wt.len hy rfl))) ?_
          clear hT; intro a hT
          refine Sx.st_take hT rfl rfl rfl rfl ((fun w => Sx.x_strle w hT rfl rfl rfl)) ?_
          clear hT; intro a hT
          refine Sx.st_take hT rfl rfl rfl rfl (Sx.x_pick_t hT rfl rfl rfl) ?_
          clear hT; intro a hT
          refine Sx.st_take hT rfl rfl rfl rfl (Sx.x_pick_f hT rfl rfl rfl) ?_
          clear hT; intro a hT
          refine Sx.st_take hT rfl rfl rfl rfl (Sx.x_move hT rfl rfl) ?_
          clear hT; intro a hT
          refine Sx.Sl.two hT 41 rfl (fun hc16 hT => ?_) (fun hc16 hT => ?_)
          · try simp only [Sx.bq] at hc16
            have hkb : kbad (l.map Wt.key) k = true := by rw [hkp]; simpa using hc16
            have hwb : wbad l k = true := by unfold wbad; rw [hkb]; rfl
            refine Sx.st_skip hT rfl rfl rfl rfl ?_
            clear hT; intro a hT
            refine Sx.st_skip hT rfl rfl rfl rfl ?_
            clear hT; intro a hT
            refine Sx.st_skip hT rfl rfl rfl rfl ?_
            clear hT; intro a hT
            refine Sx.st_skip hT rfl rfl rfl rfl ?_
            clear hT; intro a hT
            refine Sx.st_heldskip hT rfl rfl rfl rfl hH ?_
            clear hT; intro a hT
            refine Sx.st_runskip hT rfl rfl rfl rfl ?_
            clear hT; intro a hT
            refine Sx.st_skip hT rfl rfl rfl rfl ?_
            clear hT; intro a hT
            refine Sx.st_take hT rfl rfl rfl rfl (Sx.x_pick_t hT rfl rfl rfl) ?_
            clear hT; intro a hT
            replace hT := hT.keep [49, 13, 5, 9, 0, 1] rfl
            clear Hu hH
            refine Sx.ser_calm ?_
            refine Sx.then_normal (hK12 _ _ ?_)
            clear hK12
            refine Sx.wp_if hT rfl (fun _ => ?_) (fun h => by cases h)
            skip
            refine wp_seq_k fun K17 hK17 => ?_
            refine Sx.wp_text [(0, .take)] rfl ?_
            refine Sx.st_take hT rfl rfl rfl rfl (Sx.x_assign hT rfl rfl) ?_
            clear hT; intro a hT
            replace hT := hT.keep [4, 49, 13, 5, 9, 0, 1] rfl
            refine Sx.ser_nil ?_
            refine Sx.then_normal (hK17 _ _ ?_)
            clear hK17
            refine wp_ret ?_
            refine Sx.block_ret ?_
            refine Sx.then_ret ?_
            refine Sx.then_ret ?_
            refine Sx.block_ret ?_
            refine Sx.then_ret ?_
            clear hK11 hK6
            refine Sx.done1 (fn := Try.f82) hT rfl (.tmp (hT.get 4 _ rfl)) ?_
            refine ⟨ret_b ?_, H.ext⟩
            unfold okW
            rw [decide_eq_true (by omega), Bool.true_and]
            rw [allOk_no (k := k) (by omega) hwb]
          · try simp only [Sx.bq] at hc16
            have hkb : kbad (l.map Wt.key) k = false := by rw [hkp]; simpa using hc16
            refine Sx.st_take hT rfl rfl rfl rfl (Sx.x_move hT rfl rfl) ?_
            clear hT; intro a hT
            refine Sx.st_take hT rfl rfl rfl rfl (Sx.x_move hT rfl rfl) ?_
            clear hT; intro a hT
            refine Sx.st_take hT rfl rfl rfl rfl (Sx.x_index (k := k) hT rfl Try.underlying34 Try.ti41 (R.at H.ext).sv rfl rfl (by first | rfl | omega) (by omega)) ?_
            clear hT; intro a hT
            refine Sx.st_take hT rfl rfl rfl rfl (Sx.x_fieldAddr hT rfl Try.fa41_1 rfl) ?_
            clear hT; intro a hT
            refine Sx.st_held hT rfl rfl rfl rfl hH (fun w' h' => Sx.y_loadS hT rfl Try.underlying39 Try.ti39 rfl (((R.at (Hu.ext.step h')).cs Wt.len ho).drop 1) (by rfl)) ?_
            clear hT; intro a hT
            refine Sx.st_call hT rfl rfl rfl rfl rfl Try.can49 rfl (xMayV_calls _ _) ?_
            rintro _ w3 ⟨rfl, E⟩
            refine ⟨_, rfl, ?_⟩
            clear hT; intro a hT
            replace H := H.pure E; clear E
            refine Sx.st_take hT rfl rfl rfl rfl (Sx.x_not hT rfl rfl) ?_
            clear hT; intro a hT
            refine Sx.st_take hT rfl rfl rfl rfl (Sx.x_pick_f hT rfl rfl rfl) ?_
            clear hT; intro a hT
            replace hT := hT.keep [49, 13, 5, 9, 0, 1] rfl
            clear Hu hH
            refine Sx.ser_calm ?_
            refine Sx.then_normal (hK12 _ _ ?_)
            clear hK12
            refine Sx.wp_if hT rfl (fun hc18 => ?_) (fun hc18 => ?_)
            · try simp only [Sx.bq] at hc18
              have hwb : wbad l k = true := by unfold wbad; rw [ho, hkb]; simpa using hc18
              refine wp_seq_k fun K19 hK19 => ?_
              refine Sx.wp_text [(0, .take)] rfl ?_
              refine Sx.st_take hT rfl rfl rfl rfl (Sx.x_assign hT rfl rfl) ?_
              clear hT; intro a hT
              replace hT := hT.keep [4, 49, 13, 5, 9, 0, 1] rfl
              refine Sx.ser_nil ?_
              refine Sx.then_normal (hK19 _ _ ?_)
              clear hK19
              refine wp_ret ?_
              refine Sx.block_ret ?_
              refine Sx.then_ret ?_
              refine Sx.then_ret ?_
              refine Sx.block_ret ?_
              refine Sx.then_ret ?_
              clear hK11 hK6
              refine Sx.done1 (fn := Try.f82) hT rfl (.tmp (hT.get 4 _ rfl)) ?_
              refine ⟨ret_b ?_, H.ext⟩
              unfold okW
              rw [decide_eq_true (by omega), Bool.true_and]
              rw [allOk_no (k := k) (by omega) hwb]
            · try simp only [Sx.bq] at hc18
              have hwb : wbad l k = false := by unfold wbad; rw [ho, hkb]; simpa using hc18
              refine wp_skip ?_
              refine Sx.block_normal ?_
              refine Sx.then_normal (hK11 _ _ ?_)
              clear hK11
              refine Sx.wp_text [(0, .take), (1, .take), (2, .take)] rfl ?_
              refine Sx.st_take hT rfl rfl rfl rfl (Sx.x_move hT rfl rfl) ?_
              clear hT; intro a hT
              refine Sx.st_take hT rfl rfl rfl rfl ((fun w => Sx.x_add w hT rfl rfl rfl (Sx.wrap64 (by omega)))) ?_
              clear hT; intro a hT
              refine Sx.st_take hT rfl rfl rfl rfl (Sx.x_assign hT rfl rfl) ?_
              clear hT; intro a hT
              replace hT := hT.keep [5, 49, 13, 9, 0, 1] rfl
              refine Sx.ser_nil ?_
              refine Sx.then_normal ?_
              exact ⟨k + 1, ⟨by omega, ok_up hok hwb⟩, (hT.keep [5, 9, 0, 1] rfl), (H.keep [] rfl rfl), by omega⟩
        · try simp only [Sx.bq] at hc15
          have hkb := kbad_zero hom hky (by omega)
          refine Sx.st_skip hT rfl rfl rfl rfl ?_
          clear hT; intro a hT
          refine Sx.st_skip hT rfl rfl rfl rfl ?_
          clear hT; intro a hT
          refine Sx.st_skip hT rfl rfl rfl rfl ?_
          clear hT; intro a hT
          refine Sx.st_skip hT rfl rfl rfl rfl ?_
          clear hT; intro a hT
          refine Sx.st_heldskip hT rfl rfl rfl rfl hH ?_
          clear hT; intro a hT
          refine Sx.st_skip hT rfl rfl rfl rfl ?_
          clear hT; intro a hT
          refine Sx.st_skip hT rfl rfl rfl rfl ?_
          clear hT; intro a hT
          refine Sx.st_skip hT rfl rfl rfl rfl ?_
          clear hT; intro a hT
          refine Sx.st_skip hT rfl rfl rfl rfl ?_
          clear hT; intro a hT
          refine Sx.st_skip hT rfl rfl rfl rfl ?_
          clear hT; intro a hT
          refine Sx.st_heldskip hT rfl rfl rfl rfl hH ?_
          clear hT; intro a hT
          refine Sx.st_skip hT rfl rfl rfl rfl ?_
          clear hT; intro a hT
          refine Sx.st_take hT rfl rfl rfl rfl (Sx.x_pick_f hT rfl rfl rfl) ?_
          clear hT; intro a hT
          refine Sx.st_take hT rfl rfl rfl rfl (Sx.x_pick_f hT rfl rfl rfl) ?_
          clear hT; intro a hT
          refine Sx.st_take hT rfl rfl rfl rfl (Sx.x_move hT rfl rfl) ?_
          clear hT; intro a hT
          refine Sx.st_take hT rfl rfl rfl rfl (Sx.x_move hT rfl rfl) ?_
          clear hT; intro a hT
          refine Sx.st_take hT rfl rfl rfl rfl (Sx.x_move hT rfl rfl) ?_
          clear hT; intro a hT
          refine Sx.st_take hT rfl rfl rfl rfl (Sx.x_index (k := k) hT rfl Try.underlying34 Try.ti41 (R.at H.ext).sv rfl rfl (by first | rfl | omega) (by omega)) ?_
          clear hT; intro a hT
          refine Sx.st_take hT rfl rfl rfl rfl (Sx.x_fieldAddr hT rfl Try.fa41_1 rfl) ?_
          clear hT; intro a hT
          refine Sx.st_held hT rfl rfl rfl rfl hH (fun w' h' => Sx.y_loadS hT rfl Try.underlying39 Try.ti39 rfl (((R.at (Hu.ext.step h')).cs Wt.len ho).drop 1) (by rfl)) ?_
          clear hT; intro a hT
          refine Sx.st_call hT rfl rfl rfl rfl rfl Try.can49 rfl (xMayV_calls _ _) ?_
          rintro _ w4 ⟨rfl, E⟩
          refine ⟨_, rfl, ?_⟩
          clear hT; intro a hT
          replace H := H.pure E; clear E
          refine Sx.st_take hT rfl rfl rfl rfl (Sx.x_not hT rfl rfl) ?_
          clear hT; intro a hT
          refine Sx.st_take hT rfl rfl rfl rfl (Sx.x_pick_f hT rfl rfl rfl) ?_
          clear hT; intro a hT
          replace hT := hT.keep [49, 13, 5, 9, 0, 1] rfl
          clear Hu hH
          refine Sx.ser_calm ?_
          refine Sx.then_normal (hK12 _ _ ?_)
          clear hK12
          refine Sx.wp_if hT rfl (fun hc20 => ?_) (fun hc20 => ?_)
          · try simp only [Sx.bq] at hc20
            have hwb : wbad l k = true := by unfold wbad; rw [ho, hkb]; simpa using hc20
            refine wp_seq_k fun K21 hK21 => ?_
            refine Sx.wp_text [(0, .take)] rfl ?_
            refine Sx.st_take hT rfl rfl rfl rfl (Sx.x_assign hT rfl rfl) ?_
            clear hT; intro a hT
            replace hT := hT.keep [4, 49, 13, 5, 9, 0, 1] rfl
            refine Sx.ser_nil ?_
            refine Sx.then_normal (hK21 _ _ ?_)
            clear hK21
            refine wp_ret ?_
            refine Sx.block_ret ?_
            refine Sx.then_ret ?_
            refine Sx.then_ret ?_
            refine Sx.block_ret ?_
            refine Sx.then_ret ?_
            clear hK11 hK6
            refine Sx.done1 (fn := Try.f82) hT rfl (.tmp (hT.get 4 _ rfl)) ?_
            refine ⟨ret_b ?_, H.ext⟩
            unfold okW
            rw [decide_eq_true (by omega), Bool.true_and]
            rw [allOk_no (k := k) (by omega) hwb]
          · try simp only [Sx.bq] at hc20
            have hwb : wbad l k = false := by unfold wbad; rw [ho, hkb]; simpa using hc20
            refine wp_skip ?_
            refine Sx.block_normal ?_
            refine Sx.then_normal (hK11 _ _ ?_)
            clear hK11
            refine Sx.wp_text [(0, .take), (1, .take), (2, .take)] rfl ?_
            refine Sx.st_take hT rfl rfl rfl rfl (Sx.x_move hT rfl rfl) ?_
            clear hT; intro a hT
            refine Sx.st_take hT rfl rfl rfl rfl ((fun w => Sx.x_add w hT rfl rfl rfl (Sx.wrap64 (by omega)))) ?_
            clear hT; intro a hT
            refine Sx.st_take hT rfl rfl rfl rfl (Sx.x_assign hT rfl rfl) ?_
            clear hT; intro a hT
            replace hT := hT.keep [5, 49, 13, 9, 0, 1] rfl
            refine Sx.ser_nil ?_
            refine Sx.then_normal ?_
            exact ⟨k + 1, ⟨by omega, ok_up hok hwb⟩, (hT.keep [5, 9, 0, 1] rfl), (H.keep [] rfl rfl), by omega⟩
    · try simp only [Sx.bq] at hc10
      have hkl : k = l.length := by omega
      rw [hkl] at hok
      refine wp_exit ?_
      refine Sx.then_exit ?_
      refine Sx.then_exit ?_
      refine Sx.block_exit ?_
      refine Sx.then_normal (hK6 _ _ ?_)
      clear hK6
      refine wp_seq_k fun K22 hK22 => ?_
      refine Sx.wp_text [(0, .take)] rfl ?_
      refine Sx.st_take hT rfl rfl rfl rfl (Sx.x_assign hT rfl rfl) ?_
      clear hT; intro a hT
      replace hT := hT.keep [4, 13, 5, 9, 0, 1] rfl
      refine Sx.ser_nil ?_
      refine Sx.then_normal (hK22 _ _ ?_)
      clear hK22
      refine wp_ret ?_
      refine Sx.done1 (fn := Try.f82) hT rfl (.tmp (hT.get 4 _ rfl)) ?_
      refine ⟨ret_b ?_, H.ext⟩
      unfold okW
      rw [decide_eq_true (by omega), Bool.true_and]
      rw [allOk_of hok]

theorem CopyWrites_calls {ad : Option Addr} {c : Nat} (l : List Wt) {w : World} (hs : Ss w ad Wt.cells 4 l) (hl : l.length ≤ 1000000) : Calls Try.prog 34 #[.slice ad l.length c] w fun e w' => ∃ ad' c', e = .returned (.slice ad' l.length c') ∧ Hp w No w' [cR 41 4 ad' l.length c' (l.flatMap Wt.cells)] := by
  have R : Ro w No _ := Ro.of fun w' x => hs.ext_no x
  refine Sx.calls_into Try.func34 rfl Try.ntmps34 rfl fun a hT => ?_
  replace hT := hT.keep [0] rfl
  have H : Sx.Hp w (Sx.No) w [] := Sx.Hp.start _ _
  refine wp_seq_k fun K1 hK1 => ?_
  refine Sx.wp_text [(0, .take)] rfl ?_
  refine Sx.st_take hT rfl rfl rfl rfl (Sx.x_assign hT rfl rfl) ?_
  clear hT; intro a hT
  replace hT := hT.keep [2, 0] rfl
  refine Sx.ser_nil ?_
  refine Sx.then_normal (hK1 _ _ ?_)
  clear hK1
  refine wp_seq_k fun K2 hK2 => ?_
  refine Sx.wp_text [(0, .take)] rfl ?_
  refine Sx.st_take hT rfl rfl rfl rfl (Sx.x_assign hT rfl rfl) ?_
  clear hT; intro a hT
  replace hT := hT.keep [3, 2, 0] rfl
  refine Sx.ser_nil ?_
  refine Sx.then_normal (hK2 _ _ ?_)
  clear hK2
  refine wp_seq_k fun K3 hK3 => ?_
  refine wp_seq_k fun K4 hK4 => ?_
  refine Sx.wp_text [(0, .take)] rfl ?_
  refine Sx.st_take hT rfl rfl rfl rfl (Sx.x_assign hT rfl rfl) ?_
  clear hT; intro a hT
  replace hT := hT.keep [4, 3, 2, 0] rfl
  refine Sx.ser_nil ?_
  refine Sx.then_normal (hK4 _ _ ?_)
  clear hK4
  refine wp_block ?_
  replace H := H.nilR 41 4
  refine Sx.wp_loopH (G := Nat × Option Addr × Nat) (fun ⟨k, ad2, c2⟩ => [(4, .int .i64 (k : Int)), (3, .slice ad2 k c2)]) (fun ⟨k, ad2, c2⟩ => [cR 41 4 ad2 k c2 ((l.take k).flatMap Wt.cells)]) (fun ⟨k, ad2, c2⟩ => k ≤ l.length) (fun ⟨k, ad2, c2⟩ => l.length - k) (0, none, 0) (hT.keep [4, 3, 2, 0] rfl) (H.keep [0] rfl rfl) (Nat.zero_le _) ?_
  clear hT H
  rintro ⟨k, ad2, c2⟩ a w1 hJ hT H
  replace hT := hT.keep [4, 3, 2, 0] rfl
  replace H := H.keep [0] rfl rfl
  have hk : k ≤ l.length := hJ
  refine wp_seq_k fun K5 hK5 => ?_
  refine wp_seq_k fun K6 hK6 => ?_
  refine Sx.wp_text [(0, .take), (1, .take), (2, .take), (3, .take)] rfl ?_
  refine Sx.st_take hT rfl rfl rfl rfl (Sx.x_move hT rfl rfl) ?_
  clear hT; intro a hT
  refine Sx.st_take hT rfl rfl rfl rfl (Sx.x_move hT rfl rfl) ?_
  clear hT; intro a hT
  refine Sx.st_take hT rfl rfl rfl rfl (Sx.x_len_slice hT rfl rfl Try.underlying34 rfl) ?_
  clear hT; intro a hT
  refine Sx.st_take hT rfl rfl rfl rfl ((fun w => Sx.x_lt w hT rfl rfl rfl)) ?_
  clear hT; intro a hT
  replace hT := hT.keep [8, 4, 3, 2, 0] rfl
  refine Sx.ser_nil ?_
  refine Sx.then_normal (hK6 _ _ ?_)
  clear hK6
  refine Sx.wp_if hT rfl (fun hc7 => ?_) (fun hc7 => ?_)
  · try simp only [Sx.bq] at hc7
    obtain ⟨o, ho⟩ : ∃ q9, l[k]? = some q9 := ⟨_, List.getElem?_eq_getElem (by omega)⟩
    refine wp_skip ?_
    refine Sx.then_normal (hK5 _ _ ?_)
    clear hK5
    refine wp_seq_k fun K8 hK8 => ?_
    refine wp_block ?_
    refine Sx.wp_text [(0, .take), (1, .take), (2, .take), (3, .take), (4, .run), (5, .run), (6, .run), (7, .take)] rfl ?_
    refine Sx.st_take hT rfl rfl rfl rfl (Sx.x_move hT rfl rfl) ?_
    clear hT; intro a hT
    refine Sx.st_take hT rfl rfl rfl rfl (Sx.x_move hT rfl rfl) ?_
    clear hT; intro a hT
    refine Sx.st_take hT rfl rfl rfl rfl (Sx.x_move hT rfl rfl) ?_
    clear hT; intro a hT
    refine Sx.st_take hT rfl rfl rfl rfl (Sx.x_index (k := k) hT rfl Try.underlying34 Try.ti41 (R.at H.ext).sv rfl rfl (by first | rfl | omega) (by omega)) ?_
    clear hT; intro a hT
    refine Sx.st_run hT rfl rfl rfl rfl (Sx.y_loadS hT rfl Try.underlying41 Try.ti41 rfl ((R.at H.ext).cs Wt.len ho) (by rfl)) ?_
    clear hT; intro a hT
    refine Sx.st_eff hT rfl rfl rfl rfl (Sx.y_slice1 hT rfl Try.underlying34 Try.ti41 rfl rfl rfl rfl rfl rfl _) ?_
    clear hT; rintro _ w2 ⟨b1, rfl, N⟩ a hT
    replace H := H.new N; clear N
    refine Sx.st_eff hT rfl rfl rfl rfl (Sx.x_append hT rfl rfl Try.underlying34 Try.ti41 rfl (by decide) rfl rfl (H.row 1 rfl) ((H.blk 0 rfl).sv1 rfl) (Wt.one o) (fun h => by cases h) (by unfold maxLen; omega) (by omega)) ?_
    rintro _ w3 ⟨ad3, c3, rfl, hr, E, hown, -⟩
    clear hT; intro a hT
    replace H := H.setR 1 rfl hr E hown rfl; clear hr E hown
    refine Sx.st_take hT rfl rfl rfl rfl (Sx.x_assign hT rfl rfl) ?_
    clear hT; intro a hT
    replace hT := hT.keep [3, 8, 4, 2, 0] rfl
    refine Sx.ser_nil ?_
    refine Sx.block_normal ?_
    refine Sx.then_normal (hK8 _ _ ?_)
    clear hK8
    refine Sx.wp_text [(0, .take), (1, .take), (2, .take)] rfl ?_
    refine Sx.st_take hT rfl rfl rfl rfl (Sx.x_move hT rfl rfl) ?_
    clear hT; intro a hT
    refine Sx.st_take hT rfl rfl rfl rfl ((fun w => Sx.x_add w hT rfl rfl rfl (Sx.wrap64 (by omega)))) ?_
    clear hT; intro a hT
    refine Sx.st_take hT rfl rfl rfl rfl (Sx.x_assign hT rfl rfl) ?_
    clear hT; intro a hT
    replace hT := hT.keep [4, 3, 8, 2, 0] rfl
    refine Sx.ser_nil ?_
    refine Sx.then_normal ?_
    rw [tk_w ho] at H
    exact ⟨(k + 1, ad3, c3), (show k + 1 ≤ _ by omega), (hT.keep [4, 3, 2, 0] rfl), (H.keep [1] rfl rfl), by show _ - (k + 1) < _ - k; omega⟩
  · try simp only [Sx.bq] at hc7
    have hkl : k = l.length := by omega
    rw [hkl] at H hT
    rw [List.take_length] at H
    refine wp_exit ?_
    refine Sx.then_exit ?_
    refine Sx.then_exit ?_
    refine Sx.block_exit ?_
    refine Sx.then_normal (hK3 _ _ ?_)
    clear hK3
    refine wp_seq_k fun K9 hK9 => ?_
    refine Sx.wp_text [(0, .take), (1, .take)] rfl ?_
    refine Sx.st_take hT rfl rfl rfl rfl (Sx.x_move hT rfl rfl) ?_
    clear hT; intro a hT
    refine Sx.st_take hT rfl rfl rfl rfl (Sx.x_assign hT rfl rfl) ?_
    clear hT; intro a hT
    replace hT := hT.keep [2, 8, 4, 3, 0] rfl
    refine Sx.ser_nil ?_
    refine Sx.then_normal (hK9 _ _ ?_)
    clear hK9
    refine wp_ret ?_
    refine Sx.done1 (fn := Try.f34) hT rfl (.tmp (hT.get 2 _ rfl)) ?_
    exact ⟨_, _, rfl, H.keep [0] rfl rfl⟩

theorem Writes_calls {ad ad2 : Option Addr} {c c2 : Nat} (l m : List Wt) {w : World} (hs : Ss w ad Wt.cells 4 l) (hs2 : Ss w ad2 Wt.cells 4 m) (hl : l.length ≤ 9223372036854775806) : Calls Try.prog 38 #[.slice ad l.length c, .slice ad2 m.length c2] w fun e w' => e = .returned (.bool (decide (l = m))) ∧ Ext No w w' := by
  have R : Ro w No _ := Ro.of fun w' x => hs.ext_no x
  have R2 : Ro w No _ := Ro.of fun w' x => hs2.ext_no x
  refine Sx.calls_into Try.func38 rfl Try.ntmps38 rfl fun a hT => ?_
  replace hT := hT.keep [0, 1] rfl
  have H : Sx.Hp w (Sx.No) w [] := Sx.Hp.start _ _
  refine wp_seq_k fun K1 hK1 => ?_
  refine Sx.wp_text [(0, .take)] rfl ?_
  refine Sx.st_take hT rfl rfl rfl rfl (Sx.x_assign hT rfl rfl) ?_
  clear hT; intro a hT
  replace hT := hT.keep [4, 0, 1] rfl
  refine Sx.ser_nil ?_
  refine Sx.then_normal (hK1 _ _ ?_)
  clear hK1
  refine wp_seq_k fun K2 hK2 => ?_
  refine wp_seq_k fun K3 hK3 => ?_
  refine Sx.wp_text [(0, .take), (1, .take), (2, .take), (3, .take), (4, .take)] rfl ?_
  refine Sx.st_take hT rfl rfl rfl rfl (Sx.x_move hT rfl rfl) ?_
  clear hT; intro a hT
  refine Sx.st_take hT rfl rfl rfl rfl (Sx.x_len_slice hT rfl rfl Try.underlying34 rfl) ?_
  clear hT; intro a hT
  refine Sx.st_take hT rfl rfl rfl rfl (Sx.x_move hT rfl rfl) ?_
  clear hT; intro a hT
  refine Sx.st_take hT rfl rfl rfl rfl (Sx.x_len_slice hT rfl rfl Try.underlying34 rfl) ?_
  clear hT; intro a hT
  refine Sx.st_take hT rfl rfl rfl rfl ((fun w => Sx.x_ne w hT rfl rfl rfl)) ?_
  clear hT; intro a hT
  replace hT := hT.keep [10, 4, 0, 1] rfl
  refine Sx.ser_nil ?_
  refine Sx.then_normal (hK3 _ _ ?_)
  clear hK3
  refine Sx.wp_if hT rfl (fun hc4 => ?_) (fun hc4 => ?_)
  · try simp only [Sx.bq] at hc4
    refine wp_seq_k fun K5 hK5 => ?_
    refine Sx.wp_text [(0, .take)] rfl ?_
    refine Sx.st_take hT rfl rfl rfl rfl (Sx.x_assign hT rfl rfl) ?_
    clear hT; intro a hT
    replace hT := hT.keep [4, 10, 0, 1] rfl
    refine Sx.ser_nil ?_
    refine Sx.then_normal (hK5 _ _ ?_)
    clear hK5
    refine wp_ret ?_
    refine Sx.then_ret ?_
    refine Sx.done1 (fn := Try.f38) hT rfl (.tmp (hT.get 4 _ rfl)) ?_
    refine ⟨ret_b (decide_eq_false fun h9 => ?_).symm, H.ext⟩
    subst h9
    omega
  · try simp only [Sx.bq] at hc4
    refine wp_skip ?_
    refine Sx.then_normal (hK2 _ _ ?_)
    clear hK2
    refine wp_seq_k fun K6 hK6 => ?_
    refine wp_seq_k fun K7 hK7 => ?_
    refine Sx.wp_text [(0, .take)] rfl ?_
    refine Sx.st_take hT rfl rfl rfl rfl (Sx.x_assign hT rfl rfl) ?_
    clear hT; intro a hT
    replace hT := hT.keep [5, 10, 4, 0, 1] rfl
    refine Sx.ser_nil ?_
    refine Sx.then_normal (hK7 _ _ ?_)
    clear hK7
    refine wp_block ?_
    refine Sx.wp_loopH (G := Nat) (fun k => [(5, .int .i64 (k : Int))]) (fun k => []) (fun k => k ≤ l.length ∧ ∀ t, t < k → l[t]? = m[t]?) (fun k => l.length - k) 0 (hT.keep [5, 10, 0, 1] rfl) (H.keep [] rfl rfl) (⟨Nat.zero_le _, fun t h => by omega⟩) ?_
    clear hT H
    rintro k a w1 hJ hT H
    replace hT := hT.keep [5, 10, 0, 1] rfl
    replace H := H.keep [] rfl rfl
    obtain ⟨hk, hsm⟩ := hJ
    refine wp_seq_k fun K8 hK8 => ?_
    refine wp_seq_k fun K9 hK9 => ?_
    refine Sx.wp_text [(0, .take), (1, .take), (2, .take), (3, .take)] rfl ?_
    refine Sx.st_take hT rfl rfl rfl rfl (Sx.x_move hT rfl rfl) ?_
    clear hT; intro a hT
    refine Sx.st_take hT rfl rfl rfl rfl (Sx.x_move hT rfl rfl) ?_
    clear hT; intro a hT
    refine Sx.st_take hT rfl rfl rfl rfl (Sx.x_len_slice hT rfl rfl Try.underlying34 rfl) ?_
    clear hT; intro a hT
    refine Sx.st_take hT rfl rfl rfl rfl ((fun w => Sx.x_lt w hT rfl rfl rfl)) ?_
    clear hT; intro a hT
    replace hT := hT.keep [14, 5, 10, 0, 1] rfl
    refine Sx.ser_nil ?_
    refine Sx.then_normal (hK9 _ _ ?_)
    clear hK9
    refine Sx.wp_if hT rfl (fun hc10 => ?_) (fun hc10 => ?_)
    · try simp only [Sx.bq] at hc10
      obtain ⟨o, ho⟩ : ∃ q9, l[k]? = some q9 := ⟨_, List.getElem?_eq_getElem (by omega)⟩
      obtain ⟨o2, ho2⟩ : ∃ q9, m[k]? = some q9 := ⟨_, List.getElem?_eq_getElem (by omega)⟩
      refine wp_skip ?_
      refine Sx.then_normal (hK8 _ _ ?_)
      clear hK8
      refine wp_seq_k fun K11 hK11 => ?_
      refine wp_block ?_
      refine wp_seq_k fun K12 hK12 => ?_
      refine Sx.wp_draws (fun u => Sx.Ext (Sx.No) u) [(0, .take), (1, .take), (2, .take), (3, .take), (4, .held), (5, .take), (6, .take), (7, .take), (8, .take), (9, .held), (10, .take), (11, .take), (12, .take), (13, .take), (14, .take), (15, .take), (16, .held), (17, .take), (18, .take), (19, .take), (20, .take), (21, .held), (22, .run), (23, .take), (24, .take)] (by kernel_rfl) (by kernel_rfl) (fun u E _ => ?_)
      replace H := H.pure E; clear E
      have hH : Sx.Ext (Sx.No) u u := Sx.Ext.refl _ _
      have Hu := H
      refine Sx.st_take hT rfl rfl rfl rfl (Sx.x_move hT rfl rfl) ?_
      clear hT; intro a hT
      refine Sx.st_take hT rfl rfl rfl rfl (Sx.x_move hT rfl rfl) ?_
      clear hT; intro a hT
      refine Sx.st_take hT rfl rfl rfl rfl (Sx.x_index (k := k) hT rfl Try.underlying34 Try.ti41 (by first | exact (R.at H.ext).sv | exact (R2.at H.ext).sv) rfl rfl (by first | rfl | omega) (by omega)) ?_
      clear hT; intro a hT
      refine Sx.st_take hT rfl rfl rfl rfl (Sx.x_fieldAddr hT rfl Try.fa41_0 rfl) ?_
      clear hT; intro a hT
      refine Sx.st_held hT rfl rfl rfl rfl hH (fun w' h' => Sx.x_load1 hT rfl Try.fl9 rfl (by first | exact ((R.at (Hu.ext.step h')).cell (j := 0) Wt.len ho rfl) | exact ((R2.at (Hu.ext.step h')).cell (j := 0) Wt.len ho2 rfl))) ?_
      clear hT; intro a hT
      refine Sx.st_take hT rfl rfl rfl rfl (Sx.x_move hT rfl rfl) ?_
      clear hT; intro a hT
      refine Sx.st_take hT rfl rfl rfl rfl (Sx.x_move hT rfl rfl) ?_
      clear hT; intro a hT
      refine Sx.st_take hT rfl rfl rfl rfl (Sx.x_index (k := k) hT rfl Try.underlying34 Try.ti41 (by first | exact (R.at H.ext).sv | exact (R2.at H.ext).sv) rfl rfl (by first | rfl | omega) (by omega)) ?_
      clear hT; intro a hT
      refine Sx.st_take hT rfl rfl rfl rfl (Sx.x_fieldAddr hT rfl Try.fa41_0 rfl) ?_
      clear hT; intro a hT
      refine Sx.st_held hT rfl rfl rfl rfl hH (fun w' h' => Sx.x_load1 hT rfl Try.fl9 rfl (by first | exact ((R.at (Hu.ext.step h')).cell (j := 0) Wt.len ho rfl) | exact ((R2.at (Hu.ext.step h')).cell (j := 0) Wt.len ho2 rfl))) ?_
      clear hT; intro a hT
      refine Sx.st_take hT rfl rfl rfl rfl ((fun w => Sx.x_strne w hT rfl rfl rfl)) ?_
      clear hT; intro a hT
      refine Sx.st_take hT rfl rfl rfl rfl (Sx.x_move hT rfl rfl) ?_
      clear hT; intro a hT
      refine Sx.Sl.two hT 28 rfl (fun hc13 hT => ?_) (fun hc13 hT => ?_)
      · try simp only [Sx.bq] at hc13
        refine Sx.st_skip hT rfl rfl rfl rfl ?_
        clear hT; intro a hT
        refine Sx.st_skip hT rfl rfl rfl rfl ?_
        clear hT; intro a hT
        refine Sx.st_skip hT rfl rfl rfl rfl ?_
        clear hT; intro a hT
        refine Sx.st_skip hT rfl rfl rfl rfl ?_
        clear hT; intro a hT
        refine Sx.st_heldskip hT rfl rfl rfl rfl hH ?_
        clear hT; intro a hT
        refine Sx.st_skip hT rfl rfl rfl rfl ?_
        clear hT; intro a hT
        refine Sx.st_skip hT rfl rfl rfl rfl ?_
        clear hT; intro a hT
        refine Sx.st_skip hT rfl rfl rfl rfl ?_
        clear hT; intro a hT
        refine Sx.st_skip hT rfl rfl rfl rfl ?_
        clear hT; intro a hT
        refine Sx.st_heldskip hT rfl rfl rfl rfl hH ?_
        clear hT; intro a hT
        refine Sx.st_runskip hT rfl rfl rfl rfl ?_
        clear hT; intro a hT
        refine Sx.st_skip hT rfl rfl rfl rfl ?_
        clear hT; intro a hT
        refine Sx.st_take hT rfl rfl rfl rfl (Sx.x_pick_t hT rfl rfl rfl) ?_
        clear hT; intro a hT
        replace hT := hT.keep [41, 14, 5, 10, 0, 1] rfl
        clear Hu hH
        refine Sx.ser_calm ?_
        refine Sx.then_normal (hK12 _ _ ?_)
        clear hK12
        refine Sx.wp_if hT rfl (fun _ => ?_) (fun h => by cases h)
        have hne : o ≠ o2 := of_decide_eq_false (by rw [wt_eq]; simp_all)
        refine wp_seq_k fun K14 hK14 => ?_
        refine Sx.wp_text [(0, .take)] rfl ?_
        refine Sx.st_take hT rfl rfl rfl rfl (Sx.x_assign hT rfl rfl) ?_
        clear hT; intro a hT
        replace hT := hT.keep [4, 41, 14, 5, 10, 0, 1] rfl
        refine Sx.ser_nil ?_
        refine Sx.then_normal (hK14 _ _ ?_)
        clear hK14
        refine wp_ret ?_
        refine Sx.block_ret ?_
        refine Sx.then_ret ?_
        refine Sx.then_ret ?_
        refine Sx.block_ret ?_
        refine Sx.then_ret ?_
        refine Sx.done1 (fn := Try.f38) hT rfl (.tmp (hT.get 4 _ rfl)) ?_
        refine ⟨ret_b (decide_eq_false fun h9 => ?_).symm, H.ext⟩
        subst h9
        rw [ho] at ho2; exact hne (Option.some.inj ho2)
      · try simp only [Sx.bq] at hc13
        refine Sx.st_take hT rfl rfl rfl rfl (Sx.x_move hT rfl rfl) ?_
        clear hT; intro a hT
        refine Sx.st_take hT rfl rfl rfl rfl (Sx.x_move hT rfl rfl) ?_
        clear hT; intro a hT
        refine Sx.st_take hT rfl rfl rfl rfl (Sx.x_index (k := k) hT rfl Try.underlying34 Try.ti41 (by first | exact (R.at H.ext).sv | exact (R2.at H.ext).sv) rfl rfl (by first | rfl | omega) (by omega)) ?_
        clear hT; intro a hT
        refine Sx.st_take hT rfl rfl rfl rfl (Sx.x_fieldAddr hT rfl Try.fa41_1 rfl) ?_
        clear hT; intro a hT
        refine Sx.st_held hT rfl rfl rfl rfl hH (fun w' h' => Sx.y_loadS hT rfl Try.underlying39 Try.ti39 rfl (by first | exact (((R.at (Hu.ext.step h')).cs Wt.len ho).drop 1) | exact (((R2.at (Hu.ext.step h')).cs Wt.len ho2).drop 1)) (by rfl)) ?_
        clear hT; intro a hT
        refine Sx.st_take hT rfl rfl rfl rfl (Sx.x_move hT rfl rfl) ?_
        clear hT; intro a hT
        refine Sx.st_take hT rfl rfl rfl rfl (Sx.x_move hT rfl rfl) ?_
        clear hT; intro a hT
        refine Sx.st_take hT rfl rfl rfl rfl (Sx.x_index (k := k) hT rfl Try.underlying34 Try.ti41 (by first | exact (R.at H.ext).sv | exact (R2.at H.ext).sv) rfl rfl (by first | rfl | omega) (by omega)) ?_
        clear hT; intro a hT
        refine Sx.st_take hT rfl rfl rfl rfl (Sx.x_fieldAddr hT rfl Try.fa41_1 rfl) ?_
        clear hT; intro a hT
        refine Sx.st_held hT rfl rfl rfl rfl hH (fun w' h' => Sx.y_loadS hT rfl Try.underlying39 Try.ti39 rfl (by first | exact (((R.at (Hu.ext.step h')).cs Wt.len ho).drop 1) | exact (((R2.at (Hu.ext.step h')).cs Wt.len ho2).drop 1)) (by rfl)) ?_
        clear hT; intro a hT
        refine Sx.st_call hT rfl rfl rfl rfl rfl Try.can39 rfl (Value_calls _ _ _) ?_
        rintro _ w2 ⟨rfl, E⟩
        refine ⟨_, rfl, ?_⟩
        clear hT; intro a hT
        replace H := H.pure E; clear E
        refine Sx.st_take hT rfl rfl rfl rfl (Sx.x_not hT rfl rfl) ?_
        clear hT; intro a hT
        refine Sx.st_take hT rfl rfl rfl rfl (Sx.x_pick_f hT rfl rfl rfl) ?_
        clear hT; intro a hT
        replace hT := hT.keep [41, 14, 5, 10, 0, 1] rfl
        clear Hu hH
        refine Sx.ser_calm ?_
        refine Sx.then_normal (hK12 _ _ ?_)
        clear hK12
        refine Sx.wp_if hT rfl (fun hc15 => ?_) (fun hc15 => ?_)
        · try simp only [Sx.bq] at hc15
          have hne : o ≠ o2 := of_decide_eq_false (by rw [wt_eq]; simp_all)
          refine wp_seq_k fun K16 hK16 => ?_
          refine Sx.wp_text [(0, .take)] rfl ?_
          refine Sx.st_take hT rfl rfl rfl rfl (Sx.x_assign hT rfl rfl) ?_
          clear hT; intro a hT
          replace hT := hT.keep [4, 41, 14, 5, 10, 0, 1] rfl
          refine Sx.ser_nil ?_
          refine Sx.then_normal (hK16 _ _ ?_)
          clear hK16
          refine wp_ret ?_
          refine Sx.block_ret ?_
          refine Sx.then_ret ?_
          refine Sx.then_ret ?_
          refine Sx.block_ret ?_
          refine Sx.then_ret ?_
          refine Sx.done1 (fn := Try.f38) hT rfl (.tmp (hT.get 4 _ rfl)) ?_
          refine ⟨ret_b (decide_eq_false fun h9 => ?_).symm, H.ext⟩
          subst h9
          rw [ho] at ho2; exact hne (Option.some.inj ho2)
        · try simp only [Sx.bq] at hc15
          have heq : o = o2 := of_decide_eq_true (by rw [wt_eq]; simp_all)
          refine wp_skip ?_
          refine Sx.block_normal ?_
          refine Sx.then_normal (hK11 _ _ ?_)
          clear hK11
          refine Sx.wp_text [(0, .take), (1, .take), (2, .take)] rfl ?_
          refine Sx.st_take hT rfl rfl rfl rfl (Sx.x_move hT rfl rfl) ?_
          clear hT; intro a hT
          refine Sx.st_take hT rfl rfl rfl rfl ((fun w => Sx.x_add w hT rfl rfl rfl (Sx.wrap64 (by omega)))) ?_
          clear hT; intro a hT
          refine Sx.st_take hT rfl rfl rfl rfl (Sx.x_assign hT rfl rfl) ?_
          clear hT; intro a hT
          replace hT := hT.keep [5, 41, 14, 10, 0, 1] rfl
          refine Sx.ser_nil ?_
          refine Sx.then_normal ?_
          exact ⟨k + 1, ⟨by omega, fun t h => by rcases Nat.lt_or_ge t k with h3 | h3; exact hsm t h3; rw [show t = k from by omega, ho, ho2, heq]⟩, (hT.keep [5, 10, 0, 1] rfl), (H.keep [] rfl rfl), by omega⟩
    · try simp only [Sx.bq] at hc10
      refine wp_exit ?_
      refine Sx.then_exit ?_
      refine Sx.then_exit ?_
      refine Sx.block_exit ?_
      refine Sx.then_normal (hK6 _ _ ?_)
      clear hK6
      refine wp_seq_k fun K17 hK17 => ?_
      refine Sx.wp_text [(0, .take)] rfl ?_
      refine Sx.st_take hT rfl rfl rfl rfl (Sx.x_assign hT rfl rfl) ?_
      clear hT; intro a hT
      replace hT := hT.keep [4, 14, 5, 10, 0, 1] rfl
      refine Sx.ser_nil ?_
      refine Sx.then_normal (hK17 _ _ ?_)
      clear hK17
      refine wp_ret ?_
      refine Sx.done1 (fn := Try.f38) hT rfl (.tmp (hT.get 4 _ rfl)) ?_
      refine ⟨ret_b (decide_eq_true (List.ext_getElem? fun t => ?_)).symm, H.ext⟩
      rcases Nat.lt_or_ge t k with h3 | h3
      · exact hsm t h3
      · rw [List.getElem?_eq_none (by omega), List.getElem?_eq_none (by omega)]

theorem Pairs_calls {ad ad2 : Option Addr} {c c2 : Nat} (l m : List Wt) {w : World} (hs : Ss w ad Wt.cells 4 l) (hs2 : Ss w ad2 Wt.cells 4 m) (hl : l.length ≤ 9223372036854775806) : Calls Try.prog 14 #[.slice ad l.length c, .slice ad2 m.length c2] w fun e w' => e = .returned (.bool (decide (l = m))) ∧ Ext No w w' := by
  have R : Ro w No _ := Ro.of fun w' x => hs.ext_no x
  have R2 : Ro w No _ := Ro.of fun w' x => hs2.ext_no x
  refine Sx.calls_into Try.func14 rfl Try.ntmps14 rfl fun a hT => ?_
  replace hT := hT.keep [0, 1] rfl
  have H : Sx.Hp w (Sx.No) w [] := Sx.Hp.start _ _
  refine wp_seq_k fun K1 hK1 => ?_
  refine Sx.wp_text [(0, .take)] rfl ?_
  refine Sx.st_take hT rfl rfl rfl rfl (Sx.x_assign hT rfl rfl) ?_
  clear hT; intro a hT
  replace hT := hT.keep [4, 0, 1] rfl
  refine Sx.ser_nil ?_
  refine Sx.then_normal (hK1 _ _ ?_)
  clear hK1
  refine wp_seq_k fun K2 hK2 => ?_
  refine wp_seq_k fun K3 hK3 => ?_
  refine Sx.wp_text [(0, .take), (1, .take), (2, .take), (3, .take), (4, .take)] rfl ?_
  refine Sx.st_take hT rfl rfl rfl rfl (Sx.x_move hT rfl rfl) ?_
  clear hT; intro a hT
  refine Sx.st_take hT rfl rfl rfl rfl (Sx.x_len_slice hT rfl rfl Try.underlying43 rfl) ?_
  clear hT; intro a hT
  refine Sx.st_take hT rfl rfl rfl rfl (Sx.x_move hT rfl rfl) ?_
  clear hT; intro a hT
  refine Sx.st_take hT rfl rfl rfl rfl (Sx.x_len_slice hT rfl rfl Try.underlying43 rfl) ?_
  clear hT; intro a hT
  refine Sx.st_take hT rfl rfl rfl rfl ((fun w => Sx.x_ne w hT rfl rfl rfl)) ?_
  clear hT; intro a hT
  replace hT := hT.keep [10, 4, 0, 1] rfl
  refine Sx.ser_nil ?_
  refine Sx.then_normal (hK3 _ _ ?_)
  clear hK3
  refine Sx.wp_if hT rfl (fun hc4 => ?_) (fun hc4 => ?_)
  · try simp only [Sx.bq] at hc4
    refine wp_seq_k fun K5 hK5 => ?_
    refine Sx.wp_text [(0, .take)] rfl ?_
    refine Sx.st_take hT rfl rfl rfl rfl (Sx.x_assign hT rfl rfl) ?_
    clear hT; intro a hT
    replace hT := hT.keep [4, 10, 0, 1] rfl
    refine Sx.ser_nil ?_
    refine Sx.then_normal (hK5 _ _ ?_)
    clear hK5
    refine wp_ret ?_
    refine Sx.then_ret ?_
    refine Sx.done1 (fn := Try.f14) hT rfl (.tmp (hT.get 4 _ rfl)) ?_
    refine ⟨ret_b (decide_eq_false fun h9 => ?_).symm, H.ext⟩
    subst h9
    omega
  · try simp only [Sx.bq] at hc4
    refine wp_skip ?_
    refine Sx.then_normal (hK2 _ _ ?_)
    clear hK2
    refine wp_seq_k fun K6 hK6 => ?_
    refine wp_seq_k fun K7 hK7 => ?_
    refine Sx.wp_text [(0, .take)] rfl ?_
    refine Sx.st_take hT rfl rfl rfl rfl (Sx.x_assign hT rfl rfl) ?_
    clear hT; intro a hT
    replace hT := hT.keep [5, 10, 4, 0, 1] rfl
    refine Sx.ser_nil ?_
    refine Sx.then_normal (hK7 _ _ ?_)
    clear hK7
    refine wp_block ?_
    refine Sx.wp_loopH (G := Nat) (fun k => [(5, .int .i64 (k : Int))]) (fun k => []) (fun k => k ≤ l.length ∧ ∀ t, t < k → l[t]? = m[t]?) (fun k => l.length - k) 0 (hT.keep [5, 10, 0, 1] rfl) (H.keep [] rfl rfl) (⟨Nat.zero_le _, fun t h => by omega⟩) ?_
    clear hT H
    rintro k a w1 hJ hT H
    replace hT := hT.keep [5, 10, 0, 1] rfl
    replace H := H.keep [] rfl rfl
    obtain ⟨hk, hsm⟩ := hJ
    refine wp_seq_k fun K8 hK8 => ?_
    refine wp_seq_k fun K9 hK9 => ?_
    refine Sx.wp_text [(0, .take), (1, .take), (2, .take), (3, .take)] rfl ?_
    refine Sx.st_take hT rfl rfl rfl rfl (Sx.x_move hT rfl rfl) ?_
    clear hT; intro a hT
    refine Sx.st_take hT rfl rfl rfl rfl (Sx.x_move hT rfl rfl) ?_
    clear hT; intro a hT
    refine Sx.st_take hT rfl rfl rfl rfl (Sx.x_len_slice hT rfl rfl Try.underlying43 rfl) ?_
    clear hT; intro a hT
    refine Sx.st_take hT rfl rfl rfl rfl ((fun w => Sx.x_lt w hT rfl rfl rfl)) ?_
    clear hT; intro a hT
    replace hT := hT.keep [14, 5, 10, 0, 1] rfl
    refine Sx.ser_nil ?_
    refine Sx.then_normal (hK9 _ _ ?_)
    clear hK9
    refine Sx.wp_if hT rfl (fun hc10 => ?_) (fun hc10 => ?_)
    · try simp only [Sx.bq] at hc10
      obtain ⟨o, ho⟩ : ∃ q9, l[k]? = some q9 := ⟨_, List.getElem?_eq_getElem (by omega)⟩
      obtain ⟨o2, ho2⟩ : ∃ q9, m[k]? = some q9 := ⟨_, List.getElem?_eq_getElem (by omega)⟩
      refine wp_skip ?_
      refine Sx.then_normal (hK8 _ _ ?_)
      clear hK8
      refine wp_seq_k fun K11 hK11 => ?_
      refine wp_block ?_
      refine wp_seq_k fun K12 hK12 => ?_
      refine Sx.wp_draws (fun u => Sx.Ext (Sx.No) u) [(0, .take), (1, .take), (2, .take), (3, .take), (4, .held), (5, .take), (6, .take), (7, .take), (8, .take), (9, .held), (10, .take), (11, .take), (12, .take), (13, .take), (14, .take), (15, .take), (16, .held), (17, .take), (18, .take), (19, .take), (20, .take), (21, .held), (22, .run), (23, .take), (24, .take)] (by kernel_rfl) (by kernel_rfl) (fun u E _ => ?_)
      replace H := H.pure E; clear E
      have hH : Sx.Ext (Sx.No) u u := Sx.Ext.refl _ _
      have Hu := H
      refine Sx.st_take hT rfl rfl rfl rfl (Sx.x_move hT rfl rfl) ?_
      clear hT; intro a hT
      refine Sx.st_take hT rfl rfl rfl rfl (Sx.x_move hT rfl rfl) ?_
      clear hT; intro a hT
      refine Sx.st_take hT rfl rfl rfl rfl (Sx.x_index (k := k) hT rfl Try.underlying43 Try.ti73 (by first | exact (R.at H.ext).sv | exact (R2.at H.ext).sv) rfl rfl (by first | rfl | omega) (by omega)) ?_
      clear hT; intro a hT
      refine Sx.st_take hT rfl rfl rfl rfl (Sx.x_fieldAddr hT rfl Try.fa73_0 rfl) ?_
      clear hT; intro a hT
      refine Sx.st_held hT rfl rfl rfl rfl hH (fun w' h' => Sx.x_load1 hT rfl Try.fl9 rfl (by first | exact ((R.at (Hu.ext.step h')).cell (j := 0) Wt.len ho rfl) | exact ((R2.at (Hu.ext.step h')).cell (j := 0) Wt.len ho2 rfl))) ?_
      clear hT; intro a hT
      refine Sx.st_take hT rfl rfl rfl rfl (Sx.x_move hT rfl rfl) ?_
      clear hT; intro a hT
      refine Sx.st_take hT rfl rfl rfl rfl (Sx.x_move hT rfl rfl) ?_
      clear hT; intro a hT
      refine Sx.st_take hT rfl rfl rfl rfl (Sx.x_index (k := k) hT rfl Try.underlying43 Try.ti73 (by first | exact (R.at H.ext).sv | exact (R2.at H.ext).sv) rfl rfl (by first | rfl | omega) (by omega)) ?_
      clear hT; intro a hT
      refine Sx.st_take hT rfl rfl rfl rfl (Sx.x_fieldAddr hT rfl Try.fa73_0 rfl) ?_
      clear hT; intro a hT
      refine Sx.st_held hT rfl rfl rfl rfl hH (fun w' h' => Sx.x_load1 hT rfl Try.fl9 rfl (by first | exact ((R.at (Hu.ext.step h')).cell (j := 0) Wt.len ho rfl) | exact ((R2.at (Hu.ext.step h')).cell (j := 0) Wt.len ho2 rfl))) ?_
      clear hT; intro a hT
      refine Sx.st_take hT rfl rfl rfl rfl ((fun w => Sx.x_strne w hT rfl rfl rfl)) ?_
      clear hT; intro a hT
      refine Sx.st_take hT rfl rfl rfl rfl (Sx.x_move hT rfl rfl) ?_
      clear hT; intro a hT
      refine Sx.Sl.two hT 28 rfl (fun hc13 hT => ?_) (fun hc13 hT => ?_)
      · try simp only [Sx.bq] at hc13
        refine Sx.st_skip hT rfl rfl rfl rfl ?_
        clear hT; intro a hT
        refine Sx.st_skip hT rfl rfl rfl rfl ?_
        clear hT; intro a hT
        refine Sx.st_skip hT rfl rfl rfl rfl ?_
        clear hT; intro a hT
        refine Sx.st_skip hT rfl rfl rfl rfl ?_
        clear hT; intro a hT
        refine Sx.st_heldskip hT rfl rfl rfl rfl hH ?_
        clear hT; intro a hT
        refine Sx.st_skip hT rfl rfl rfl rfl ?_
        clear hT; intro a hT
        refine Sx.st_skip hT rfl rfl rfl rfl ?_
        clear hT; intro a hT
        refine Sx.st_skip hT rfl rfl rfl rfl ?_
        clear hT; intro a hT
        refine Sx.st_skip hT rfl rfl rfl rfl ?_
        clear hT; intro a hT
        refine Sx.st_heldskip hT rfl rfl rfl rfl hH ?_
        clear hT; intro a hT
        refine Sx.st_runskip hT rfl rfl rfl rfl ?_
        clear hT; intro a hT
        refine Sx.st_skip hT rfl rfl rfl rfl ?_
        clear hT; intro a hT
        refine Sx.st_take hT rfl rfl rfl rfl (Sx.x_pick_t hT rfl rfl rfl) ?_
        clear hT; intro a hT
        replace hT := hT.keep [41, 14, 5, 10, 0, 1] rfl
        clear Hu hH
        refine Sx.ser_calm ?_
        refine Sx.then_normal (hK12 _ _ ?_)
        clear hK12
        refine Sx.wp_if hT rfl (fun _ => ?_) (fun h => by cases h)
        have hne : o ≠ o2 := of_decide_eq_false (by rw [wt_eq]; simp_all)
        refine wp_seq_k fun K14 hK14 => ?_
        refine Sx.wp_text [(0, .take)] rfl ?_
        refine Sx.st_take hT rfl rfl rfl rfl (Sx.x_assign hT rfl rfl) ?_
        clear hT; intro a hT
        replace hT := hT.keep [4, 41, 14, 5, 10, 0, 1] rfl
        refine Sx.ser_nil ?_
        refine Sx.then_normal (hK14 _ _ ?_)
        clear hK14
        refine wp_ret ?_
        refine Sx.block_ret ?_
        refine Sx.then_ret ?_
        refine Sx.then_ret ?_
        refine Sx.block_ret ?_
        refine Sx.then_ret ?_
        refine Sx.done1 (fn := Try.f14) hT rfl (.tmp (hT.get 4 _ rfl)) ?_
        refine ⟨ret_b (decide_eq_false fun h9 => ?_).symm, H.ext⟩
        subst h9
        rw [ho] at ho2; exact hne (Option.some.inj ho2)
      · try simp only [Sx.bq] at hc13
        refine Sx.st_take hT rfl rfl rfl rfl (Sx.x_move hT rfl rfl) ?_
        clear hT; intro a hT
        refine Sx.st_take hT rfl rfl rfl rfl (Sx.x_move hT rfl rfl) ?_
        clear hT; intro a hT
        refine Sx.st_take hT rfl rfl rfl rfl (Sx.x_index (k := k) hT rfl Try.underlying43 Try.ti73 (by first | exact (R.at H.ext).sv | exact (R2.at H.ext).sv) rfl rfl (by first | rfl | omega) (by omega)) ?_
        clear hT; intro a hT
        refine Sx.st_take hT rfl rfl rfl rfl (Sx.x_fieldAddr hT rfl Try.fa73_1 rfl) ?_
        clear hT; intro a hT
        refine Sx.st_held hT rfl rfl rfl rfl hH (fun w' h' => Sx.y_loadS hT rfl Try.underlying39 Try.ti39 rfl (by first | exact (((R.at (Hu.ext.step h')).cs Wt.len ho).drop 1) | exact (((R2.at (Hu.ext.step h')).cs Wt.len ho2).drop 1)) (by rfl)) ?_
        clear hT; intro a hT
        refine Sx.st_take hT rfl rfl rfl rfl (Sx.x_move hT rfl rfl) ?_
        clear hT; intro a hT
        refine Sx.st_take hT rfl rfl rfl rfl (Sx.x_move hT rfl rfl) ?_
        clear hT; intro a hT
        refine Sx.st_take hT rfl rfl rfl rfl (Sx.x_index (k := k) hT rfl Try.underlying43 Try.ti73 (by first | exact (R.at H.ext).sv | exact (R2.at H.ext).sv) rfl rfl (by first | rfl | omega) (by omega)) ?_
        clear hT; intro a hT
        refine Sx.st_take hT rfl rfl rfl rfl (Sx.x_fieldAddr hT rfl Try.fa73_1 rfl) ?_
        clear hT; intro a hT
        refine Sx.st_held hT rfl rfl rfl rfl hH (fun w' h' => Sx.y_loadS hT rfl Try.underlying39 Try.ti39 rfl (by first | exact (((R.at (Hu.ext.step h')).cs Wt.len ho).drop 1) | exact (((R2.at (Hu.ext.step h')).cs Wt.len ho2).drop 1)) (by rfl)) ?_
        clear hT; intro a hT
        refine Sx.st_call hT rfl rfl rfl rfl rfl Try.can39 rfl (Value_calls _ _ _) ?_
        rintro _ w2 ⟨rfl, E⟩
        refine ⟨_, rfl, ?_⟩
        clear hT; intro a hT
        replace H := H.pure E; clear E
        refine Sx.st_take hT rfl rfl rfl rfl (Sx.x_not hT rfl rfl) ?_
        clear hT; intro a hT
        refine Sx.st_take hT rfl rfl rfl rfl (Sx.x_pick_f hT rfl rfl rfl) ?_
        clear hT; intro a hT
        replace hT := hT.keep [41, 14, 5, 10, 0, 1] rfl
        clear Hu hH
        refine Sx.ser_calm ?_
        refine Sx.then_normal (hK12 _ _ ?_)
        clear hK12
        refine Sx.wp_if hT rfl (fun hc15 => ?_) (fun hc15 => ?_)
        · try simp only [Sx.bq] at hc15
          have hne : o ≠ o2 := of_decide_eq_false (by rw [wt_eq]; simp_all)
          refine wp_seq_k fun K16 hK16 => ?_
          refine Sx.wp_text [(0, .take)] rfl ?_
          refine Sx.st_take hT rfl rfl rfl rfl (Sx.x_assign hT rfl rfl) ?_
          clear hT; intro a hT
          replace hT := hT.keep [4, 41, 14, 5, 10, 0, 1] rfl
          refine Sx.ser_nil ?_
          refine Sx.then_normal (hK16 _ _ ?_)
          clear hK16
          refine wp_ret ?_
          refine Sx.block_ret ?_
          refine Sx.then_ret ?_
          refine Sx.then_ret ?_
          refine Sx.block_ret ?_
          refine Sx.then_ret ?_
          refine Sx.done1 (fn := Try.f14) hT rfl (.tmp (hT.get 4 _ rfl)) ?_
          refine ⟨ret_b (decide_eq_false fun h9 => ?_).symm, H.ext⟩
          subst h9
          rw [ho] at ho2; exact hne (Option.some.inj ho2)
        · try simp only [Sx.bq] at hc15
          have heq : o = o2 := of_decide_eq_true (by rw [wt_eq]; simp_all)
          refine wp_skip ?_
          refine Sx.block_normal ?_
          refine Sx.then_normal (hK11 _ _ ?_)
          clear hK11
          refine Sx.wp_text [(0, .take), (1, .take), (2, .take)] rfl ?_
          refine Sx.st_take hT rfl rfl rfl rfl (Sx.x_move hT rfl rfl) ?_
          clear hT; intro a hT
          refine Sx.st_take hT rfl rfl rfl rfl ((fun w => Sx.x_add w hT rfl rfl rfl (Sx.wrap64 (by omega)))) ?_
          clear hT; intro a hT
          refine Sx.st_take hT rfl rfl rfl rfl (Sx.x_assign hT rfl rfl) ?_
          clear hT; intro a hT
          replace hT := hT.keep [5, 41, 14, 10, 0, 1] rfl
          refine Sx.ser_nil ?_
          refine Sx.then_normal ?_
          exact ⟨k + 1, ⟨by omega, fun t h => by rcases Nat.lt_or_ge t k with h3 | h3; exact hsm t h3; rw [show t = k from by omega, ho, ho2, heq]⟩, (hT.keep [5, 10, 0, 1] rfl), (H.keep [] rfl rfl), by omega⟩
    · try simp only [Sx.bq] at hc10
      refine wp_exit ?_
      refine Sx.then_exit ?_
      refine Sx.then_exit ?_
      refine Sx.block_exit ?_
      refine Sx.then_normal (hK6 _ _ ?_)
      clear hK6
      refine wp_seq_k fun K17 hK17 => ?_
      refine Sx.wp_text [(0, .take)] rfl ?_
      refine Sx.st_take hT rfl rfl rfl rfl (Sx.x_assign hT rfl rfl) ?_
      clear hT; intro a hT
      replace hT := hT.keep [4, 14, 5, 10, 0, 1] rfl
      refine Sx.ser_nil ?_
      refine Sx.then_normal (hK17 _ _ ?_)
      clear hK17
      refine wp_ret ?_
      refine Sx.done1 (fn := Try.f14) hT rfl (.tmp (hT.get 4 _ rfl)) ?_
      refine ⟨ret_b (decide_eq_true (List.ext_getElem? fun t => ?_)).symm, H.ext⟩
      rcases Nat.lt_or_ge t k with h3 | h3
      · exact hsm t h3
      · rw [List.getElem?_eq_none (by omega), List.getElem?_eq_none (by omega)]

theorem WeighWrites_calls {ad : Option Addr} {c : Nat} (l : List Wt) {w : World} (hs : Ss w ad Wt.cells 4 l) (hl : l.length ≤ 9223372036854775806) (m9 : Nat) (hm : m9 ≤ 1125899906842624) (hb : ∀ x ∈ l, x.wf) : Calls Try.prog 33 #[.slice ad l.length c, .int .i64 (m9 : Int)] w fun e w' => e = .returned (.int .i64 (wwF m9 l 0 : Int)) ∧ Ext No w w' := by
  have R : Ro w No _ := Ro.of fun w' x => hs.ext_no x
  refine Sx.calls_into Try.func33 rfl Try.ntmps33 rfl fun a hT => ?_
  replace hT := hT.keep [0, 1] rfl
  have H : Sx.Hp w (Sx.No) w [] := Sx.Hp.start _ _
  refine wp_seq_k fun K1 hK1 => ?_
  refine Sx.wp_text [(0, .take)] rfl ?_
  refine Sx.st_take hT rfl rfl rfl rfl (Sx.x_assign hT rfl rfl) ?_
  clear hT; intro a hT
  replace hT := hT.keep [4, 0, 1] rfl
  refine Sx.ser_nil ?_
  refine Sx.then_normal (hK1 _ _ ?_)
  clear hK1
  refine wp_seq_k fun K2 hK2 => ?_
  refine Sx.wp_text [(0, .take)] rfl ?_
  refine Sx.st_take hT rfl rfl rfl rfl (Sx.x_assign hT rfl rfl) ?_
  clear hT; intro a hT
  replace hT := hT.keep [5, 4, 0, 1] rfl
  refine Sx.ser_nil ?_
  refine Sx.then_normal (hK2 _ _ ?_)
  clear hK2
  refine wp_seq_k fun K3 hK3 => ?_
  refine wp_seq_k fun K4 hK4 => ?_
  refine Sx.wp_text [(0, .take)] rfl ?_
  refine Sx.st_take hT rfl rfl rfl rfl (Sx.x_assign hT rfl rfl) ?_
  clear hT; intro a hT
  replace hT := hT.keep [6, 5, 4, 0, 1] rfl
  refine Sx.ser_nil ?_
  refine Sx.then_normal (hK4 _ _ ?_)
  clear hK4
  refine wp_block ?_
  refine Sx.wp_loopH (G := Nat × Nat) (fun ⟨k, z9⟩ => [(6, .int .i64 (k : Int)), (5, .int .i64 (z9 : Int))]) (fun ⟨k, z9⟩ => []) (fun ⟨k, z9⟩ => k ≤ l.length ∧ z9 ≤ m9 + 562949953421312 ∧ wwF m9 (l.drop k) z9 = wwF m9 l 0) (fun ⟨k, z9⟩ => l.length - k) (0, 0) (hT.keep [6, 5, 4, 0, 1] rfl) (H.keep [] rfl rfl) (⟨Nat.zero_le _, Nat.zero_le _, rfl⟩) ?_
  clear hT H
  rintro ⟨k, z9⟩ a w1 hJ hT H
  replace hT := hT.keep [6, 5, 4, 0, 1] rfl
  replace H := H.keep [] rfl rfl
  obtain ⟨hk, hz, hwt⟩ := hJ
  refine wp_seq_k fun K5 hK5 => ?_
  refine wp_seq_k fun K6 hK6 => ?_
  refine Sx.wp_text [(0, .take), (1, .take), (2, .take), (3, .take), (4, .take), (5, .take), (6, .take), (7, .take), (8, .take)] rfl ?_
  refine Sx.st_take hT rfl rfl rfl rfl (Sx.x_move hT rfl rfl) ?_
  clear hT; intro a hT
  refine Sx.st_take hT rfl rfl rfl rfl (Sx.x_move hT rfl rfl) ?_
  clear hT; intro a hT
  refine Sx.st_take hT rfl rfl rfl rfl (Sx.x_len_slice hT rfl rfl Try.underlying34 rfl) ?_
  clear hT; intro a hT
  refine Sx.st_take hT rfl rfl rfl rfl ((fun w => Sx.x_lt w hT rfl rfl rfl)) ?_
  clear hT; intro a hT
  refine Sx.st_take hT rfl rfl rfl rfl (Sx.x_move hT rfl rfl) ?_
  clear hT; intro a hT
  refine Sx.Sl.two hT 11 rfl (fun hc7 hT => ?_) (fun hc7 hT => ?_)
  · try simp only [Sx.bq] at hc7
    refine Sx.st_take hT rfl rfl rfl rfl (Sx.x_move hT rfl rfl) ?_
    clear hT; intro a hT
    refine Sx.st_take hT rfl rfl rfl rfl (Sx.x_move hT rfl rfl) ?_
    clear hT; intro a hT
    refine Sx.st_take hT rfl rfl rfl rfl ((fun w => Sx.x_le w hT rfl rfl rfl)) ?_
    clear hT; intro a hT
    refine Sx.st_take hT rfl rfl rfl rfl (Sx.x_pick_t hT rfl rfl rfl) ?_
    clear hT; intro a hT
    replace hT := hT.keep [15, 6, 5, 4, 0, 1] rfl
    refine Sx.ser_nil ?_
    refine Sx.then_normal (hK6 _ _ ?_)
    clear hK6
    refine Sx.wp_if hT rfl (fun hc8 => ?_) (fun hc8 => ?_)
    · try simp only [Sx.bq] at hc8
      obtain ⟨o, ho⟩ : ∃ q9, l[k]? = some q9 := ⟨_, List.getElem?_eq_getElem (by omega)⟩
      obtain ⟨hob1, -, -, -, hob2⟩ := hb o (List.mem_of_getElem? ho)
      have hf9 : few2F z9 (1 + o.key.length) m9 ≤ m9 + 281474976710656 := by unfold few2F; split <;> omega
      refine wp_skip ?_
      refine Sx.then_normal (hK5 _ _ ?_)
      clear hK5
      refine wp_seq_k fun K9 hK9 => ?_
      refine wp_block ?_
      refine Sx.wp_draws (fun u => Sx.Ext (Sx.No) u) [(0, .take), (1, .take), (2, .take), (3, .take), (4, .take), (5, .held), (6, .take), (7, .take), (8, .take), (10, .take), (11, .take), (12, .take), (13, .take), (14, .take), (15, .held), (16, .take), (17, .take), (9, .keep), (18, .run), (19, .take)] (by kernel_rfl) (by kernel_rfl) (fun u E _ => ?_)
      replace H := H.pure E; clear E
      have hH : Sx.Ext (Sx.No) u u := Sx.Ext.refl _ _
      have Hu := H
      refine Sx.st_take hT rfl rfl rfl rfl (Sx.x_move hT rfl rfl) ?_
      clear hT; intro a hT
      refine Sx.st_take hT rfl rfl rfl rfl (Sx.x_move hT rfl rfl) ?_
      clear hT; intro a hT
      refine Sx.st_take hT rfl rfl rfl rfl (Sx.x_move hT rfl rfl) ?_
      clear hT; intro a hT
      refine Sx.st_take hT rfl rfl rfl rfl (Sx.x_index (k := k) hT rfl Try.underlying34 Try.ti41 (R.at H.ext).sv rfl rfl (by first | rfl | omega) (by omega)) ?_
      clear hT; intro a hT
      refine Sx.st_take hT rfl rfl rfl rfl (Sx.x_fieldAddr hT rfl Try.fa41_0 rfl) ?_
      clear hT; intro a hT
      refine Sx.st_held hT rfl rfl rfl rfl hH (fun w' h' => Sx.x_load1 hT rfl Try.fl9 rfl (by first | exact ((R.at (Hu.ext.step h')).cell (j := 0) Wt.len ho rfl) | exact ((R.at (Hu.ext.step h')).cell (j := 3) Wt.len ho rfl))) ?_
      clear hT; intro a hT
      refine Sx.st_take hT rfl rfl rfl rfl (Sx.x_lenStr hT rfl rfl Try.underlying9 rfl) ?_
      clear hT; intro a hT
      refine Sx.st_take hT rfl rfl rfl rfl ((fun w => Sx.x_add w hT rfl rfl rfl (Sx.wrap64 (by omega)))) ?_
      clear hT; intro a hT
      refine Sx.st_take hT rfl rfl rfl rfl (Sx.x_move hT rfl rfl) ?_
      clear hT; intro a hT
      refine Sx.st_take hT rfl rfl rfl rfl (Sx.x_move hT rfl rfl) ?_
      clear hT; intro a hT
      refine Sx.st_take hT rfl rfl rfl rfl (Sx.x_move hT rfl rfl) ?_
      clear hT; intro a hT
      refine Sx.st_take hT rfl rfl rfl rfl (Sx.x_index (k := k) hT rfl Try.underlying34 Try.ti41 (R.at H.ext).sv rfl rfl (by first | rfl | omega) (by omega)) ?_
      clear hT; intro a hT
      refine Sx.st_take hT rfl rfl rfl rfl (Sx.x_fieldAddr hT rfl Try.fa41_1 rfl) ?_
      clear hT; intro a hT
      refine Sx.st_take hT rfl rfl rfl rfl (Sx.x_fieldAddr hT rfl Try.fa39_2 rfl) ?_
      clear hT; intro a hT
      refine Sx.st_held hT rfl rfl rfl rfl hH (fun w' h' => Sx.x_load1 hT rfl Try.fl9 rfl (by first | exact ((R.at (Hu.ext.step h')).cell (j := 0) Wt.len ho rfl) | exact ((R.at (Hu.ext.step h')).cell (j := 3) Wt.len ho rfl))) ?_
      clear hT; intro a hT
      refine Sx.st_take hT rfl rfl rfl rfl (Sx.x_lenStr hT rfl rfl Try.underlying9 rfl) ?_
      clear hT; intro a hT
      refine Sx.st_take hT rfl rfl rfl rfl (Sx.x_move hT rfl rfl) ?_
      clear hT; intro a hT
      refine Sx.st_callkeep hT rfl rfl rfl rfl rfl Try.can46 rfl (few2x_calls z9 (1 + o.key.length) m9 (by omega) (by omega) (by omega) _) ?_
      rintro _ w2 ⟨rfl, E⟩
      refine ⟨_, rfl, hH.step E, ?_⟩
      replace hH := hH.step E
      clear hT; intro a hT
      replace H := H.pure E; clear E
      refine Sx.st_call hT rfl rfl rfl rfl rfl Try.can46 rfl (few2x_calls (few2F z9 (1 + o.key.length) m9) o.v.tx.length m9 (by omega) (by omega) (by omega) _) ?_
      rintro _ w3 ⟨rfl, E⟩
      refine ⟨_, rfl, ?_⟩
      clear hT; intro a hT
      replace H := H.pure E; clear E
      refine Sx.st_take hT rfl rfl rfl rfl (Sx.x_assign hT rfl rfl) ?_
      clear hT; intro a hT
      replace hT := hT.keep [5, 15, 6, 4, 0, 1] rfl
      clear Hu hH
      refine Sx.ser_calm ?_
      refine Sx.block_normal ?_
      refine Sx.then_normal (hK9 _ _ ?_)
      clear hK9
      refine Sx.wp_text [(0, .take), (1, .take), (2, .take)] rfl ?_
      refine Sx.st_take hT rfl rfl rfl rfl (Sx.x_move hT rfl rfl) ?_
      clear hT; intro a hT
      refine Sx.st_take hT rfl rfl rfl rfl ((fun w => Sx.x_add w hT rfl rfl rfl (Sx.wrap64 (by omega)))) ?_
      clear hT; intro a hT
      refine Sx.st_take hT rfl rfl rfl rfl (Sx.x_assign hT rfl rfl) ?_
      clear hT; intro a hT
      replace hT := hT.keep [6, 5, 15, 4, 0, 1] rfl
      refine Sx.ser_nil ?_
      refine Sx.then_normal ?_
      exact ⟨(k + 1, few2F (few2F z9 (1 + o.key.length) m9) o.v.tx.length m9), ⟨show k + 1 ≤ _ by omega, by show few2F _ _ _ ≤ _; exact few2_ub (by omega) (by omega), by show wwF m9 (l.drop (k + 1)) _ = _; rw [← hwt, ww_step ho (by omega)]⟩, (hT.keep [6, 5, 4, 0, 1] rfl), (H.keep [] rfl rfl), by show _ - (k + 1) < _ - k; omega⟩
    · try simp only [Sx.bq] at hc8
      refine wp_exit ?_
      refine Sx.then_exit ?_
      refine Sx.then_exit ?_
      refine Sx.block_exit ?_
      refine Sx.then_normal (hK3 _ _ ?_)
      clear hK3
      refine wp_seq_k fun K10 hK10 => ?_
      refine Sx.wp_text [(0, .take), (1, .take)] rfl ?_
      refine Sx.st_take hT rfl rfl rfl rfl (Sx.x_move hT rfl rfl) ?_
      clear hT; intro a hT
      refine Sx.st_take hT rfl rfl rfl rfl (Sx.x_assign hT rfl rfl) ?_
      clear hT; intro a hT
      replace hT := hT.keep [4, 15, 6, 5, 0, 1] rfl
      refine Sx.ser_nil ?_
      refine Sx.then_normal (hK10 _ _ ?_)
      clear hK10
      refine wp_ret ?_
      refine Sx.done1 (fn := Try.f33) hT rfl (.tmp (hT.get 4 _ rfl)) ?_
      rw [← hwt]
      rw [ww_stop (by omega)]
      exact ⟨rfl, H.ext⟩
  · try simp only [Sx.bq] at hc7
    refine Sx.st_skip hT rfl rfl rfl rfl ?_
    clear hT; intro a hT
    refine Sx.st_skip hT rfl rfl rfl rfl ?_
    clear hT; intro a hT
    refine Sx.st_skip hT rfl rfl rfl rfl ?_
    clear hT; intro a hT
    refine Sx.st_take hT rfl rfl rfl rfl (Sx.x_pick_f hT rfl rfl rfl) ?_
    clear hT; intro a hT
    replace hT := hT.keep [15, 6, 5, 4, 0, 1] rfl
    refine Sx.ser_nil ?_
    refine Sx.then_normal (hK6 _ _ ?_)
    clear hK6
    refine Sx.wp_if hT rfl (fun h => by cases h) (fun _ => ?_)
    refine wp_exit ?_
    refine Sx.then_exit ?_
    refine Sx.then_exit ?_
    refine Sx.block_exit ?_
    refine Sx.then_normal (hK3 _ _ ?_)
    clear hK3
    refine wp_seq_k fun K11 hK11 => ?_
    refine Sx.wp_text [(0, .take), (1, .take)] rfl ?_
    refine Sx.st_take hT rfl rfl rfl rfl (Sx.x_move hT rfl rfl) ?_
    clear hT; intro a hT
    refine Sx.st_take hT rfl rfl rfl rfl (Sx.x_assign hT rfl rfl) ?_
    clear hT; intro a hT
    replace hT := hT.keep [4, 15, 6, 5, 0, 1] rfl
    refine Sx.ser_nil ?_
    refine Sx.then_normal (hK11 _ _ ?_)
    clear hK11
    refine wp_ret ?_
    refine Sx.done1 (fn := Try.f33) hT rfl (.tmp (hT.get 4 _ rfl)) ?_
    rw [← hwt]
    rw [List.drop_eq_nil_of_le (by omega)]
    exact ⟨rfl, H.ext⟩

end Go.Proofs.Ytpggijfpkgglmaa
