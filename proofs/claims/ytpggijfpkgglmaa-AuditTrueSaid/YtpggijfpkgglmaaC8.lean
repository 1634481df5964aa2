/- Walks: entries in their order, and what they make. -/
import Derived.Test.YtpggijfpkgglmaaC6
import Derived.Test.YtpggijfpkgglmaaC7
set_option linter.unusedSimpArgs false
set_option linter.unusedVariables false
namespace Go.Proofs.Ytpggijfpkgglmaa
open Sx
theorem Try.fa36_0 : Sx.FA Try.prog 36 0 0 := ⟨_, _, _, _, _, Try.underlying36, rfl, rfl, Try.ti33, by decide⟩
theorem Try.fa36_1 : Sx.FA Try.prog 36 1 3 := ⟨_, _, _, _, _, Try.underlying36, rfl, rfl, Try.ti24, by decide⟩
theorem Try.bld36 : Sx.Bld Try.prog 36 #[.int .i64 0, .int .i64 0, .int .i64 0, .int .i64 0, .int .i64 0, .int .i64 0, .slice none 0 0] #[(0, 3), (3, 3), (6, 1)] := ⟨_, _, _, _, Try.ti36, rfl, Try.underlying36, fun w => by simp [Sx.placesOf, Sx.run_sizeOf Try.ti24, Sx.run_sizeOf Try.ti33, Sx.run_sizeOf Try.ti34]⟩
theorem Try.can12 : Sx.Can Try.prog 12 := ⟨_, Try.func12, by kernel_rfl, rfl⟩
theorem Try.can16 : Sx.Can Try.prog 16 := ⟨_, Try.func16, by kernel_rfl, rfl⟩
theorem Try.can18 : Sx.Can Try.prog 18 := ⟨_, Try.func18, by kernel_rfl, rfl⟩
theorem Try.can37 : Sx.Can Try.prog 37 := ⟨_, Try.func37, by kernel_rfl, rfl⟩
theorem Try.can44 : Sx.Can Try.prog 44 := ⟨_, Try.func44, by kernel_rfl, rfl⟩
theorem Try.can62 : Sx.Can Try.prog 62 := ⟨_, Try.func62, by kernel_rfl, rfl⟩
theorem Try.can63 : Sx.Can Try.prog 63 := ⟨_, Try.func63, by kernel_rfl, rfl⟩
theorem Try.eq33 (a0 : Int) (a1 : Int) (a2 : Int) (b0 : Int) (b1 : Int) (b2 : Int) : Sx.EqAt Try.prog 2 33 (.agg #[.int .i64 a0, .int .i64 a1, .int .i64 a2]) (.agg #[.int .i64 b0, .int .i64 b1, .int .i64 b2]) (decide (a0 = b0 ∧ a1 = b1 ∧ a2 = b2)) := by
  refine Sx.EqAt.as (Sx.EqAt.struct Try.underlying33 (by kernel_rfl) ⟨by decide, _, _, _, _, (Sx.run_part1 Try.fl3 rfl), (Sx.run_part1 Try.fl3 rfl), (Sx.EqAt.int Try.underlying3 _ _), ⟨by decide, _, _, _, _, (Sx.run_part1 Try.fl3 rfl), (Sx.run_part1 Try.fl3 rfl), (Sx.EqAt.int Try.underlying3 _ _), ⟨by decide, _, _, _, _, (Sx.run_part1 Try.fl3 rfl), (Sx.run_part1 Try.fl3 rfl), (Sx.EqAt.int Try.underlying3 _ _), rfl, rfl⟩, rfl⟩, rfl⟩) ?_
  simp [Bool.decide_and]
theorem place_calls {ad : Option Addr} {c : Nat} (l : List En) (x : En) {w : World} (hs : Ss w ad En.cells 7 l) (hc : l.length ≤ c) (hn : ad = none → l.length = 0 ∧ c = 0) (hl : l.length ≤ 1000000) : Calls Try.prog 63 #[.slice ad l.length c, .agg #[.int .i64 x.t.co, .int .i64 x.t.li, .int .i64 x.t.sq, .int .i64 x.s.w, .int .i64 x.s.l, .int .i64 x.s.n, .slice x.ad x.ws.length x.c]] w fun e w' => ∃ ad' c', e = .returned (.slice ad' (placeG En.s x l).length c') ∧ Hp w No w' [cR 36 7 ad' (placeG En.s x l).length c' ((placeG En.s x l).flatMap En.cells)] := by
  have R : Ro w No _ := Ro.of fun w' x => hs.ext_no x
  refine Sx.calls_into Try.func63 rfl Try.ntmps63 rfl fun a hT => ?_
  replace hT := hT.keep [0, 1] rfl
  have H : Sx.Hp w (Sx.No) w [] := Sx.Hp.start _ _
  refine wp_seq_k fun K1 hK1 => ?_
  refine Sx.wp_text [(0, .run), (1, .take)] rfl ?_
  refine Sx.st_eff hT rfl rfl rfl rfl (Sx.y_box hT rfl rfl rfl _) ?_
  clear hT; rintro _ w1 ⟨b1, rfl, N⟩ a hT
  replace H := H.new N; clear N
  refine Sx.st_take hT rfl rfl rfl rfl (Sx.x_assign hT rfl rfl) ?_
  clear hT; intro a hT
  replace hT := hT.keep [4, 3, 0, 1] rfl
  refine Sx.ser_nil ?_
  refine Sx.then_normal (hK1 _ _ ?_)
  clear hK1
  refine wp_seq_k fun K2 hK2 => ?_
  refine Sx.wp_text [(0, .take)] rfl ?_
  refine Sx.st_take hT rfl rfl rfl rfl (Sx.x_assign hT rfl rfl) ?_
  clear hT; intro a hT
  replace hT := hT.keep [5, 4, 3, 0, 1] rfl
  refine Sx.ser_nil ?_
  refine Sx.then_normal (hK2 _ _ ?_)
  clear hK2
  refine wp_seq_k fun K3 hK3 => ?_
  refine Sx.wp_text [(0, .take)] rfl ?_
  refine Sx.st_take hT rfl rfl rfl rfl (Sx.x_assign hT rfl rfl) ?_
  clear hT; intro a hT
  replace hT := hT.keep [6, 5, 4, 3, 0, 1] rfl
  refine Sx.ser_nil ?_
  refine Sx.then_normal (hK3 _ _ ?_)
  clear hK3
  refine wp_seq_k fun K4 hK4 => ?_
  refine wp_block ?_
  replace H := H.nilR 36 7
  refine Sx.wp_loopH (G := Nat × Option Addr × Nat) (fun ⟨i, ad2, c2⟩ => [(6, .int .i64 (i : Int)), (5, .slice ad2 i c2)]) (fun ⟨i, ad2, c2⟩ => [cR 36 7 ad2 i c2 ((l.take i).flatMap En.cells)]) (fun ⟨i, ad2, c2⟩ => i ≤ l.length ∧ ∀ (t : Nat) q, t < i → l[t]? = some q → ¬ ltS x.s q.s) (fun ⟨i, ad2, c2⟩ => l.length - i) (0, none, 0) (hT.keep [6, 5, 4, 3, 0, 1] rfl) (H.keep [0, 1] rfl rfl) (⟨Nat.zero_le _, fun t q h => by omega⟩) ?_
  clear hT H
  rintro ⟨i, ad2, c2⟩ a w2 hJ hT H
  replace hT := hT.keep [6, 5, 4, 3, 0, 1] rfl
  replace H := H.keep [0, 1] rfl rfl
  obtain ⟨hi, hlt⟩ := hJ
  refine wp_seq_k fun K5 hK5 => ?_
  refine wp_seq_k fun K6 hK6 => ?_
  refine Sx.wp_draws (fun u => Sx.Ext (Sx.No) u) [(0, .take), (1, .take), (2, .take), (3, .take), (4, .take), (5, .take), (6, .held), (7, .take), (8, .take), (9, .take), (10, .take), (11, .held), (12, .run), (13, .take), (14, .take)] (by kernel_rfl) (by kernel_rfl) (fun u E _ => ?_)
  replace H := H.pure E; clear E
  have hH : Sx.Ext (Sx.No) u u := Sx.Ext.refl _ _
  have Hu := H
  refine Sx.st_take hT rfl rfl rfl rfl (Sx.x_move hT rfl rfl) ?_
  clear hT; intro a hT
  refine Sx.st_take hT rfl rfl rfl rfl (Sx.x_move hT rfl rfl) ?_
  clear hT; intro a hT
  refine Sx.st_take hT rfl rfl rfl rfl (Sx.x_len_slice hT rfl rfl Try.underlying22 rfl) ?_
  clear hT; intro a hT
  refine Sx.st_take hT rfl rfl rfl rfl ((fun w => Sx.x_lt w hT rfl rfl rfl)) ?_
  clear hT; intro a hT
  refine Sx.st_take hT rfl rfl rfl rfl (Sx.x_move hT rfl rfl) ?_
  clear hT; intro a hT
  refine Sx.Sl.two hT 11 rfl (fun hc7 hT => ?_) (fun hc7 hT => ?_)
  · try simp only [Sx.bq] at hc7
    obtain ⟨o, ho⟩ : ∃ q9, l[i]? = some q9 := ⟨_, List.getElem?_eq_getElem (by omega)⟩
    refine Sx.st_take hT rfl rfl rfl rfl (Sx.x_fieldAddr hT rfl Try.fa36_1 rfl) ?_
    clear hT; intro a hT
    refine Sx.st_held hT rfl rfl rfl rfl hH (fun w' h' => Sx.y_loadS hT rfl Try.underlying24 Try.ti24 rfl ((Hu.heldB 1 rfl h' Sx.off_No).seg (k := 3) rfl) (by rfl)) ?_
    clear hT; intro a hT
    refine Sx.st_take hT rfl rfl rfl rfl (Sx.x_move hT rfl rfl) ?_
    clear hT; intro a hT
    refine Sx.st_take hT rfl rfl rfl rfl (Sx.x_move hT rfl rfl) ?_
    clear hT; intro a hT
    refine Sx.st_take hT rfl rfl rfl rfl (Sx.x_index (k := i) hT rfl Try.underlying22 Try.ti36 (R.at H.ext).sv rfl rfl (by first | rfl | omega) (by omega)) ?_
    clear hT; intro a hT
    refine Sx.st_take hT rfl rfl rfl rfl (Sx.x_fieldAddr hT rfl Try.fa36_1 rfl) ?_
    clear hT; intro a hT
    refine Sx.st_held hT rfl rfl rfl rfl hH (fun w' h' => Sx.y_loadS hT rfl Try.underlying24 Try.ti24 rfl (by first | exact ((Hu.heldB 1 rfl h' Sx.off_No).seg (k := 3) rfl) | exact (((R.at (Hu.ext.step h')).cs En.len ho).seg (i := 3) (k := 3) rfl) | exact ((R.at (Hu.ext.step h')).cs En.len ho)) (by rfl)) ?_
    clear hT; intro a hT
    refine Sx.st_call hT rfl rfl rfl rfl rfl Try.can29 rfl (Less_calls x.s o.s _) ?_
    rintro _ w3 ⟨rfl, E⟩
    refine ⟨_, rfl, ?_⟩
    clear hT; intro a hT
    replace H := H.pure E; clear E
    refine Sx.st_take hT rfl rfl rfl rfl (Sx.x_not hT rfl rfl) ?_
    clear hT; intro a hT
    refine Sx.st_take hT rfl rfl rfl rfl (Sx.x_pick_t hT rfl rfl rfl) ?_
    clear hT; intro a hT
    replace hT := hT.keep [21, 6, 5, 4, 3, 0, 1] rfl
    clear Hu hH
    refine Sx.ser_calm ?_
    refine Sx.then_normal (hK6 _ _ ?_)
    clear hK6
    refine Sx.wp_if hT rfl (fun hc8 => ?_) (fun hc8 => ?_)
    · try simp only [Sx.bq] at hc8
      have hlt9 : ¬ ltS x.s o.s := hc8
      refine wp_skip ?_
      refine Sx.then_normal (hK5 _ _ ?_)
      clear hK5
      refine wp_block ?_
      refine wp_seq_k fun K9 hK9 => ?_
      refine Sx.wp_text [(0, .take), (1, .take), (2, .take), (3, .take), (4, .run), (5, .run), (6, .run), (7, .take)] rfl ?_
      refine Sx.st_take hT rfl rfl rfl rfl (Sx.x_move hT rfl rfl) ?_
      clear hT; intro a hT
      refine Sx.st_take hT rfl rfl rfl rfl (Sx.x_move hT rfl rfl) ?_
      clear hT; intro a hT
      refine Sx.st_take hT rfl rfl rfl rfl (Sx.x_move hT rfl rfl) ?_
      clear hT; intro a hT
      refine Sx.st_take hT rfl rfl rfl rfl (Sx.x_index (k := i) hT rfl Try.underlying22 Try.ti36 (R.at H.ext).sv rfl rfl (by first | rfl | omega) (by omega)) ?_
      clear hT; intro a hT
      refine Sx.st_run hT rfl rfl rfl rfl (Sx.y_loadS hT rfl Try.underlying36 Try.ti36 rfl (by first | exact ((H.blk 1 rfl).seg (k := 7) rfl) | exact (((R.at H.ext).cs En.len ho).seg (i := 3) (k := 3) rfl) | exact ((R.at H.ext).cs En.len ho)) (by rfl)) ?_
      clear hT; intro a hT
      refine Sx.st_eff hT rfl rfl rfl rfl (Sx.y_slice1 hT rfl Try.underlying22 Try.ti36 rfl rfl rfl rfl rfl rfl _) ?_
      clear hT; rintro _ w4 ⟨b2, rfl, N⟩ a hT
      replace H := H.new N; clear N
      refine Sx.st_eff hT rfl rfl rfl rfl (Sx.x_append hT rfl rfl Try.underlying22 Try.ti36 rfl (by decide) rfl rfl (H.row 1 rfl) ((H.blk 0 rfl).sv1 rfl) (En.one o) (fun h => by cases h) (by unfold maxLen; omega) (by omega)) ?_
      rintro _ w5 ⟨ad5, c5, rfl, hr, E, hown, -⟩
      clear hT; intro a hT
      replace H := H.setR 1 rfl hr E hown rfl; clear hr E hown
      rw [tk_e ho] at H
      refine Sx.st_take hT rfl rfl rfl rfl (Sx.x_assign hT rfl rfl) ?_
      clear hT; intro a hT
      replace hT := hT.keep [5, 21, 6, 4, 3, 0, 1] rfl
      refine Sx.ser_nil ?_
      refine Sx.then_normal (hK9 _ _ ?_)
      clear hK9
      refine Sx.wp_text [(0, .take), (1, .take), (2, .take)] rfl ?_
      refine Sx.st_take hT rfl rfl rfl rfl (Sx.x_move hT rfl rfl) ?_
      clear hT; intro a hT
      refine Sx.st_take hT rfl rfl rfl rfl ((fun w => Sx.x_add w hT rfl rfl rfl (Sx.wrap64 (by omega)))) ?_
      clear hT; intro a hT
      refine Sx.st_take hT rfl rfl rfl rfl (Sx.x_assign hT rfl rfl) ?_
      clear hT; intro a hT
      replace hT := hT.keep [6, 5, 21, 4, 3, 0, 1] rfl
      refine Sx.ser_nil ?_
      refine Sx.block_normal ?_
      refine Sx.then_normal ?_
      exact ⟨(i + 1, ad5, c5), ⟨by show i + 1 ≤ _; omega, fun t q h3 h4 => by rcases Nat.lt_or_ge t i with h5 | h5; exact hlt t q h5 h4; obtain rfl : t = i := (by have : t < i + 1 := h3; omega); rw [ho] at h4; cases h4; exact hlt9⟩, (hT.keep [6, 5, 4, 3, 0, 1] rfl), (H.keep [1, 2] rfl rfl), by show _ - (i + 1) < _ - i; omega⟩
    · try simp only [Sx.bq] at hc8
      have hge : ∀ q, l[i]? = some q → ltS x.s q.s := fun q hq => by rw [ho] at hq; cases hq; exact hc8
      have hle : leadS En.s x.s l = i := leadS_eq hlt hge hi
      refine wp_exit ?_
      refine Sx.then_exit ?_
      refine Sx.then_exit ?_
      refine Sx.block_exit ?_
      refine Sx.then_normal (hK4 _ _ ?_)
      clear hK4
      refine wp_seq_k fun K10 hK10 => ?_
      refine Sx.wp_text [(0, .take), (1, .run), (2, .run), (3, .run), (4, .take)] rfl ?_
      refine Sx.st_take hT rfl rfl rfl rfl (Sx.x_move hT rfl rfl) ?_
      clear hT; intro a hT
      refine Sx.st_run hT rfl rfl rfl rfl (Sx.y_loadS hT rfl Try.underlying36 Try.ti36 rfl ((H.blk 1 rfl).seg (k := 7) rfl) (by rfl)) ?_
      clear hT; intro a hT
      refine Sx.st_eff hT rfl rfl rfl rfl (Sx.y_slice1 hT rfl Try.underlying22 Try.ti36 rfl rfl rfl rfl rfl rfl _) ?_
      clear hT; rintro _ w6 ⟨b3, rfl, N⟩ a hT
      replace H := H.new N; clear N
      refine Sx.st_eff hT rfl rfl rfl rfl (Sx.x_append hT rfl rfl Try.underlying22 Try.ti36 rfl (by decide) rfl rfl (H.row 1 rfl) ((H.blk 0 rfl).sv1 rfl) (En.one x) (fun h => by cases h) (by unfold maxLen; omega) (by omega)) ?_
      rintro _ w7 ⟨ad7, c7, rfl, hr, E, hown, -⟩
      clear hT; intro a hT
      replace H := H.setR 1 rfl hr E hown rfl; clear hr E hown
      rw [snoc_e] at H
      refine Sx.st_take hT rfl rfl rfl rfl (Sx.x_assign hT rfl rfl) ?_
      clear hT; intro a hT
      replace hT := hT.keep [5, 21, 6, 4, 3, 0, 1] rfl
      refine Sx.ser_nil ?_
      refine Sx.then_normal (hK10 _ _ ?_)
      clear hK10
      refine wp_seq_k fun K11 hK11 => ?_
      have hsp : placeG En.s x l = (l.take i ++ [x]) ++ l.drop i := by unfold placeG; rw [hle]; simp
      have hlen : i + 1 + (l.length - i) = (placeG En.s x l).length := by rw [place_len]; omega
      refine Sx.wp_text [(0, .take), (1, .take), (2, .take), (3, .take), (4, .run), (5, .take)] rfl ?_
      refine Sx.st_take hT rfl rfl rfl rfl (Sx.x_move hT rfl rfl) ?_
      clear hT; intro a hT
      refine Sx.st_take hT rfl rfl rfl rfl (Sx.x_move hT rfl rfl) ?_
      clear hT; intro a hT
      refine Sx.st_take hT rfl rfl rfl rfl (Sx.x_move hT rfl rfl) ?_
      clear hT; intro a hT
      refine Sx.st_take hT rfl rfl rfl rfl (Sx.x_slice_l (p := i) hT rfl Try.underlying22 Try.ti36 rfl rfl rfl (by omega)) ?_
      clear hT; intro a hT
      refine Sx.st_eff hT rfl rfl rfl rfl (Sx.x_append hT rfl rfl Try.underlying22 Try.ti36 rfl (by decide) rfl rfl (H.row 1 rfl) (((R.at H.ext).sv).cut (lo := i) (hi := l.length) (by omega) (Nat.le_refl _) hc) (fun u hu => by rw [cut_e (by omega)] at hu; exact flat_one En.one _ u hu) (fun h => nilcut2 hn h) (by unfold maxLen; omega) (by omega)) ?_
      rintro _ w8 ⟨ad8, c8, rfl, hr, E, hown, -⟩
      clear hT; intro a hT
      replace H := H.setR 1 rfl hr E hown rfl; clear hr E hown
      rw [cut_e (by omega), ← List.flatMap_append, ← hsp, hlen] at H
      rw [hlen] at hT
      refine Sx.st_take hT rfl rfl rfl rfl (Sx.x_assign hT rfl rfl) ?_
      clear hT; intro a hT
      replace hT := hT.keep [4, 5, 21, 6, 3, 0, 1] rfl
      refine Sx.ser_nil ?_
      refine Sx.then_normal (hK11 _ _ ?_)
      clear hK11
      refine wp_ret ?_
      refine Sx.done1 (fn := Try.f63) hT rfl (.tmp (hT.get 4 _ rfl)) ?_
      exact ⟨_, _, rfl, H.keep [1] rfl rfl⟩
  · try simp only [Sx.bq] at hc7
    refine Sx.st_skip hT rfl rfl rfl rfl ?_
    clear hT; intro a hT
    refine Sx.st_heldskip hT rfl rfl rfl rfl hH ?_
    clear hT; intro a hT
    refine Sx.st_skip hT rfl rfl rfl rfl ?_
    clear hT; intro a hT
    refine Sx.st_skip hT rfl rfl rfl rfl ?_
    clear hT; intro a hT
    refine Sx.st_skip hT rfl rfl rfl rfl ?_
    clear hT; intro a hT
    refine Sx.st_skip hT rfl rfl rfl rfl ?_
    clear hT; intro a hT
    refine Sx.st_heldskip hT rfl rfl rfl rfl hH ?_
    clear hT; intro a hT
    refine Sx.st_runskip hT rfl rfl rfl rfl ?_
    clear hT; intro a hT
    refine Sx.st_skip hT rfl rfl rfl rfl ?_
    clear hT; intro a hT
    refine Sx.st_take hT rfl rfl rfl rfl (Sx.x_pick_f hT rfl rfl rfl) ?_
    clear hT; intro a hT
    replace hT := hT.keep [21, 6, 5, 4, 3, 0, 1] rfl
    clear Hu hH
    refine Sx.ser_calm ?_
    refine Sx.then_normal (hK6 _ _ ?_)
    clear hK6
    refine Sx.wp_if hT rfl (fun h => by cases h) (fun _ => ?_)
    have hge : ∀ q, l[i]? = some q → ltS x.s q.s := fun q hq => by rw [List.getElem?_eq_none (by omega)] at hq; cases hq
    have hle : leadS En.s x.s l = i := leadS_eq hlt hge hi
    refine wp_exit ?_
    refine Sx.then_exit ?_
    refine Sx.then_exit ?_
    refine Sx.block_exit ?_
    refine Sx.then_normal (hK4 _ _ ?_)
    clear hK4
    refine wp_seq_k fun K12 hK12 => ?_
    refine Sx.wp_text [(0, .take), (1, .run), (2, .run), (3, .run), (4, .take)] rfl ?_
    refine Sx.st_take hT rfl rfl rfl rfl (Sx.x_move hT rfl rfl) ?_
    clear hT; intro a hT
    refine Sx.st_run hT rfl rfl rfl rfl (Sx.y_loadS hT rfl Try.underlying36 Try.ti36 rfl ((H.blk 1 rfl).seg (k := 7) rfl) (by rfl)) ?_
    clear hT; intro a hT
    refine Sx.st_eff hT rfl rfl rfl rfl (Sx.y_slice1 hT rfl Try.underlying22 Try.ti36 rfl rfl rfl rfl rfl rfl _) ?_
    clear hT; rintro _ w9 ⟨b4, rfl, N⟩ a hT
    replace H := H.new N; clear N
    refine Sx.st_eff hT rfl rfl rfl rfl (Sx.x_append hT rfl rfl Try.underlying22 Try.ti36 rfl (by decide) rfl rfl (H.row 1 rfl) ((H.blk 0 rfl).sv1 rfl) (En.one x) (fun h => by cases h) (by unfold maxLen; omega) (by omega)) ?_
    rintro _ w10 ⟨ad10, c10, rfl, hr, E, hown, -⟩
    clear hT; intro a hT
    replace H := H.setR 1 rfl hr E hown rfl; clear hr E hown
    rw [snoc_e] at H
    refine Sx.st_take hT rfl rfl rfl rfl (Sx.x_assign hT rfl rfl) ?_
    clear hT; intro a hT
    replace hT := hT.keep [5, 21, 6, 4, 3, 0, 1] rfl
    refine Sx.ser_nil ?_
    refine Sx.then_normal (hK12 _ _ ?_)
    clear hK12
    refine wp_seq_k fun K13 hK13 => ?_
    have hsp : placeG En.s x l = (l.take i ++ [x]) ++ l.drop i := by unfold placeG; rw [hle]; simp
    have hlen : i + 1 + (l.length - i) = (placeG En.s x l).length := by rw [place_len]; omega
    refine Sx.wp_text [(0, .take), (1, .take), (2, .take), (3, .take), (4, .run), (5, .take)] rfl ?_
    refine Sx.st_take hT rfl rfl rfl rfl (Sx.x_move hT rfl rfl) ?_
    clear hT; intro a hT
    refine Sx.st_take hT rfl rfl rfl rfl (Sx.x_move hT rfl rfl) ?_
    clear hT; intro a hT
    refine Sx.st_take hT rfl rfl rfl rfl (Sx.x_move hT rfl rfl) ?_
    clear hT; intro a hT
    refine Sx.st_take hT rfl rfl rfl rfl (Sx.x_slice_l (p := i) hT rfl Try.underlying22 Try.ti36 rfl rfl rfl (by omega)) ?_
    clear hT; intro a hT
    refine Sx.st_eff hT rfl rfl rfl rfl (Sx.x_append hT rfl rfl Try.underlying22 Try.ti36 rfl (by decide) rfl rfl (H.row 1 rfl) (((R.at H.ext).sv).cut (lo := i) (hi := l.length) (by omega) (Nat.le_refl _) hc) (fun u hu => by rw [cut_e (by omega)] at hu; exact flat_one En.one _ u hu) (fun h => nilcut2 hn h) (by unfold maxLen; omega) (by omega)) ?_
    rintro _ w11 ⟨ad11, c11, rfl, hr, E, hown, -⟩
    clear hT; intro a hT
    replace H := H.setR 1 rfl hr E hown rfl; clear hr E hown
    rw [cut_e (by omega), ← List.flatMap_append, ← hsp, hlen] at H
    rw [hlen] at hT
    refine Sx.st_take hT rfl rfl rfl rfl (Sx.x_assign hT rfl rfl) ?_
    clear hT; intro a hT
    replace hT := hT.keep [4, 5, 21, 6, 3, 0, 1] rfl
    refine Sx.ser_nil ?_
    refine Sx.then_normal (hK13 _ _ ?_)
    clear hK13
    refine wp_ret ?_
    refine Sx.done1 (fn := Try.f63) hT rfl (.tmp (hT.get 4 _ rfl)) ?_
    exact ⟨_, _, rfl, H.keep [1] rfl rfl⟩

theorem may25_calls (t : Tn) (s : Stp) {ad : Option Addr} {c : Nat} (l : List Wt) {w : World} (hs : Ss w ad Wt.cells 4 l) (hl : l.length ≤ 1000000) : Calls Try.prog 62 #[.agg #[.int .i64 t.co, .int .i64 t.li, .int .i64 t.sq, .int .i64 s.w, .int .i64 s.l, .int .i64 s.n, .slice ad l.length c]] w fun e w' => e = .returned (.bool (emay t s l)) ∧ Ext No w w' := by
  have R : Ro w No _ := Ro.of fun w' x => hs.ext_no x
  refine Sx.calls_into Try.func62 rfl Try.ntmps62 rfl fun a hT => ?_
  replace hT := hT.keep [0] rfl
  have H : Sx.Hp w (Sx.No) w [] := Sx.Hp.start _ _
  refine wp_seq_k fun K1 hK1 => ?_
  refine Sx.wp_text [(0, .run), (1, .take)] rfl ?_
  refine Sx.st_eff hT rfl rfl rfl rfl (Sx.y_box hT rfl rfl rfl _) ?_
  clear hT; rintro _ w1 ⟨b1, rfl, N⟩ a hT
  replace H := H.new N; clear N
  refine Sx.st_take hT rfl rfl rfl rfl (Sx.x_assign hT rfl rfl) ?_
  clear hT; intro a hT
  replace hT := hT.keep [2, 1, 0] rfl
  refine Sx.ser_nil ?_
  refine Sx.then_normal (hK1 _ _ ?_)
  clear hK1
  refine wp_seq_k fun K2 hK2 => ?_
  refine Sx.wp_text [(0, .take), (1, .run), (2, .take), (3, .take), (4, .take)] rfl ?_
  refine Sx.st_take hT rfl rfl rfl rfl (Sx.x_fieldAddr hT rfl Try.fa36_1 rfl) ?_
  clear hT; intro a hT
  refine Sx.st_run hT rfl rfl rfl rfl (Sx.y_loadS hT rfl Try.underlying24 Try.ti24 rfl ((H.blk 0 rfl).seg (k := 3) rfl) (by rfl)) ?_
  clear hT; intro a hT
  refine Sx.st_take hT rfl rfl rfl rfl (Sx.x_bld hT rfl Try.bld24 rfl rfl) ?_
  clear hT; intro a hT
  refine Sx.st_take hT rfl rfl rfl rfl (Sx.x_eqS hT rfl (by kernel_rfl) (Try.eq24 _ _ _ _ _ _) rfl rfl rfl) ?_
  clear hT; intro a hT
  refine Sx.st_take hT rfl rfl rfl rfl (Sx.x_assign hT rfl rfl) ?_
  clear hT; intro a hT
  replace hT := hT.keep [3, 2, 1, 0] rfl
  refine Sx.ser_nil ?_
  refine Sx.then_normal (hK2 _ _ ?_)
  clear hK2
  refine wp_seq_k fun K3 hK3 => ?_
  refine Sx.wp_text [(0, .take), (1, .run), (2, .run), (3, .take), (4, .take), (5, .run), (6, .run), (7, .take), (8, .take), (9, .take), (10, .take), (11, .take), (12, .take), (13, .take), (14, .run), (15, .run), (16, .take), (17, .take)] rfl ?_
  refine Sx.st_take hT rfl rfl rfl rfl (Sx.x_fieldAddr hT rfl Try.fa36_0 rfl) ?_
  clear hT; intro a hT
  refine Sx.st_run hT rfl rfl rfl rfl (Sx.y_loadS hT rfl Try.underlying33 Try.ti33 rfl ((H.blk 0 rfl).seg (k := 3) rfl) (by rfl)) ?_
  clear hT; intro a hT
  refine Sx.st_call hT rfl rfl rfl rfl rfl Try.can80 rfl (xTxnMay_calls _ _) ?_
  rintro _ w2 ⟨rfl, E⟩
  refine ⟨_, rfl, ?_⟩
  clear hT; intro a hT
  replace H := H.pure E; clear E
  refine Sx.st_take hT rfl rfl rfl rfl (Sx.x_move hT rfl rfl) ?_
  clear hT; intro a hT
  refine Sx.Sl.two hT 11 rfl (fun hc4 hT => ?_) (fun hc4 hT => ?_)
  · try simp only [Sx.bq] at hc4
    refine Sx.st_take hT rfl rfl rfl rfl (Sx.x_fieldAddr hT rfl Try.fa36_1 rfl) ?_
    clear hT; intro a hT
    refine Sx.st_run hT rfl rfl rfl rfl (Sx.y_loadS hT rfl Try.underlying24 Try.ti24 rfl ((H.blk 0 rfl).seg (k := 3) rfl) (by rfl)) ?_
    clear hT; intro a hT
    refine Sx.st_call hT rfl rfl rfl rfl rfl Try.can81 rfl (xMayS_calls _ _) ?_
    rintro _ w3 ⟨rfl, E⟩
    refine ⟨_, rfl, ?_⟩
    clear hT; intro a hT
    replace H := H.pure E; clear E
    refine Sx.st_take hT rfl rfl rfl rfl (Sx.x_pick_t hT rfl rfl rfl) ?_
    clear hT; intro a hT
    refine Sx.st_take hT rfl rfl rfl rfl (Sx.x_move hT rfl rfl) ?_
    clear hT; intro a hT
    refine Sx.Sl.two hT 16 rfl (fun hc5 hT => ?_) (fun hc5 hT => ?_)
    · try simp only [Sx.bq] at hc5
      refine Sx.st_take hT rfl rfl rfl rfl (Sx.x_move hT rfl rfl) ?_
      clear hT; intro a hT
      refine Sx.st_take hT rfl rfl rfl rfl (Sx.x_not hT rfl rfl) ?_
      clear hT; intro a hT
      refine Sx.st_take hT rfl rfl rfl rfl (Sx.x_pick_t hT rfl rfl rfl) ?_
      clear hT; intro a hT
      refine Sx.st_take hT rfl rfl rfl rfl (Sx.x_move hT rfl rfl) ?_
      clear hT; intro a hT
      refine Sx.Sl.two hT 20 rfl (fun hc6 hT => ?_) (fun hc6 hT => ?_)
      · try simp only [Sx.bq] at hc6
        refine Sx.st_take hT rfl rfl rfl rfl (Sx.x_fieldAddr hT rfl Try.fa36_2 rfl) ?_
        clear hT; intro a hT
        refine Sx.st_run hT rfl rfl rfl rfl (Sx.x_load1 hT rfl Try.fl34 rfl ((H.blk 0 rfl).nth rfl)) ?_
        clear hT; intro a hT
        refine Sx.st_call hT rfl rfl rfl rfl rfl Try.can82 rfl (xWrites_calls l (R.at H.ext) hl 16) ?_
        rintro _ w4 ⟨rfl, E⟩
        refine ⟨_, rfl, ?_⟩
        clear hT; intro a hT
        replace H := H.pure E; clear E
        refine Sx.st_take hT rfl rfl rfl rfl (Sx.x_pick_t hT rfl rfl rfl) ?_
        clear hT; intro a hT
        refine Sx.st_take hT rfl rfl rfl rfl (Sx.x_assign hT rfl rfl) ?_
        clear hT; intro a hT
        replace hT := hT.keep [2, 3, 1, 0] rfl
        refine Sx.ser_nil ?_
        refine Sx.then_normal (hK3 _ _ ?_)
        clear hK3
        refine wp_ret ?_
        refine Sx.done1 (fn := Try.f62) hT rfl (.tmp (hT.get 2 _ rfl)) ?_
        refine ⟨ret_b ?_, H.ext⟩
        clear hT H
        unfold emay
        have hz : decide (s = sz0) = decide (s.w = 0 ∧ s.l = 0 ∧ s.n = 0) := by obtain ⟨a, b, c⟩ := s; unfold sz0; simp only [Stp.mk.injEq]
        rw [hz]
        simp_all <;> (intros; omega)
      · try simp only [Sx.bq] at hc6
        refine Sx.st_skip hT rfl rfl rfl rfl ?_
        clear hT; intro a hT
        refine Sx.st_runskip hT rfl rfl rfl rfl ?_
        clear hT; intro a hT
        refine Sx.st_runskip hT rfl rfl rfl rfl ?_
        clear hT; intro a hT
        refine Sx.st_take hT rfl rfl rfl rfl (Sx.x_pick_f hT rfl rfl rfl) ?_
        clear hT; intro a hT
        refine Sx.st_take hT rfl rfl rfl rfl (Sx.x_assign hT rfl rfl) ?_
        clear hT; intro a hT
        replace hT := hT.keep [2, 3, 1, 0] rfl
        refine Sx.ser_nil ?_
        refine Sx.then_normal (hK3 _ _ ?_)
        clear hK3
        refine wp_ret ?_
        refine Sx.done1 (fn := Try.f62) hT rfl (.tmp (hT.get 2 _ rfl)) ?_
        refine ⟨ret_b ?_, H.ext⟩
        clear hT H
        unfold emay
        have hz : decide (s = sz0) = decide (s.w = 0 ∧ s.l = 0 ∧ s.n = 0) := by obtain ⟨a, b, c⟩ := s; unfold sz0; simp only [Stp.mk.injEq]
        rw [hz]
        simp_all <;> (intros; omega)
    · try simp only [Sx.bq] at hc5
      refine Sx.st_skip hT rfl rfl rfl rfl ?_
      clear hT; intro a hT
      refine Sx.st_skip hT rfl rfl rfl rfl ?_
      clear hT; intro a hT
      refine Sx.st_take hT rfl rfl rfl rfl (Sx.x_pick_f hT rfl rfl rfl) ?_
      clear hT; intro a hT
      refine Sx.st_take hT rfl rfl rfl rfl (Sx.x_move hT rfl rfl) ?_
      clear hT; intro a hT
      refine Sx.st_skip hT rfl rfl rfl rfl ?_
      clear hT; intro a hT
      refine Sx.st_runskip hT rfl rfl rfl rfl ?_
      clear hT; intro a hT
      refine Sx.st_runskip hT rfl rfl rfl rfl ?_
      clear hT; intro a hT
      refine Sx.st_take hT rfl rfl rfl rfl (Sx.x_pick_f hT rfl rfl rfl) ?_
      clear hT; intro a hT
      refine Sx.st_take hT rfl rfl rfl rfl (Sx.x_assign hT rfl rfl) ?_
      clear hT; intro a hT
      replace hT := hT.keep [2, 3, 1, 0] rfl
      refine Sx.ser_nil ?_
      refine Sx.then_normal (hK3 _ _ ?_)
      clear hK3
      refine wp_ret ?_
      refine Sx.done1 (fn := Try.f62) hT rfl (.tmp (hT.get 2 _ rfl)) ?_
      refine ⟨ret_b ?_, H.ext⟩
      clear hT H
      unfold emay
      have hz : decide (s = sz0) = decide (s.w = 0 ∧ s.l = 0 ∧ s.n = 0) := by obtain ⟨a, b, c⟩ := s; unfold sz0; simp only [Stp.mk.injEq]
      rw [hz]
      simp_all <;> (intros; omega)
  · try simp only [Sx.bq] at hc4
    refine Sx.st_skip hT rfl rfl rfl rfl ?_
    clear hT; intro a hT
    refine Sx.st_runskip hT rfl rfl rfl rfl ?_
    clear hT; intro a hT
    refine Sx.st_runskip hT rfl rfl rfl rfl ?_
    clear hT; intro a hT
    refine Sx.st_take hT rfl rfl rfl rfl (Sx.x_pick_f hT rfl rfl rfl) ?_
    clear hT; intro a hT
    refine Sx.st_take hT rfl rfl rfl rfl (Sx.x_move hT rfl rfl) ?_
    clear hT; intro a hT
    refine Sx.st_skip hT rfl rfl rfl rfl ?_
    clear hT; intro a hT
    refine Sx.st_skip hT rfl rfl rfl rfl ?_
    clear hT; intro a hT
    refine Sx.st_take hT rfl rfl rfl rfl (Sx.x_pick_f hT rfl rfl rfl) ?_
    clear hT; intro a hT
    refine Sx.st_take hT rfl rfl rfl rfl (Sx.x_move hT rfl rfl) ?_
    clear hT; intro a hT
    refine Sx.st_skip hT rfl rfl rfl rfl ?_
    clear hT; intro a hT
    refine Sx.st_runskip hT rfl rfl rfl rfl ?_
    clear hT; intro a hT
    refine Sx.st_runskip hT rfl rfl rfl rfl ?_
    clear hT; intro a hT
    refine Sx.st_take hT rfl rfl rfl rfl (Sx.x_pick_f hT rfl rfl rfl) ?_
    clear hT; intro a hT
    refine Sx.st_take hT rfl rfl rfl rfl (Sx.x_assign hT rfl rfl) ?_
    clear hT; intro a hT
    replace hT := hT.keep [2, 3, 1, 0] rfl
    refine Sx.ser_nil ?_
    refine Sx.then_normal (hK3 _ _ ?_)
    clear hK3
    refine wp_ret ?_
    refine Sx.done1 (fn := Try.f62) hT rfl (.tmp (hT.get 2 _ rfl)) ?_
    refine ⟨ret_b ?_, H.ext⟩
    clear hT H
    unfold emay
    have hz : decide (s = sz0) = decide (s.w = 0 ∧ s.l = 0 ∧ s.n = 0) := by obtain ⟨a, b, c⟩ := s; unfold sz0; simp only [Stp.mk.injEq]
    rw [hz]
    simp_all <;> (intros; omega)

theorem order_calls {ad : Option Addr} {c : Nat} (l : List En) {w : World} (hs : Ss w ad En.cells 7 l) (hw : ∀ x ∈ l, Ss w x.ad Wt.cells 4 x.ws ∧ x.ws.length ≤ 1000000) (hl : l.length ≤ 1000000) : Calls Try.prog 37 #[.slice ad l.length c] w fun e w' => ∃ ad' c' L, e = .returned (.tuple #[.slice ad' L.length c', .int .i64 (ordE (l.map En.p)).1, .int .i64 (ordE (l.map En.p)).2]) ∧ Hp w No w' [cR 36 7 ad' (L).length c' ((L).flatMap En.cells), cF 41 4 En.rw (L)] ∧ L.map En.p = (if (ordE (l.map En.p)).2 = 0 then ordL Ep.s (l.map En.p) else []) := by
  have R : Ro w No _ := Ro.of fun w' x => hs.ext_no x
  have RM : Ro w No (fun u => ∀ x ∈ l, Ss u x.ad Wt.cells 4 x.ws) := Ro.of fun w' x y hy => ((hw y hy).1).ext_no x
  refine Sx.calls_into Try.func37 rfl Try.ntmps37 rfl fun a hT => ?_
  replace hT := hT.keep [0] rfl
  have H : Sx.Hp w (Sx.No) w [] := Sx.Hp.start _ _
  refine wp_seq_k fun K1 hK1 => ?_
  refine Sx.wp_text [(0, .take), (1, .take), (2, .take)] rfl ?_
  refine Sx.st_take hT rfl rfl rfl rfl (Sx.x_assign hT rfl rfl) ?_
  clear hT; intro a hT
  refine Sx.st_take hT rfl rfl rfl rfl (Sx.x_assign hT rfl rfl) ?_
  clear hT; intro a hT
  refine Sx.st_take hT rfl rfl rfl rfl (Sx.x_assign hT rfl rfl) ?_
  clear hT; intro a hT
  replace hT := hT.keep [4, 3, 2, 0] rfl
  refine Sx.ser_nil ?_
  refine Sx.then_normal (hK1 _ _ ?_)
  clear hK1
  refine wp_seq_k fun K2 hK2 => ?_
  refine Sx.wp_text [(0, .take)] rfl ?_
  refine Sx.st_take hT rfl rfl rfl rfl (Sx.x_assign hT rfl rfl) ?_
  clear hT; intro a hT
  replace hT := hT.keep [5, 4, 3, 2, 0] rfl
  refine Sx.ser_nil ?_
  refine Sx.then_normal (hK2 _ _ ?_)
  clear hK2
  refine wp_seq_k fun K3 hK3 => ?_
  refine wp_seq_k fun K4 hK4 => ?_
  refine Sx.wp_text [(0, .take)] rfl ?_
  refine Sx.st_take hT rfl rfl rfl rfl (Sx.x_assign hT rfl rfl) ?_
  clear hT; intro a hT
  replace hT := hT.keep [6, 5, 4, 3, 2, 0] rfl
  refine Sx.ser_nil ?_
  refine Sx.then_normal (hK4 _ _ ?_)
  clear hK4
  refine wp_block ?_
  replace H := H.nilR 36 7
  replace H := H.famNil 41 4 En.rw
  refine Sx.wp_loopH (G := Nat × List En × Option Addr × Nat) (fun ⟨i, L, ad2, c2⟩ => [(6, .int .i64 (i : Int)), (5, .slice ad2 L.length c2)]) (fun ⟨i, L, ad2, c2⟩ => [cF 41 4 En.rw (L), cR 36 7 ad2 (L).length c2 ((L).flatMap En.cells)]) (fun ⟨i, L, ad2, c2⟩ => i ≤ l.length ∧ (∀ k, k < i → fltE (l.map En.p) k = 0) ∧ L.map En.p = ordL Ep.s ((l.take i).map En.p) ∧ L.length = i) (fun ⟨i, L, ad2, c2⟩ => l.length - i) (0, [], none, 0) (hT.keep [6, 5, 0] rfl) (H.keep [0, 1] rfl rfl) (⟨Nat.zero_le _, (fun k h => by omega), (by rw [List.take_zero]; rfl), rfl⟩) ?_
  clear hT H
  rintro ⟨i, L, ad2, c2⟩ a w1 hJ hT H
  replace hT := hT.keep [6, 5, 0] rfl
  replace H := H.keep [0, 1] rfl rfl
  obtain ⟨hi, hok, hL, hLi⟩ := hJ
  refine wp_seq_k fun K5 hK5 => ?_
  refine wp_seq_k fun K6 hK6 => ?_
  refine Sx.wp_text [(0, .take), (1, .take), (2, .take), (3, .take)] rfl ?_
  refine Sx.st_take hT rfl rfl rfl rfl (Sx.x_move hT rfl rfl) ?_
  clear hT; intro a hT
  refine Sx.st_take hT rfl rfl rfl rfl (Sx.x_move hT rfl rfl) ?_
  clear hT; intro a hT
  refine Sx.st_take hT rfl rfl rfl rfl (Sx.x_len_slice hT rfl rfl Try.underlying22 rfl) ?_
  clear hT; intro a hT
  refine Sx.st_take hT rfl rfl rfl rfl ((fun w => Sx.x_lt w hT rfl rfl rfl)) ?_
  clear hT; intro a hT
  replace hT := hT.keep [12, 6, 5, 0] rfl
  refine Sx.ser_nil ?_
  refine Sx.then_normal (hK6 _ _ ?_)
  clear hK6
  refine Sx.wp_if hT rfl (fun hc7 => ?_) (fun hc7 => ?_)
  · try simp only [Sx.bq] at hc7
    obtain ⟨o, ho⟩ : ∃ q9, l[i]? = some q9 := ⟨_, List.getElem?_eq_getElem (by omega)⟩
    have hom := List.mem_of_getElem? ho
    have how := (hw o hom).2
    refine wp_skip ?_
    refine Sx.then_normal (hK5 _ _ ?_)
    clear hK5
    refine wp_seq_k fun K8 hK8 => ?_
    refine wp_block ?_
    refine wp_seq_k fun K9 hK9 => ?_
    refine wp_seq_k fun K10 hK10 => ?_
    refine Sx.wp_text [(0, .take), (1, .take), (2, .take), (3, .run), (4, .run), (5, .take)] rfl ?_
    refine Sx.st_take hT rfl rfl rfl rfl (Sx.x_move hT rfl rfl) ?_
    clear hT; intro a hT
    refine Sx.st_take hT rfl rfl rfl rfl (Sx.x_move hT rfl rfl) ?_
    clear hT; intro a hT
    refine Sx.st_take hT rfl rfl rfl rfl (Sx.x_index (k := i) hT rfl Try.underlying22 Try.ti36 (R.at H.ext).sv rfl rfl (by first | rfl | omega) (by omega)) ?_
    clear hT; intro a hT
    refine Sx.st_run hT rfl rfl rfl rfl (Sx.y_loadS hT rfl Try.underlying36 Try.ti36 rfl (by first | exact ((R.at H.ext).cs En.len ho) | exact ((R.at H.ext).cs En.len hq) | exact (((R.at H.ext).cs En.len ho).seg (i := 3) (k := 3) rfl) | exact (((R.at H.ext).cs En.len hq).seg (i := 3) (k := 3) rfl)) (by rfl)) ?_
    clear hT; intro a hT
    refine Sx.st_call hT rfl rfl rfl rfl rfl Try.can62 rfl (may25_calls o.t o.s o.ws ((RM.at H.ext) o hom) how) ?_
    rintro _ w2 ⟨rfl, E⟩
    refine ⟨_, rfl, ?_⟩
    clear hT; intro a hT
    replace H := H.pure E; clear E
    refine Sx.st_take hT rfl rfl rfl rfl (Sx.x_not hT rfl rfl) ?_
    clear hT; intro a hT
    replace hT := hT.keep [20, 12, 6, 5, 0] rfl
    refine Sx.ser_nil ?_
    refine Sx.then_normal (hK10 _ _ ?_)
    clear hK10
    refine Sx.wp_if hT rfl (fun hc11 => ?_) (fun hc11 => ?_)
    · try simp only [Sx.bq] at hc11
      have hem : emay o.t o.s o.ws = false := hc11
      refine wp_seq_k fun K12 hK12 => ?_
      refine Sx.wp_text [(0, .take), (1, .take), (2, .take), (3, .take)] rfl ?_
      refine Sx.st_take hT rfl rfl rfl rfl (Sx.x_move hT rfl rfl) ?_
      clear hT; intro a hT
      refine Sx.st_take hT rfl rfl rfl rfl (Sx.x_assign hT rfl rfl) ?_
      clear hT; intro a hT
      refine Sx.st_take hT rfl rfl rfl rfl (Sx.x_assign hT rfl rfl) ?_
      clear hT; intro a hT
      refine Sx.st_take hT rfl rfl rfl rfl (Sx.x_assign hT rfl rfl) ?_
      clear hT; intro a hT
      replace hT := hT.keep [4, 3, 2, 20, 12, 6, 5, 0] rfl
      refine Sx.ser_nil ?_
      refine Sx.then_normal (hK12 _ _ ?_)
      clear hK12
      refine wp_ret ?_
      refine Sx.then_ret ?_
      refine Sx.block_ret ?_
      refine Sx.then_ret ?_
      refine Sx.then_ret ?_
      refine Sx.block_ret ?_
      refine Sx.then_ret ?_
      refine Sx.done3 (fn := Try.f37) hT rfl (.tmp (hT.get 2 _ rfl)) (.tmp (hT.get 3 _ rfl)) (.tmp (hT.get 4 _ rfl)) ?_
      have hor : ordE (l.map En.p) = ((i : Int), 4) := ordE_at hok (by rw [List.length_map]; omega) (flt_may ho hem) (by decide)
      refine ⟨none, 0, [], ?_, ((H.keep [] rfl rfl).famNil 41 4 En.rw).nilR 36 7, ?_⟩
      · rw [hor]; rfl
      · rw [hor, if_neg (show ¬ (4 : Int) = 0 by decide)]; rfl
    · try simp only [Sx.bq] at hc11
      have hem : emay o.t o.s o.ws = true := hc11
      refine wp_skip ?_
      refine Sx.then_normal (hK9 _ _ ?_)
      clear hK9
      refine wp_seq_k fun K13 hK13 => ?_
      refine wp_seq_k fun K14 hK14 => ?_
      refine Sx.wp_text [(0, .take)] rfl ?_
      refine Sx.st_take hT rfl rfl rfl rfl (Sx.x_assign hT rfl rfl) ?_
      clear hT; intro a hT
      replace hT := hT.keep [7, 20, 12, 6, 5, 0] rfl
      refine Sx.ser_nil ?_
      refine Sx.then_normal (hK14 _ _ ?_)
      clear hK14
      refine wp_block ?_
      refine Sx.wp_loopH (G := Nat) (fun k => [(7, .int .i64 (k : Int))]) (fun k => []) (fun k => k ≤ i ∧ ∀ (t : Nat) q, t < k → l[t]? = some q → q.t ≠ o.t) (fun k => i - k) 0 (hT.keep [7, 20, 12, 6, 5, 0] rfl) (H.keep [0, 1] rfl rfl) (⟨Nat.zero_le _, fun t q h => by omega⟩) ?_
      clear hT H
      rintro k a w3 hJ hT H
      replace hT := hT.keep [7, 20, 12, 6, 5, 0] rfl
      replace H := H.keep [0, 1] rfl rfl
      obtain ⟨hk, hnt⟩ := hJ
      refine wp_seq_k fun K15 hK15 => ?_
      refine wp_seq_k fun K16 hK16 => ?_
      refine Sx.wp_text [(0, .take), (1, .take), (2, .take)] rfl ?_
      refine Sx.st_take hT rfl rfl rfl rfl (Sx.x_move hT rfl rfl) ?_
      clear hT; intro a hT
      refine Sx.st_take hT rfl rfl rfl rfl (Sx.x_move hT rfl rfl) ?_
      clear hT; intro a hT
      refine Sx.st_take hT rfl rfl rfl rfl ((fun w => Sx.x_lt w hT rfl rfl rfl)) ?_
      clear hT; intro a hT
      replace hT := hT.keep [24, 7, 20, 12, 6, 5, 0] rfl
      refine Sx.ser_nil ?_
      refine Sx.then_normal (hK16 _ _ ?_)
      clear hK16
      refine Sx.wp_if hT rfl (fun hc17 => ?_) (fun hc17 => ?_)
      · try simp only [Sx.bq] at hc17
        obtain ⟨q, hq⟩ : ∃ q9, l[k]? = some q9 := ⟨_, List.getElem?_eq_getElem (by omega)⟩
        refine wp_skip ?_
        refine Sx.then_normal (hK15 _ _ ?_)
        clear hK15
        refine wp_seq_k fun K18 hK18 => ?_
        refine wp_block ?_
        refine wp_seq_k fun K19 hK19 => ?_
        refine Sx.wp_draws (fun u => Sx.Ext (Sx.No) u) [(0, .take), (1, .take), (2, .take), (3, .take), (4, .held), (5, .take), (6, .take), (7, .take), (8, .take), (9, .held), (10, .take)] (by kernel_rfl) (by kernel_rfl) (fun u E _ => ?_)
        replace H := H.pure E; clear E
        have hH : Sx.Ext (Sx.No) u u := Sx.Ext.refl _ _
        have Hu := H
        refine Sx.st_take hT rfl rfl rfl rfl (Sx.x_move hT rfl rfl) ?_
        clear hT; intro a hT
        refine Sx.st_take hT rfl rfl rfl rfl (Sx.x_move hT rfl rfl) ?_
        clear hT; intro a hT
        refine Sx.st_take hT rfl rfl rfl rfl (Sx.x_index (k := k) hT rfl Try.underlying22 Try.ti36 (R.at H.ext).sv rfl rfl (by first | rfl | omega) (by omega)) ?_
        clear hT; intro a hT
        refine Sx.st_take hT rfl rfl rfl rfl (Sx.x_fieldAddr hT rfl Try.fa36_0 rfl) ?_
        clear hT; intro a hT
        refine Sx.st_held hT rfl rfl rfl rfl hH (fun w' h' => Sx.y_loadS hT rfl Try.underlying33 Try.ti33 rfl (((R.at (Hu.ext.step h')).cs En.len hq).seg (i := 0) (k := 3) rfl) (by rfl)) ?_
        clear hT; intro a hT
        refine Sx.st_take hT rfl rfl rfl rfl (Sx.x_move hT rfl rfl) ?_
        clear hT; intro a hT
        refine Sx.st_take hT rfl rfl rfl rfl (Sx.x_move hT rfl rfl) ?_
        clear hT; intro a hT
        refine Sx.st_take hT rfl rfl rfl rfl (Sx.x_index (k := i) hT rfl Try.underlying22 Try.ti36 (R.at H.ext).sv rfl rfl (by first | rfl | omega) (by omega)) ?_
        clear hT; intro a hT
        refine Sx.st_take hT rfl rfl rfl rfl (Sx.x_fieldAddr hT rfl Try.fa36_0 rfl) ?_
        clear hT; intro a hT
        refine Sx.st_held hT rfl rfl rfl rfl hH (fun w' h' => Sx.y_loadS hT rfl Try.underlying33 Try.ti33 rfl (((R.at (Hu.ext.step h')).cs En.len ho).seg (i := 0) (k := 3) rfl) (by rfl)) ?_
        clear hT; intro a hT
        refine Sx.st_take hT rfl rfl rfl rfl (Sx.x_eqS hT rfl (by kernel_rfl) (Try.eq33 _ _ _ _ _ _) rfl rfl rfl) ?_
        clear hT; intro a hT
        replace hT := hT.keep [37, 24, 7, 20, 12, 6, 5, 0] rfl
        clear Hu hH
        refine Sx.ser_calm ?_
        refine Sx.then_normal (hK19 _ _ ?_)
        clear hK19
        refine Sx.wp_if hT rfl (fun hc20 => ?_) (fun hc20 => ?_)
        · try simp only [Sx.bq] at hc20
          have heq : q.t = o.t := by obtain ⟨⟨a, b, c⟩, x, y, z, ws⟩ := q; obtain ⟨⟨a2, b2, c2⟩, x2, y2, z2, ws2⟩ := o; simp_all
          refine wp_seq_k fun K21 hK21 => ?_
          refine Sx.wp_text [(0, .take), (1, .take), (2, .take), (3, .take)] rfl ?_
          refine Sx.st_take hT rfl rfl rfl rfl (Sx.x_move hT rfl rfl) ?_
          clear hT; intro a hT
          refine Sx.st_take hT rfl rfl rfl rfl (Sx.x_assign hT rfl rfl) ?_
          clear hT; intro a hT
          refine Sx.st_take hT rfl rfl rfl rfl (Sx.x_assign hT rfl rfl) ?_
          clear hT; intro a hT
          refine Sx.st_take hT rfl rfl rfl rfl (Sx.x_assign hT rfl rfl) ?_
          clear hT; intro a hT
          replace hT := hT.keep [4, 3, 2, 37, 24, 7, 20, 12, 6, 5, 0] rfl
          refine Sx.ser_nil ?_
          refine Sx.then_normal (hK21 _ _ ?_)
          clear hK21
          refine wp_ret ?_
          refine Sx.block_ret ?_
          refine Sx.then_ret ?_
          refine Sx.then_ret ?_
          refine Sx.block_ret ?_
          refine Sx.then_ret ?_
          refine Sx.block_ret ?_
          refine Sx.then_ret ?_
          refine Sx.then_ret ?_
          refine Sx.block_ret ?_
          refine Sx.then_ret ?_
          refine Sx.done3 (fn := Try.f37) hT rfl (.tmp (hT.get 2 _ rfl)) (.tmp (hT.get 3 _ rfl)) (.tmp (hT.get 4 _ rfl)) ?_
          have hor : ordE (l.map En.p) = ((i : Int), 9) := ordE_at hok (by rw [List.length_map]; omega) (flt_txn ho hem (by omega) hq heq) (by decide)
          refine ⟨none, 0, [], ?_, ((H.keep [] rfl rfl).famNil 41 4 En.rw).nilR 36 7, ?_⟩
          · rw [hor]; rfl
          · rw [hor, if_neg (show ¬ (9 : Int) = 0 by decide)]; rfl
        · try simp only [Sx.bq] at hc20
          have hne : q.t ≠ o.t := by intro h9; rw [h9] at hc20; simp at hc20
          refine wp_skip ?_
          refine Sx.block_normal ?_
          refine Sx.then_normal (hK18 _ _ ?_)
          clear hK18
          refine Sx.wp_text [(0, .take), (1, .take), (2, .take)] rfl ?_
          refine Sx.st_take hT rfl rfl rfl rfl (Sx.x_move hT rfl rfl) ?_
          clear hT; intro a hT
          refine Sx.st_take hT rfl rfl rfl rfl ((fun w => Sx.x_add w hT rfl rfl rfl (Sx.wrap64 (by omega)))) ?_
          clear hT; intro a hT
          refine Sx.st_take hT rfl rfl rfl rfl (Sx.x_assign hT rfl rfl) ?_
          clear hT; intro a hT
          replace hT := hT.keep [7, 37, 24, 20, 12, 6, 5, 0] rfl
          refine Sx.ser_nil ?_
          refine Sx.then_normal ?_
          exact ⟨k + 1, ⟨by omega, fun t q9 h3 h4 => by rcases Nat.lt_or_ge t k with h5 | h5; exact hnt t q9 h5 h4; obtain rfl : t = k := (by omega); rw [hq] at h4; cases h4; exact hne⟩, (hT.keep [7, 20, 12, 6, 5, 0] rfl), (H.keep [0, 1] rfl rfl), by omega⟩
      · try simp only [Sx.bq] at hc17
        have hki : k = i := by omega
        rw [hki] at hnt
        refine wp_exit ?_
        refine Sx.then_exit ?_
        refine Sx.then_exit ?_
        refine Sx.block_exit ?_
        refine Sx.then_normal (hK13 _ _ ?_)
        clear hK13
        refine wp_seq_k fun K22 hK22 => ?_
        refine wp_seq_k fun K23 hK23 => ?_
        refine Sx.wp_text [(0, .take)] rfl ?_
        refine Sx.st_take hT rfl rfl rfl rfl (Sx.x_assign hT rfl rfl) ?_
        clear hT; intro a hT
        replace hT := hT.keep [8, 24, 7, 20, 12, 6, 5, 0] rfl
        refine Sx.ser_nil ?_
        refine Sx.then_normal (hK23 _ _ ?_)
        clear hK23
        refine wp_block ?_
        refine Sx.wp_loopH (G := Nat) (fun k => [(8, .int .i64 (k : Int))]) (fun k => []) (fun k => k ≤ i ∧ ∀ (t : Nat) q, t < k → l[t]? = some q → q.s ≠ o.s) (fun k => i - k) 0 (hT.keep [8, 24, 7, 20, 12, 6, 5, 0] rfl) (H.keep [0, 1] rfl rfl) (⟨Nat.zero_le _, fun t q h => by omega⟩) ?_
        clear hT H
        rintro k a w4 hJ hT H
        replace hT := hT.keep [8, 24, 7, 20, 12, 6, 5, 0] rfl
        replace H := H.keep [0, 1] rfl rfl
        obtain ⟨hk2, hns⟩ := hJ
        refine wp_seq_k fun K24 hK24 => ?_
        refine wp_seq_k fun K25 hK25 => ?_
        refine Sx.wp_text [(0, .take), (1, .take), (2, .take)] rfl ?_
        refine Sx.st_take hT rfl rfl rfl rfl (Sx.x_move hT rfl rfl) ?_
        clear hT; intro a hT
        refine Sx.st_take hT rfl rfl rfl rfl (Sx.x_move hT rfl rfl) ?_
        clear hT; intro a hT
        refine Sx.st_take hT rfl rfl rfl rfl ((fun w => Sx.x_lt w hT rfl rfl rfl)) ?_
        clear hT; intro a hT
        replace hT := hT.keep [41, 8, 24, 7, 20, 12, 6, 5, 0] rfl
        refine Sx.ser_nil ?_
        refine Sx.then_normal (hK25 _ _ ?_)
        clear hK25
        refine Sx.wp_if hT rfl (fun hc26 => ?_) (fun hc26 => ?_)
        · try simp only [Sx.bq] at hc26
          obtain ⟨q, hq⟩ : ∃ q9, l[k]? = some q9 := ⟨_, List.getElem?_eq_getElem (by omega)⟩
          refine wp_skip ?_
          refine Sx.then_normal (hK24 _ _ ?_)
          clear hK24
          refine wp_seq_k fun K27 hK27 => ?_
          refine wp_block ?_
          refine wp_seq_k fun K28 hK28 => ?_
          refine Sx.wp_draws (fun u => Sx.Ext (Sx.No) u) [(0, .take), (1, .take), (2, .take), (3, .take), (4, .held), (5, .take), (6, .take), (7, .take), (8, .take), (9, .held), (10, .take)] (by kernel_rfl) (by kernel_rfl) (fun u E _ => ?_)
          replace H := H.pure E; clear E
          have hH : Sx.Ext (Sx.No) u u := Sx.Ext.refl _ _
          have Hu := H
          refine Sx.st_take hT rfl rfl rfl rfl (Sx.x_move hT rfl rfl) ?_
          clear hT; intro a hT
          refine Sx.st_take hT rfl rfl rfl rfl (Sx.x_move hT rfl rfl) ?_
          clear hT; intro a hT
          refine Sx.st_take hT rfl rfl rfl rfl (Sx.x_index (k := k) hT rfl Try.underlying22 Try.ti36 (R.at H.ext).sv rfl rfl (by first | rfl | omega) (by omega)) ?_
          clear hT; intro a hT
          refine Sx.st_take hT rfl rfl rfl rfl (Sx.x_fieldAddr hT rfl Try.fa36_1 rfl) ?_
          clear hT; intro a hT
          refine Sx.st_held hT rfl rfl rfl rfl hH (fun w' h' => Sx.y_loadS hT rfl Try.underlying24 Try.ti24 rfl (by first | exact ((R.at (Hu.ext.step h')).cs En.len ho) | exact ((R.at (Hu.ext.step h')).cs En.len hq) | exact (((R.at (Hu.ext.step h')).cs En.len ho).seg (i := 3) (k := 3) rfl) | exact (((R.at (Hu.ext.step h')).cs En.len hq).seg (i := 3) (k := 3) rfl)) (by rfl)) ?_
          clear hT; intro a hT
          refine Sx.st_take hT rfl rfl rfl rfl (Sx.x_move hT rfl rfl) ?_
          clear hT; intro a hT
          refine Sx.st_take hT rfl rfl rfl rfl (Sx.x_move hT rfl rfl) ?_
          clear hT; intro a hT
          refine Sx.st_take hT rfl rfl rfl rfl (Sx.x_index (k := i) hT rfl Try.underlying22 Try.ti36 (R.at H.ext).sv rfl rfl (by first | rfl | omega) (by omega)) ?_
          clear hT; intro a hT
          refine Sx.st_take hT rfl rfl rfl rfl (Sx.x_fieldAddr hT rfl Try.fa36_1 rfl) ?_
          clear hT; intro a hT
          refine Sx.st_held hT rfl rfl rfl rfl hH (fun w' h' => Sx.y_loadS hT rfl Try.underlying24 Try.ti24 rfl (by first | exact ((R.at (Hu.ext.step h')).cs En.len ho) | exact ((R.at (Hu.ext.step h')).cs En.len hq) | exact (((R.at (Hu.ext.step h')).cs En.len ho).seg (i := 3) (k := 3) rfl) | exact (((R.at (Hu.ext.step h')).cs En.len hq).seg (i := 3) (k := 3) rfl)) (by rfl)) ?_
          clear hT; intro a hT
          refine Sx.st_take hT rfl rfl rfl rfl (Sx.x_eqS hT rfl (by kernel_rfl) (Try.eq24 _ _ _ _ _ _) rfl rfl rfl) ?_
          clear hT; intro a hT
          replace hT := hT.keep [54, 41, 8, 24, 7, 20, 12, 6, 5, 0] rfl
          clear Hu hH
          refine Sx.ser_calm ?_
          refine Sx.then_normal (hK28 _ _ ?_)
          clear hK28
          refine Sx.wp_if hT rfl (fun hc29 => ?_) (fun hc29 => ?_)
          · try simp only [Sx.bq] at hc29
            have heq : q.s = o.s := by obtain ⟨x, ⟨a, b, c⟩, y, z, ws⟩ := q; obtain ⟨x2, ⟨a2, b2, c2⟩, y2, z2, ws2⟩ := o; simp_all
            refine wp_seq_k fun K30 hK30 => ?_
            refine Sx.wp_text [(0, .take), (1, .take), (2, .take), (3, .take)] rfl ?_
            refine Sx.st_take hT rfl rfl rfl rfl (Sx.x_move hT rfl rfl) ?_
            clear hT; intro a hT
            refine Sx.st_take hT rfl rfl rfl rfl (Sx.x_assign hT rfl rfl) ?_
            clear hT; intro a hT
            refine Sx.st_take hT rfl rfl rfl rfl (Sx.x_assign hT rfl rfl) ?_
            clear hT; intro a hT
            refine Sx.st_take hT rfl rfl rfl rfl (Sx.x_assign hT rfl rfl) ?_
            clear hT; intro a hT
            replace hT := hT.keep [4, 3, 2, 54, 41, 8, 24, 7, 20, 12, 6, 5, 0] rfl
            refine Sx.ser_nil ?_
            refine Sx.then_normal (hK30 _ _ ?_)
            clear hK30
            refine wp_ret ?_
            refine Sx.block_ret ?_
            refine Sx.then_ret ?_
            refine Sx.then_ret ?_
            refine Sx.block_ret ?_
            refine Sx.then_ret ?_
            refine Sx.block_ret ?_
            refine Sx.then_ret ?_
            refine Sx.then_ret ?_
            refine Sx.block_ret ?_
            refine Sx.then_ret ?_
            refine Sx.done3 (fn := Try.f37) hT rfl (.tmp (hT.get 2 _ rfl)) (.tmp (hT.get 3 _ rfl)) (.tmp (hT.get 4 _ rfl)) ?_
            have hor : ordE (l.map En.p) = ((i : Int), 17) := ordE_at hok (by rw [List.length_map]; omega) (flt_stamp ho hem hnt (by omega) hq heq) (by decide)
            refine ⟨none, 0, [], ?_, ((H.keep [] rfl rfl).famNil 41 4 En.rw).nilR 36 7, ?_⟩
            · rw [hor]; rfl
            · rw [hor, if_neg (show ¬ (17 : Int) = 0 by decide)]; rfl
          · try simp only [Sx.bq] at hc29
            have hne : q.s ≠ o.s := by intro h9; rw [h9] at hc29; simp at hc29
            refine wp_skip ?_
            refine Sx.block_normal ?_
            refine Sx.then_normal (hK27 _ _ ?_)
            clear hK27
            refine Sx.wp_text [(0, .take), (1, .take), (2, .take)] rfl ?_
            refine Sx.st_take hT rfl rfl rfl rfl (Sx.x_move hT rfl rfl) ?_
            clear hT; intro a hT
            refine Sx.st_take hT rfl rfl rfl rfl ((fun w => Sx.x_add w hT rfl rfl rfl (Sx.wrap64 (by omega)))) ?_
            clear hT; intro a hT
            refine Sx.st_take hT rfl rfl rfl rfl (Sx.x_assign hT rfl rfl) ?_
            clear hT; intro a hT
            replace hT := hT.keep [8, 54, 41, 24, 7, 20, 12, 6, 5, 0] rfl
            refine Sx.ser_nil ?_
            refine Sx.then_normal ?_
            exact ⟨k + 1, ⟨by omega, fun t q9 h3 h4 => by rcases Nat.lt_or_ge t k with h5 | h5; exact hns t q9 h5 h4; obtain rfl : t = k := (by omega); rw [hq] at h4; cases h4; exact hne⟩, (hT.keep [8, 24, 7, 20, 12, 6, 5, 0] rfl), (H.keep [0, 1] rfl rfl), by omega⟩
        · try simp only [Sx.bq] at hc26
          have hki2 : k = i := by omega
          rw [hki2] at hns
          refine wp_exit ?_
          refine Sx.then_exit ?_
          refine Sx.then_exit ?_
          refine Sx.block_exit ?_
          refine Sx.then_normal (hK22 _ _ ?_)
          clear hK22
          refine Sx.wp_draws (fun u => Sx.Ext (Sx.No) u) [(0, .take), (1, .take), (2, .take), (3, .take), (4, .take), (5, .held), (6, .take), (7, .take), (8, .take), (9, .take), (10, .held), (11, .take), (12, .take), (13, .take), (14, .take), (15, .held), (16, .keep), (17, .take), (18, .run), (19, .take)] (by kernel_rfl) (by kernel_rfl) (fun u E _ => ?_)
          replace H := H.pure E; clear E
          have hH : Sx.Ext (Sx.No) u u := Sx.Ext.refl _ _
          have Hu := H
          refine Sx.st_take hT rfl rfl rfl rfl (Sx.x_move hT rfl rfl) ?_
          clear hT; intro a hT
          refine Sx.st_take hT rfl rfl rfl rfl (Sx.x_move hT rfl rfl) ?_
          clear hT; intro a hT
          refine Sx.st_take hT rfl rfl rfl rfl (Sx.x_move hT rfl rfl) ?_
          clear hT; intro a hT
          refine Sx.st_take hT rfl rfl rfl rfl (Sx.x_index (k := i) hT rfl Try.underlying22 Try.ti36 (R.at H.ext).sv rfl rfl (by first | rfl | omega) (by omega)) ?_
          clear hT; intro a hT
          refine Sx.st_take hT rfl rfl rfl rfl (Sx.x_fieldAddr hT rfl Try.fa36_0 rfl) ?_
          clear hT; intro a hT
          refine Sx.st_held hT rfl rfl rfl rfl hH (fun w' h' => Sx.y_loadS hT rfl Try.underlying33 Try.ti33 rfl (((R.at (Hu.ext.step h')).cs En.len ho).seg (i := 0) (k := 3) rfl) (by rfl)) ?_
          clear hT; intro a hT
          refine Sx.st_take hT rfl rfl rfl rfl (Sx.x_move hT rfl rfl) ?_
          clear hT; intro a hT
          refine Sx.st_take hT rfl rfl rfl rfl (Sx.x_move hT rfl rfl) ?_
          clear hT; intro a hT
          refine Sx.st_take hT rfl rfl rfl rfl (Sx.x_index (k := i) hT rfl Try.underlying22 Try.ti36 (R.at H.ext).sv rfl rfl (by first | rfl | omega) (by omega)) ?_
          clear hT; intro a hT
          refine Sx.st_take hT rfl rfl rfl rfl (Sx.x_fieldAddr hT rfl Try.fa36_1 rfl) ?_
          clear hT; intro a hT
          refine Sx.st_held hT rfl rfl rfl rfl hH (fun w' h' => Sx.y_loadS hT rfl Try.underlying24 Try.ti24 rfl (by first | exact ((R.at (Hu.ext.step h')).cs En.len ho) | exact ((R.at (Hu.ext.step h')).cs En.len hq) | exact (((R.at (Hu.ext.step h')).cs En.len ho).seg (i := 3) (k := 3) rfl) | exact (((R.at (Hu.ext.step h')).cs En.len hq).seg (i := 3) (k := 3) rfl)) (by rfl)) ?_
          clear hT; intro a hT
          refine Sx.st_take hT rfl rfl rfl rfl (Sx.x_move hT rfl rfl) ?_
          clear hT; intro a hT
          refine Sx.st_take hT rfl rfl rfl rfl (Sx.x_move hT rfl rfl) ?_
          clear hT; intro a hT
          refine Sx.st_take hT rfl rfl rfl rfl (Sx.x_index (k := i) hT rfl Try.underlying22 Try.ti36 (R.at H.ext).sv rfl rfl (by first | rfl | omega) (by omega)) ?_
          clear hT; intro a hT
          refine Sx.st_take hT rfl rfl rfl rfl (Sx.x_fieldAddr hT rfl Try.fa36_2 rfl) ?_
          clear hT; intro a hT
          refine Sx.st_held hT rfl rfl rfl rfl hH (fun w' h' => Sx.x_load1 hT rfl Try.fl34 rfl ((R.at (Hu.ext.step h')).cell (j := 6) En.len ho rfl)) ?_
          clear hT; intro a hT
          refine Sx.st_callkeep hT rfl rfl rfl rfl rfl Try.can34 rfl (CopyWrites_calls o.ws ((RM.at H.ext) o hom) how) ?_
          rintro _ w5 ⟨ad7, c7, rfl, K⟩
          refine ⟨_, rfl, hH.step K.ext, ?_⟩
          replace hH := hH.step K.ext
          clear hT; intro a hT
          replace H := H.more K rfl; clear K
          refine Sx.st_take hT rfl rfl rfl rfl (Sx.x_bld hT rfl Try.bld36 rfl rfl) ?_
          clear hT; intro a hT
          refine Sx.st_call hT rfl rfl rfl rfl rfl Try.can63 rfl (place_calls L (⟨o.t, o.s, ad7, c7, o.ws⟩ : En) ((H.row 2 rfl).ssn rfl) (H.row 2 rfl).le.1 (rownil (H.row 2 rfl)) (by omega)) ?_
          rintro _ w6 ⟨ad8, c8, rfl, K⟩
          refine ⟨_, rfl, ?_⟩
          clear hT; intro a hT
          replace H := H.more K rfl; clear K
          have hxe : En.p ⟨o.t, o.s, ad7, c7, o.ws⟩ = o.p := rfl
          replace H := H.famPut (x := (⟨o.t, o.s, ad7, c7, o.ws⟩ : En)) 2 1 rfl rfl rfl rfl [0, 3] rfl rfl (place_perm En.s _ L)
          refine Sx.st_take hT rfl rfl rfl rfl (Sx.x_assign hT rfl rfl) ?_
          clear hT; intro a hT
          replace hT := hT.keep [5, 41, 8, 24, 7, 20, 12, 6, 0] rfl
          clear Hu hH
          refine Sx.ser_calm ?_
          refine Sx.block_normal ?_
          refine Sx.then_normal (hK8 _ _ ?_)
          clear hK8
          refine Sx.wp_text [(0, .take), (1, .take), (2, .take)] rfl ?_
          refine Sx.st_take hT rfl rfl rfl rfl (Sx.x_move hT rfl rfl) ?_
          clear hT; intro a hT
          refine Sx.st_take hT rfl rfl rfl rfl ((fun w => Sx.x_add w hT rfl rfl rfl (Sx.wrap64 (by omega)))) ?_
          clear hT; intro a hT
          refine Sx.st_take hT rfl rfl rfl rfl (Sx.x_assign hT rfl rfl) ?_
          clear hT; intro a hT
          replace hT := hT.keep [6, 5, 41, 8, 24, 7, 20, 12, 0] rfl
          refine Sx.ser_nil ?_
          refine Sx.then_normal ?_
          exact ⟨(i + 1, placeG En.s ⟨o.t, o.s, ad7, c7, o.ws⟩ L, ad8, c8), ⟨by show i + 1 ≤ _; omega, fun k hk => by rcases Nat.lt_or_ge k i with h5 | h5; exact hok k h5; obtain rfl : k = i := (by have : k < i + 1 := hk; omega); exact flt_no ho hem hnt hns, by show (placeG _ _ _).map En.p = _; rw [place_map (κ := En.s) (κ' := Ep.s) (f := En.p) (fun _ => rfl), hL, take_app ho, List.map_append, List.map_singleton, ord_snoc]; rfl, by show (placeG _ _ _).length = i + 1; rw [place_len, hLi]⟩, (hT.keep [6, 5, 0] rfl), (H.keep [0, 1] rfl rfl), by show _ - (i + 1) < _ - i; omega⟩
  · try simp only [Sx.bq] at hc7
    have hil : i = l.length := by omega
    rw [hil, List.take_length] at hL
    have hok9 : ∀ k, k < (l.map En.p).length → fltE (l.map En.p) k = 0 := by rw [List.length_map, ← hil]; exact hok
    refine wp_exit ?_
    refine Sx.then_exit ?_
    refine Sx.then_exit ?_
    refine Sx.block_exit ?_
    refine Sx.then_normal (hK3 _ _ ?_)
    clear hK3
    refine wp_seq_k fun K31 hK31 => ?_
    refine Sx.wp_text [(0, .take), (1, .take), (2, .take), (3, .take)] rfl ?_
    refine Sx.st_take hT rfl rfl rfl rfl (Sx.x_move hT rfl rfl) ?_
    clear hT; intro a hT
    refine Sx.st_take hT rfl rfl rfl rfl (Sx.x_assign hT rfl rfl) ?_
    clear hT; intro a hT
    refine Sx.st_take hT rfl rfl rfl rfl (Sx.x_assign hT rfl rfl) ?_
    clear hT; intro a hT
    refine Sx.st_take hT rfl rfl rfl rfl (Sx.x_assign hT rfl rfl) ?_
    clear hT; intro a hT
    replace hT := hT.keep [4, 3, 2, 12, 6, 5, 0] rfl
    refine Sx.ser_nil ?_
    refine Sx.then_normal (hK31 _ _ ?_)
    clear hK31
    refine wp_ret ?_
    refine Sx.done3 (fn := Try.f37) hT rfl (.tmp (hT.get 2 _ rfl)) (.tmp (hT.get 3 _ rfl)) (.tmp (hT.get 4 _ rfl)) ?_
    refine ⟨_, _, L, ?_, H.keep [1, 0] rfl rfl, ?_⟩
    · rw [ordE_no hok9]
    · rw [ordE_no hok9, if_pos rfl]; exact hL

theorem Order25_calls {ad : Option Addr} {c : Nat} (l : List En) {w : World} (hs : Ss w ad En.cells 7 l) (hw : ∀ x ∈ l, Ss w x.ad Wt.cells 4 x.ws ∧ x.ws.length ≤ 1000000) (hl : l.length ≤ 1000000) : Calls Try.prog 12 #[.slice ad l.length c] w fun e w' => ∃ ad' c' L, e = .returned (.tuple #[.slice ad' L.length c', .int .i64 (ordE (l.map En.p)).2]) ∧ Hp w No w' [cR 36 7 ad' (L).length c' ((L).flatMap En.cells), cF 41 4 En.rw (L)] ∧ L.map En.p = (if (ordE (l.map En.p)).2 = 0 then ordL Ep.s (l.map En.p) else []) := by
  refine Sx.calls_into Try.func12 rfl Try.ntmps12 rfl fun a hT => ?_
  replace hT := hT.keep [0] rfl
  have H : Sx.Hp w (Sx.No) w [] := Sx.Hp.start _ _
  refine wp_seq_k fun K1 hK1 => ?_
  refine Sx.wp_text [(0, .take), (1, .take)] rfl ?_
  refine Sx.st_take hT rfl rfl rfl rfl (Sx.x_assign hT rfl rfl) ?_
  clear hT; intro a hT
  refine Sx.st_take hT rfl rfl rfl rfl (Sx.x_assign hT rfl rfl) ?_
  clear hT; intro a hT
  replace hT := hT.keep [3, 2, 0] rfl
  refine Sx.ser_nil ?_
  refine Sx.then_normal (hK1 _ _ ?_)
  clear hK1
  refine wp_seq_k fun K2 hK2 => ?_
  refine Sx.wp_text [(0, .take), (1, .run), (2, .take), (3, .take), (4, .take), (5, .take), (6, .take), (7, .take), (8, .take)] rfl ?_
  refine Sx.st_take hT rfl rfl rfl rfl (Sx.x_move hT rfl rfl) ?_
  clear hT; intro a hT
  refine Sx.st_call hT rfl rfl rfl rfl rfl Try.can37 rfl (order_calls l hs hw hl) ?_
  rintro _ w1 ⟨ad8, c8, L, rfl, K, hL⟩
  refine ⟨_, rfl, ?_⟩
  clear hT; intro a hT
  replace H := H.more K rfl; clear K
  refine Sx.st_take hT rfl rfl rfl rfl (Sx.x_move hT rfl rfl) ?_
  clear hT; intro a hT
  refine Sx.st_take hT rfl rfl rfl rfl (Sx.x_extractL hT rfl rfl rfl) ?_
  clear hT; intro a hT
  refine Sx.st_take hT rfl rfl rfl rfl (Sx.x_extractL hT rfl rfl rfl) ?_
  clear hT; intro a hT
  refine Sx.st_take hT rfl rfl rfl rfl (Sx.x_extractL hT rfl rfl rfl) ?_
  clear hT; intro a hT
  refine Sx.st_take hT rfl rfl rfl rfl (Sx.x_assign hT rfl rfl) ?_
  clear hT; intro a hT
  refine Sx.st_take hT rfl rfl rfl rfl (Sx.x_assign hT rfl rfl) ?_
  clear hT; intro a hT
  refine Sx.st_take hT rfl rfl rfl rfl (Sx.x_assign hT rfl rfl) ?_
  clear hT; intro a hT
  replace hT := hT.keep [6, 4, 3, 2, 0] rfl
  refine Sx.ser_nil ?_
  refine Sx.then_normal (hK2 _ _ ?_)
  clear hK2
  refine wp_seq_k fun K3 hK3 => ?_
  refine Sx.wp_text [(0, .take), (1, .take), (2, .take), (3, .take)] rfl ?_
  refine Sx.st_take hT rfl rfl rfl rfl (Sx.x_move hT rfl rfl) ?_
  clear hT; intro a hT
  refine Sx.st_take hT rfl rfl rfl rfl (Sx.x_move hT rfl rfl) ?_
  clear hT; intro a hT
  refine Sx.st_take hT rfl rfl rfl rfl (Sx.x_assign hT rfl rfl) ?_
  clear hT; intro a hT
  refine Sx.st_take hT rfl rfl rfl rfl (Sx.x_assign hT rfl rfl) ?_
  clear hT; intro a hT
  replace hT := hT.keep [3, 2, 6, 4, 0] rfl
  refine Sx.ser_nil ?_
  refine Sx.then_normal (hK3 _ _ ?_)
  clear hK3
  refine wp_ret ?_
  refine Sx.done2 (fn := Try.f12) hT rfl (.tmp (hT.get 2 _ rfl)) (.tmp (hT.get 3 _ rfl)) ?_
  exact ⟨_, _, L, rfl, H.keep [0, 1] rfl rfl, hL⟩

theorem makes_calls {ad : Option Addr} {c : Nat} (l : List En) (at_ : Stp) (below : Bool) {w : World} (hs : Ss w ad En.cells 7 l) (hw : ∀ x ∈ l, Ss w x.ad Wt.cells 4 x.ws) (hl : l.length ≤ 1000000) (hsum : sumN wl l ≤ 900000) : Calls Try.prog 44 #[.slice ad l.length c, .agg #[.int .i64 at_.w, .int .i64 at_.l, .int .i64 at_.n], .bool below] w fun e w' => ∃ ad' c', e = .returned (.slice ad' (makesF (l.map En.p) at_ below).length c') ∧ Hp w No w' [cR 73 4 ad' (makesF (l.map En.p) at_ below).length c' ((makesF (l.map En.p) at_ below).flatMap Wt.cells)] := by
  have R : Ro w No _ := Ro.of fun w' x => hs.ext_no x
  have RM : Ro w No (fun u => ∀ x ∈ l, Ss u x.ad Wt.cells 4 x.ws) := Ro.of fun w' x y hy => (hw y hy).ext_no x
  refine Sx.calls_into Try.func44 rfl Try.ntmps44 rfl fun a hT => ?_
  replace hT := hT.keep [0, 1, 2] rfl
  have H : Sx.Hp w (Sx.No) w [] := Sx.Hp.start _ _
  refine wp_seq_k fun K1 hK1 => ?_
  refine Sx.wp_text [(0, .run), (1, .take)] rfl ?_
  refine Sx.st_eff hT rfl rfl rfl rfl (Sx.y_box hT rfl rfl rfl _) ?_
  clear hT; rintro _ w1 ⟨b1, rfl, N⟩ a hT
  replace H := H.new N; clear N
  refine Sx.st_take hT rfl rfl rfl rfl (Sx.x_assign hT rfl rfl) ?_
  clear hT; intro a hT
  replace hT := hT.keep [6, 4, 0, 1, 2] rfl
  refine Sx.ser_nil ?_
  refine Sx.then_normal (hK1 _ _ ?_)
  clear hK1
  refine wp_seq_k fun K2 hK2 => ?_
  refine Sx.wp_text [(0, .take)] rfl ?_
  refine Sx.st_take hT rfl rfl rfl rfl (Sx.x_assign hT rfl rfl) ?_
  clear hT; intro a hT
  replace hT := hT.keep [7, 6, 4, 0, 1, 2] rfl
  refine Sx.ser_nil ?_
  refine Sx.then_normal (hK2 _ _ ?_)
  clear hK2
  refine wp_seq_k fun K3 hK3 => ?_
  refine wp_seq_k fun K4 hK4 => ?_
  refine Sx.wp_text [(0, .take)] rfl ?_
  refine Sx.st_take hT rfl rfl rfl rfl (Sx.x_assign hT rfl rfl) ?_
  clear hT; intro a hT
  replace hT := hT.keep [8, 7, 6, 4, 0, 1, 2] rfl
  refine Sx.ser_nil ?_
  refine Sx.then_normal (hK4 _ _ ?_)
  clear hK4
  refine wp_block ?_
  replace H := H.nilR 36 7
  refine Sx.wp_loopH (G := Nat × List En × Option Addr × Nat) (fun ⟨i, L, ad2, c2⟩ => [(8, .int .i64 (i : Int)), (7, .slice ad2 L.length c2)]) (fun ⟨i, L, ad2, c2⟩ => [cR 36 7 ad2 (L).length c2 ((L).flatMap En.cells)]) (fun ⟨i, L, ad2, c2⟩ => i ≤ l.length ∧ L = ordL En.s ((l.take i).filter fun x => upto at_ below x.s) ∧ L.length ≤ i) (fun ⟨i, L, ad2, c2⟩ => l.length - i) (0, [], none, 0) (hT.keep [8, 7, 6, 4, 0, 1, 2] rfl) (H.keep [0, 1] rfl rfl) (⟨Nat.zero_le _, (by rw [List.take_zero]; rfl), Nat.le_refl _⟩) ?_
  clear hT H
  rintro ⟨i, L, ad2, c2⟩ a w2 hJ hT H
  replace hT := hT.keep [8, 7, 6, 4, 0, 1, 2] rfl
  replace H := H.keep [0, 1] rfl rfl
  obtain ⟨hi, hL, hLi⟩ := hJ
  refine wp_seq_k fun K5 hK5 => ?_
  refine wp_seq_k fun K6 hK6 => ?_
  refine Sx.wp_text [(0, .take), (1, .take), (2, .take), (3, .take)] rfl ?_
  refine Sx.st_take hT rfl rfl rfl rfl (Sx.x_move hT rfl rfl) ?_
  clear hT; intro a hT
  refine Sx.st_take hT rfl rfl rfl rfl (Sx.x_move hT rfl rfl) ?_
  clear hT; intro a hT
  refine Sx.st_take hT rfl rfl rfl rfl (Sx.x_len_slice hT rfl rfl Try.underlying22 rfl) ?_
  clear hT; intro a hT
  refine Sx.st_take hT rfl rfl rfl rfl ((fun w => Sx.x_lt w hT rfl rfl rfl)) ?_
  clear hT; intro a hT
  replace hT := hT.keep [17, 8, 7, 6, 4, 0, 1, 2] rfl
  refine Sx.ser_nil ?_
  refine Sx.then_normal (hK6 _ _ ?_)
  clear hK6
  refine Sx.wp_if hT rfl (fun hc7 => ?_) (fun hc7 => ?_)
  · try simp only [Sx.bq] at hc7
    obtain ⟨o, ho⟩ : ∃ q9, l[i]? = some q9 := ⟨_, List.getElem?_eq_getElem (by omega)⟩
    refine wp_skip ?_
    refine Sx.then_normal (hK5 _ _ ?_)
    clear hK5
    refine wp_seq_k fun K8 hK8 => ?_
    refine wp_block ?_
    refine wp_seq_k fun K9 hK9 => ?_
    refine Sx.wp_draws (fun u => Sx.Ext (Sx.No) u) [(0, .take), (1, .take), (2, .take), (3, .take), (4, .held), (5, .held), (6, .run), (7, .take)] (by kernel_rfl) (by kernel_rfl) (fun u E _ => ?_)
    replace H := H.pure E; clear E
    have hH : Sx.Ext (Sx.No) u u := Sx.Ext.refl _ _
    have Hu := H
    refine Sx.st_take hT rfl rfl rfl rfl (Sx.x_move hT rfl rfl) ?_
    clear hT; intro a hT
    refine Sx.st_take hT rfl rfl rfl rfl (Sx.x_move hT rfl rfl) ?_
    clear hT; intro a hT
    refine Sx.st_take hT rfl rfl rfl rfl (Sx.x_index (k := i) hT rfl Try.underlying22 Try.ti36 (R.at H.ext).sv rfl rfl (by first | rfl | omega) (by omega)) ?_
    clear hT; intro a hT
    refine Sx.st_take hT rfl rfl rfl rfl (Sx.x_fieldAddr hT rfl Try.fa36_1 rfl) ?_
    clear hT; intro a hT
    refine Sx.st_held hT rfl rfl rfl rfl hH (fun w' h' => Sx.y_loadS hT rfl Try.underlying24 Try.ti24 rfl (by first | exact ((Hu.heldB 1 rfl h' Sx.off_No).seg (k := 3) rfl) | exact (((R.at (Hu.ext.step h')).cs En.len ho).seg (i := 3) (k := 3) rfl) | exact ((R.at (Hu.ext.step h')).cs En.len ho)) (by rfl)) ?_
    clear hT; intro a hT
    refine Sx.st_held hT rfl rfl rfl rfl hH (fun w' h' => Sx.y_loadS hT rfl Try.underlying24 Try.ti24 rfl ((Hu.heldB 1 rfl h' Sx.off_No).seg (k := 3) rfl) (by rfl)) ?_
    clear hT; intro a hT
    refine Sx.st_call hT rfl rfl rfl rfl rfl Try.can51 rfl (xCompare_calls o.s at_ _) ?_
    rintro _ w3 ⟨rfl, E⟩
    refine ⟨_, rfl, ?_⟩
    clear hT; intro a hT
    replace H := H.pure E; clear E
    refine Sx.st_take hT rfl rfl rfl rfl (Sx.x_assign hT rfl rfl) ?_
    clear hT; intro a hT
    replace hT := hT.keep [9, 17, 8, 7, 6, 4, 0, 1, 2] rfl
    clear Hu hH
    refine Sx.ser_calm ?_
    refine Sx.then_normal (hK9 _ _ ?_)
    clear hK9
    refine wp_seq_k fun K10 hK10 => ?_
    refine Sx.wp_text [(0, .take), (1, .take), (2, .take), (3, .take), (4, .take), (5, .take), (6, .take), (7, .take), (8, .take), (9, .take)] rfl ?_
    refine Sx.st_take hT rfl rfl rfl rfl (Sx.x_move hT rfl rfl) ?_
    clear hT; intro a hT
    refine Sx.st_take hT rfl rfl rfl rfl ((fun w => Sx.x_lt w hT rfl rfl rfl)) ?_
    clear hT; intro a hT
    refine Sx.st_take hT rfl rfl rfl rfl (Sx.x_move hT rfl rfl) ?_
    clear hT; intro a hT
    refine Sx.Sl.two hT 29 rfl (fun hc11 hT => ?_) (fun hc11 hT => ?_)
    · try simp only [Sx.bq] at hc11
      have hup : upto at_ below o.s = true := by unfold upto; simp [show cmpS o.s at_ < 0 from by omega]
      refine Sx.st_skip hT rfl rfl rfl rfl ?_
      clear hT; intro a hT
      refine Sx.st_skip hT rfl rfl rfl rfl ?_
      clear hT; intro a hT
      refine Sx.st_skip hT rfl rfl rfl rfl ?_
      clear hT; intro a hT
      refine Sx.st_skip hT rfl rfl rfl rfl ?_
      clear hT; intro a hT
      refine Sx.st_skip hT rfl rfl rfl rfl ?_
      clear hT; intro a hT
      refine Sx.st_skip hT rfl rfl rfl rfl ?_
      clear hT; intro a hT
      refine Sx.st_take hT rfl rfl rfl rfl (Sx.x_pick_t hT rfl rfl rfl) ?_
      clear hT; intro a hT
      replace hT := hT.keep [36, 9, 17, 8, 7, 6, 4, 0, 1, 2] rfl
      refine Sx.ser_nil ?_
      refine Sx.then_normal (hK10 _ _ ?_)
      clear hK10
      refine Sx.wp_if hT rfl (fun _ => ?_) (fun h => by cases h)
      skip
      refine Sx.wp_text [(0, .take), (1, .take), (2, .take), (3, .take), (4, .run), (5, .run), (6, .take)] rfl ?_
      refine Sx.st_take hT rfl rfl rfl rfl (Sx.x_move hT rfl rfl) ?_
      clear hT; intro a hT
      refine Sx.st_take hT rfl rfl rfl rfl (Sx.x_move hT rfl rfl) ?_
      clear hT; intro a hT
      refine Sx.st_take hT rfl rfl rfl rfl (Sx.x_move hT rfl rfl) ?_
      clear hT; intro a hT
      refine Sx.st_take hT rfl rfl rfl rfl (Sx.x_index (k := i) hT rfl Try.underlying22 Try.ti36 (R.at H.ext).sv rfl rfl (by first | rfl | omega) (by omega)) ?_
      clear hT; intro a hT
      refine Sx.st_run hT rfl rfl rfl rfl (Sx.y_loadS hT rfl Try.underlying36 Try.ti36 rfl (by first | exact ((H.blk 1 rfl).seg (k := 7) rfl) | exact (((R.at H.ext).cs En.len ho).seg (i := 3) (k := 3) rfl) | exact ((R.at H.ext).cs En.len ho)) (by rfl)) ?_
      clear hT; intro a hT
      refine Sx.st_call hT rfl rfl rfl rfl rfl Try.can63 rfl (place_calls L o ((H.row 0 rfl).ssn rfl) (H.row 0 rfl).le.1 (rownil (H.row 0 rfl)) (by omega)) ?_
      rintro _ w4 ⟨ad8, c8, rfl, K⟩
      refine ⟨_, rfl, ?_⟩
      clear hT; intro a hT
      replace H := H.more K rfl; clear K
      refine Sx.st_take hT rfl rfl rfl rfl (Sx.x_assign hT rfl rfl) ?_
      clear hT; intro a hT
      replace hT := hT.keep [7, 36, 9, 17, 8, 6, 4, 0, 1, 2] rfl
      refine Sx.ser_nil ?_
      refine Sx.block_normal ?_
      refine Sx.then_normal (hK8 _ _ ?_)
      clear hK8
      refine Sx.wp_text [(0, .take), (1, .take), (2, .take)] rfl ?_
      refine Sx.st_take hT rfl rfl rfl rfl (Sx.x_move hT rfl rfl) ?_
      clear hT; intro a hT
      refine Sx.st_take hT rfl rfl rfl rfl ((fun w => Sx.x_add w hT rfl rfl rfl (Sx.wrap64 (by omega)))) ?_
      clear hT; intro a hT
      refine Sx.st_take hT rfl rfl rfl rfl (Sx.x_assign hT rfl rfl) ?_
      clear hT; intro a hT
      replace hT := hT.keep [8, 7, 36, 9, 17, 6, 4, 0, 1, 2] rfl
      refine Sx.ser_nil ?_
      refine Sx.then_normal ?_
      exact ⟨(i + 1, placeG En.s o L, ad8, c8), ⟨by show i + 1 ≤ _; omega, by show placeG En.s o L = _; rw [ord_filter ho, if_pos hup, ← hL], by show List.length (placeG En.s o L) ≤ i + 1; rw [place_len]; omega⟩, (hT.keep [8, 7, 6, 4, 0, 1, 2] rfl), (H.keep [0, 2] rfl rfl), by show _ - (i + 1) < _ - i; omega⟩
    · try simp only [Sx.bq] at hc11
      refine Sx.st_take hT rfl rfl rfl rfl (Sx.x_move hT rfl rfl) ?_
      clear hT; intro a hT
      refine Sx.st_take hT rfl rfl rfl rfl ((fun w => Sx.x_eq w hT rfl rfl rfl)) ?_
      clear hT; intro a hT
      refine Sx.st_take hT rfl rfl rfl rfl (Sx.x_move hT rfl rfl) ?_
      clear hT; intro a hT
      refine Sx.Sl.two hT 32 rfl (fun hc12 hT => ?_) (fun hc12 hT => ?_)
      · try simp only [Sx.bq] at hc12
        have heq0 : cmpS o.s at_ = 0 := hc12
        refine Sx.st_take hT rfl rfl rfl rfl (Sx.x_move hT rfl rfl) ?_
        clear hT; intro a hT
        refine Sx.st_take hT rfl rfl rfl rfl (Sx.x_not hT rfl rfl) ?_
        clear hT; intro a hT
        refine Sx.st_take hT rfl rfl rfl rfl (Sx.x_pick_t hT rfl rfl rfl) ?_
        clear hT; intro a hT
        refine Sx.st_take hT rfl rfl rfl rfl (Sx.x_pick_f hT rfl rfl rfl) ?_
        clear hT; intro a hT
        replace hT := hT.keep [36, 9, 17, 8, 7, 6, 4, 0, 1, 2] rfl
        refine Sx.ser_nil ?_
        refine Sx.then_normal (hK10 _ _ ?_)
        clear hK10
        refine Sx.wp_if hT rfl (fun hc13 => ?_) (fun hc13 => ?_)
        · try simp only [Sx.bq] at hc13
          have hup : upto at_ below o.s = true := by unfold upto; simp [heq0, show below = false from by simpa using hc13]
          refine Sx.wp_text [(0, .take), (1, .take), (2, .take), (3, .take), (4, .run), (5, .run), (6, .take)] rfl ?_
          refine Sx.st_take hT rfl rfl rfl rfl (Sx.x_move hT rfl rfl) ?_
          clear hT; intro a hT
          refine Sx.st_take hT rfl rfl rfl rfl (Sx.x_move hT rfl rfl) ?_
          clear hT; intro a hT
          refine Sx.st_take hT rfl rfl rfl rfl (Sx.x_move hT rfl rfl) ?_
          clear hT; intro a hT
          refine Sx.st_take hT rfl rfl rfl rfl (Sx.x_index (k := i) hT rfl Try.underlying22 Try.ti36 (R.at H.ext).sv rfl rfl (by first | rfl | omega) (by omega)) ?_
          clear hT; intro a hT
          refine Sx.st_run hT rfl rfl rfl rfl (Sx.y_loadS hT rfl Try.underlying36 Try.ti36 rfl (by first | exact ((H.blk 1 rfl).seg (k := 7) rfl) | exact (((R.at H.ext).cs En.len ho).seg (i := 3) (k := 3) rfl) | exact ((R.at H.ext).cs En.len ho)) (by rfl)) ?_
          clear hT; intro a hT
          refine Sx.st_call hT rfl rfl rfl rfl rfl Try.can63 rfl (place_calls L o ((H.row 0 rfl).ssn rfl) (H.row 0 rfl).le.1 (rownil (H.row 0 rfl)) (by omega)) ?_
          rintro _ w5 ⟨ad8, c8, rfl, K⟩
          refine ⟨_, rfl, ?_⟩
          clear hT; intro a hT
          replace H := H.more K rfl; clear K
          refine Sx.st_take hT rfl rfl rfl rfl (Sx.x_assign hT rfl rfl) ?_
          clear hT; intro a hT
          replace hT := hT.keep [7, 36, 9, 17, 8, 6, 4, 0, 1, 2] rfl
          refine Sx.ser_nil ?_
          refine Sx.block_normal ?_
          refine Sx.then_normal (hK8 _ _ ?_)
          clear hK8
          refine Sx.wp_text [(0, .take), (1, .take), (2, .take)] rfl ?_
          refine Sx.st_take hT rfl rfl rfl rfl (Sx.x_move hT rfl rfl) ?_
          clear hT; intro a hT
          refine Sx.st_take hT rfl rfl rfl rfl ((fun w => Sx.x_add w hT rfl rfl rfl (Sx.wrap64 (by omega)))) ?_
          clear hT; intro a hT
          refine Sx.st_take hT rfl rfl rfl rfl (Sx.x_assign hT rfl rfl) ?_
          clear hT; intro a hT
          replace hT := hT.keep [8, 7, 36, 9, 17, 6, 4, 0, 1, 2] rfl
          refine Sx.ser_nil ?_
          refine Sx.then_normal ?_
          exact ⟨(i + 1, placeG En.s o L, ad8, c8), ⟨by show i + 1 ≤ _; omega, by show placeG En.s o L = _; rw [ord_filter ho, if_pos hup, ← hL], by show List.length (placeG En.s o L) ≤ i + 1; rw [place_len]; omega⟩, (hT.keep [8, 7, 6, 4, 0, 1, 2] rfl), (H.keep [0, 2] rfl rfl), by show _ - (i + 1) < _ - i; omega⟩
        · try simp only [Sx.bq] at hc13
          have hup : upto at_ below o.s = false := by unfold upto; simp [heq0, show below = true from by simpa using hc13]
          refine wp_skip ?_
          refine Sx.block_normal ?_
          refine Sx.then_normal (hK8 _ _ ?_)
          clear hK8
          refine Sx.wp_text [(0, .take), (1, .take), (2, .take)] rfl ?_
          refine Sx.st_take hT rfl rfl rfl rfl (Sx.x_move hT rfl rfl) ?_
          clear hT; intro a hT
          refine Sx.st_take hT rfl rfl rfl rfl ((fun w => Sx.x_add w hT rfl rfl rfl (Sx.wrap64 (by omega)))) ?_
          clear hT; intro a hT
          refine Sx.st_take hT rfl rfl rfl rfl (Sx.x_assign hT rfl rfl) ?_
          clear hT; intro a hT
          replace hT := hT.keep [8, 36, 9, 17, 7, 6, 4, 0, 1, 2] rfl
          refine Sx.ser_nil ?_
          refine Sx.then_normal ?_
          exact ⟨(i + 1, L, ad2, c2), ⟨by show i + 1 ≤ _; omega, by show L = _; rw [ord_filter ho, if_neg (by rw [hup]; decide), ← hL], by show List.length L ≤ i + 1; omega⟩, (hT.keep [8, 7, 6, 4, 0, 1, 2] rfl), (H.keep [0, 1] rfl rfl), by show _ - (i + 1) < _ - i; omega⟩
      · try simp only [Sx.bq] at hc12
        have hup : upto at_ below o.s = false := by unfold upto; simp; omega
        refine Sx.st_skip hT rfl rfl rfl rfl ?_
        clear hT; intro a hT
        refine Sx.st_skip hT rfl rfl rfl rfl ?_
        clear hT; intro a hT
        refine Sx.st_take hT rfl rfl rfl rfl (Sx.x_pick_f hT rfl rfl rfl) ?_
        clear hT; intro a hT
        refine Sx.st_take hT rfl rfl rfl rfl (Sx.x_pick_f hT rfl rfl rfl) ?_
        clear hT; intro a hT
        replace hT := hT.keep [36, 9, 17, 8, 7, 6, 4, 0, 1, 2] rfl
        refine Sx.ser_nil ?_
        refine Sx.then_normal (hK10 _ _ ?_)
        clear hK10
        refine Sx.wp_if hT rfl (fun h => by cases h) (fun _ => ?_)
        skip
        refine wp_skip ?_
        refine Sx.block_normal ?_
        refine Sx.then_normal (hK8 _ _ ?_)
        clear hK8
        refine Sx.wp_text [(0, .take), (1, .take), (2, .take)] rfl ?_
        refine Sx.st_take hT rfl rfl rfl rfl (Sx.x_move hT rfl rfl) ?_
        clear hT; intro a hT
        refine Sx.st_take hT rfl rfl rfl rfl ((fun w => Sx.x_add w hT rfl rfl rfl (Sx.wrap64 (by omega)))) ?_
        clear hT; intro a hT
        refine Sx.st_take hT rfl rfl rfl rfl (Sx.x_assign hT rfl rfl) ?_
        clear hT; intro a hT
        replace hT := hT.keep [8, 36, 9, 17, 7, 6, 4, 0, 1, 2] rfl
        refine Sx.ser_nil ?_
        refine Sx.then_normal ?_
        exact ⟨(i + 1, L, ad2, c2), ⟨by show i + 1 ≤ _; omega, by show L = _; rw [ord_filter ho, if_neg (by rw [hup]; decide), ← hL], by show List.length L ≤ i + 1; omega⟩, (hT.keep [8, 7, 6, 4, 0, 1, 2] rfl), (H.keep [0, 1] rfl rfl), by show _ - (i + 1) < _ - i; omega⟩
  · try simp only [Sx.bq] at hc7
    have hil : i = l.length := by omega
    rw [hil, List.take_length] at hL
    have hmem : ∀ x ∈ L, x ∈ l := fun x hx => by rw [hL] at hx; exact (List.mem_filter.1 ((ord_perm En.s _).mem_iff.1 hx)).1
    have hsL : sumN wl L ≤ sumN wl l := by rw [hL, sumN_perm (ord_perm En.s _)]; exact sumN_filter _ _
    refine wp_exit ?_
    refine Sx.then_exit ?_
    refine Sx.then_exit ?_
    refine Sx.block_exit ?_
    refine Sx.then_normal (hK3 _ _ ?_)
    clear hK3
    refine wp_seq_k fun K14 hK14 => ?_
    refine Sx.wp_text [(0, .take)] rfl ?_
    refine Sx.st_take hT rfl rfl rfl rfl (Sx.x_assign hT rfl rfl) ?_
    clear hT; intro a hT
    replace hT := hT.keep [10, 17, 8, 7, 6, 4, 0, 1, 2] rfl
    refine Sx.ser_nil ?_
    refine Sx.then_normal (hK14 _ _ ?_)
    clear hK14
    refine wp_seq_k fun K15 hK15 => ?_
    refine wp_seq_k fun K16 hK16 => ?_
    refine Sx.wp_text [(0, .take)] rfl ?_
    refine Sx.st_take hT rfl rfl rfl rfl (Sx.x_assign hT rfl rfl) ?_
    clear hT; intro a hT
    replace hT := hT.keep [11, 10, 17, 8, 7, 6, 4, 0, 1, 2] rfl
    refine Sx.ser_nil ?_
    refine Sx.then_normal (hK16 _ _ ?_)
    clear hK16
    refine wp_block ?_
    replace H := H.nilR 73 4
    refine Sx.wp_loopH (G := Nat × List Wt × Option Addr × Nat) (fun ⟨j, W, ad3, c3⟩ => [(11, .int .i64 (j : Int)), (10, .slice ad3 W.length c3)]) (fun ⟨j, W, ad3, c3⟩ => [cR 73 4 ad3 (W).length c3 ((W).flatMap Wt.cells)]) (fun ⟨j, W, ad3, c3⟩ => j ≤ L.length ∧ W = (L.take j).foldl mkE [] ∧ SrtK slt Wt.key W ∧ W.length ≤ sumN wl (L.take j)) (fun ⟨j, W, ad3, c3⟩ => L.length - j) (0, [], none, 0) (hT.keep [11, 10, 17, 8, 7, 6, 4, 0, 1, 2] rfl) (H.keep [0, 1, 2] rfl rfl) (⟨Nat.zero_le _, (by rw [List.take_zero]; rfl), List.Pairwise.nil, Nat.zero_le _⟩) ?_
    clear hT H
    rintro ⟨j, W, ad3, c3⟩ a w6 hJ hT H
    replace hT := hT.keep [11, 10, 17, 8, 7, 6, 4, 0, 1, 2] rfl
    replace H := H.keep [0, 1, 2] rfl rfl
    obtain ⟨hj, hW, hsr, hWl⟩ := hJ
    refine wp_seq_k fun K17 hK17 => ?_
    refine wp_seq_k fun K18 hK18 => ?_
    refine Sx.wp_text [(0, .take), (1, .take), (2, .take), (3, .take)] rfl ?_
    refine Sx.st_take hT rfl rfl rfl rfl (Sx.x_move hT rfl rfl) ?_
    clear hT; intro a hT
    refine Sx.st_take hT rfl rfl rfl rfl (Sx.x_move hT rfl rfl) ?_
    clear hT; intro a hT
    refine Sx.st_take hT rfl rfl rfl rfl (Sx.x_len_slice hT rfl rfl Try.underlying22 rfl) ?_
    clear hT; intro a hT
    refine Sx.st_take hT rfl rfl rfl rfl ((fun w => Sx.x_lt w hT rfl rfl rfl)) ?_
    clear hT; intro a hT
    replace hT := hT.keep [46, 11, 10, 17, 8, 7, 6, 4, 0, 1, 2] rfl
    refine Sx.ser_nil ?_
    refine Sx.then_normal (hK18 _ _ ?_)
    clear hK18
    refine Sx.wp_if hT rfl (fun hc19 => ?_) (fun hc19 => ?_)
    · try simp only [Sx.bq] at hc19
      obtain ⟨y, hy⟩ : ∃ q9, L[j]? = some q9 := ⟨_, List.getElem?_eq_getElem (by omega)⟩
      have hym := hmem y (List.mem_of_getElem? hy)
      have hyl : y.ws.length ≤ sumN wl l := sumN_mem (f := wl) hym
      have hj1 : sumN wl (L.take (j + 1)) ≤ sumN wl L := by have h9 := sumN_app wl (L.take (j + 1)) (L.drop (j + 1)); rw [List.take_append_drop] at h9; omega
      have hj2 := sumN_snoc wl hy
      have hj3 : wl y = y.ws.length := rfl
      refine wp_skip ?_
      refine Sx.then_normal (hK17 _ _ ?_)
      clear hK17
      refine wp_seq_k fun K20 hK20 => ?_
      refine wp_block ?_
      refine wp_seq_k fun K21 hK21 => ?_
      refine Sx.wp_text [(0, .take)] rfl ?_
      refine Sx.st_take hT rfl rfl rfl rfl (Sx.x_assign hT rfl rfl) ?_
      clear hT; intro a hT
      replace hT := hT.keep [12, 46, 11, 10, 17, 8, 7, 6, 4, 0, 1, 2] rfl
      refine Sx.ser_nil ?_
      refine Sx.then_normal (hK21 _ _ ?_)
      clear hK21
      refine wp_block ?_
      refine Sx.wp_loopH (G := Nat × List Wt × Option Addr × Nat) (fun ⟨k, W2, ad4, c4⟩ => [(12, .int .i64 (k : Int)), (10, .slice ad4 W2.length c4)]) (fun ⟨k, W2, ad4, c4⟩ => [cR 73 4 ad4 (W2).length c4 ((W2).flatMap Wt.cells)]) (fun ⟨k, W2, ad4, c4⟩ => k ≤ y.ws.length ∧ W2 = (y.ws.take k).foldl putW W ∧ SrtK slt Wt.key W2 ∧ W2.length ≤ W.length + k) (fun ⟨k, W2, ad4, c4⟩ => y.ws.length - k) (0, W, ad3, c3) (hT.keep [12, 10, 46, 11, 17, 8, 7, 6, 4, 0, 1, 2] rfl) (H.keep [0, 1, 2] rfl rfl) (⟨Nat.zero_le _, (by rw [List.take_zero]; rfl), hsr, Nat.le_refl _⟩) ?_
      clear hT H
      rintro ⟨k, W2, ad4, c4⟩ a w7 hJ hT H
      replace hT := hT.keep [12, 10, 46, 11, 17, 8, 7, 6, 4, 0, 1, 2] rfl
      replace H := H.keep [0, 1, 2] rfl rfl
      obtain ⟨hk, hW2, hsr2, hWl2⟩ := hJ
      refine wp_seq_k fun K22 hK22 => ?_
      refine wp_seq_k fun K23 hK23 => ?_
      refine Sx.wp_text [(0, .take), (1, .take), (2, .take), (3, .take), (4, .take), (5, .run), (6, .take), (7, .take)] rfl ?_
      refine Sx.st_take hT rfl rfl rfl rfl (Sx.x_move hT rfl rfl) ?_
      clear hT; intro a hT
      refine Sx.st_take hT rfl rfl rfl rfl (Sx.x_move hT rfl rfl) ?_
      clear hT; intro a hT
      refine Sx.st_take hT rfl rfl rfl rfl (Sx.x_move hT rfl rfl) ?_
      clear hT; intro a hT
      refine Sx.st_take hT rfl rfl rfl rfl (Sx.x_index (k := j) hT rfl Try.underlying22 Try.ti36 (H.row 1 rfl).sv rfl rfl (by first | rfl | omega) (by omega)) ?_
      clear hT; intro a hT
      refine Sx.st_take hT rfl rfl rfl rfl (Sx.x_fieldAddr hT rfl Try.fa36_2 rfl) ?_
      clear hT; intro a hT
      refine Sx.st_run hT rfl rfl rfl rfl (Sx.x_load1 hT rfl Try.fl34 rfl (((H.row 1 rfl).ssn rfl).cell (j := 6) En.len hy rfl)) ?_
      clear hT; intro a hT
      refine Sx.st_take hT rfl rfl rfl rfl (Sx.x_len_slice hT rfl rfl Try.underlying34 rfl) ?_
      clear hT; intro a hT
      refine Sx.st_take hT rfl rfl rfl rfl ((fun w => Sx.x_lt w hT rfl rfl rfl)) ?_
      clear hT; intro a hT
      replace hT := hT.keep [56, 12, 10, 46, 11, 17, 8, 7, 6, 4, 0, 1, 2] rfl
      refine Sx.ser_nil ?_
      refine Sx.then_normal (hK23 _ _ ?_)
      clear hK23
      refine Sx.wp_if hT rfl (fun hc24 => ?_) (fun hc24 => ?_)
      · try simp only [Sx.bq] at hc24
        obtain ⟨z, hz⟩ : ∃ q9, y.ws[k]? = some q9 := ⟨_, List.getElem?_eq_getElem (by omega)⟩
        refine wp_skip ?_
        refine Sx.then_normal (hK22 _ _ ?_)
        clear hK22
        refine wp_seq_k fun K25 hK25 => ?_
        refine wp_block ?_
        refine wp_seq_k fun K26 hK26 => ?_
        refine Sx.wp_text [(0, .take), (1, .take), (2, .take), (3, .take), (4, .run), (5, .take), (6, .take), (7, .run), (8, .run), (9, .run)] rfl ?_
        refine Sx.st_take hT rfl rfl rfl rfl (Sx.x_move hT rfl rfl) ?_
        clear hT; intro a hT
        refine Sx.st_take hT rfl rfl rfl rfl (Sx.x_move hT rfl rfl) ?_
        clear hT; intro a hT
        refine Sx.st_take hT rfl rfl rfl rfl (Sx.x_index (k := j) hT rfl Try.underlying22 Try.ti36 (H.row 1 rfl).sv rfl rfl (by first | rfl | omega) (by omega)) ?_
        clear hT; intro a hT
        refine Sx.st_take hT rfl rfl rfl rfl (Sx.x_fieldAddr hT rfl Try.fa36_2 rfl) ?_
        clear hT; intro a hT
        refine Sx.st_run hT rfl rfl rfl rfl (Sx.x_load1 hT rfl Try.fl34 rfl (((H.row 1 rfl).ssn rfl).cell (j := 6) En.len hy rfl)) ?_
        clear hT; intro a hT
        refine Sx.st_take hT rfl rfl rfl rfl (Sx.x_move hT rfl rfl) ?_
        clear hT; intro a hT
        refine Sx.st_take hT rfl rfl rfl rfl (Sx.x_index (k := k) hT rfl Try.underlying34 Try.ti41 (((RM.at H.ext) y hym)).sv rfl rfl (by first | rfl | omega) (by omega)) ?_
        clear hT; intro a hT
        refine Sx.st_run hT rfl rfl rfl rfl (Sx.y_loadS hT rfl Try.underlying41 Try.ti41 rfl (by first | exact ((H.blk 2 rfl).seg (k := 4) rfl) | exact (((RM.at H.ext) y hym).cs Wt.len hz)) (by rfl)) ?_
        clear hT; intro a hT
        refine Sx.st_eff hT rfl rfl rfl rfl (Sx.y_alloc hT rfl Try.ti41 rfl _) ?_
        clear hT; rintro _ w8 ⟨b2, rfl, N⟩ a hT
        replace H := H.new N; clear N
        refine Sx.st_act hT rfl rfl rfl (Sx.y_storeS hT rfl Try.ti41 rfl rfl rfl rfl rfl (H.blk 0 rfl) rfl) ?_
        rintro w9 ⟨hb, E, _⟩
        replace H := H.setB 0 rfl hb E rfl; clear hb E
        replace hT := hT.keep [13, 56, 12, 10, 46, 11, 17, 8, 7, 6, 4, 0, 1, 2] rfl
        refine Sx.ser_nil ?_
        refine Sx.then_normal (hK26 _ _ ?_)
        clear hK26
        refine wp_seq_k fun K27 hK27 => ?_
        refine Sx.wp_text [(0, .take), (1, .run), (2, .run), (3, .take), (4, .take), (5, .run), (6, .run), (7, .take)] rfl ?_
        refine Sx.st_take hT rfl rfl rfl rfl (Sx.x_fieldAddr hT rfl Try.fa41_0 rfl) ?_
        clear hT; intro a hT
        refine Sx.st_run hT rfl rfl rfl rfl (Sx.x_load1 hT rfl Try.fl9 rfl ((H.blk 0 rfl).nth rfl)) ?_
        clear hT; intro a hT
        refine Sx.st_call hT rfl rfl rfl rfl rfl Try.can69 rfl (xKey_calls _ _) ?_
        rintro _ w10 ⟨rfl, E⟩
        refine ⟨_, rfl, ?_⟩
        clear hT; intro a hT
        replace H := H.pure E; clear E
        refine Sx.st_take hT rfl rfl rfl rfl (Sx.x_move hT rfl rfl) ?_
        clear hT; intro a hT
        refine Sx.Sl.two hT 70 rfl (fun hc28 hT => ?_) (fun hc28 hT => ?_)
        · try simp only [Sx.bq] at hc28
          have hk9 : keyB z.key = true := hc28
          refine Sx.st_take hT rfl rfl rfl rfl (Sx.x_fieldAddr hT rfl Try.fa41_1 rfl) ?_
          clear hT; intro a hT
          refine Sx.st_run hT rfl rfl rfl rfl (Sx.y_loadS hT rfl Try.underlying39 Try.ti39 rfl ((H.blk 0 rfl).seg (k := 3) rfl) (by rfl)) ?_
          clear hT; intro a hT
          refine Sx.st_call hT rfl rfl rfl rfl rfl Try.can49 rfl (xMayV_calls _ _) ?_
          rintro _ w11 ⟨rfl, E⟩
          refine ⟨_, rfl, ?_⟩
          clear hT; intro a hT
          replace H := H.pure E; clear E
          refine Sx.st_take hT rfl rfl rfl rfl (Sx.x_pick_t hT rfl rfl rfl) ?_
          clear hT; intro a hT
          replace hT := hT.keep [74, 13, 56, 12, 10, 46, 11, 17, 8, 7, 6, 4, 0, 1, 2] rfl
          refine Sx.ser_nil ?_
          refine Sx.then_normal (hK27 _ _ ?_)
          clear hK27
          refine Sx.wp_if hT rfl (fun hc29 => ?_) (fun hc29 => ?_)
          · try simp only [Sx.bq] at hc29
            have hok9 : keyB z.key = true ∧ mayV z.v = true := ⟨hk9, hc29⟩
            refine Sx.wp_text [(0, .take), (1, .run), (2, .run), (3, .take)] rfl ?_
            refine Sx.st_take hT rfl rfl rfl rfl (Sx.x_move hT rfl rfl) ?_
            clear hT; intro a hT
            refine Sx.st_run hT rfl rfl rfl rfl (Sx.y_loadS hT rfl Try.underlying41 Try.ti41 rfl ((H.blk 0 rfl).seg (k := 4) rfl) (by rfl)) ?_
            clear hT; intro a hT
            refine Sx.st_call hT rfl rfl rfl rfl rfl Try.can28 rfl (Put_calls W2 z ((H.row 1 rfl).ssn rfl) (H.row 1 rfl).le.1 (rownil (H.row 1 rfl)) (by omega)) ?_
            rintro _ w12 ⟨ad9, c9, rfl, K⟩
            refine ⟨_, rfl, ?_⟩
            clear hT; intro a hT
            replace H := H.more K rfl; clear K
            rw [putD_eq hsr2] at H hT
            refine Sx.st_take hT rfl rfl rfl rfl (Sx.x_assign hT rfl rfl) ?_
            clear hT; intro a hT
            replace hT := hT.keep [10, 74, 13, 56, 12, 46, 11, 17, 8, 7, 6, 4, 0, 1, 2] rfl
            refine Sx.ser_nil ?_
            refine Sx.block_normal ?_
            refine Sx.then_normal (hK25 _ _ ?_)
            clear hK25
            refine Sx.wp_text [(0, .take), (1, .take), (2, .take)] rfl ?_
            refine Sx.st_take hT rfl rfl rfl rfl (Sx.x_move hT rfl rfl) ?_
            clear hT; intro a hT
            refine Sx.st_take hT rfl rfl rfl rfl ((fun w => Sx.x_add w hT rfl rfl rfl (Sx.wrap64 (by omega)))) ?_
            clear hT; intro a hT
            refine Sx.st_take hT rfl rfl rfl rfl (Sx.x_assign hT rfl rfl) ?_
            clear hT; intro a hT
            replace hT := hT.keep [12, 10, 74, 13, 56, 46, 11, 17, 8, 7, 6, 4, 0, 1, 2] rfl
            refine Sx.ser_nil ?_
            refine Sx.then_normal ?_
            have hst : putW W2 z = putV W2 z := by unfold putW; exact if_pos hok9
            have hpl := putW_len W2 z
            have hps := putW_srt z hsr2
            rw [hst] at hpl hps
            exact ⟨(k + 1, putV W2 z, ad9, c9), ⟨by show k + 1 ≤ _; omega, by show putV W2 z = _; rw [take_app hz, List.foldl_append, ← hW2]; exact hst.symm, hps, by show List.length (putV W2 z) ≤ _ + (k + 1); omega⟩, (hT.keep [12, 10, 46, 11, 17, 8, 7, 6, 4, 0, 1, 2] rfl), (H.keep [0, 3, 4] rfl rfl), by show _ - (k + 1) < _ - k; omega⟩
          · try simp only [Sx.bq] at hc29
            have hok9 : ¬ (keyB z.key = true ∧ mayV z.v = true) := by simp [show mayV z.v = false from hc29]
            refine wp_skip ?_
            refine Sx.block_normal ?_
            refine Sx.then_normal (hK25 _ _ ?_)
            clear hK25
            refine Sx.wp_text [(0, .take), (1, .take), (2, .take)] rfl ?_
            refine Sx.st_take hT rfl rfl rfl rfl (Sx.x_move hT rfl rfl) ?_
            clear hT; intro a hT
            refine Sx.st_take hT rfl rfl rfl rfl ((fun w => Sx.x_add w hT rfl rfl rfl (Sx.wrap64 (by omega)))) ?_
            clear hT; intro a hT
            refine Sx.st_take hT rfl rfl rfl rfl (Sx.x_assign hT rfl rfl) ?_
            clear hT; intro a hT
            replace hT := hT.keep [12, 74, 13, 56, 10, 46, 11, 17, 8, 7, 6, 4, 0, 1, 2] rfl
            refine Sx.ser_nil ?_
            refine Sx.then_normal ?_
            have hst : putW W2 z = W2 := by unfold putW; exact if_neg hok9
            have hpl := putW_len W2 z
            have hps := putW_srt z hsr2
            rw [hst] at hpl hps
            exact ⟨(k + 1, W2, ad4, c4), ⟨by show k + 1 ≤ _; omega, by show W2 = _; rw [take_app hz, List.foldl_append, ← hW2]; exact hst.symm, hps, by show List.length W2 ≤ _ + (k + 1); omega⟩, (hT.keep [12, 10, 46, 11, 17, 8, 7, 6, 4, 0, 1, 2] rfl), (H.keep [1, 2, 3] rfl rfl), by show _ - (k + 1) < _ - k; omega⟩
        · try simp only [Sx.bq] at hc28
          have hok9 : ¬ (keyB z.key = true ∧ mayV z.v = true) := by simp [show keyB z.key = false from hc28]
          refine Sx.st_skip hT rfl rfl rfl rfl ?_
          clear hT; intro a hT
          refine Sx.st_runskip hT rfl rfl rfl rfl ?_
          clear hT; intro a hT
          refine Sx.st_runskip hT rfl rfl rfl rfl ?_
          clear hT; intro a hT
          refine Sx.st_take hT rfl rfl rfl rfl (Sx.x_pick_f hT rfl rfl rfl) ?_
          clear hT; intro a hT
          replace hT := hT.keep [74, 13, 56, 12, 10, 46, 11, 17, 8, 7, 6, 4, 0, 1, 2] rfl
          refine Sx.ser_nil ?_
          refine Sx.then_normal (hK27 _ _ ?_)
          clear hK27
          refine Sx.wp_if hT rfl (fun h => by cases h) (fun _ => ?_)
          skip
          refine wp_skip ?_
          refine Sx.block_normal ?_
          refine Sx.then_normal (hK25 _ _ ?_)
          clear hK25
          refine Sx.wp_text [(0, .take), (1, .take), (2, .take)] rfl ?_
          refine Sx.st_take hT rfl rfl rfl rfl (Sx.x_move hT rfl rfl) ?_
          clear hT; intro a hT
          refine Sx.st_take hT rfl rfl rfl rfl ((fun w => Sx.x_add w hT rfl rfl rfl (Sx.wrap64 (by omega)))) ?_
          clear hT; intro a hT
          refine Sx.st_take hT rfl rfl rfl rfl (Sx.x_assign hT rfl rfl) ?_
          clear hT; intro a hT
          replace hT := hT.keep [12, 74, 13, 56, 10, 46, 11, 17, 8, 7, 6, 4, 0, 1, 2] rfl
          refine Sx.ser_nil ?_
          refine Sx.then_normal ?_
          have hst : putW W2 z = W2 := by unfold putW; exact if_neg hok9
          have hpl := putW_len W2 z
          have hps := putW_srt z hsr2
          rw [hst] at hpl hps
          exact ⟨(k + 1, W2, ad4, c4), ⟨by show k + 1 ≤ _; omega, by show W2 = _; rw [take_app hz, List.foldl_append, ← hW2]; exact hst.symm, hps, by show List.length W2 ≤ _ + (k + 1); omega⟩, (hT.keep [12, 10, 46, 11, 17, 8, 7, 6, 4, 0, 1, 2] rfl), (H.keep [1, 2, 3] rfl rfl), by show _ - (k + 1) < _ - k; omega⟩
      · try simp only [Sx.bq] at hc24
        have hky : k = y.ws.length := by omega
        rw [hky, List.take_length] at hW2
        refine wp_exit ?_
        refine Sx.then_exit ?_
        refine Sx.then_exit ?_
        refine Sx.block_exit ?_
        refine Sx.block_normal ?_
        refine Sx.then_normal (hK20 _ _ ?_)
        clear hK20
        refine Sx.wp_text [(0, .take), (1, .take), (2, .take)] rfl ?_
        refine Sx.st_take hT rfl rfl rfl rfl (Sx.x_move hT rfl rfl) ?_
        clear hT; intro a hT
        refine Sx.st_take hT rfl rfl rfl rfl ((fun w => Sx.x_add w hT rfl rfl rfl (Sx.wrap64 (by omega)))) ?_
        clear hT; intro a hT
        refine Sx.st_take hT rfl rfl rfl rfl (Sx.x_assign hT rfl rfl) ?_
        clear hT; intro a hT
        replace hT := hT.keep [11, 56, 12, 10, 46, 17, 8, 7, 6, 4, 0, 1, 2] rfl
        refine Sx.ser_nil ?_
        refine Sx.then_normal ?_
        exact ⟨(j + 1, W2, ad4, c4), ⟨by show j + 1 ≤ _; omega, by show W2 = _; rw [take_app hy, List.foldl_append, ← hW]; exact hW2, hsr2, by show List.length W2 ≤ _; omega⟩, (hT.keep [11, 10, 17, 8, 7, 6, 4, 0, 1, 2] rfl), (H.keep [0, 1, 2] rfl rfl), by show _ - (j + 1) < _ - j; omega⟩
    · try simp only [Sx.bq] at hc19
      have hjL : j = L.length := by omega
      rw [hjL, List.take_length] at hW
      refine wp_exit ?_
      refine Sx.then_exit ?_
      refine Sx.then_exit ?_
      refine Sx.block_exit ?_
      refine Sx.then_normal (hK15 _ _ ?_)
      clear hK15
      refine wp_seq_k fun K30 hK30 => ?_
      refine Sx.wp_text [(0, .take), (1, .take)] rfl ?_
      refine Sx.st_take hT rfl rfl rfl rfl (Sx.x_move hT rfl rfl) ?_
      clear hT; intro a hT
      refine Sx.st_take hT rfl rfl rfl rfl (Sx.x_assign hT rfl rfl) ?_
      clear hT; intro a hT
      replace hT := hT.keep [6, 46, 11, 10, 17, 8, 7, 4, 0, 1, 2] rfl
      refine Sx.ser_nil ?_
      refine Sx.then_normal (hK30 _ _ ?_)
      clear hK30
      refine wp_ret ?_
      refine Sx.done1 (fn := Try.f44) hT rfl (.tmp (hT.get 6 _ rfl)) ?_
      rw [makes_en, ← hL, ← hW]
      exact ⟨_, _, rfl, H.keep [0] rfl rfl⟩

theorem Snap25_calls {ad : Option Addr} {c : Nat} (l : List En) (at_ : Stp) {w : World} (hs : Ss w ad En.cells 7 l) (hw : ∀ x ∈ l, Ss w x.ad Wt.cells 4 x.ws) (hl : l.length ≤ 1000000) (hsum : sumN wl l ≤ 900000) : Calls Try.prog 16 #[.slice ad l.length c, .agg #[.int .i64 at_.w, .int .i64 at_.l, .int .i64 at_.n]] w fun e w' => ∃ ad' c', e = .returned (.slice ad' (makesF (l.map En.p) at_ false).length c') ∧ Hp w No w' [cR 73 4 ad' (makesF (l.map En.p) at_ false).length c' ((makesF (l.map En.p) at_ false).flatMap Wt.cells)] := by
  have R : Ro w No _ := Ro.of fun w' x => hs.ext_no x
  have RM : Ro w No (fun u => ∀ x ∈ l, Ss u x.ad Wt.cells 4 x.ws) := Ro.of fun w' x y hy => (hw y hy).ext_no x
  refine Sx.calls_into Try.func16 rfl Try.ntmps16 rfl fun a hT => ?_
  replace hT := hT.keep [0, 1] rfl
  have H : Sx.Hp w (Sx.No) w [] := Sx.Hp.start _ _
  refine wp_seq_k fun K1 hK1 => ?_
  refine Sx.wp_text [(0, .run), (1, .take)] rfl ?_
  refine Sx.st_eff hT rfl rfl rfl rfl (Sx.y_box hT rfl rfl rfl _) ?_
  clear hT; rintro _ w1 ⟨b1, rfl, N⟩ a hT
  replace H := H.new N; clear N
  refine Sx.st_take hT rfl rfl rfl rfl (Sx.x_assign hT rfl rfl) ?_
  clear hT; intro a hT
  replace hT := hT.keep [4, 3, 0, 1] rfl
  refine Sx.ser_nil ?_
  refine Sx.then_normal (hK1 _ _ ?_)
  clear hK1
  refine wp_seq_k fun K2 hK2 => ?_
  refine Sx.wp_text [(0, .take), (1, .run), (2, .run), (3, .take)] rfl ?_
  refine Sx.st_take hT rfl rfl rfl rfl (Sx.x_move hT rfl rfl) ?_
  clear hT; intro a hT
  refine Sx.st_run hT rfl rfl rfl rfl (Sx.y_loadS hT rfl Try.underlying24 Try.ti24 rfl ((H.blk 0 rfl).seg (k := 3) rfl) (by rfl)) ?_
  clear hT; intro a hT
  refine Sx.st_call hT rfl rfl rfl rfl rfl Try.can44 rfl (makes_calls l at_ false (R.at H.ext) (RM.at H.ext) hl hsum) ?_
  rintro _ w2 ⟨ad8, c8, rfl, K⟩
  refine ⟨_, rfl, ?_⟩
  clear hT; intro a hT
  replace H := H.more K rfl; clear K
  refine Sx.st_take hT rfl rfl rfl rfl (Sx.x_assign hT rfl rfl) ?_
  clear hT; intro a hT
  replace hT := hT.keep [4, 3, 0, 1] rfl
  refine Sx.ser_nil ?_
  refine Sx.then_normal (hK2 _ _ ?_)
  clear hK2
  refine wp_ret ?_
  refine Sx.done1 (fn := Try.f16) hT rfl (.tmp (hT.get 4 _ rfl)) ?_
  exact ⟨_, _, rfl, H.keep [0] rfl rfl⟩

theorem Below25_calls {ad : Option Addr} {c : Nat} (l : List En) (at_ : Stp) {w : World} (hs : Ss w ad En.cells 7 l) (hw : ∀ x ∈ l, Ss w x.ad Wt.cells 4 x.ws) (hl : l.length ≤ 1000000) (hsum : sumN wl l ≤ 900000) : Calls Try.prog 18 #[.slice ad l.length c, .agg #[.int .i64 at_.w, .int .i64 at_.l, .int .i64 at_.n]] w fun e w' => ∃ ad' c', e = .returned (.slice ad' (makesF (l.map En.p) at_ true).length c') ∧ Hp w No w' [cR 73 4 ad' (makesF (l.map En.p) at_ true).length c' ((makesF (l.map En.p) at_ true).flatMap Wt.cells)] := by
  have R : Ro w No _ := Ro.of fun w' x => hs.ext_no x
  have RM : Ro w No (fun u => ∀ x ∈ l, Ss u x.ad Wt.cells 4 x.ws) := Ro.of fun w' x y hy => (hw y hy).ext_no x
  refine Sx.calls_into Try.func18 rfl Try.ntmps18 rfl fun a hT => ?_
  replace hT := hT.keep [0, 1] rfl
  have H : Sx.Hp w (Sx.No) w [] := Sx.Hp.start _ _
  refine wp_seq_k fun K1 hK1 => ?_
  refine Sx.wp_text [(0, .run), (1, .take)] rfl ?_
  refine Sx.st_eff hT rfl rfl rfl rfl (Sx.y_box hT rfl rfl rfl _) ?_
  clear hT; rintro _ w1 ⟨b1, rfl, N⟩ a hT
  replace H := H.new N; clear N
  refine Sx.st_take hT rfl rfl rfl rfl (Sx.x_assign hT rfl rfl) ?_
  clear hT; intro a hT
  replace hT := hT.keep [4, 3, 0, 1] rfl
  refine Sx.ser_nil ?_
  refine Sx.then_normal (hK1 _ _ ?_)
  clear hK1
  refine wp_seq_k fun K2 hK2 => ?_
  refine Sx.wp_text [(0, .take), (1, .run), (2, .run), (3, .take)] rfl ?_
  refine Sx.st_take hT rfl rfl rfl rfl (Sx.x_move hT rfl rfl) ?_
  clear hT; intro a hT
  refine Sx.st_run hT rfl rfl rfl rfl (Sx.y_loadS hT rfl Try.underlying24 Try.ti24 rfl ((H.blk 0 rfl).seg (k := 3) rfl) (by rfl)) ?_
  clear hT; intro a hT
  refine Sx.st_call hT rfl rfl rfl rfl rfl Try.can44 rfl (makes_calls l at_ true (R.at H.ext) (RM.at H.ext) hl hsum) ?_
  rintro _ w2 ⟨ad8, c8, rfl, K⟩
  refine ⟨_, rfl, ?_⟩
  clear hT; intro a hT
  replace H := H.more K rfl; clear K
  refine Sx.st_take hT rfl rfl rfl rfl (Sx.x_assign hT rfl rfl) ?_
  clear hT; intro a hT
  replace hT := hT.keep [4, 3, 0, 1] rfl
  refine Sx.ser_nil ?_
  refine Sx.then_normal (hK2 _ _ ?_)
  clear hK2
  refine wp_ret ?_
  refine Sx.done1 (fn := Try.f18) hT rfl (.tmp (hT.get 4 _ rfl)) ?_
  exact ⟨_, _, rfl, H.keep [0] rfl rfl⟩

end Go.Proofs.Ytpggijfpkgglmaa
