/- Walks: entries, a write among pairs. -/
import Derived.Test.YtpggijfpkgglmaaC2
import Derived.Test.YtpggijfpkgglmaaC5
set_option linter.unusedSimpArgs false
set_option linter.unusedVariables false
namespace Go.Proofs.Ytpggijfpkgglmaa
open Sx
theorem Try.ti36 : Sx.TI Try.prog 36 (.agg #[.int .i64 0, .int .i64 0, .int .i64 0, .int .i64 0, .int .i64 0, .int .i64 0, .slice none 0 0]) 7 72 := .mk' (by kernel_rfl)
theorem Try.fa36_2 : Sx.FA Try.prog 36 2 6 := ⟨_, _, _, _, _, Try.underlying36, rfl, rfl, Try.ti34, by decide⟩
theorem Try.bld73 : Sx.Bld Try.prog 73 #[.string .empty, .int .i64 0, .float .f64 0, .string .empty] #[(0, 1), (1, 3)] := ⟨_, _, _, _, Try.ti73, rfl, Try.underlying73, fun w => by simp [Sx.placesOf, Sx.run_sizeOf Try.ti39, Sx.run_sizeOf Try.ti9]⟩
theorem Try.can9 : Sx.Can Try.prog 9 := ⟨_, Try.func9, by kernel_rfl, rfl⟩
theorem Try.can28 : Sx.Can Try.prog 28 := ⟨_, Try.func28, by kernel_rfl, rfl⟩
theorem Put_calls {ad : Option Addr} {c : Nat} (l : List Wt) (x : Wt) {w : World} (hs : Ss w ad Wt.cells 4 l) (hc : l.length ≤ c) (hn : ad = none → l.length = 0 ∧ c = 0) (hl : l.length ≤ 1000000) : Calls Try.prog 28 #[.slice ad l.length c, .agg #[.string ⟨x.key.toArray⟩, .int .i64 x.v.k, .float .f64 x.v.num, .string ⟨x.v.tx.toArray⟩]] w fun e w' => ∃ ad' c', e = .returned (.slice ad' (putD l x).length c') ∧ Hp w No w' [cR 73 4 ad' (putD l x).length c' ((putD l x).flatMap Wt.cells)] := by
  have R : Ro w No _ := Ro.of fun w' x => hs.ext_no x
  refine Sx.calls_into Try.func28 rfl Try.ntmps28 rfl fun a hT => ?_
  replace hT := hT.keep [0, 1] rfl
  have H : Sx.Hp w (Sx.No) w [] := Sx.Hp.start _ _
  refine wp_seq_k fun K1 hK1 => ?_
  refine Sx.wp_text [(0, .run), (1, .take)] rfl ?_
  refine Sx.st_eff hT rfl rfl rfl rfl (Sx.y_box hT rfl rfl rfl _) ?_
  clear hT; rintro _ w1 ⟨b1, rfl, N⟩ a hT
  replace H := H.new N; clear N
  refine Sx.st_take hT rfl rfl rfl rfl (Sx.x_assign hT rfl rfl) ?_
  clear hT; intro a hT
  replace hT := hT.keep [4, 3, 0, 1] rfl
  refine Sx.ser_nil ?_
  refine Sx.then_normal (hK1 _ _ ?_)
  clear hK1
  refine wp_seq_k fun K2 hK2 => ?_
  refine Sx.wp_text [(0, .take)] rfl ?_
  refine Sx.st_take hT rfl rfl rfl rfl (Sx.x_assign hT rfl rfl) ?_
  clear hT; intro a hT
  replace hT := hT.keep [5, 4, 3, 0, 1] rfl
  refine Sx.ser_nil ?_
  refine Sx.then_normal (hK2 _ _ ?_)
  clear hK2
  refine wp_seq_k fun K3 hK3 => ?_
  refine Sx.wp_text [(0, .take)] rfl ?_
  refine Sx.st_take hT rfl rfl rfl rfl (Sx.x_assign hT rfl rfl) ?_
  clear hT; intro a hT
  replace hT := hT.keep [6, 5, 4, 3, 0, 1] rfl
  refine Sx.ser_nil ?_
  refine Sx.then_normal (hK3 _ _ ?_)
  clear hK3
  refine wp_seq_k fun K4 hK4 => ?_
  refine wp_block ?_
  replace H := H.nilR 73 4
  refine Sx.wp_loopH (G := Nat × Option Addr × Nat) (fun ⟨i, ad2, c2⟩ => [(6, .int .i64 (i : Int)), (5, .slice ad2 i c2)]) (fun ⟨i, ad2, c2⟩ => [cR 73 4 ad2 i c2 ((l.take i).flatMap Wt.cells)]) (fun ⟨i, ad2, c2⟩ => i ≤ l.length ∧ ∀ (t : Nat) q, t < i → l[t]? = some q → slt q.key x.key) (fun ⟨i, ad2, c2⟩ => l.length - i) (0, none, 0) (hT.keep [6, 5, 4, 3, 0, 1] rfl) (H.keep [0, 1] rfl rfl) (⟨Nat.zero_le _, fun t q h => by omega⟩) ?_
  clear hT H
  rintro ⟨i, ad2, c2⟩ a w2 hJ hT H
  replace hT := hT.keep [6, 5, 4, 3, 0, 1] rfl
  replace H := H.keep [0, 1] rfl rfl
  obtain ⟨hi, hlt⟩ := hJ
  refine wp_seq_k fun K5 hK5 => ?_
  refine wp_seq_k fun K6 hK6 => ?_
  refine Sx.wp_draws (fun u => Sx.Ext (Sx.No) u) [(0, .take), (1, .take), (2, .take), (3, .take), (4, .take), (5, .take), (6, .take), (7, .take), (8, .take), (9, .held), (10, .take), (11, .held), (12, .take), (13, .take)] (by kernel_rfl) (by kernel_rfl) (fun u E _ => ?_)
  replace H := H.pure E; clear E
  have hH : Sx.Ext (Sx.No) u u := Sx.Ext.refl _ _
  have Hu := H
  refine Sx.st_take hT rfl rfl rfl rfl (Sx.x_move hT rfl rfl) ?_
  clear hT; intro a hT
  refine Sx.st_take hT rfl rfl rfl rfl (Sx.x_move hT rfl rfl) ?_
  clear hT; intro a hT
  refine Sx.st_take hT rfl rfl rfl rfl (Sx.x_len_slice hT rfl rfl Try.underlying43 rfl) ?_
  clear hT; intro a hT
  refine Sx.st_take hT rfl rfl rfl rfl ((fun w => Sx.x_lt w hT rfl rfl rfl)) ?_
  clear hT; intro a hT
  refine Sx.st_take hT rfl rfl rfl rfl (Sx.x_move hT rfl rfl) ?_
  clear hT; intro a hT
  refine Sx.Sl.two hT 11 rfl (fun hc7 hT => ?_) (fun hc7 hT => ?_)
  · try simp only [Sx.bq] at hc7
    obtain ⟨o, ho⟩ : ∃ q9, l[i]? = some q9 := ⟨_, List.getElem?_eq_getElem (by omega)⟩
    refine Sx.st_take hT rfl rfl rfl rfl (Sx.x_move hT rfl rfl) ?_
    clear hT; intro a hT
    refine Sx.st_take hT rfl rfl rfl rfl (Sx.x_move hT rfl rfl) ?_
    clear hT; intro a hT
    refine Sx.st_take hT rfl rfl rfl rfl (Sx.x_index (k := i) hT rfl Try.underlying43 Try.ti73 (R.at H.ext).sv rfl rfl (by first | rfl | omega) (by omega)) ?_
    clear hT; intro a hT
    refine Sx.st_take hT rfl rfl rfl rfl (Sx.x_fieldAddr hT rfl Try.fa73_0 rfl) ?_
    clear hT; intro a hT
    refine Sx.st_held hT rfl rfl rfl rfl hH (fun w' h' => Sx.x_load1 hT rfl Try.fl9 rfl (by first | exact ((Hu.heldB 1 rfl h' Sx.off_No).nth rfl) | exact ((R.at (Hu.ext.step h')).cell (j := 0) Wt.len ho rfl))) ?_
    clear hT; intro a hT
    refine Sx.st_take hT rfl rfl rfl rfl (Sx.x_fieldAddr hT rfl Try.fa41_0 rfl) ?_
    clear hT; intro a hT
    refine Sx.st_held hT rfl rfl rfl rfl hH (fun w' h' => Sx.x_load1 hT rfl Try.fl9 rfl ((Hu.heldB 1 rfl h' Sx.off_No).nth rfl)) ?_
    clear hT; intro a hT
    refine Sx.st_take hT rfl rfl rfl rfl ((fun w => Sx.x_strlt w hT rfl rfl rfl)) ?_
    clear hT; intro a hT
    refine Sx.st_take hT rfl rfl rfl rfl (Sx.x_pick_t hT rfl rfl rfl) ?_
    clear hT; intro a hT
    replace hT := hT.keep [20, 6, 5, 4, 3, 0, 1] rfl
    clear Hu hH
    refine Sx.ser_calm ?_
    refine Sx.then_normal (hK6 _ _ ?_)
    clear hK6
    refine Sx.wp_if hT rfl (fun hc8 => ?_) (fun hc8 => ?_)
    · try simp only [Sx.bq] at hc8
      have hlt9 : slt o.key x.key := hc8
      refine wp_skip ?_
      refine Sx.then_normal (hK5 _ _ ?_)
      clear hK5
      refine wp_block ?_
      refine wp_seq_k fun K9 hK9 => ?_
      refine Sx.wp_text [(0, .take), (1, .take), (2, .take), (3, .take), (4, .run), (5, .run), (6, .run), (7, .take)] rfl ?_
      refine Sx.st_take hT rfl rfl rfl rfl (Sx.x_move hT rfl rfl) ?_
      clear hT; intro a hT
      refine Sx.st_take hT rfl rfl rfl rfl (Sx.x_move hT rfl rfl) ?_
      clear hT; intro a hT
      refine Sx.st_take hT rfl rfl rfl rfl (Sx.x_move hT rfl rfl) ?_
      clear hT; intro a hT
      refine Sx.st_take hT rfl rfl rfl rfl (Sx.x_index (k := i) hT rfl Try.underlying43 Try.ti73 (R.at H.ext).sv rfl rfl (by first | rfl | omega) (by omega)) ?_
      clear hT; intro a hT
      refine Sx.st_run hT rfl rfl rfl rfl (Sx.y_loadS hT rfl Try.underlying73 Try.ti73 rfl (by first | exact ((H.blk 1 rfl).seg (k := 4) rfl) | exact ((R.at H.ext).cs Wt.len ho)) (by rfl)) ?_
      clear hT; intro a hT
      refine Sx.st_eff hT rfl rfl rfl rfl (Sx.y_slice1 hT rfl Try.underlying43 Try.ti73 rfl rfl rfl rfl rfl rfl _) ?_
      clear hT; rintro _ w3 ⟨b2, rfl, N⟩ a hT
      replace H := H.new N; clear N
      refine Sx.st_eff hT rfl rfl rfl rfl (Sx.x_append hT rfl rfl Try.underlying43 Try.ti73 rfl (by decide) rfl rfl (H.row 1 rfl) ((H.blk 0 rfl).sv1 rfl) (Wt.one o) (fun h => by cases h) (by unfold maxLen; omega) (by omega)) ?_
      rintro _ w4 ⟨ad4, c4, rfl, hr, E, hown, -⟩
      clear hT; intro a hT
      replace H := H.setR 1 rfl hr E hown rfl; clear hr E hown
      rw [tk_w ho] at H
      refine Sx.st_take hT rfl rfl rfl rfl (Sx.x_assign hT rfl rfl) ?_
      clear hT; intro a hT
      replace hT := hT.keep [5, 20, 6, 4, 3, 0, 1] rfl
      refine Sx.ser_nil ?_
      refine Sx.then_normal (hK9 _ _ ?_)
      clear hK9
      refine Sx.wp_text [(0, .take), (1, .take), (2, .take)] rfl ?_
      refine Sx.st_take hT rfl rfl rfl rfl (Sx.x_move hT rfl rfl) ?_
      clear hT; intro a hT
      refine Sx.st_take hT rfl rfl rfl rfl ((fun w => Sx.x_add w hT rfl rfl rfl (Sx.wrap64 (by omega)))) ?_
      clear hT; intro a hT
      refine Sx.st_take hT rfl rfl rfl rfl (Sx.x_assign hT rfl rfl) ?_
      clear hT; intro a hT
      replace hT := hT.keep [6, 5, 20, 4, 3, 0, 1] rfl
      refine Sx.ser_nil ?_
      refine Sx.block_normal ?_
      refine Sx.then_normal ?_
      exact ⟨(i + 1, ad4, c4), ⟨by show i + 1 ≤ _; omega, fun t q h3 h4 => by rcases Nat.lt_or_ge t i with h5 | h5; exact hlt t q h5 h4; obtain rfl : t = i := (by have : t < i + 1 := h3; omega); rw [ho] at h4; cases h4; exact hlt9⟩, (hT.keep [6, 5, 4, 3, 0, 1] rfl), (H.keep [1, 2] rfl rfl), by show _ - (i + 1) < _ - i; omega⟩
    · try simp only [Sx.bq] at hc8
      have hge : ∀ q, l[i]? = some q → ¬ slt q.key x.key := fun q hq => by rw [ho] at hq; cases hq; exact (less_not _ _).1 hc8
      have hle : lead x.key l = i := lead_eq hlt hge hi
      refine wp_exit ?_
      refine Sx.then_exit ?_
      refine Sx.then_exit ?_
      refine Sx.block_exit ?_
      refine Sx.then_normal (hK4 _ _ ?_)
      clear hK4
      refine wp_seq_k fun K10 hK10 => ?_
      refine wp_seq_k fun K11 hK11 => ?_
      refine Sx.wp_text [(0, .take), (1, .take), (2, .run), (3, .take)] rfl ?_
      refine Sx.st_take hT rfl rfl rfl rfl (Sx.x_fieldAddr hT rfl Try.fa41_1 rfl) ?_
      clear hT; intro a hT
      refine Sx.st_take hT rfl rfl rfl rfl (Sx.x_fieldAddr hT rfl Try.fa39_0 rfl) ?_
      clear hT; intro a hT
      refine Sx.st_run hT rfl rfl rfl rfl (Sx.x_load1 hT rfl Try.fl3 rfl ((H.blk 1 rfl).nth rfl)) ?_
      clear hT; intro a hT
      refine Sx.st_take hT rfl rfl rfl rfl ((fun w => Sx.x_ne w hT rfl rfl rfl)) ?_
      clear hT; intro a hT
      replace hT := hT.keep [33, 20, 6, 5, 4, 3, 0, 1] rfl
      refine Sx.ser_nil ?_
      refine Sx.then_normal (hK11 _ _ ?_)
      clear hK11
      refine Sx.wp_if hT rfl (fun hc12 => ?_) (fun hc12 => ?_)
      · try simp only [Sx.bq] at hc12
        have hkx : x.v.k ≠ 0 := hc12
        refine Sx.wp_text [(0, .take), (1, .take), (2, .run), (3, .take), (4, .run), (5, .take), (6, .run), (7, .run), (8, .take)] rfl ?_
        refine Sx.st_take hT rfl rfl rfl rfl (Sx.x_move hT rfl rfl) ?_
        clear hT; intro a hT
        refine Sx.st_take hT rfl rfl rfl rfl (Sx.x_fieldAddr hT rfl Try.fa41_0 rfl) ?_
        clear hT; intro a hT
        refine Sx.st_run hT rfl rfl rfl rfl (Sx.x_load1 hT rfl Try.fl9 rfl ((H.blk 1 rfl).nth rfl)) ?_
        clear hT; intro a hT
        refine Sx.st_take hT rfl rfl rfl rfl (Sx.x_fieldAddr hT rfl Try.fa41_1 rfl) ?_
        clear hT; intro a hT
        refine Sx.st_run hT rfl rfl rfl rfl (Sx.y_loadS hT rfl Try.underlying39 Try.ti39 rfl ((H.blk 1 rfl).seg (k := 3) rfl) (by rfl)) ?_
        clear hT; intro a hT
        refine Sx.st_take hT rfl rfl rfl rfl (Sx.x_bld hT rfl Try.bld73 rfl rfl) ?_
        clear hT; intro a hT
        refine Sx.st_eff hT rfl rfl rfl rfl (Sx.y_slice1 hT rfl Try.underlying43 Try.ti73 rfl rfl rfl rfl rfl rfl _) ?_
        clear hT; rintro _ w5 ⟨b3, rfl, N⟩ a hT
        replace H := H.new N; clear N
        refine Sx.st_eff hT rfl rfl rfl rfl (Sx.x_append hT rfl rfl Try.underlying43 Try.ti73 rfl (by decide) rfl rfl (H.row 1 rfl) ((H.blk 0 rfl).sv1 rfl) (by simp [Value.oneCell']) (fun h => by cases h) (by unfold maxLen; omega) (by omega)) ?_
        rintro _ w6 ⟨ad6, c6, rfl, hr, E, hown, -⟩
        clear hT; intro a hT
        replace H := H.setR 1 rfl hr E hown rfl; clear hr E hown
        rw [snoc_w] at H
        refine Sx.st_take hT rfl rfl rfl rfl (Sx.x_assign hT rfl rfl) ?_
        clear hT; intro a hT
        replace hT := hT.keep [5, 33, 20, 6, 4, 3, 0, 1] rfl
        refine Sx.ser_nil ?_
        refine Sx.then_normal (hK10 _ _ ?_)
        clear hK10
        refine wp_seq_k fun K13 hK13 => ?_
        refine wp_seq_k fun K14 hK14 => ?_
        refine Sx.wp_draws (fun u => Sx.Ext (Sx.No) u) [(0, .take), (1, .take), (2, .take), (3, .take), (4, .take), (5, .take), (6, .take), (7, .take), (8, .take), (9, .held), (10, .take), (11, .held), (12, .take), (13, .take)] (by kernel_rfl) (by kernel_rfl) (fun u E _ => ?_)
        replace H := H.pure E; clear E
        have hH : Sx.Ext (Sx.No) u u := Sx.Ext.refl _ _
        have Hu := H
        refine Sx.st_take hT rfl rfl rfl rfl (Sx.x_move hT rfl rfl) ?_
        clear hT; intro a hT
        refine Sx.st_take hT rfl rfl rfl rfl (Sx.x_move hT rfl rfl) ?_
        clear hT; intro a hT
        refine Sx.st_take hT rfl rfl rfl rfl (Sx.x_len_slice hT rfl rfl Try.underlying43 rfl) ?_
        clear hT; intro a hT
        refine Sx.st_take hT rfl rfl rfl rfl ((fun w => Sx.x_lt w hT rfl rfl rfl)) ?_
        clear hT; intro a hT
        refine Sx.st_take hT rfl rfl rfl rfl (Sx.x_move hT rfl rfl) ?_
        clear hT; intro a hT
        refine Sx.Sl.two hT 46 rfl (fun hc15 hT => ?_) (fun hc15 hT => ?_)
        · try simp only [Sx.bq] at hc15
          refine Sx.st_take hT rfl rfl rfl rfl (Sx.x_move hT rfl rfl) ?_
          clear hT; intro a hT
          refine Sx.st_take hT rfl rfl rfl rfl (Sx.x_move hT rfl rfl) ?_
          clear hT; intro a hT
          refine Sx.st_take hT rfl rfl rfl rfl (Sx.x_index (k := i) hT rfl Try.underlying43 Try.ti73 (R.at H.ext).sv rfl rfl (by first | rfl | omega) (by omega)) ?_
          clear hT; intro a hT
          refine Sx.st_take hT rfl rfl rfl rfl (Sx.x_fieldAddr hT rfl Try.fa73_0 rfl) ?_
          clear hT; intro a hT
          refine Sx.st_held hT rfl rfl rfl rfl hH (fun w' h' => Sx.x_load1 hT rfl Try.fl9 rfl (by first | exact ((Hu.heldB 0 rfl h' Sx.off_No).nth rfl) | exact ((Hu.heldB 2 rfl h' Sx.off_No).nth rfl) | exact ((R.at (Hu.ext.step h')).cell (j := 0) Wt.len ho rfl))) ?_
          clear hT; intro a hT
          refine Sx.st_take hT rfl rfl rfl rfl (Sx.x_fieldAddr hT rfl Try.fa41_0 rfl) ?_
          clear hT; intro a hT
          refine Sx.st_held hT rfl rfl rfl rfl hH (fun w' h' => Sx.x_load1 hT rfl Try.fl9 rfl ((Hu.heldB 2 rfl h' Sx.off_No).nth rfl)) ?_
          clear hT; intro a hT
          refine Sx.st_take hT rfl rfl rfl rfl ((fun w => Sx.x_streq w hT rfl rfl rfl)) ?_
          clear hT; intro a hT
          refine Sx.st_take hT rfl rfl rfl rfl (Sx.x_pick_t hT rfl rfl rfl) ?_
          clear hT; intro a hT
          replace hT := hT.keep [55, 5, 33, 20, 6, 4, 3, 0, 1] rfl
          clear Hu hH
          refine Sx.ser_calm ?_
          refine Sx.then_normal (hK14 _ _ ?_)
          clear hK14
          refine Sx.wp_if hT rfl (fun hc16 => ?_) (fun hc16 => ?_)
          · try simp only [Sx.bq] at hc16
            have heq : o.key = x.key := by simpa using hc16
            refine Sx.wp_text [(0, .take), (1, .take), (2, .take)] rfl ?_
            refine Sx.st_take hT rfl rfl rfl rfl (Sx.x_move hT rfl rfl) ?_
            clear hT; intro a hT
            refine Sx.st_take hT rfl rfl rfl rfl ((fun w => Sx.x_add w hT rfl rfl rfl (Sx.wrap64 (by omega)))) ?_
            clear hT; intro a hT
            refine Sx.st_take hT rfl rfl rfl rfl (Sx.x_assign hT rfl rfl) ?_
            clear hT; intro a hT
            replace hT := hT.keep [6, 55, 5, 33, 20, 4, 3, 0, 1] rfl
            refine Sx.ser_nil ?_
            refine Sx.then_normal (hK13 _ _ ?_)
            clear hK13
            refine wp_seq_k fun K17 hK17 => ?_
            have hM : putM x = [x] := by unfold putM; exact if_neg hkx
            have hbe : behind x.key l = i + 1 := behind_yes hle ho heq
            have hsp : putD l x = (l.take i ++ [x]) ++ l.drop (i + 1) := by rw [putD_at hle hbe, hM]
            have hlen : i + 1 + (l.length - (i + 1)) = (putD l x).length := by rw [hsp, List.length_append, List.length_append, List.length_take, List.length_drop, Nat.min_eq_left hi]; simp only [List.length_cons, List.length_nil] <;> omega
            refine Sx.wp_text [(0, .take), (1, .take), (2, .take), (3, .take), (4, .run), (5, .take)] rfl ?_
            refine Sx.st_take hT rfl rfl rfl rfl (Sx.x_move hT rfl rfl) ?_
            clear hT; intro a hT
            refine Sx.st_take hT rfl rfl rfl rfl (Sx.x_move hT rfl rfl) ?_
            clear hT; intro a hT
            refine Sx.st_take hT rfl rfl rfl rfl (Sx.x_move hT rfl rfl) ?_
            clear hT; intro a hT
            refine Sx.st_take hT rfl rfl rfl rfl (Sx.x_slice_l (p := i + 1) hT rfl Try.underlying43 Try.ti73 rfl rfl rfl (by omega)) ?_
            clear hT; intro a hT
            refine Sx.st_eff hT rfl rfl rfl rfl (Sx.x_append hT rfl rfl Try.underlying43 Try.ti73 rfl (by decide) rfl rfl (H.row 1 rfl) (((R.at H.ext).sv).cut (lo := i + 1) (hi := l.length) (by omega) (Nat.le_refl _) hc) (fun u hu => by rw [cut_w (by omega)] at hu; exact flat_one Wt.one _ u hu) (fun h => nilcut2 hn h) (by unfold maxLen; omega) (by omega)) ?_
            rintro _ w7 ⟨ad7, c7, rfl, hr, E, hown, -⟩
            clear hT; intro a hT
            replace H := H.setR 1 rfl hr E hown rfl; clear hr E hown
            rw [cut_w (by omega), ← List.flatMap_append, ← hsp, hlen] at H
            rw [hlen] at hT
            refine Sx.st_take hT rfl rfl rfl rfl (Sx.x_assign hT rfl rfl) ?_
            clear hT; intro a hT
            replace hT := hT.keep [4, 6, 55, 5, 33, 20, 3, 0, 1] rfl
            refine Sx.ser_nil ?_
            refine Sx.then_normal (hK17 _ _ ?_)
            clear hK17
            refine wp_ret ?_
            refine Sx.done1 (fn := Try.f28) hT rfl (.tmp (hT.get 4 _ rfl)) ?_
            exact ⟨_, _, rfl, H.keep [1] rfl rfl⟩
          · try simp only [Sx.bq] at hc16
            have hnq : o.key ≠ x.key := by simpa using hc16
            refine wp_skip ?_
            refine Sx.then_normal (hK13 _ _ ?_)
            clear hK13
            refine wp_seq_k fun K18 hK18 => ?_
            have hM : putM x = [x] := by unfold putM; exact if_neg hkx
            have hbe : behind x.key l = i := behind_no hle fun q hq => by rw [ho] at hq; cases hq; exact hnq
            have hsp : putD l x = (l.take i ++ [x]) ++ l.drop (i) := by rw [putD_at hle hbe, hM]
            have hlen : i + 1 + (l.length - (i)) = (putD l x).length := by rw [hsp, List.length_append, List.length_append, List.length_take, List.length_drop, Nat.min_eq_left hi]; simp only [List.length_cons, List.length_nil] <;> omega
            refine Sx.wp_text [(0, .take), (1, .take), (2, .take), (3, .take), (4, .run), (5, .take)] rfl ?_
            refine Sx.st_take hT rfl rfl rfl rfl (Sx.x_move hT rfl rfl) ?_
            clear hT; intro a hT
            refine Sx.st_take hT rfl rfl rfl rfl (Sx.x_move hT rfl rfl) ?_
            clear hT; intro a hT
            refine Sx.st_take hT rfl rfl rfl rfl (Sx.x_move hT rfl rfl) ?_
            clear hT; intro a hT
            refine Sx.st_take hT rfl rfl rfl rfl (Sx.x_slice_l (p := i) hT rfl Try.underlying43 Try.ti73 rfl rfl rfl (by omega)) ?_
            clear hT; intro a hT
            refine Sx.st_eff hT rfl rfl rfl rfl (Sx.x_append hT rfl rfl Try.underlying43 Try.ti73 rfl (by decide) rfl rfl (H.row 1 rfl) (((R.at H.ext).sv).cut (lo := i) (hi := l.length) (by omega) (Nat.le_refl _) hc) (fun u hu => by rw [cut_w (by omega)] at hu; exact flat_one Wt.one _ u hu) (fun h => nilcut2 hn h) (by unfold maxLen; omega) (by omega)) ?_
            rintro _ w8 ⟨ad8, c8, rfl, hr, E, hown, -⟩
            clear hT; intro a hT
            replace H := H.setR 1 rfl hr E hown rfl; clear hr E hown
            rw [cut_w (by omega), ← List.flatMap_append, ← hsp, hlen] at H
            rw [hlen] at hT
            refine Sx.st_take hT rfl rfl rfl rfl (Sx.x_assign hT rfl rfl) ?_
            clear hT; intro a hT
            replace hT := hT.keep [4, 55, 5, 33, 20, 6, 3, 0, 1] rfl
            refine Sx.ser_nil ?_
            refine Sx.then_normal (hK18 _ _ ?_)
            clear hK18
            refine wp_ret ?_
            refine Sx.done1 (fn := Try.f28) hT rfl (.tmp (hT.get 4 _ rfl)) ?_
            exact ⟨_, _, rfl, H.keep [1] rfl rfl⟩
        · exfalso
          try simp only [Sx.bq] at hc15
          omega
      · try simp only [Sx.bq] at hc12
        have hkx : x.v.k = 0 := by omega
        refine wp_skip ?_
        refine Sx.then_normal (hK10 _ _ ?_)
        clear hK10
        refine wp_seq_k fun K19 hK19 => ?_
        refine wp_seq_k fun K20 hK20 => ?_
        refine Sx.wp_draws (fun u => Sx.Ext (Sx.No) u) [(0, .take), (1, .take), (2, .take), (3, .take), (4, .take), (5, .take), (6, .take), (7, .take), (8, .take), (9, .held), (10, .take), (11, .held), (12, .take), (13, .take)] (by kernel_rfl) (by kernel_rfl) (fun u E _ => ?_)
        replace H := H.pure E; clear E
        have hH : Sx.Ext (Sx.No) u u := Sx.Ext.refl _ _
        have Hu := H
        refine Sx.st_take hT rfl rfl rfl rfl (Sx.x_move hT rfl rfl) ?_
        clear hT; intro a hT
        refine Sx.st_take hT rfl rfl rfl rfl (Sx.x_move hT rfl rfl) ?_
        clear hT; intro a hT
        refine Sx.st_take hT rfl rfl rfl rfl (Sx.x_len_slice hT rfl rfl Try.underlying43 rfl) ?_
        clear hT; intro a hT
        refine Sx.st_take hT rfl rfl rfl rfl ((fun w => Sx.x_lt w hT rfl rfl rfl)) ?_
        clear hT; intro a hT
        refine Sx.st_take hT rfl rfl rfl rfl (Sx.x_move hT rfl rfl) ?_
        clear hT; intro a hT
        refine Sx.Sl.two hT 46 rfl (fun hc21 hT => ?_) (fun hc21 hT => ?_)
        · try simp only [Sx.bq] at hc21
          refine Sx.st_take hT rfl rfl rfl rfl (Sx.x_move hT rfl rfl) ?_
          clear hT; intro a hT
          refine Sx.st_take hT rfl rfl rfl rfl (Sx.x_move hT rfl rfl) ?_
          clear hT; intro a hT
          refine Sx.st_take hT rfl rfl rfl rfl (Sx.x_index (k := i) hT rfl Try.underlying43 Try.ti73 (R.at H.ext).sv rfl rfl (by first | rfl | omega) (by omega)) ?_
          clear hT; intro a hT
          refine Sx.st_take hT rfl rfl rfl rfl (Sx.x_fieldAddr hT rfl Try.fa73_0 rfl) ?_
          clear hT; intro a hT
          refine Sx.st_held hT rfl rfl rfl rfl hH (fun w' h' => Sx.x_load1 hT rfl Try.fl9 rfl (by first | exact ((Hu.heldB 1 rfl h' Sx.off_No).nth rfl) | exact ((R.at (Hu.ext.step h')).cell (j := 0) Wt.len ho rfl))) ?_
          clear hT; intro a hT
          refine Sx.st_take hT rfl rfl rfl rfl (Sx.x_fieldAddr hT rfl Try.fa41_0 rfl) ?_
          clear hT; intro a hT
          refine Sx.st_held hT rfl rfl rfl rfl hH (fun w' h' => Sx.x_load1 hT rfl Try.fl9 rfl ((Hu.heldB 1 rfl h' Sx.off_No).nth rfl)) ?_
          clear hT; intro a hT
          refine Sx.st_take hT rfl rfl rfl rfl ((fun w => Sx.x_streq w hT rfl rfl rfl)) ?_
          clear hT; intro a hT
          refine Sx.st_take hT rfl rfl rfl rfl (Sx.x_pick_t hT rfl rfl rfl) ?_
          clear hT; intro a hT
          replace hT := hT.keep [55, 33, 20, 6, 5, 4, 3, 0, 1] rfl
          clear Hu hH
          refine Sx.ser_calm ?_
          refine Sx.then_normal (hK20 _ _ ?_)
          clear hK20
          refine Sx.wp_if hT rfl (fun hc22 => ?_) (fun hc22 => ?_)
          · try simp only [Sx.bq] at hc22
            have heq : o.key = x.key := by simpa using hc22
            refine Sx.wp_text [(0, .take), (1, .take), (2, .take)] rfl ?_
            refine Sx.st_take hT rfl rfl rfl rfl (Sx.x_move hT rfl rfl) ?_
            clear hT; intro a hT
            refine Sx.st_take hT rfl rfl rfl rfl ((fun w => Sx.x_add w hT rfl rfl rfl (Sx.wrap64 (by omega)))) ?_
            clear hT; intro a hT
            refine Sx.st_take hT rfl rfl rfl rfl (Sx.x_assign hT rfl rfl) ?_
            clear hT; intro a hT
            replace hT := hT.keep [6, 55, 33, 20, 5, 4, 3, 0, 1] rfl
            refine Sx.ser_nil ?_
            refine Sx.then_normal (hK19 _ _ ?_)
            clear hK19
            refine wp_seq_k fun K23 hK23 => ?_
            have hM : putM x = [] := by unfold putM; exact if_pos hkx
            have hbe : behind x.key l = i + 1 := behind_yes hle ho heq
            have hsp : putD l x = (l.take i ++ []) ++ l.drop (i + 1) := by rw [putD_at hle hbe, hM]
            have hlen : i + (l.length - (i + 1)) = (putD l x).length := by rw [hsp, List.length_append, List.length_append, List.length_take, List.length_drop, Nat.min_eq_left hi]; simp only [List.length_cons, List.length_nil] <;> omega
            rw [← List.append_nil (l.take i)] at H
            refine Sx.wp_text [(0, .take), (1, .take), (2, .take), (3, .take), (4, .run), (5, .take)] rfl ?_
            refine Sx.st_take hT rfl rfl rfl rfl (Sx.x_move hT rfl rfl) ?_
            clear hT; intro a hT
            refine Sx.st_take hT rfl rfl rfl rfl (Sx.x_move hT rfl rfl) ?_
            clear hT; intro a hT
            refine Sx.st_take hT rfl rfl rfl rfl (Sx.x_move hT rfl rfl) ?_
            clear hT; intro a hT
            refine Sx.st_take hT rfl rfl rfl rfl (Sx.x_slice_l (p := i + 1) hT rfl Try.underlying43 Try.ti73 rfl rfl rfl (by omega)) ?_
            clear hT; intro a hT
            refine Sx.st_eff hT rfl rfl rfl rfl (Sx.x_append hT rfl rfl Try.underlying43 Try.ti73 rfl (by decide) rfl rfl (H.row 0 rfl) (((R.at H.ext).sv).cut (lo := i + 1) (hi := l.length) (by omega) (Nat.le_refl _) hc) (fun u hu => by rw [cut_w (by omega)] at hu; exact flat_one Wt.one _ u hu) (fun h => nilcut2 hn h) (by unfold maxLen; omega) (by omega)) ?_
            rintro _ w9 ⟨ad9, c9, rfl, hr, E, hown, -⟩
            clear hT; intro a hT
            replace H := H.setR 0 rfl hr E hown rfl; clear hr E hown
            rw [cut_w (by omega), ← List.flatMap_append, ← hsp, hlen] at H
            rw [hlen] at hT
            refine Sx.st_take hT rfl rfl rfl rfl (Sx.x_assign hT rfl rfl) ?_
            clear hT; intro a hT
            replace hT := hT.keep [4, 6, 55, 33, 20, 5, 3, 0, 1] rfl
            refine Sx.ser_nil ?_
            refine Sx.then_normal (hK23 _ _ ?_)
            clear hK23
            refine wp_ret ?_
            refine Sx.done1 (fn := Try.f28) hT rfl (.tmp (hT.get 4 _ rfl)) ?_
            exact ⟨_, _, rfl, H.keep [0] rfl rfl⟩
          · try simp only [Sx.bq] at hc22
            have hnq : o.key ≠ x.key := by simpa using hc22
            refine wp_skip ?_
            refine Sx.then_normal (hK19 _ _ ?_)
            clear hK19
            refine wp_seq_k fun K24 hK24 => ?_
            have hM : putM x = [] := by unfold putM; exact if_pos hkx
            have hbe : behind x.key l = i := behind_no hle fun q hq => by rw [ho] at hq; cases hq; exact hnq
            have hsp : putD l x = (l.take i ++ []) ++ l.drop (i) := by rw [putD_at hle hbe, hM]
            have hlen : i + (l.length - (i)) = (putD l x).length := by rw [hsp, List.length_append, List.length_append, List.length_take, List.length_drop, Nat.min_eq_left hi]; simp only [List.length_cons, List.length_nil] <;> omega
            rw [← List.append_nil (l.take i)] at H
            refine Sx.wp_text [(0, .take), (1, .take), (2, .take), (3, .take), (4, .run), (5, .take)] rfl ?_
            refine Sx.st_take hT rfl rfl rfl rfl (Sx.x_move hT rfl rfl) ?_
            clear hT; intro a hT
            refine Sx.st_take hT rfl rfl rfl rfl (Sx.x_move hT rfl rfl) ?_
            clear hT; intro a hT
            refine Sx.st_take hT rfl rfl rfl rfl (Sx.x_move hT rfl rfl) ?_
            clear hT; intro a hT
            refine Sx.st_take hT rfl rfl rfl rfl (Sx.x_slice_l (p := i) hT rfl Try.underlying43 Try.ti73 rfl rfl rfl (by omega)) ?_
            clear hT; intro a hT
            refine Sx.st_eff hT rfl rfl rfl rfl (Sx.x_append hT rfl rfl Try.underlying43 Try.ti73 rfl (by decide) rfl rfl (H.row 0 rfl) (((R.at H.ext).sv).cut (lo := i) (hi := l.length) (by omega) (Nat.le_refl _) hc) (fun u hu => by rw [cut_w (by omega)] at hu; exact flat_one Wt.one _ u hu) (fun h => nilcut2 hn h) (by unfold maxLen; omega) (by omega)) ?_
            rintro _ w10 ⟨ad10, c10, rfl, hr, E, hown, -⟩
            clear hT; intro a hT
            replace H := H.setR 0 rfl hr E hown rfl; clear hr E hown
            rw [cut_w (by omega), ← List.flatMap_append, ← hsp, hlen] at H
            rw [hlen] at hT
            refine Sx.st_take hT rfl rfl rfl rfl (Sx.x_assign hT rfl rfl) ?_
            clear hT; intro a hT
            replace hT := hT.keep [4, 55, 33, 20, 6, 5, 3, 0, 1] rfl
            refine Sx.ser_nil ?_
            refine Sx.then_normal (hK24 _ _ ?_)
            clear hK24
            refine wp_ret ?_
            refine Sx.done1 (fn := Try.f28) hT rfl (.tmp (hT.get 4 _ rfl)) ?_
            exact ⟨_, _, rfl, H.keep [0] rfl rfl⟩
        · exfalso
          try simp only [Sx.bq] at hc21
          omega
  · try simp only [Sx.bq] at hc7
    refine Sx.st_skip hT rfl rfl rfl rfl ?_
    clear hT; intro a hT
    refine Sx.st_skip hT rfl rfl rfl rfl ?_
    clear hT; intro a hT
    refine Sx.st_skip hT rfl rfl rfl rfl ?_
    clear hT; intro a hT
    refine Sx.st_skip hT rfl rfl rfl rfl ?_
    clear hT; intro a hT
    refine Sx.st_heldskip hT rfl rfl rfl rfl hH ?_
    clear hT; intro a hT
    refine Sx.st_skip hT rfl rfl rfl rfl ?_
    clear hT; intro a hT
    refine Sx.st_heldskip hT rfl rfl rfl rfl hH ?_
    clear hT; intro a hT
    refine Sx.st_skip hT rfl rfl rfl rfl ?_
    clear hT; intro a hT
    refine Sx.st_take hT rfl rfl rfl rfl (Sx.x_pick_f hT rfl rfl rfl) ?_
    clear hT; intro a hT
    replace hT := hT.keep [20, 6, 5, 4, 3, 0, 1] rfl
    clear Hu hH
    refine Sx.ser_calm ?_
    refine Sx.then_normal (hK6 _ _ ?_)
    clear hK6
    refine Sx.wp_if hT rfl (fun h => by cases h) (fun _ => ?_)
    have hge : ∀ q, l[i]? = some q → ¬ slt q.key x.key := fun q hq => by rw [List.getElem?_eq_none (by omega)] at hq; cases hq
    have hle : lead x.key l = i := lead_eq hlt hge hi
    refine wp_exit ?_
    refine Sx.then_exit ?_
    refine Sx.then_exit ?_
    refine Sx.block_exit ?_
    refine Sx.then_normal (hK4 _ _ ?_)
    clear hK4
    refine wp_seq_k fun K25 hK25 => ?_
    refine wp_seq_k fun K26 hK26 => ?_
    refine Sx.wp_text [(0, .take), (1, .take), (2, .run), (3, .take)] rfl ?_
    refine Sx.st_take hT rfl rfl rfl rfl (Sx.x_fieldAddr hT rfl Try.fa41_1 rfl) ?_
    clear hT; intro a hT
    refine Sx.st_take hT rfl rfl rfl rfl (Sx.x_fieldAddr hT rfl Try.fa39_0 rfl) ?_
    clear hT; intro a hT
    refine Sx.st_run hT rfl rfl rfl rfl (Sx.x_load1 hT rfl Try.fl3 rfl ((H.blk 1 rfl).nth rfl)) ?_
    clear hT; intro a hT
    refine Sx.st_take hT rfl rfl rfl rfl ((fun w => Sx.x_ne w hT rfl rfl rfl)) ?_
    clear hT; intro a hT
    replace hT := hT.keep [33, 20, 6, 5, 4, 3, 0, 1] rfl
    refine Sx.ser_nil ?_
    refine Sx.then_normal (hK26 _ _ ?_)
    clear hK26
    refine Sx.wp_if hT rfl (fun hc27 => ?_) (fun hc27 => ?_)
    · try simp only [Sx.bq] at hc27
      have hkx : x.v.k ≠ 0 := hc27
      refine Sx.wp_text [(0, .take), (1, .take), (2, .run), (3, .take), (4, .run), (5, .take), (6, .run), (7, .run), (8, .take)] rfl ?_
      refine Sx.st_take hT rfl rfl rfl rfl (Sx.x_move hT rfl rfl) ?_
      clear hT; intro a hT
      refine Sx.st_take hT rfl rfl rfl rfl (Sx.x_fieldAddr hT rfl Try.fa41_0 rfl) ?_
      clear hT; intro a hT
      refine Sx.st_run hT rfl rfl rfl rfl (Sx.x_load1 hT rfl Try.fl9 rfl ((H.blk 1 rfl).nth rfl)) ?_
      clear hT; intro a hT
      refine Sx.st_take hT rfl rfl rfl rfl (Sx.x_fieldAddr hT rfl Try.fa41_1 rfl) ?_
      clear hT; intro a hT
      refine Sx.st_run hT rfl rfl rfl rfl (Sx.y_loadS hT rfl Try.underlying39 Try.ti39 rfl ((H.blk 1 rfl).seg (k := 3) rfl) (by rfl)) ?_
      clear hT; intro a hT
      refine Sx.st_take hT rfl rfl rfl rfl (Sx.x_bld hT rfl Try.bld73 rfl rfl) ?_
      clear hT; intro a hT
      refine Sx.st_eff hT rfl rfl rfl rfl (Sx.y_slice1 hT rfl Try.underlying43 Try.ti73 rfl rfl rfl rfl rfl rfl _) ?_
      clear hT; rintro _ w11 ⟨b4, rfl, N⟩ a hT
      replace H := H.new N; clear N
      refine Sx.st_eff hT rfl rfl rfl rfl (Sx.x_append hT rfl rfl Try.underlying43 Try.ti73 rfl (by decide) rfl rfl (H.row 1 rfl) ((H.blk 0 rfl).sv1 rfl) (by simp [Value.oneCell']) (fun h => by cases h) (by unfold maxLen; omega) (by omega)) ?_
      rintro _ w12 ⟨ad12, c12, rfl, hr, E, hown, -⟩
      clear hT; intro a hT
      replace H := H.setR 1 rfl hr E hown rfl; clear hr E hown
      rw [snoc_w] at H
      refine Sx.st_take hT rfl rfl rfl rfl (Sx.x_assign hT rfl rfl) ?_
      clear hT; intro a hT
      replace hT := hT.keep [5, 33, 20, 6, 4, 3, 0, 1] rfl
      refine Sx.ser_nil ?_
      refine Sx.then_normal (hK25 _ _ ?_)
      clear hK25
      refine wp_seq_k fun K28 hK28 => ?_
      refine wp_seq_k fun K29 hK29 => ?_
      refine Sx.wp_draws (fun u => Sx.Ext (Sx.No) u) [(0, .take), (1, .take), (2, .take), (3, .take), (4, .take), (5, .take), (6, .take), (7, .take), (8, .take), (9, .held), (10, .take), (11, .held), (12, .take), (13, .take)] (by kernel_rfl) (by kernel_rfl) (fun u E _ => ?_)
      replace H := H.pure E; clear E
      have hH : Sx.Ext (Sx.No) u u := Sx.Ext.refl _ _
      have Hu := H
      refine Sx.st_take hT rfl rfl rfl rfl (Sx.x_move hT rfl rfl) ?_
      clear hT; intro a hT
      refine Sx.st_take hT rfl rfl rfl rfl (Sx.x_move hT rfl rfl) ?_
      clear hT; intro a hT
      refine Sx.st_take hT rfl rfl rfl rfl (Sx.x_len_slice hT rfl rfl Try.underlying43 rfl) ?_
      clear hT; intro a hT
      refine Sx.st_take hT rfl rfl rfl rfl ((fun w => Sx.x_lt w hT rfl rfl rfl)) ?_
      clear hT; intro a hT
      refine Sx.st_take hT rfl rfl rfl rfl (Sx.x_move hT rfl rfl) ?_
      clear hT; intro a hT
      refine Sx.Sl.two hT 46 rfl (fun hc30 hT => ?_) (fun hc30 hT => ?_)
      · exfalso
        try simp only [Sx.bq] at hc30
        omega
      · try simp only [Sx.bq] at hc30
        refine Sx.st_skip hT rfl rfl rfl rfl ?_
        clear hT; intro a hT
        refine Sx.st_skip hT rfl rfl rfl rfl ?_
        clear hT; intro a hT
        refine Sx.st_skip hT rfl rfl rfl rfl ?_
        clear hT; intro a hT
        refine Sx.st_skip hT rfl rfl rfl rfl ?_
        clear hT; intro a hT
        refine Sx.st_heldskip hT rfl rfl rfl rfl hH ?_
        clear hT; intro a hT
        refine Sx.st_skip hT rfl rfl rfl rfl ?_
        clear hT; intro a hT
        refine Sx.st_heldskip hT rfl rfl rfl rfl hH ?_
        clear hT; intro a hT
        refine Sx.st_skip hT rfl rfl rfl rfl ?_
        clear hT; intro a hT
        refine Sx.st_take hT rfl rfl rfl rfl (Sx.x_pick_f hT rfl rfl rfl) ?_
        clear hT; intro a hT
        replace hT := hT.keep [55, 5, 33, 20, 6, 4, 3, 0, 1] rfl
        clear Hu hH
        refine Sx.ser_calm ?_
        refine Sx.then_normal (hK29 _ _ ?_)
        clear hK29
        refine Sx.wp_if hT rfl (fun h => by cases h) (fun _ => ?_)
        skip
        refine wp_skip ?_
        refine Sx.then_normal (hK28 _ _ ?_)
        clear hK28
        refine wp_seq_k fun K31 hK31 => ?_
        have hM : putM x = [x] := by unfold putM; exact if_neg hkx
        have hbe : behind x.key l = i := behind_no hle fun q hq => by rw [List.getElem?_eq_none (by omega)] at hq; cases hq
        have hsp : putD l x = (l.take i ++ [x]) ++ l.drop (i) := by rw [putD_at hle hbe, hM]
        have hlen : i + 1 + (l.length - (i)) = (putD l x).length := by rw [hsp, List.length_append, List.length_append, List.length_take, List.length_drop, Nat.min_eq_left hi]; simp only [List.length_cons, List.length_nil] <;> omega
        refine Sx.wp_text [(0, .take), (1, .take), (2, .take), (3, .take), (4, .run), (5, .take)] rfl ?_
        refine Sx.st_take hT rfl rfl rfl rfl (Sx.x_move hT rfl rfl) ?_
        clear hT; intro a hT
        refine Sx.st_take hT rfl rfl rfl rfl (Sx.x_move hT rfl rfl) ?_
        clear hT; intro a hT
        refine Sx.st_take hT rfl rfl rfl rfl (Sx.x_move hT rfl rfl) ?_
        clear hT; intro a hT
        refine Sx.st_take hT rfl rfl rfl rfl (Sx.x_slice_l (p := i) hT rfl Try.underlying43 Try.ti73 rfl rfl rfl (by omega)) ?_
        clear hT; intro a hT
        refine Sx.st_eff hT rfl rfl rfl rfl (Sx.x_append hT rfl rfl Try.underlying43 Try.ti73 rfl (by decide) rfl rfl (H.row 1 rfl) (((R.at H.ext).sv).cut (lo := i) (hi := l.length) (by omega) (Nat.le_refl _) hc) (fun u hu => by rw [cut_w (by omega)] at hu; exact flat_one Wt.one _ u hu) (fun h => nilcut2 hn h) (by unfold maxLen; omega) (by omega)) ?_
        rintro _ w13 ⟨ad13, c13, rfl, hr, E, hown, -⟩
        clear hT; intro a hT
        replace H := H.setR 1 rfl hr E hown rfl; clear hr E hown
        rw [cut_w (by omega), ← List.flatMap_append, ← hsp, hlen] at H
        rw [hlen] at hT
        refine Sx.st_take hT rfl rfl rfl rfl (Sx.x_assign hT rfl rfl) ?_
        clear hT; intro a hT
        replace hT := hT.keep [4, 55, 5, 33, 20, 6, 3, 0, 1] rfl
        refine Sx.ser_nil ?_
        refine Sx.then_normal (hK31 _ _ ?_)
        clear hK31
        refine wp_ret ?_
        refine Sx.done1 (fn := Try.f28) hT rfl (.tmp (hT.get 4 _ rfl)) ?_
        exact ⟨_, _, rfl, H.keep [1] rfl rfl⟩
    · try simp only [Sx.bq] at hc27
      have hkx : x.v.k = 0 := by omega
      refine wp_skip ?_
      refine Sx.then_normal (hK25 _ _ ?_)
      clear hK25
      refine wp_seq_k fun K32 hK32 => ?_
      refine wp_seq_k fun K33 hK33 => ?_
      refine Sx.wp_draws (fun u => Sx.Ext (Sx.No) u) [(0, .take), (1, .take), (2, .take), (3, .take), (4, .take), (5, .take), (6, .take), (7, .take), (8, .take), (9, .held), (10, .take), (11, .held), (12, .take), (13, .take)] (by kernel_rfl) (by kernel_rfl) (fun u E _ => ?_)
      replace H := H.pure E; clear E
      have hH : Sx.Ext (Sx.No) u u := Sx.Ext.refl _ _
      have Hu := H
      refine Sx.st_take hT rfl rfl rfl rfl (Sx.x_move hT rfl rfl) ?_
      clear hT; intro a hT
      refine Sx.st_take hT rfl rfl rfl rfl (Sx.x_move hT rfl rfl) ?_
      clear hT; intro a hT
      refine Sx.st_take hT rfl rfl rfl rfl (Sx.x_len_slice hT rfl rfl Try.underlying43 rfl) ?_
      clear hT; intro a hT
      refine Sx.st_take hT rfl rfl rfl rfl ((fun w => Sx.x_lt w hT rfl rfl rfl)) ?_
      clear hT; intro a hT
      refine Sx.st_take hT rfl rfl rfl rfl (Sx.x_move hT rfl rfl) ?_
      clear hT; intro a hT
      refine Sx.Sl.two hT 46 rfl (fun hc34 hT => ?_) (fun hc34 hT => ?_)
      · exfalso
        try simp only [Sx.bq] at hc34
        omega
      · try simp only [Sx.bq] at hc34
        refine Sx.st_skip hT rfl rfl rfl rfl ?_
        clear hT; intro a hT
        refine Sx.st_skip hT rfl rfl rfl rfl ?_
        clear hT; intro a hT
        refine Sx.st_skip hT rfl rfl rfl rfl ?_
        clear hT; intro a hT
        refine Sx.st_skip hT rfl rfl rfl rfl ?_
        clear hT; intro a hT
        refine Sx.st_heldskip hT rfl rfl rfl rfl hH ?_
        clear hT; intro a hT
        refine Sx.st_skip hT rfl rfl rfl rfl ?_
        clear hT; intro a hT
        refine Sx.st_heldskip hT rfl rfl rfl rfl hH ?_
        clear hT; intro a hT
        refine Sx.st_skip hT rfl rfl rfl rfl ?_
        clear hT; intro a hT
        refine Sx.st_take hT rfl rfl rfl rfl (Sx.x_pick_f hT rfl rfl rfl) ?_
        clear hT; intro a hT
        replace hT := hT.keep [55, 33, 20, 6, 5, 4, 3, 0, 1] rfl
        clear Hu hH
        refine Sx.ser_calm ?_
        refine Sx.then_normal (hK33 _ _ ?_)
        clear hK33
        refine Sx.wp_if hT rfl (fun h => by cases h) (fun _ => ?_)
        skip
        refine wp_skip ?_
        refine Sx.then_normal (hK32 _ _ ?_)
        clear hK32
        refine wp_seq_k fun K35 hK35 => ?_
        have hM : putM x = [] := by unfold putM; exact if_pos hkx
        have hbe : behind x.key l = i := behind_no hle fun q hq => by rw [List.getElem?_eq_none (by omega)] at hq; cases hq
        have hsp : putD l x = (l.take i ++ []) ++ l.drop (i) := by rw [putD_at hle hbe, hM]
        have hlen : i + (l.length - (i)) = (putD l x).length := by rw [hsp, List.length_append, List.length_append, List.length_take, List.length_drop, Nat.min_eq_left hi]; simp only [List.length_cons, List.length_nil] <;> omega
        rw [← List.append_nil (l.take i)] at H
        refine Sx.wp_text [(0, .take), (1, .take), (2, .take), (3, .take), (4, .run), (5, .take)] rfl ?_
        refine Sx.st_take hT rfl rfl rfl rfl (Sx.x_move hT rfl rfl) ?_
        clear hT; intro a hT
        refine Sx.st_take hT rfl rfl rfl rfl (Sx.x_move hT rfl rfl) ?_
        clear hT; intro a hT
        refine Sx.st_take hT rfl rfl rfl rfl (Sx.x_move hT rfl rfl) ?_
        clear hT; intro a hT
        refine Sx.st_take hT rfl rfl rfl rfl (Sx.x_slice_l (p := i) hT rfl Try.underlying43 Try.ti73 rfl rfl rfl (by omega)) ?_
        clear hT; intro a hT
        refine Sx.st_eff hT rfl rfl rfl rfl (Sx.x_append hT rfl rfl Try.underlying43 Try.ti73 rfl (by decide) rfl rfl (H.row 0 rfl) (((R.at H.ext).sv).cut (lo := i) (hi := l.length) (by omega) (Nat.le_refl _) hc) (fun u hu => by rw [cut_w (by omega)] at hu; exact flat_one Wt.one _ u hu) (fun h => nilcut2 hn h) (by unfold maxLen; omega) (by omega)) ?_
        rintro _ w14 ⟨ad14, c14, rfl, hr, E, hown, -⟩
        clear hT; intro a hT
        replace H := H.setR 0 rfl hr E hown rfl; clear hr E hown
        rw [cut_w (by omega), ← List.flatMap_append, ← hsp, hlen] at H
        rw [hlen] at hT
        refine Sx.st_take hT rfl rfl rfl rfl (Sx.x_assign hT rfl rfl) ?_
        clear hT; intro a hT
        replace hT := hT.keep [4, 55, 33, 20, 6, 5, 3, 0, 1] rfl
        refine Sx.ser_nil ?_
        refine Sx.then_normal (hK35 _ _ ?_)
        clear hK35
        refine wp_ret ?_
        refine Sx.done1 (fn := Try.f28) hT rfl (.tmp (hT.get 4 _ rfl)) ?_
        exact ⟨_, _, rfl, H.keep [0] rfl rfl⟩

theorem few_calls {ad : Option Addr} {c : Nat} (l : List En) {w : World} (hs : Ss w ad En.cells 7 l) (hw : ∀ x ∈ l, Ss w x.ad Wt.cells 4 x.ws ∧ (∀ y ∈ x.ws, y.wf) ∧ x.ws.length ≤ 9223372036854775806) (hl : l.length ≤ 9223372036854775806) : Calls Try.prog 9 #[.slice ad l.length c] w fun e w' => ∃ b : Bool, e = .returned (.bool b) ∧ (b = true → l.length ≤ 100 ∧ sumN (fun x => wwF 20000 x.ws 0) l ≤ 20000) ∧ Ext No w w' := by
  have R : Ro w No _ := Ro.of fun w' x => hs.ext_no x
  have RM : Ro w No (fun u => ∀ x ∈ l, Ss u x.ad Wt.cells 4 x.ws) := Ro.of fun w' x y hy => ((hw y hy).1).ext_no x
  refine Sx.calls_into Try.func9 rfl Try.ntmps9 rfl fun a hT => ?_
  replace hT := hT.keep [0] rfl
  have H : Sx.Hp w (Sx.No) w [] := Sx.Hp.start _ _
  refine wp_seq_k fun K1 hK1 => ?_
  refine Sx.wp_text [(0, .take)] rfl ?_
  refine Sx.st_take hT rfl rfl rfl rfl (Sx.x_assign hT rfl rfl) ?_
  clear hT; intro a hT
  replace hT := hT.keep [2, 0] rfl
  refine Sx.ser_nil ?_
  refine Sx.then_normal (hK1 _ _ ?_)
  clear hK1
  refine wp_seq_k fun K2 hK2 => ?_
  refine Sx.wp_text [(0, .take)] rfl ?_
  refine Sx.st_take hT rfl rfl rfl rfl (Sx.x_assign hT rfl rfl) ?_
  clear hT; intro a hT
  replace hT := hT.keep [3, 2, 0] rfl
  refine Sx.ser_nil ?_
  refine Sx.then_normal (hK2 _ _ ?_)
  clear hK2
  refine wp_seq_k fun K3 hK3 => ?_
  refine wp_seq_k fun K4 hK4 => ?_
  refine Sx.wp_text [(0, .take)] rfl ?_
  refine Sx.st_take hT rfl rfl rfl rfl (Sx.x_assign hT rfl rfl) ?_
  clear hT; intro a hT
  replace hT := hT.keep [4, 3, 2, 0] rfl
  refine Sx.ser_nil ?_
  refine Sx.then_normal (hK4 _ _ ?_)
  clear hK4
  refine wp_block ?_
  refine Sx.wp_loopH (G := Nat × Nat) (fun ⟨i, n⟩ => [(4, .int .i64 (i : Int)), (3, .int .i64 (n : Int))]) (fun ⟨i, n⟩ => []) (fun ⟨i, n⟩ => i ≤ l.length ∧ i ≤ 100 ∧ n ≤ 60001 ∧ n = sumN (fun x => wwF 20000 x.ws 0) (l.take i)) (fun ⟨i, n⟩ => l.length - i) (0, 0) (hT.keep [4, 3, 2, 0] rfl) (H.keep [] rfl rfl) (⟨Nat.zero_le _, by decide, by decide, by rw [List.take_zero]; rfl⟩) ?_
  clear hT H
  rintro ⟨i, n⟩ a w1 hJ hT H
  replace hT := hT.keep [4, 3, 2, 0] rfl
  replace H := H.keep [] rfl rfl
  obtain ⟨hi, hi1, hn, hns⟩ := hJ
  refine wp_seq_k fun K5 hK5 => ?_
  refine wp_seq_k fun K6 hK6 => ?_
  refine Sx.wp_text [(0, .take), (1, .take), (2, .take), (3, .take), (4, .take), (5, .take), (6, .take), (7, .take), (8, .take), (9, .take), (10, .take), (11, .take)] rfl ?_
  refine Sx.st_take hT rfl rfl rfl rfl (Sx.x_move hT rfl rfl) ?_
  clear hT; intro a hT
  refine Sx.st_take hT rfl rfl rfl rfl (Sx.x_move hT rfl rfl) ?_
  clear hT; intro a hT
  refine Sx.st_take hT rfl rfl rfl rfl (Sx.x_len_slice hT rfl rfl Try.underlying22 rfl) ?_
  clear hT; intro a hT
  refine Sx.st_take hT rfl rfl rfl rfl ((fun w => Sx.x_lt w hT rfl rfl rfl)) ?_
  clear hT; intro a hT
  refine Sx.st_take hT rfl rfl rfl rfl (Sx.x_move hT rfl rfl) ?_
  clear hT; intro a hT
  refine Sx.Sl.two hT 9 rfl (fun hc7 hT => ?_) (fun hc7 hT => ?_)
  · try simp only [Sx.bq] at hc7
    refine Sx.st_take hT rfl rfl rfl rfl (Sx.x_move hT rfl rfl) ?_
    clear hT; intro a hT
    refine Sx.st_take hT rfl rfl rfl rfl ((fun w => Sx.x_lt w hT rfl rfl rfl)) ?_
    clear hT; intro a hT
    refine Sx.st_take hT rfl rfl rfl rfl (Sx.x_pick_t hT rfl rfl rfl) ?_
    clear hT; intro a hT
    refine Sx.st_take hT rfl rfl rfl rfl (Sx.x_move hT rfl rfl) ?_
    clear hT; intro a hT
    refine Sx.Sl.two hT 13 rfl (fun hc8 hT => ?_) (fun hc8 hT => ?_)
    · try simp only [Sx.bq] at hc8
      refine Sx.st_take hT rfl rfl rfl rfl (Sx.x_move hT rfl rfl) ?_
      clear hT; intro a hT
      refine Sx.st_take hT rfl rfl rfl rfl ((fun w => Sx.x_le w hT rfl rfl rfl)) ?_
      clear hT; intro a hT
      refine Sx.st_take hT rfl rfl rfl rfl (Sx.x_pick_t hT rfl rfl rfl) ?_
      clear hT; intro a hT
      replace hT := hT.keep [16, 4, 3, 2, 0] rfl
      refine Sx.ser_nil ?_
      refine Sx.then_normal (hK6 _ _ ?_)
      clear hK6
      refine Sx.wp_if hT rfl (fun hc9 => ?_) (fun hc9 => ?_)
      · try simp only [Sx.bq] at hc9
        obtain ⟨o, ho⟩ : ∃ q9, l[i]? = some q9 := ⟨_, List.getElem?_eq_getElem (by omega)⟩
        have hom := List.mem_of_getElem? ho
        obtain ⟨-, hw2, hw3⟩ := hw o hom
        have hmx := ww_max (m := 20000) o.ws 0
        refine wp_skip ?_
        refine Sx.then_normal (hK5 _ _ ?_)
        clear hK5
        refine wp_seq_k fun K10 hK10 => ?_
        refine wp_block ?_
        refine Sx.wp_text [(0, .take), (1, .take), (2, .take), (3, .take), (4, .take), (5, .run), (6, .run), (7, .take), (8, .take)] rfl ?_
        refine Sx.st_take hT rfl rfl rfl rfl (Sx.x_move hT rfl rfl) ?_
        clear hT; intro a hT
        refine Sx.st_take hT rfl rfl rfl rfl (Sx.x_move hT rfl rfl) ?_
        clear hT; intro a hT
        refine Sx.st_take hT rfl rfl rfl rfl (Sx.x_move hT rfl rfl) ?_
        clear hT; intro a hT
        refine Sx.st_take hT rfl rfl rfl rfl (Sx.x_index (k := i) hT rfl Try.underlying22 Try.ti36 (R.at H.ext).sv rfl rfl (by first | rfl | omega) (by omega)) ?_
        clear hT; intro a hT
        refine Sx.st_take hT rfl rfl rfl rfl (Sx.x_fieldAddr hT rfl Try.fa36_2 rfl) ?_
        clear hT; intro a hT
        refine Sx.st_run hT rfl rfl rfl rfl (Sx.x_load1 hT rfl Try.fl34 rfl ((R.at H.ext).cell (j := 6) En.len ho rfl)) ?_
        clear hT; intro a hT
        refine Sx.st_call hT rfl rfl rfl rfl rfl Try.can33 rfl (WeighWrites_calls o.ws ((RM.at H.ext) o hom) hw3 20000 (by decide) hw2) ?_
        rintro _ w2 ⟨rfl, E⟩
        refine ⟨_, rfl, ?_⟩
        clear hT; intro a hT
        replace H := H.pure E; clear E
        refine Sx.st_take hT rfl rfl rfl rfl ((fun w => Sx.x_add w hT rfl rfl rfl (Sx.wrap64 (by omega)))) ?_
        clear hT; intro a hT
        refine Sx.st_take hT rfl rfl rfl rfl (Sx.x_assign hT rfl rfl) ?_
        clear hT; intro a hT
        replace hT := hT.keep [3, 16, 4, 2, 0] rfl
        refine Sx.ser_nil ?_
        refine Sx.block_normal ?_
        refine Sx.then_normal (hK10 _ _ ?_)
        clear hK10
        refine Sx.wp_text [(0, .take), (1, .take), (2, .take)] rfl ?_
        refine Sx.st_take hT rfl rfl rfl rfl (Sx.x_move hT rfl rfl) ?_
        clear hT; intro a hT
        refine Sx.st_take hT rfl rfl rfl rfl ((fun w => Sx.x_add w hT rfl rfl rfl (Sx.wrap64 (by omega)))) ?_
        clear hT; intro a hT
        refine Sx.st_take hT rfl rfl rfl rfl (Sx.x_assign hT rfl rfl) ?_
        clear hT; intro a hT
        replace hT := hT.keep [4, 3, 16, 2, 0] rfl
        refine Sx.ser_nil ?_
        refine Sx.then_normal ?_
        exact ⟨(i + 1, n + wwF 20000 o.ws 0), ⟨by show i + 1 ≤ _; omega, by show i + 1 ≤ _; omega, by show n + _ ≤ _; omega, by show n + _ = _; rw [sumN_snoc _ ho, ← hns]⟩, (hT.keep [4, 3, 2, 0] rfl), (H.keep [] rfl rfl), by show _ - (i + 1) < _ - i; omega⟩
      · try simp only [Sx.bq] at hc9
        refine wp_exit ?_
        refine Sx.then_exit ?_
        refine Sx.then_exit ?_
        refine Sx.block_exit ?_
        refine Sx.then_normal (hK3 _ _ ?_)
        clear hK3
        refine wp_seq_k fun K11 hK11 => ?_
        refine Sx.wp_text [(0, .take), (1, .take), (2, .take), (3, .take), (4, .take), (5, .take), (6, .take), (7, .take)] rfl ?_
        refine Sx.st_take hT rfl rfl rfl rfl (Sx.x_move hT rfl rfl) ?_
        clear hT; intro a hT
        refine Sx.st_take hT rfl rfl rfl rfl (Sx.x_len_slice hT rfl rfl Try.underlying22 rfl) ?_
        clear hT; intro a hT
        refine Sx.st_take hT rfl rfl rfl rfl ((fun w => Sx.x_le w hT rfl rfl rfl)) ?_
        clear hT; intro a hT
        refine Sx.st_take hT rfl rfl rfl rfl (Sx.x_move hT rfl rfl) ?_
        clear hT; intro a hT
        refine Sx.Sl.two hT 30 rfl (fun hc12 hT => ?_) (fun hc12 hT => ?_)
        · try simp only [Sx.bq] at hc12
          refine Sx.st_take hT rfl rfl rfl rfl (Sx.x_move hT rfl rfl) ?_
          clear hT; intro a hT
          refine Sx.st_take hT rfl rfl rfl rfl ((fun w => Sx.x_le w hT rfl rfl rfl)) ?_
          clear hT; intro a hT
          refine Sx.st_take hT rfl rfl rfl rfl (Sx.x_pick_t hT rfl rfl rfl) ?_
          clear hT; intro a hT
          refine Sx.st_take hT rfl rfl rfl rfl (Sx.x_assign hT rfl rfl) ?_
          clear hT; intro a hT
          replace hT := hT.keep [2, 16, 4, 3, 0] rfl
          refine Sx.ser_nil ?_
          refine Sx.then_normal (hK11 _ _ ?_)
          clear hK11
          refine wp_ret ?_
          refine Sx.done1 (fn := Try.f9) hT rfl (.tmp (hT.get 2 _ rfl)) ?_
          refine ⟨_, rfl, fun h9 => ?_, H.ext⟩
          first
            | (cases h9; done)
            | (have h9 := of_decide_eq_true h9
               have hil : i = l.length := by omega
               rw [hil, List.take_length] at hns
               exact ⟨by omega, by omega⟩)
        · try simp only [Sx.bq] at hc12
          refine Sx.st_skip hT rfl rfl rfl rfl ?_
          clear hT; intro a hT
          refine Sx.st_skip hT rfl rfl rfl rfl ?_
          clear hT; intro a hT
          refine Sx.st_take hT rfl rfl rfl rfl (Sx.x_pick_f hT rfl rfl rfl) ?_
          clear hT; intro a hT
          refine Sx.st_take hT rfl rfl rfl rfl (Sx.x_assign hT rfl rfl) ?_
          clear hT; intro a hT
          replace hT := hT.keep [2, 16, 4, 3, 0] rfl
          refine Sx.ser_nil ?_
          refine Sx.then_normal (hK11 _ _ ?_)
          clear hK11
          refine wp_ret ?_
          refine Sx.done1 (fn := Try.f9) hT rfl (.tmp (hT.get 2 _ rfl)) ?_
          refine ⟨_, rfl, fun h9 => ?_, H.ext⟩
          first
            | (cases h9; done)
            | (have h9 := of_decide_eq_true h9
               have hil : i = l.length := by omega
               rw [hil, List.take_length] at hns
               exact ⟨by omega, by omega⟩)
    · try simp only [Sx.bq] at hc8
      refine Sx.st_skip hT rfl rfl rfl rfl ?_
      clear hT; intro a hT
      refine Sx.st_skip hT rfl rfl rfl rfl ?_
      clear hT; intro a hT
      refine Sx.st_take hT rfl rfl rfl rfl (Sx.x_pick_f hT rfl rfl rfl) ?_
      clear hT; intro a hT
      replace hT := hT.keep [16, 4, 3, 2, 0] rfl
      refine Sx.ser_nil ?_
      refine Sx.then_normal (hK6 _ _ ?_)
      clear hK6
      refine Sx.wp_if hT rfl (fun h => by cases h) (fun _ => ?_)
      refine wp_exit ?_
      refine Sx.then_exit ?_
      refine Sx.then_exit ?_
      refine Sx.block_exit ?_
      refine Sx.then_normal (hK3 _ _ ?_)
      clear hK3
      refine wp_seq_k fun K13 hK13 => ?_
      refine Sx.wp_text [(0, .take), (1, .take), (2, .take), (3, .take), (4, .take), (5, .take), (6, .take), (7, .take)] rfl ?_
      refine Sx.st_take hT rfl rfl rfl rfl (Sx.x_move hT rfl rfl) ?_
      clear hT; intro a hT
      refine Sx.st_take hT rfl rfl rfl rfl (Sx.x_len_slice hT rfl rfl Try.underlying22 rfl) ?_
      clear hT; intro a hT
      refine Sx.st_take hT rfl rfl rfl rfl ((fun w => Sx.x_le w hT rfl rfl rfl)) ?_
      clear hT; intro a hT
      refine Sx.st_take hT rfl rfl rfl rfl (Sx.x_move hT rfl rfl) ?_
      clear hT; intro a hT
      refine Sx.Sl.two hT 30 rfl (fun hc14 hT => ?_) (fun hc14 hT => ?_)
      · try simp only [Sx.bq] at hc14
        refine Sx.st_take hT rfl rfl rfl rfl (Sx.x_move hT rfl rfl) ?_
        clear hT; intro a hT
        refine Sx.st_take hT rfl rfl rfl rfl ((fun w => Sx.x_le w hT rfl rfl rfl)) ?_
        clear hT; intro a hT
        refine Sx.st_take hT rfl rfl rfl rfl (Sx.x_pick_t hT rfl rfl rfl) ?_
        clear hT; intro a hT
        refine Sx.st_take hT rfl rfl rfl rfl (Sx.x_assign hT rfl rfl) ?_
        clear hT; intro a hT
        replace hT := hT.keep [2, 16, 4, 3, 0] rfl
        refine Sx.ser_nil ?_
        refine Sx.then_normal (hK13 _ _ ?_)
        clear hK13
        refine wp_ret ?_
        refine Sx.done1 (fn := Try.f9) hT rfl (.tmp (hT.get 2 _ rfl)) ?_
        refine ⟨_, rfl, fun h9 => ?_, H.ext⟩
        first
          | (cases h9; done)
          | (have h9 := of_decide_eq_true h9
             have hil : i = l.length := by omega
             rw [hil, List.take_length] at hns
             exact ⟨by omega, by omega⟩)
      · try simp only [Sx.bq] at hc14
        refine Sx.st_skip hT rfl rfl rfl rfl ?_
        clear hT; intro a hT
        refine Sx.st_skip hT rfl rfl rfl rfl ?_
        clear hT; intro a hT
        refine Sx.st_take hT rfl rfl rfl rfl (Sx.x_pick_f hT rfl rfl rfl) ?_
        clear hT; intro a hT
        refine Sx.st_take hT rfl rfl rfl rfl (Sx.x_assign hT rfl rfl) ?_
        clear hT; intro a hT
        replace hT := hT.keep [2, 16, 4, 3, 0] rfl
        refine Sx.ser_nil ?_
        refine Sx.then_normal (hK13 _ _ ?_)
        clear hK13
        refine wp_ret ?_
        refine Sx.done1 (fn := Try.f9) hT rfl (.tmp (hT.get 2 _ rfl)) ?_
        refine ⟨_, rfl, fun h9 => ?_, H.ext⟩
        first
          | (cases h9; done)
          | (have h9 := of_decide_eq_true h9
             have hil : i = l.length := by omega
             rw [hil, List.take_length] at hns
             exact ⟨by omega, by omega⟩)
  · try simp only [Sx.bq] at hc7
    refine Sx.st_skip hT rfl rfl rfl rfl ?_
    clear hT; intro a hT
    refine Sx.st_skip hT rfl rfl rfl rfl ?_
    clear hT; intro a hT
    refine Sx.st_take hT rfl rfl rfl rfl (Sx.x_pick_f hT rfl rfl rfl) ?_
    clear hT; intro a hT
    refine Sx.st_take hT rfl rfl rfl rfl (Sx.x_move hT rfl rfl) ?_
    clear hT; intro a hT
    refine Sx.st_skip hT rfl rfl rfl rfl ?_
    clear hT; intro a hT
    refine Sx.st_skip hT rfl rfl rfl rfl ?_
    clear hT; intro a hT
    refine Sx.st_take hT rfl rfl rfl rfl (Sx.x_pick_f hT rfl rfl rfl) ?_
    clear hT; intro a hT
    replace hT := hT.keep [16, 4, 3, 2, 0] rfl
    refine Sx.ser_nil ?_
    refine Sx.then_normal (hK6 _ _ ?_)
    clear hK6
    refine Sx.wp_if hT rfl (fun h => by cases h) (fun _ => ?_)
    refine wp_exit ?_
    refine Sx.then_exit ?_
    refine Sx.then_exit ?_
    refine Sx.block_exit ?_
    refine Sx.then_normal (hK3 _ _ ?_)
    clear hK3
    refine wp_seq_k fun K15 hK15 => ?_
    refine Sx.wp_text [(0, .take), (1, .take), (2, .take), (3, .take), (4, .take), (5, .take), (6, .take), (7, .take)] rfl ?_
    refine Sx.st_take hT rfl rfl rfl rfl (Sx.x_move hT rfl rfl) ?_
    clear hT; intro a hT
    refine Sx.st_take hT rfl rfl rfl rfl (Sx.x_len_slice hT rfl rfl Try.underlying22 rfl) ?_
    clear hT; intro a hT
    refine Sx.st_take hT rfl rfl rfl rfl ((fun w => Sx.x_le w hT rfl rfl rfl)) ?_
    clear hT; intro a hT
    refine Sx.st_take hT rfl rfl rfl rfl (Sx.x_move hT rfl rfl) ?_
    clear hT; intro a hT
    refine Sx.Sl.two hT 30 rfl (fun hc16 hT => ?_) (fun hc16 hT => ?_)
    · try simp only [Sx.bq] at hc16
      refine Sx.st_take hT rfl rfl rfl rfl (Sx.x_move hT rfl rfl) ?_
      clear hT; intro a hT
      refine Sx.st_take hT rfl rfl rfl rfl ((fun w => Sx.x_le w hT rfl rfl rfl)) ?_
      clear hT; intro a hT
      refine Sx.st_take hT rfl rfl rfl rfl (Sx.x_pick_t hT rfl rfl rfl) ?_
      clear hT; intro a hT
      refine Sx.st_take hT rfl rfl rfl rfl (Sx.x_assign hT rfl rfl) ?_
      clear hT; intro a hT
      replace hT := hT.keep [2, 16, 4, 3, 0] rfl
      refine Sx.ser_nil ?_
      refine Sx.then_normal (hK15 _ _ ?_)
      clear hK15
      refine wp_ret ?_
      refine Sx.done1 (fn := Try.f9) hT rfl (.tmp (hT.get 2 _ rfl)) ?_
      refine ⟨_, rfl, fun h9 => ?_, H.ext⟩
      first
        | (cases h9; done)
        | (have h9 := of_decide_eq_true h9
           have hil : i = l.length := by omega
           rw [hil, List.take_length] at hns
           exact ⟨by omega, by omega⟩)
    · try simp only [Sx.bq] at hc16
      refine Sx.st_skip hT rfl rfl rfl rfl ?_
      clear hT; intro a hT
      refine Sx.st_skip hT rfl rfl rfl rfl ?_
      clear hT; intro a hT
      refine Sx.st_take hT rfl rfl rfl rfl (Sx.x_pick_f hT rfl rfl rfl) ?_
      clear hT; intro a hT
      refine Sx.st_take hT rfl rfl rfl rfl (Sx.x_assign hT rfl rfl) ?_
      clear hT; intro a hT
      replace hT := hT.keep [2, 16, 4, 3, 0] rfl
      refine Sx.ser_nil ?_
      refine Sx.then_normal (hK15 _ _ ?_)
      clear hK15
      refine wp_ret ?_
      refine Sx.done1 (fn := Try.f9) hT rfl (.tmp (hT.get 2 _ rfl)) ?_
      refine ⟨_, rfl, fun h9 => ?_, H.ext⟩
      first
        | (cases h9; done)
        | (have h9 := of_decide_eq_true h9
           have hil : i = l.length := by omega
           rw [hil, List.take_length] at hns
           exact ⟨by omega, by omega⟩)

end Go.Proofs.Ytpggijfpkgglmaa
