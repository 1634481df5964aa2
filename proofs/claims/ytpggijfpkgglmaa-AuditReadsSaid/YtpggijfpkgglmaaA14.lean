/- Walks: AuditReads. -/
import Derived.Test.YtpggijfpkgglmaaA13
set_option linter.unusedSimpArgs false
set_option linter.unusedVariables false
namespace Go.Proofs.Ytpggijfpkgglmaa
open Sx
theorem Try.bld52 : Sx.Bld Try.prog 52 #[.int .i64 0, .int .i64 0, .int .i64 0, .int .i64 0, .int .i64 0, .int .i64 0, .slice none 0 0, .slice none 0 0] #[(0, 7), (7, 1)] := ⟨_, _, _, _, Try.ti52, rfl, Try.underlying52, fun w => by simp [Sx.placesOf, Sx.run_sizeOf Try.ti36, Sx.run_sizeOf Try.ti49]⟩
theorem Try.can4 : Sx.Can Try.prog 4 := ⟨_, Try.func4, by kernel_rfl, rfl⟩
theorem ww_len {m : Nat} : ∀ (l : List Wt) (n : Nat), wwF m l n ≤ m → n + l.length ≤ wwF m l n
  | [], n, _ => by unfold wwF; exact Nat.le_refl _
  | x :: r, n, h => by
    unfold wwF at h ⊢
    split at h
    · rename_i hn
      rw [if_pos hn]
      have h1 := ww_len r _ h
      have h3 : few2F (few2F n (1 + x.key.length) m) x.v.tx.length m ≤ m := by omega
      have h4 := few2_le h3
      have h6 := few2_le (show few2F n (1 + x.key.length) m ≤ m by omega)
      rw [List.length_cons]
      omega
    · omega
theorem few_sum {l : List En} (h : sumN (fun x => wwF 20000 x.ws 0) l ≤ 20000) : sumN wl l ≤ 20000 ∧ ∀ x ∈ l, x.ws.length ≤ 20000 := by
  have h1 : ∀ x ∈ l, wl x ≤ wwF 20000 x.ws 0 := fun x hx => by
    have h2 : wwF 20000 x.ws 0 ≤ 20000 := Nat.le_trans (sumN_mem (f := fun x : En => wwF 20000 x.ws 0) hx) h
    have h3 := ww_len x.ws 0 h2
    unfold wl
    omega
  have h2 : sumN wl l ≤ 20000 := Nat.le_trans (sumN_le h1) h
  exact ⟨h2, fun x hx => Nat.le_trans (sumN_mem (f := wl) hx) h2⟩

theorem Reads_all {ad : Option Addr} {c : Nat} (l : List Dn) {w : World} (hs : Ss w ad Dn.cells 8 l) (hw : ∀ x ∈ l, (Ss w x.ad Wt.cells 4 x.ws ∧ (∀ y ∈ x.ws, y.wf) ∧ x.ws.length ≤ 9223372036854775806 ∧ (x.ad = none → x.ws.length = 0 ∧ x.c = 0)) ∧ (Ss w x.sa Sn.cells 7 x.sn ∧ (∀ y ∈ x.sn, y.wf) ∧ x.sn.length ≤ 9223372036854775806)) (hl : l.length ≤ 9223372036854775806) : Calls Try.prog 4 #[.slice ad l.length c] w fun e w' => e = .returned (.bool true) ∧ Ext No w w' := by
  have R : Ro w No _ := Ro.of fun w' x => hs.ext_no x
  have RF : Ro w No (fun u => ∀ x ∈ l, Ss u x.ad Wt.cells 4 x.ws) := Ro.of fun w' y x hx => ((hw x hx).1.1).ext_no y
  have RG : Ro w No (fun u => ∀ x ∈ l, Ss u x.sa Sn.cells 7 x.sn) := Ro.of fun w' y x hx => ((hw x hx).2.1).ext_no y
  refine Sx.calls_into Try.func4 rfl Try.ntmps4 rfl fun a hT => ?_
  replace hT := hT.keep [0] rfl
  have H : Sx.Hp w (Sx.No) w [] := Sx.Hp.start _ _
  refine wp_seq_k fun K1 hK1 => ?_
  refine Sx.wp_text [(0, .take)] rfl ?_
  refine Sx.st_take hT rfl rfl rfl rfl (Sx.x_assign hT rfl rfl) ?_
  clear hT; intro a hT
  replace hT := hT.keep [2, 0] rfl
  refine Sx.ser_nil ?_
  refine Sx.then_normal (hK1 _ _ ?_)
  clear hK1
  refine wp_seq_k fun K2 hK2 => ?_
  refine wp_seq_k fun K3 hK3 => ?_
  refine Sx.wp_text [(0, .run), (1, .take)] rfl ?_
  refine Sx.st_call hT rfl rfl rfl rfl rfl Try.can8 rfl (first_calls _) ?_
  rintro _ w1 ⟨rfl, E⟩
  refine ⟨_, rfl, ?_⟩
  clear hT; intro a hT
  replace H := H.pure E; clear E
  refine Sx.st_take hT rfl rfl rfl rfl (Sx.x_not hT rfl rfl) ?_
  clear hT; intro a hT
  replace hT := hT.keep [12, 2, 0] rfl
  refine Sx.ser_nil ?_
  refine Sx.then_normal (hK3 _ _ ?_)
  clear hK3
  refine Sx.wp_if hT rfl (fun h => by cases h) (fun _ => ?_)
  refine wp_skip ?_
  refine Sx.then_normal (hK2 _ _ ?_)
  clear hK2
  refine wp_seq_k fun K4 hK4 => ?_
  refine Sx.wp_text [(0, .take)] rfl ?_
  refine Sx.st_take hT rfl rfl rfl rfl (Sx.x_assign hT rfl rfl) ?_
  clear hT; intro a hT
  replace hT := hT.keep [3, 12, 2, 0] rfl
  refine Sx.ser_nil ?_
  refine Sx.then_normal (hK4 _ _ ?_)
  clear hK4
  refine wp_seq_k fun K5 hK5 => ?_
  refine Sx.wp_text [(0, .take)] rfl ?_
  refine Sx.st_take hT rfl rfl rfl rfl (Sx.x_assign hT rfl rfl) ?_
  clear hT; intro a hT
  replace hT := hT.keep [4, 3, 12, 2, 0] rfl
  refine Sx.ser_nil ?_
  refine Sx.then_normal (hK5 _ _ ?_)
  clear hK5
  refine wp_seq_k fun K6 hK6 => ?_
  refine Sx.wp_text [(0, .take)] rfl ?_
  refine Sx.st_take hT rfl rfl rfl rfl (Sx.x_assign hT rfl rfl) ?_
  clear hT; intro a hT
  replace hT := hT.keep [5, 4, 3, 12, 2, 0] rfl
  refine Sx.ser_nil ?_
  refine Sx.then_normal (hK6 _ _ ?_)
  clear hK6
  refine wp_seq_k fun K7 hK7 => ?_
  refine wp_seq_k fun K8 hK8 => ?_
  refine Sx.wp_text [(0, .take)] rfl ?_
  refine Sx.st_take hT rfl rfl rfl rfl (Sx.x_assign hT rfl rfl) ?_
  clear hT; intro a hT
  replace hT := hT.keep [6, 5, 4, 3, 12, 2, 0] rfl
  refine Sx.ser_nil ?_
  refine Sx.then_normal (hK8 _ _ ?_)
  clear hK8
  refine wp_block ?_
  replace H := H.nilR 36 7
  replace H := H.nilR 52 8
  refine Sx.wp_loopH (G := Nat × Nat × Option Addr × Nat × Option Addr × Nat) (fun ⟨i, n, ad2, c2, ad3, c3⟩ => [(6, .int .i64 (i : Int)), (3, .int .i64 (n : Int)), (4, .slice ad2 i c2), (5, .slice ad3 i c3)]) (fun ⟨i, n, ad2, c2, ad3, c3⟩ => [cR 36 7 ad2 i c2 (((l.take i).map Dn.e).flatMap En.cells), cR 52 8 ad3 i c3 ((l.take i).flatMap Dn.cells)]) (fun ⟨i, n, ad2, c2, ad3, c3⟩ => i ≤ l.length ∧ i ≤ 100 ∧ n ≤ 562949953461312) (fun ⟨i, n, ad2, c2, ad3, c3⟩ => l.length - i) (0, 0, none, 0, none, 0) (hT.keep [6, 3, 4, 5, 12, 2, 0] rfl) (H.keep [1, 0] rfl rfl) (⟨Nat.zero_le _, by decide, by decide⟩) ?_
  clear hT H
  rintro ⟨i, n, ad2, c2, ad3, c3⟩ a w2 hJ hT H
  replace hT := hT.keep [6, 3, 4, 5, 12, 2, 0] rfl
  replace H := H.keep [0, 1] rfl rfl
  obtain ⟨hi, hi1, hn⟩ := hJ
  refine wp_seq_k fun K9 hK9 => ?_
  refine wp_seq_k fun K10 hK10 => ?_
  refine Sx.wp_text [(0, .take), (1, .take), (2, .take), (3, .take), (4, .take), (5, .take), (6, .take), (7, .take), (8, .take), (9, .take), (10, .take), (11, .take)] rfl ?_
  refine Sx.st_take hT rfl rfl rfl rfl (Sx.x_move hT rfl rfl) ?_
  clear hT; intro a hT
  refine Sx.st_take hT rfl rfl rfl rfl (Sx.x_move hT rfl rfl) ?_
  clear hT; intro a hT
  refine Sx.st_take hT rfl rfl rfl rfl (Sx.x_len_slice hT rfl rfl Try.underlying46 rfl) ?_
  clear hT; intro a hT
  refine Sx.st_take hT rfl rfl rfl rfl ((fun w => Sx.x_lt w hT rfl rfl rfl)) ?_
  clear hT; intro a hT
  refine Sx.st_take hT rfl rfl rfl rfl (Sx.x_move hT rfl rfl) ?_
  clear hT; intro a hT
  refine Sx.Sl.two hT 17 rfl (fun hc11 hT => ?_) (fun hc11 hT => ?_)
  · try simp only [Sx.bq] at hc11
    refine Sx.st_take hT rfl rfl rfl rfl (Sx.x_move hT rfl rfl) ?_
    clear hT; intro a hT
    refine Sx.st_take hT rfl rfl rfl rfl ((fun w => Sx.x_lt w hT rfl rfl rfl)) ?_
    clear hT; intro a hT
    refine Sx.st_take hT rfl rfl rfl rfl (Sx.x_pick_t hT rfl rfl rfl) ?_
    clear hT; intro a hT
    refine Sx.st_take hT rfl rfl rfl rfl (Sx.x_move hT rfl rfl) ?_
    clear hT; intro a hT
    refine Sx.Sl.two hT 21 rfl (fun hc12 hT => ?_) (fun hc12 hT => ?_)
    · try simp only [Sx.bq] at hc12
      refine Sx.st_take hT rfl rfl rfl rfl (Sx.x_move hT rfl rfl) ?_
      clear hT; intro a hT
      refine Sx.st_take hT rfl rfl rfl rfl ((fun w => Sx.x_le w hT rfl rfl rfl)) ?_
      clear hT; intro a hT
      refine Sx.st_take hT rfl rfl rfl rfl (Sx.x_pick_t hT rfl rfl rfl) ?_
      clear hT; intro a hT
      replace hT := hT.keep [24, 6, 3, 4, 5, 12, 2, 0] rfl
      refine Sx.ser_nil ?_
      refine Sx.then_normal (hK10 _ _ ?_)
      clear hK10
      refine Sx.wp_if hT rfl (fun hc13 => ?_) (fun hc13 => ?_)
      · try simp only [Sx.bq] at hc13
        obtain ⟨o, ho⟩ : ∃ q9, l[i]? = some q9 := ⟨_, List.getElem?_eq_getElem (by omega)⟩
        have hom := List.mem_of_getElem? ho
        refine wp_skip ?_
        refine Sx.then_normal (hK9 _ _ ?_)
        clear hK9
        refine wp_seq_k fun K14 hK14 => ?_
        refine wp_block ?_
        refine wp_seq_k fun K15 hK15 => ?_
        refine Sx.wp_text [(0, .take), (1, .take), (2, .take), (3, .take), (4, .take), (5, .run), (6, .run), (7, .take), (8, .take)] rfl ?_
        refine Sx.st_take hT rfl rfl rfl rfl (Sx.x_move hT rfl rfl) ?_
        clear hT; intro a hT
        refine Sx.st_take hT rfl rfl rfl rfl (Sx.x_move hT rfl rfl) ?_
        clear hT; intro a hT
        refine Sx.st_take hT rfl rfl rfl rfl (Sx.x_move hT rfl rfl) ?_
        clear hT; intro a hT
        refine Sx.st_take hT rfl rfl rfl rfl (Sx.x_index (k := i) hT rfl Try.underlying46 Try.ti51 (R.at H.ext).sv rfl rfl (by first | rfl | omega) (by omega)) ?_
        clear hT; intro a hT
        refine Sx.st_take hT rfl rfl rfl rfl (Sx.x_fieldAddr hT rfl Try.fa51_1 rfl) ?_
        clear hT; intro a hT
        refine Sx.st_run hT rfl rfl rfl rfl (Sx.x_load1 hT rfl Try.fl49 rfl ((R.at H.ext).cell (j := 7) Dn.len ho rfl)) ?_
        clear hT; intro a hT
        refine Sx.st_call hT rfl rfl rfl rfl rfl Try.can19 rfl (WeighSeen_calls o.sn ((RG.at H.ext) o hom) (hw o hom).2.2.2 20000 (by decide) (hw o hom).2.2.1) ?_
        rintro _ w3 ⟨z9, rfl, hz9, E⟩
        refine ⟨_, rfl, ?_⟩
        clear hT; intro a hT
        replace H := H.pure E; clear E
        refine Sx.st_take hT rfl rfl rfl rfl ((fun w => Sx.x_add w hT rfl rfl rfl (Sx.wrap64 (by omega)))) ?_
        clear hT; intro a hT
        refine Sx.st_take hT rfl rfl rfl rfl (Sx.x_assign hT rfl rfl) ?_
        clear hT; intro a hT
        replace hT := hT.keep [3, 24, 6, 4, 5, 12, 2, 0] rfl
        refine Sx.ser_nil ?_
        refine Sx.then_normal (hK15 _ _ ?_)
        clear hK15
        refine wp_seq_k fun K16 hK16 => ?_
        refine Sx.wp_text [(0, .take), (1, .take), (2, .take), (3, .take), (4, .take), (5, .run), (6, .run), (7, .run), (8, .take)] rfl ?_
        refine Sx.st_take hT rfl rfl rfl rfl (Sx.x_move hT rfl rfl) ?_
        clear hT; intro a hT
        refine Sx.st_take hT rfl rfl rfl rfl (Sx.x_move hT rfl rfl) ?_
        clear hT; intro a hT
        refine Sx.st_take hT rfl rfl rfl rfl (Sx.x_move hT rfl rfl) ?_
        clear hT; intro a hT
        refine Sx.st_take hT rfl rfl rfl rfl (Sx.x_index (k := i) hT rfl Try.underlying46 Try.ti51 (R.at H.ext).sv rfl rfl (by first | rfl | omega) (by omega)) ?_
        clear hT; intro a hT
        refine Sx.st_take hT rfl rfl rfl rfl (Sx.x_fieldAddr hT rfl Try.fa51_0 rfl) ?_
        clear hT; intro a hT
        refine Sx.st_run hT rfl rfl rfl rfl (Sx.y_loadS hT rfl Try.underlying36 Try.ti36 rfl (((R.at H.ext).cs Dn.len ho).seg (i := 0) (k := 7) rfl) (by rfl)) ?_
        clear hT; intro a hT
        refine Sx.st_eff hT rfl rfl rfl rfl (Sx.y_slice1 hT rfl Try.underlying22 Try.ti36 rfl rfl rfl rfl rfl rfl _) ?_
        clear hT; rintro _ w4 ⟨b1, rfl, N⟩ a hT
        replace H := H.new N; clear N
        refine Sx.st_eff hT rfl rfl rfl rfl (Sx.x_append hT rfl rfl Try.underlying22 Try.ti36 rfl (by decide) rfl rfl (H.row 1 rfl) ((H.blk 0 rfl).sv1 rfl) (by simp [Value.oneCell']) (fun h => by cases h) (by unfold maxLen; omega) (by omega)) ?_
        rintro _ w5 ⟨ad5, c5, rfl, hr, E, hown, -⟩
        clear hT; intro a hT
        replace H := H.setR 1 rfl hr E hown rfl; clear hr E hown
        rw [tk_h ho] at H
        refine Sx.st_take hT rfl rfl rfl rfl (Sx.x_assign hT rfl rfl) ?_
        clear hT; intro a hT
        replace hT := hT.keep [4, 3, 24, 6, 5, 12, 2, 0] rfl
        refine Sx.ser_nil ?_
        refine Sx.then_normal (hK16 _ _ ?_)
        clear hK16
        refine Sx.wp_draws (fun u => Sx.Ext (fun k => ¬ Sx.Rest w (Sx.No) k) u) [(0, .take), (1, .take), (2, .take), (3, .take), (4, .take), (5, .held), (6, .take), (7, .take), (8, .take), (9, .take), (10, .held), (11, .take), (12, .run), (13, .run), (14, .take)] (by kernel_rfl) (by kernel_rfl) (fun u E _ => ?_)
        replace H := H.pure E; clear E
        have hH : Sx.Ext (fun k => ¬ Sx.Rest w (Sx.No) k) u u := Sx.Ext.refl _ _
        have Hu := H
        refine Sx.st_take hT rfl rfl rfl rfl (Sx.x_move hT rfl rfl) ?_
        clear hT; intro a hT
        refine Sx.st_take hT rfl rfl rfl rfl (Sx.x_move hT rfl rfl) ?_
        clear hT; intro a hT
        refine Sx.st_take hT rfl rfl rfl rfl (Sx.x_move hT rfl rfl) ?_
        clear hT; intro a hT
        refine Sx.st_take hT rfl rfl rfl rfl (Sx.x_index (k := i) hT rfl Try.underlying46 Try.ti51 (R.at H.ext).sv rfl rfl (by first | rfl | omega) (by omega)) ?_
        clear hT; intro a hT
        refine Sx.st_take hT rfl rfl rfl rfl (Sx.x_fieldAddr hT rfl Try.fa51_0 rfl) ?_
        clear hT; intro a hT
        refine Sx.st_held hT rfl rfl rfl rfl hH (fun w' h' => Sx.y_loadS hT rfl Try.underlying36 Try.ti36 rfl (((R.at (Hu.extR h')).cs Dn.len ho).seg (i := 0) (k := 7) rfl) (by rfl)) ?_
        clear hT; intro a hT
        refine Sx.st_take hT rfl rfl rfl rfl (Sx.x_move hT rfl rfl) ?_
        clear hT; intro a hT
        refine Sx.st_take hT rfl rfl rfl rfl (Sx.x_move hT rfl rfl) ?_
        clear hT; intro a hT
        refine Sx.st_take hT rfl rfl rfl rfl (Sx.x_index (k := i) hT rfl Try.underlying46 Try.ti51 (R.at H.ext).sv rfl rfl (by first | rfl | omega) (by omega)) ?_
        clear hT; intro a hT
        refine Sx.st_take hT rfl rfl rfl rfl (Sx.x_fieldAddr hT rfl Try.fa51_1 rfl) ?_
        clear hT; intro a hT
        refine Sx.st_held hT rfl rfl rfl rfl hH (fun w' h' => Sx.x_load1 hT rfl Try.fl49 rfl ((R.at (Hu.extR h')).cell (j := 7) Dn.len ho rfl)) ?_
        clear hT; intro a hT
        refine Sx.st_take hT rfl rfl rfl rfl (Sx.x_bld hT rfl Try.bld52 rfl rfl) ?_
        clear hT; intro a hT
        refine Sx.st_eff hT rfl rfl rfl rfl (Sx.y_slice1 hT rfl Try.underlying47 Try.ti52 rfl rfl rfl rfl rfl rfl _) ?_
        clear hT; rintro _ w6 ⟨b2, rfl, N⟩ a hT
        replace H := H.new N; clear N
        refine Sx.st_eff hT rfl rfl rfl rfl (Sx.x_append hT rfl rfl Try.underlying47 Try.ti52 rfl (by decide) rfl rfl (H.row 3 rfl) ((H.blk 0 rfl).sv1 rfl) (by simp [Value.oneCell']) (fun h => by cases h) (by unfold maxLen; omega) (by omega)) ?_
        rintro _ w7 ⟨ad7, c7, rfl, hr, E, hown, -⟩
        clear hT; intro a hT
        replace H := H.setR 3 rfl hr E hown rfl; clear hr E hown
        rw [tk_d ho] at H
        refine Sx.st_take hT rfl rfl rfl rfl (Sx.x_assign hT rfl rfl) ?_
        clear hT; intro a hT
        replace hT := hT.keep [5, 4, 3, 24, 6, 12, 2, 0] rfl
        clear Hu hH
        refine Sx.ser_calm ?_
        refine Sx.block_normal ?_
        refine Sx.then_normal (hK14 _ _ ?_)
        clear hK14
        refine Sx.wp_text [(0, .take), (1, .take), (2, .take)] rfl ?_
        refine Sx.st_take hT rfl rfl rfl rfl (Sx.x_move hT rfl rfl) ?_
        clear hT; intro a hT
        refine Sx.st_take hT rfl rfl rfl rfl ((fun w => Sx.x_add w hT rfl rfl rfl (Sx.wrap64 (by omega)))) ?_
        clear hT; intro a hT
        refine Sx.st_take hT rfl rfl rfl rfl (Sx.x_assign hT rfl rfl) ?_
        clear hT; intro a hT
        replace hT := hT.keep [6, 5, 4, 3, 24, 12, 2, 0] rfl
        refine Sx.ser_nil ?_
        refine Sx.then_normal ?_
        exact ⟨(i + 1, n + z9, ad5, c5, ad7, c7), ⟨by show i + 1 ≤ _; omega, by show i + 1 ≤ _; omega, by show n + z9 ≤ _; omega⟩, (hT.keep [6, 3, 4, 5, 12, 2, 0] rfl), (H.keep [2, 3] rfl rfl), by show _ - (i + 1) < _ - i; omega⟩
      · try simp only [Sx.bq] at hc13
        refine wp_exit ?_
        refine Sx.then_exit ?_
        refine Sx.then_exit ?_
        refine Sx.block_exit ?_
        refine Sx.then_normal (hK7 _ _ ?_)
        clear hK7
        refine wp_seq_k fun K17 hK17 => ?_
        refine wp_seq_k fun K18 hK18 => ?_
        refine Sx.wp_text [(0, .take), (1, .take), (2, .take), (3, .take), (4, .take), (5, .take), (6, .take), (7, .take), (8, .take), (9, .run), (10, .take), (11, .take)] rfl ?_
        refine Sx.st_take hT rfl rfl rfl rfl (Sx.x_move hT rfl rfl) ?_
        clear hT; intro a hT
        refine Sx.st_take hT rfl rfl rfl rfl (Sx.x_len_slice hT rfl rfl Try.underlying46 rfl) ?_
        clear hT; intro a hT
        refine Sx.st_take hT rfl rfl rfl rfl ((fun w => Sx.x_gt w hT rfl rfl rfl)) ?_
        clear hT; intro a hT
        refine Sx.st_take hT rfl rfl rfl rfl (Sx.x_move hT rfl rfl) ?_
        clear hT; intro a hT
        refine Sx.Sl.two hT 60 rfl (fun hc19 hT => ?_) (fun hc19 hT => ?_)
        · try simp only [Sx.bq] at hc19
          refine Sx.st_skip hT rfl rfl rfl rfl ?_
          clear hT; intro a hT
          refine Sx.st_skip hT rfl rfl rfl rfl ?_
          clear hT; intro a hT
          refine Sx.st_take hT rfl rfl rfl rfl (Sx.x_pick_t hT rfl rfl rfl) ?_
          clear hT; intro a hT
          refine Sx.st_take hT rfl rfl rfl rfl (Sx.x_move hT rfl rfl) ?_
          clear hT; intro a hT
          refine Sx.st_skip hT rfl rfl rfl rfl ?_
          clear hT; intro a hT
          refine Sx.st_runskip hT rfl rfl rfl rfl ?_
          clear hT; intro a hT
          refine Sx.st_skip hT rfl rfl rfl rfl ?_
          clear hT; intro a hT
          refine Sx.st_take hT rfl rfl rfl rfl (Sx.x_pick_t hT rfl rfl rfl) ?_
          clear hT; intro a hT
          replace hT := hT.keep [68, 24, 6, 3, 4, 5, 12, 2, 0] rfl
          refine Sx.ser_nil ?_
          refine Sx.then_normal (hK18 _ _ ?_)
          clear hK18
          refine Sx.wp_if hT rfl (fun _ => ?_) (fun h => by cases h)
          refine wp_seq_k fun K20 hK20 => ?_
          refine Sx.wp_text [(0, .run), (1, .take)] rfl ?_
          refine Sx.st_call hT rfl rfl rfl rfl rfl Try.can8 rfl (first_calls _) ?_
          rintro _ w8 ⟨rfl, E⟩
          refine ⟨_, rfl, ?_⟩
          clear hT; intro a hT
          replace H := H.pure E; clear E
          refine Sx.st_take hT rfl rfl rfl rfl (Sx.x_assign hT rfl rfl) ?_
          clear hT; intro a hT
          replace hT := hT.keep [2, 68, 24, 6, 3, 4, 5, 12, 0] rfl
          refine Sx.ser_nil ?_
          refine Sx.then_normal (hK20 _ _ ?_)
          clear hK20
          refine wp_ret ?_
          refine Sx.then_ret ?_
          refine Sx.done1 (fn := Try.f4) hT rfl (.tmp (hT.get 2 _ rfl)) ?_
          exact ⟨ret_b (by simp), H.ext⟩
        · try simp only [Sx.bq] at hc19
          refine Sx.st_take hT rfl rfl rfl rfl (Sx.x_move hT rfl rfl) ?_
          clear hT; intro a hT
          refine Sx.st_take hT rfl rfl rfl rfl ((fun w => Sx.x_gt w hT rfl rfl rfl)) ?_
          clear hT; intro a hT
          refine Sx.st_take hT rfl rfl rfl rfl (Sx.x_pick_f hT rfl rfl rfl) ?_
          clear hT; intro a hT
          refine Sx.st_take hT rfl rfl rfl rfl (Sx.x_move hT rfl rfl) ?_
          clear hT; intro a hT
          refine Sx.Sl.two hT 64 rfl (fun hc21 hT => ?_) (fun hc21 hT => ?_)
          · try simp only [Sx.bq] at hc21
            refine Sx.st_skip hT rfl rfl rfl rfl ?_
            clear hT; intro a hT
            refine Sx.st_runskip hT rfl rfl rfl rfl ?_
            clear hT; intro a hT
            refine Sx.st_skip hT rfl rfl rfl rfl ?_
            clear hT; intro a hT
            refine Sx.st_take hT rfl rfl rfl rfl (Sx.x_pick_t hT rfl rfl rfl) ?_
            clear hT; intro a hT
            replace hT := hT.keep [68, 24, 6, 3, 4, 5, 12, 2, 0] rfl
            refine Sx.ser_nil ?_
            refine Sx.then_normal (hK18 _ _ ?_)
            clear hK18
            refine Sx.wp_if hT rfl (fun _ => ?_) (fun h => by cases h)
            refine wp_seq_k fun K22 hK22 => ?_
            refine Sx.wp_text [(0, .run), (1, .take)] rfl ?_
            refine Sx.st_call hT rfl rfl rfl rfl rfl Try.can8 rfl (first_calls _) ?_
            rintro _ w9 ⟨rfl, E⟩
            refine ⟨_, rfl, ?_⟩
            clear hT; intro a hT
            replace H := H.pure E; clear E
            refine Sx.st_take hT rfl rfl rfl rfl (Sx.x_assign hT rfl rfl) ?_
            clear hT; intro a hT
            replace hT := hT.keep [2, 68, 24, 6, 3, 4, 5, 12, 0] rfl
            refine Sx.ser_nil ?_
            refine Sx.then_normal (hK22 _ _ ?_)
            clear hK22
            refine wp_ret ?_
            refine Sx.then_ret ?_
            refine Sx.done1 (fn := Try.f4) hT rfl (.tmp (hT.get 2 _ rfl)) ?_
            exact ⟨ret_b (by simp), H.ext⟩
          · exfalso
            try simp only [Sx.bq] at hc21
            first | omega | (simp at hc21; done) | (simp at hc21; omega) | (simp_all; done) | (exfalso; simp_all; omega)
    · try simp only [Sx.bq] at hc12
      refine Sx.st_skip hT rfl rfl rfl rfl ?_
      clear hT; intro a hT
      refine Sx.st_skip hT rfl rfl rfl rfl ?_
      clear hT; intro a hT
      refine Sx.st_take hT rfl rfl rfl rfl (Sx.x_pick_f hT rfl rfl rfl) ?_
      clear hT; intro a hT
      replace hT := hT.keep [24, 6, 3, 4, 5, 12, 2, 0] rfl
      refine Sx.ser_nil ?_
      refine Sx.then_normal (hK10 _ _ ?_)
      clear hK10
      refine Sx.wp_if hT rfl (fun h => by cases h) (fun _ => ?_)
      refine wp_exit ?_
      refine Sx.then_exit ?_
      refine Sx.then_exit ?_
      refine Sx.block_exit ?_
      refine Sx.then_normal (hK7 _ _ ?_)
      clear hK7
      refine wp_seq_k fun K23 hK23 => ?_
      refine wp_seq_k fun K24 hK24 => ?_
      refine Sx.wp_text [(0, .take), (1, .take), (2, .take), (3, .take), (4, .take), (5, .take), (6, .take), (7, .take), (8, .take), (9, .run), (10, .take), (11, .take)] rfl ?_
      refine Sx.st_take hT rfl rfl rfl rfl (Sx.x_move hT rfl rfl) ?_
      clear hT; intro a hT
      refine Sx.st_take hT rfl rfl rfl rfl (Sx.x_len_slice hT rfl rfl Try.underlying46 rfl) ?_
      clear hT; intro a hT
      refine Sx.st_take hT rfl rfl rfl rfl ((fun w => Sx.x_gt w hT rfl rfl rfl)) ?_
      clear hT; intro a hT
      refine Sx.st_take hT rfl rfl rfl rfl (Sx.x_move hT rfl rfl) ?_
      clear hT; intro a hT
      refine Sx.Sl.two hT 60 rfl (fun hc25 hT => ?_) (fun hc25 hT => ?_)
      · try simp only [Sx.bq] at hc25
        refine Sx.st_skip hT rfl rfl rfl rfl ?_
        clear hT; intro a hT
        refine Sx.st_skip hT rfl rfl rfl rfl ?_
        clear hT; intro a hT
        refine Sx.st_take hT rfl rfl rfl rfl (Sx.x_pick_t hT rfl rfl rfl) ?_
        clear hT; intro a hT
        refine Sx.st_take hT rfl rfl rfl rfl (Sx.x_move hT rfl rfl) ?_
        clear hT; intro a hT
        refine Sx.st_skip hT rfl rfl rfl rfl ?_
        clear hT; intro a hT
        refine Sx.st_runskip hT rfl rfl rfl rfl ?_
        clear hT; intro a hT
        refine Sx.st_skip hT rfl rfl rfl rfl ?_
        clear hT; intro a hT
        refine Sx.st_take hT rfl rfl rfl rfl (Sx.x_pick_t hT rfl rfl rfl) ?_
        clear hT; intro a hT
        replace hT := hT.keep [68, 24, 6, 3, 4, 5, 12, 2, 0] rfl
        refine Sx.ser_nil ?_
        refine Sx.then_normal (hK24 _ _ ?_)
        clear hK24
        refine Sx.wp_if hT rfl (fun _ => ?_) (fun h => by cases h)
        refine wp_seq_k fun K26 hK26 => ?_
        refine Sx.wp_text [(0, .run), (1, .take)] rfl ?_
        refine Sx.st_call hT rfl rfl rfl rfl rfl Try.can8 rfl (first_calls _) ?_
        rintro _ w10 ⟨rfl, E⟩
        refine ⟨_, rfl, ?_⟩
        clear hT; intro a hT
        replace H := H.pure E; clear E
        refine Sx.st_take hT rfl rfl rfl rfl (Sx.x_assign hT rfl rfl) ?_
        clear hT; intro a hT
        replace hT := hT.keep [2, 68, 24, 6, 3, 4, 5, 12, 0] rfl
        refine Sx.ser_nil ?_
        refine Sx.then_normal (hK26 _ _ ?_)
        clear hK26
        refine wp_ret ?_
        refine Sx.then_ret ?_
        refine Sx.done1 (fn := Try.f4) hT rfl (.tmp (hT.get 2 _ rfl)) ?_
        exact ⟨ret_b (by simp), H.ext⟩
      · exfalso
        try simp only [Sx.bq] at hc25
        first | omega | (simp at hc25; done) | (simp at hc25; omega) | (simp_all; done) | (exfalso; simp_all; omega)
  · try simp only [Sx.bq] at hc11
    refine Sx.st_skip hT rfl rfl rfl rfl ?_
    clear hT; intro a hT
    refine Sx.st_skip hT rfl rfl rfl rfl ?_
    clear hT; intro a hT
    refine Sx.st_take hT rfl rfl rfl rfl (Sx.x_pick_f hT rfl rfl rfl) ?_
    clear hT; intro a hT
    refine Sx.st_take hT rfl rfl rfl rfl (Sx.x_move hT rfl rfl) ?_
    clear hT; intro a hT
    refine Sx.st_skip hT rfl rfl rfl rfl ?_
    clear hT; intro a hT
    refine Sx.st_skip hT rfl rfl rfl rfl ?_
    clear hT; intro a hT
    refine Sx.st_take hT rfl rfl rfl rfl (Sx.x_pick_f hT rfl rfl rfl) ?_
    clear hT; intro a hT
    replace hT := hT.keep [24, 6, 3, 4, 5, 12, 2, 0] rfl
    refine Sx.ser_nil ?_
    refine Sx.then_normal (hK10 _ _ ?_)
    clear hK10
    refine Sx.wp_if hT rfl (fun h => by cases h) (fun _ => ?_)
    refine wp_exit ?_
    refine Sx.then_exit ?_
    refine Sx.then_exit ?_
    refine Sx.block_exit ?_
    refine Sx.then_normal (hK7 _ _ ?_)
    clear hK7
    refine wp_seq_k fun K27 hK27 => ?_
    refine wp_seq_k fun K28 hK28 => ?_
    refine Sx.wp_text [(0, .take), (1, .take), (2, .take), (3, .take), (4, .take), (5, .take), (6, .take), (7, .take), (8, .take), (9, .run), (10, .take), (11, .take)] rfl ?_
    refine Sx.st_take hT rfl rfl rfl rfl (Sx.x_move hT rfl rfl) ?_
    clear hT; intro a hT
    refine Sx.st_take hT rfl rfl rfl rfl (Sx.x_len_slice hT rfl rfl Try.underlying46 rfl) ?_
    clear hT; intro a hT
    refine Sx.st_take hT rfl rfl rfl rfl ((fun w => Sx.x_gt w hT rfl rfl rfl)) ?_
    clear hT; intro a hT
    refine Sx.st_take hT rfl rfl rfl rfl (Sx.x_move hT rfl rfl) ?_
    clear hT; intro a hT
    refine Sx.Sl.two hT 60 rfl (fun hc29 hT => ?_) (fun hc29 hT => ?_)
    · try simp only [Sx.bq] at hc29
      refine Sx.st_skip hT rfl rfl rfl rfl ?_
      clear hT; intro a hT
      refine Sx.st_skip hT rfl rfl rfl rfl ?_
      clear hT; intro a hT
      refine Sx.st_take hT rfl rfl rfl rfl (Sx.x_pick_t hT rfl rfl rfl) ?_
      clear hT; intro a hT
      refine Sx.st_take hT rfl rfl rfl rfl (Sx.x_move hT rfl rfl) ?_
      clear hT; intro a hT
      refine Sx.st_skip hT rfl rfl rfl rfl ?_
      clear hT; intro a hT
      refine Sx.st_runskip hT rfl rfl rfl rfl ?_
      clear hT; intro a hT
      refine Sx.st_skip hT rfl rfl rfl rfl ?_
      clear hT; intro a hT
      refine Sx.st_take hT rfl rfl rfl rfl (Sx.x_pick_t hT rfl rfl rfl) ?_
      clear hT; intro a hT
      replace hT := hT.keep [68, 24, 6, 3, 4, 5, 12, 2, 0] rfl
      refine Sx.ser_nil ?_
      refine Sx.then_normal (hK28 _ _ ?_)
      clear hK28
      refine Sx.wp_if hT rfl (fun _ => ?_) (fun h => by cases h)
      refine wp_seq_k fun K30 hK30 => ?_
      refine Sx.wp_text [(0, .run), (1, .take)] rfl ?_
      refine Sx.st_call hT rfl rfl rfl rfl rfl Try.can8 rfl (first_calls _) ?_
      rintro _ w11 ⟨rfl, E⟩
      refine ⟨_, rfl, ?_⟩
      clear hT; intro a hT
      replace H := H.pure E; clear E
      refine Sx.st_take hT rfl rfl rfl rfl (Sx.x_assign hT rfl rfl) ?_
      clear hT; intro a hT
      replace hT := hT.keep [2, 68, 24, 6, 3, 4, 5, 12, 0] rfl
      refine Sx.ser_nil ?_
      refine Sx.then_normal (hK30 _ _ ?_)
      clear hK30
      refine wp_ret ?_
      refine Sx.then_ret ?_
      refine Sx.done1 (fn := Try.f4) hT rfl (.tmp (hT.get 2 _ rfl)) ?_
      exact ⟨ret_b (by simp), H.ext⟩
    · try simp only [Sx.bq] at hc29
      refine Sx.st_take hT rfl rfl rfl rfl (Sx.x_move hT rfl rfl) ?_
      clear hT; intro a hT
      refine Sx.st_take hT rfl rfl rfl rfl ((fun w => Sx.x_gt w hT rfl rfl rfl)) ?_
      clear hT; intro a hT
      refine Sx.st_take hT rfl rfl rfl rfl (Sx.x_pick_f hT rfl rfl rfl) ?_
      clear hT; intro a hT
      refine Sx.st_take hT rfl rfl rfl rfl (Sx.x_move hT rfl rfl) ?_
      clear hT; intro a hT
      refine Sx.Sl.two hT 64 rfl (fun hc31 hT => ?_) (fun hc31 hT => ?_)
      · try simp only [Sx.bq] at hc31
        refine Sx.st_skip hT rfl rfl rfl rfl ?_
        clear hT; intro a hT
        refine Sx.st_runskip hT rfl rfl rfl rfl ?_
        clear hT; intro a hT
        refine Sx.st_skip hT rfl rfl rfl rfl ?_
        clear hT; intro a hT
        refine Sx.st_take hT rfl rfl rfl rfl (Sx.x_pick_t hT rfl rfl rfl) ?_
        clear hT; intro a hT
        replace hT := hT.keep [68, 24, 6, 3, 4, 5, 12, 2, 0] rfl
        refine Sx.ser_nil ?_
        refine Sx.then_normal (hK28 _ _ ?_)
        clear hK28
        refine Sx.wp_if hT rfl (fun _ => ?_) (fun h => by cases h)
        refine wp_seq_k fun K32 hK32 => ?_
        refine Sx.wp_text [(0, .run), (1, .take)] rfl ?_
        refine Sx.st_call hT rfl rfl rfl rfl rfl Try.can8 rfl (first_calls _) ?_
        rintro _ w12 ⟨rfl, E⟩
        refine ⟨_, rfl, ?_⟩
        clear hT; intro a hT
        replace H := H.pure E; clear E
        refine Sx.st_take hT rfl rfl rfl rfl (Sx.x_assign hT rfl rfl) ?_
        clear hT; intro a hT
        replace hT := hT.keep [2, 68, 24, 6, 3, 4, 5, 12, 0] rfl
        refine Sx.ser_nil ?_
        refine Sx.then_normal (hK32 _ _ ?_)
        clear hK32
        refine wp_ret ?_
        refine Sx.then_ret ?_
        refine Sx.done1 (fn := Try.f4) hT rfl (.tmp (hT.get 2 _ rfl)) ?_
        exact ⟨ret_b (by simp), H.ext⟩
      · try simp only [Sx.bq] at hc31
        obtain rfl : i = l.length := by omega
        rw [List.take_length] at H
        rw [show cR 36 7 ad2 l.length c2 = cR 36 7 ad2 (l.map Dn.e).length c2 from by rw [List.length_map]] at H
        rw [show Value.slice ad2 l.length c2 = Value.slice ad2 (l.map Dn.e).length c2 from by rw [List.length_map]] at hT
        refine Sx.st_take hT rfl rfl rfl rfl (Sx.x_move hT rfl rfl) ?_
        clear hT; intro a hT
        refine Sx.st_call hT rfl rfl rfl rfl rfl Try.can9 rfl (few_calls (l.map Dn.e) ((H.row 0 rfl).ssn rfl) (fun x hx => by obtain ⟨y, hy, rfl⟩ := List.mem_map.1 hx; exact ⟨(RF.at H.ext) y hy, (hw y hy).1.2.1, (hw y hy).1.2.2.1⟩) (by rw [List.length_map]; omega)) ?_
        rintro _ w13 ⟨b9, rfl, hb9, E⟩
        refine ⟨_, rfl, ?_⟩
        clear hT; intro a hT
        replace H := H.pure E; clear E
        refine Sx.st_take hT rfl rfl rfl rfl (Sx.x_not hT rfl rfl) ?_
        clear hT; intro a hT
        refine Sx.st_take hT rfl rfl rfl rfl (Sx.x_pick_f hT rfl rfl rfl) ?_
        clear hT; intro a hT
        replace hT := hT.keep [68, 24, 6, 3, 4, 5, 12, 2, 0] rfl
        refine Sx.ser_nil ?_
        refine Sx.then_normal (hK28 _ _ ?_)
        clear hK28
        refine Sx.wp_if hT rfl (fun hc33 => ?_) (fun hc33 => ?_)
        · try simp only [Sx.bq] at hc33
          refine wp_seq_k fun K34 hK34 => ?_
          refine Sx.wp_text [(0, .run), (1, .take)] rfl ?_
          refine Sx.st_call hT rfl rfl rfl rfl rfl Try.can8 rfl (first_calls _) ?_
          rintro _ w14 ⟨rfl, E⟩
          refine ⟨_, rfl, ?_⟩
          clear hT; intro a hT
          replace H := H.pure E; clear E
          refine Sx.st_take hT rfl rfl rfl rfl (Sx.x_assign hT rfl rfl) ?_
          clear hT; intro a hT
          replace hT := hT.keep [2, 68, 24, 6, 3, 4, 5, 12, 0] rfl
          refine Sx.ser_nil ?_
          refine Sx.then_normal (hK34 _ _ ?_)
          clear hK34
          refine wp_ret ?_
          refine Sx.then_ret ?_
          refine Sx.done1 (fn := Try.f4) hT rfl (.tmp (hT.get 2 _ rfl)) ?_
          exact ⟨ret_b (by simp), H.ext⟩
        · try simp only [Sx.bq] at hc33
          obtain ⟨hl1, hsum0⟩ := hb9 (by simpa using hc33)
          obtain ⟨hsum1, hws1⟩ := few_sum hsum0
          rw [wl_e] at hsum1
          have hws2 : ∀ x ∈ l, x.ws.length ≤ 20000 := fun x hx => hws1 x.e (List.mem_map_of_mem hx)
          rw [List.length_map] at hl1
          refine wp_skip ?_
          refine Sx.then_normal (hK27 _ _ ?_)
          clear hK27
          refine wp_seq_k fun K35 hK35 => ?_
          refine Sx.wp_text [(0, .take), (1, .run), (2, .take), (3, .take), (4, .take), (5, .take), (6, .take)] rfl ?_
          refine Sx.st_take hT rfl rfl rfl rfl (Sx.x_move hT rfl rfl) ?_
          clear hT; intro a hT
          refine Sx.st_call hT rfl rfl rfl rfl rfl Try.can20 rfl (ReadsA_calls l (R.at H.ext) (fun x hx => ⟨(RF.at H.ext) x hx, (hw x hx).1.2.2.2, by have := hws2 x hx; omega⟩) (fun x hx => ⟨(RG.at H.ext) x hx, (hw x hx).2.2⟩) (by omega) (by omega)) ?_
          rintro _ w15 ⟨rfl, E⟩
          refine ⟨_, rfl, ?_⟩
          clear hT; intro a hT
          replace H := H.pure E; clear E
          refine Sx.st_take hT rfl rfl rfl rfl (Sx.x_move hT rfl rfl) ?_
          clear hT; intro a hT
          refine Sx.st_take hT rfl rfl rfl rfl (Sx.x_extractL hT rfl rfl rfl) ?_
          clear hT; intro a hT
          refine Sx.st_take hT rfl rfl rfl rfl (Sx.x_extractL hT rfl rfl rfl) ?_
          clear hT; intro a hT
          refine Sx.st_take hT rfl rfl rfl rfl (Sx.x_assign hT rfl rfl) ?_
          clear hT; intro a hT
          refine Sx.st_take hT rfl rfl rfl rfl (Sx.x_assign hT rfl rfl) ?_
          clear hT; intro a hT
          replace hT := hT.keep [8, 7, 68, 24, 6, 3, 4, 5, 12, 2, 0] rfl
          refine Sx.ser_nil ?_
          refine Sx.then_normal (hK35 _ _ ?_)
          clear hK35
          refine wp_seq_k fun K36 hK36 => ?_
          refine Sx.wp_text [(0, .take), (1, .run), (2, .take), (3, .take), (4, .take), (5, .take), (6, .take)] rfl ?_
          refine Sx.st_take hT rfl rfl rfl rfl (Sx.x_move hT rfl rfl) ?_
          clear hT; intro a hT
          refine Sx.st_call hT rfl rfl rfl rfl rfl Try.can21 rfl (Reads25_calls l ((H.row 1 rfl).ssn rfl) (fun x hx => ⟨(RF.at H.ext) x hx, (hw x hx).1.2.2.2, by have := hws2 x hx; omega⟩) (fun x hx => ⟨(RG.at H.ext) x hx, (hw x hx).2.2⟩) (by omega) (by omega)) ?_
          rintro _ w16 ⟨rfl, E⟩
          refine ⟨_, rfl, ?_⟩
          clear hT; intro a hT
          replace H := H.pure E; clear E
          refine Sx.st_take hT rfl rfl rfl rfl (Sx.x_move hT rfl rfl) ?_
          clear hT; intro a hT
          refine Sx.st_take hT rfl rfl rfl rfl (Sx.x_extractL hT rfl rfl rfl) ?_
          clear hT; intro a hT
          refine Sx.st_take hT rfl rfl rfl rfl (Sx.x_extractL hT rfl rfl rfl) ?_
          clear hT; intro a hT
          refine Sx.st_take hT rfl rfl rfl rfl (Sx.x_assign hT rfl rfl) ?_
          clear hT; intro a hT
          refine Sx.st_take hT rfl rfl rfl rfl (Sx.x_assign hT rfl rfl) ?_
          clear hT; intro a hT
          replace hT := hT.keep [10, 9, 8, 7, 68, 24, 6, 3, 4, 5, 12, 2, 0] rfl
          refine Sx.ser_nil ?_
          refine Sx.then_normal (hK36 _ _ ?_)
          clear hK36
          refine wp_seq_k fun K37 hK37 => ?_
          refine Sx.wp_text [(0, .run), (1, .take), (2, .take), (3, .take), (4, .take), (5, .take), (6, .take), (7, .take), (8, .take), (9, .take), (10, .take), (11, .take)] rfl ?_
          refine Sx.st_call hT rfl rfl rfl rfl rfl Try.can8 rfl (first_calls _) ?_
          rintro _ w17 ⟨rfl, E⟩
          refine ⟨_, rfl, ?_⟩
          clear hT; intro a hT
          replace H := H.pure E; clear E
          refine Sx.st_take hT rfl rfl rfl rfl (Sx.x_move hT rfl rfl) ?_
          clear hT; intro a hT
          refine Sx.st_take hT rfl rfl rfl rfl (Sx.x_move hT rfl rfl) ?_
          clear hT; intro a hT
          refine Sx.st_take hT rfl rfl rfl rfl (Sx.x_move hT rfl rfl) ?_
          clear hT; intro a hT
          refine Sx.st_take hT rfl rfl rfl rfl ((fun w => Sx.x_eq w hT rfl rfl rfl)) ?_
          clear hT; intro a hT
          refine Sx.st_take hT rfl rfl rfl rfl (Sx.x_pick_t hT rfl rfl rfl) ?_
          clear hT; intro a hT
          refine Sx.st_take hT rfl rfl rfl rfl (Sx.x_move hT rfl rfl) ?_
          clear hT; intro a hT
          refine Sx.Sl.two hT 86 rfl (fun hc38 hT => ?_) (fun hc38 hT => ?_)
          · try simp only [Sx.bq] at hc38
            refine Sx.st_take hT rfl rfl rfl rfl (Sx.x_move hT rfl rfl) ?_
            clear hT; intro a hT
            refine Sx.st_take hT rfl rfl rfl rfl (Sx.x_move hT rfl rfl) ?_
            clear hT; intro a hT
            refine Sx.st_take hT rfl rfl rfl rfl ((fun w => Sx.x_eq w hT rfl rfl rfl)) ?_
            clear hT; intro a hT
            refine Sx.st_take hT rfl rfl rfl rfl (Sx.x_pick_t hT rfl rfl rfl) ?_
            clear hT; intro a hT
            refine Sx.st_take hT rfl rfl rfl rfl (Sx.x_assign hT rfl rfl) ?_
            clear hT; intro a hT
            replace hT := hT.keep [2, 10, 9, 8, 7, 68, 24, 6, 3, 4, 5, 12, 0] rfl
            refine Sx.ser_nil ?_
            refine Sx.then_normal (hK37 _ _ ?_)
            clear hK37
            refine wp_ret ?_
            refine Sx.done1 (fn := Try.f4) hT rfl (.tmp (hT.get 2 _ rfl)) ?_
            exact ⟨ret_b (by simp), H.ext⟩
          · exfalso
            try simp only [Sx.bq] at hc38
            simp at hc38

end Go.Proofs.Ytpggijfpkgglmaa
