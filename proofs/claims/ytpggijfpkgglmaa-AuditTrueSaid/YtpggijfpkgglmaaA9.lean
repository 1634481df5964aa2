/- Walks: what entries make, as a map and as pairs. -/
import Derived.Test.YtpggijfpkgglmaaA8
import Derived.Test.YtpggijfpkgglmaaAI
set_option linter.unusedSimpArgs false
set_option linter.unusedVariables false
namespace Go.Proofs.Ytpggijfpkgglmaa
open Sx
theorem Try.fv39_0 : Sx.FV Try.prog 39 0 0 3 := ⟨_, _, Try.underlying39, rfl, rfl, rfl⟩
theorem Try.can15 : Sx.Can Try.prog 15 := ⟨_, Try.func15, by kernel_rfl, rfl⟩
theorem Try.can17 : Sx.Can Try.prog 17 := ⟨_, Try.func17, by kernel_rfl, rfl⟩
theorem Try.can40 : Sx.Can Try.prog 40 := ⟨_, Try.func40, by kernel_rfl, rfl⟩
theorem Try.can41 : Sx.Can Try.prog 41 := ⟨_, Try.func41, by kernel_rfl, rfl⟩
theorem Try.can42 : Sx.Can Try.prog 42 := ⟨_, Try.func42, by kernel_rfl, rfl⟩
theorem Try.can45 : Sx.Can Try.prog 45 := ⟨_, Try.func45, by kernel_rfl, rfl⟩
theorem Try.can65 : Sx.Can Try.prog 65 := ⟨_, Try.func65, by kernel_rfl, rfl⟩
theorem Try.can66 : Sx.Can Try.prog 66 := ⟨_, Try.func66, by kernel_rfl, rfl⟩
theorem made_calls {ad : Option Addr} {c : Nat} (L : List En) {g : FuncId} {cs : List Value} (at_ : Stp) (below : Bool) {Q : World → Prop} {w : World} (hs : Ss w ad En.cells 7 L) (hf : ∀ x ∈ L, Ss w x.ad Wt.cells 4 x.ws ∧ (x.ad = none → x.ws.length = 0 ∧ x.c = 0) ∧ x.ws.length ≤ 1000000) (hl : L.length ≤ 1000000) (hsum : sumN wl L ≤ 900000) (hc : Sx.Can Try.prog g) (hQ : Ro w No Q) (hp : ∀ (s : Stp) w1, Q w1 → Calls Try.prog g ([Value.agg #[.int .i64 s.w, .int .i64 s.l, .int .i64 s.n]] ++ cs).toArray w1 fun e w2 => e = .returned (.bool (upto at_ below s)) ∧ Ext No w1 w2) : Calls Try.prog 41 #[.slice ad L.length c, .func (.func g) #[] cs.toArray] w fun e w' => ∃ b, e = .returned (.map (some b)) ∧ Hp w No w' [cM Try.prog 9 b (tw (rawF (L.map En.p) at_ below))] := by
  have R : Ro w No _ := Ro.of fun w' x => hs.ext_no x
  have RF : Ro w No (fun u => ∀ x ∈ L, Ss u x.ad Wt.cells 4 x.ws) := Ro.of fun w' y x hx => ((hf x hx).1).ext_no y
  refine Sx.calls_into Try.func41 rfl Try.ntmps41 rfl fun a hT => ?_
  replace hT := hT.keep [0, 1] rfl
  have H : Sx.Hp w (Sx.No) w [] := Sx.Hp.start _ _
  refine wp_seq_k fun K1 hK1 => ?_
  refine Sx.wp_text [(0, .take)] rfl ?_
  refine Sx.st_take hT rfl rfl rfl rfl (Sx.x_assign hT rfl rfl) ?_
  clear hT; intro a hT
  replace hT := hT.keep [4, 0, 1] rfl
  refine Sx.ser_nil ?_
  refine Sx.then_normal (hK1 _ _ ?_)
  clear hK1
  refine wp_seq_k fun K2 hK2 => ?_
  refine Sx.wp_text [(0, .run), (1, .take)] rfl ?_
  refine Sx.st_eff hT rfl rfl rfl rfl (Sx.x_makeMap 9 hT rfl _) ?_
  rintro _ w1 ⟨bm3, rfl, N⟩
  clear hT; intro a hT
  replace H := H.newM N; clear N
  rw [show (DataW.map [] : DataW Value) = tw [] from rfl] at H
  refine Sx.st_take hT rfl rfl rfl rfl (Sx.x_assign hT rfl rfl) ?_
  clear hT; intro a hT
  replace hT := hT.keep [5, 4, 0, 1] rfl
  refine Sx.ser_nil ?_
  refine Sx.then_normal (hK2 _ _ ?_)
  clear hK2
  refine wp_seq_k fun K4 hK4 => ?_
  refine wp_seq_k fun K5 hK5 => ?_
  refine Sx.wp_text [(0, .take), (1, .run), (2, .take), (3, .take)] rfl ?_
  refine Sx.st_take hT rfl rfl rfl rfl (Sx.x_move hT rfl rfl) ?_
  clear hT; intro a hT
  refine Sx.st_call hT rfl rfl rfl rfl rfl Try.can36 rfl (sorted_calls L (R.at H.ext) (fun x hx => ⟨(RF.at H.ext) x hx, (hf x hx).2⟩) hl) ?_
  rintro _ w2 ⟨ad1, c1, M, rfl, K, M0, hMe, hM0⟩
  refine ⟨_, rfl, ?_⟩
  clear hT; intro a hT
  replace H := H.more K rfl; clear K
  have hM : M.map En.p = ordL Ep.s (L.map En.p) := by rw [hMe]; exact sorted_map hM0
  obtain ⟨hMs, hMl, -⟩ := ord_sum hM
  refine Sx.st_take hT rfl rfl rfl rfl (Sx.x_len_slice hT rfl rfl Try.underlying22 rfl) ?_
  clear hT; intro a hT
  refine Sx.st_take hT rfl rfl rfl rfl (Sx.x_move hT rfl rfl) ?_
  clear hT; intro a hT
  replace hT := hT.keep [14, 13, 12, 5, 4, 0, 1] rfl
  refine Sx.ser_nil ?_
  refine Sx.then_normal (hK5 _ _ ?_)
  clear hK5
  refine wp_block ?_
  refine Sx.wp_loopH (G := Nat × List Wt) (fun ⟨i, R9⟩ => [(14, .int .i64 (i : Int))]) (fun ⟨i, R9⟩ => [cM Try.prog 9 bm3 (tw R9)]) (fun ⟨i, R9⟩ => i ≤ M.length ∧ R9 = ((M.take i).filter fun x => upto at_ below x.s).foldl rawE [] ∧ R9.length ≤ sumN wl (M.take i)) (fun ⟨i, R9⟩ => M.length - i) (0, []) (hT.keep [14, 13, 12, 5, 4, 0, 1] rfl) (H.keep [2, 0, 1] rfl rfl) (⟨Nat.zero_le _, (by rw [List.take_zero]; rfl), Nat.zero_le _⟩) ?_
  clear hT H
  rintro ⟨i, R9⟩ a w3 hJ hT H
  replace hT := hT.keep [14, 13, 12, 5, 4, 0, 1] rfl
  replace H := H.keep [0, 1, 2] rfl rfl
  obtain ⟨hi, hR, hRl⟩ := hJ
  refine wp_seq_k fun K6 hK6 => ?_
  refine Sx.wp_text [(0, .take)] rfl ?_
  refine Sx.st_take hT rfl rfl rfl rfl ((fun w => Sx.x_lt w hT rfl rfl rfl)) ?_
  clear hT; intro a hT
  replace hT := hT.keep [15, 14, 13, 12, 5, 4, 0, 1] rfl
  refine Sx.ser_nil ?_
  refine Sx.then_normal (hK6 _ _ ?_)
  clear hK6
  refine wp_seq_k fun K7 hK7 => ?_
  refine Sx.wp_if hT rfl (fun hc8 => ?_) (fun hc8 => ?_)
  · try simp only [Sx.bq] at hc8
    obtain ⟨o, ho⟩ : ∃ q9, M[i]? = some q9 := ⟨_, List.getElem?_eq_getElem (by omega)⟩
    have hom := List.mem_of_getElem? ho
    have hj2 := sumN_snoc wl ho
    have hj3 : wl o = o.ws.length := rfl
    have hj1 : sumN wl (M.take (i + 1)) ≤ sumN wl M := by have h9 := sumN_app wl (M.take (i + 1)) (M.drop (i + 1)); rw [List.take_append_drop] at h9; omega
    refine wp_skip ?_
    refine Sx.then_normal (hK7 _ _ ?_)
    clear hK7
    refine wp_seq_k fun K9 hK9 => ?_
    refine wp_block ?_
    refine wp_seq_k fun K10 hK10 => ?_
    refine Sx.wp_text [(0, .take), (1, .run), (2, .run), (3, .run)] rfl ?_
    refine Sx.st_take hT rfl rfl rfl rfl (Sx.x_index (k := i) hT rfl Try.underlying22 Try.ti36 (H.row 1 rfl).sv rfl rfl (by first | rfl | omega) (by omega)) ?_
    clear hT; intro a hT
    refine Sx.st_run hT rfl rfl rfl rfl (Sx.y_loadS hT rfl Try.underlying36 Try.ti36 rfl (((H.row 1 rfl).ssn rfl).cs En.len ho) (by rfl)) ?_
    clear hT; intro a hT
    refine Sx.st_eff hT rfl rfl rfl rfl (Sx.y_alloc hT rfl Try.ti36 rfl _) ?_
    clear hT; rintro _ w4 ⟨b1, rfl, N⟩ a hT
    replace H := H.new N; clear N
    refine Sx.st_act hT rfl rfl rfl (Sx.y_storeS hT rfl Try.ti36 rfl rfl rfl rfl rfl (H.blk 0 rfl) rfl) ?_
    rintro w5 ⟨hb, E, _⟩
    replace H := H.setB 0 rfl hb E rfl; clear hb E
    replace hT := hT.keep [7, 15, 14, 13, 12, 5, 4, 0, 1] rfl
    refine Sx.ser_nil ?_
    refine Sx.then_normal (hK10 _ _ ?_)
    clear hK10
    refine wp_seq_k fun K11 hK11 => ?_
    refine wp_seq_k fun K12 hK12 => ?_
    refine Sx.wp_text [(0, .take), (1, .take), (2, .run), (3, .run), (4, .take)] rfl ?_
    refine Sx.st_take hT rfl rfl rfl rfl (Sx.x_move hT rfl rfl) ?_
    clear hT; intro a hT
    refine Sx.st_take hT rfl rfl rfl rfl (Sx.x_fieldAddr hT rfl Try.fa36_1 rfl) ?_
    clear hT; intro a hT
    refine Sx.st_run hT rfl rfl rfl rfl (Sx.y_loadS hT rfl Try.underlying24 Try.ti24 rfl ((H.blk 0 rfl).seg (k := 3) rfl) (by rfl)) ?_
    clear hT; intro a hT
    refine Sx.st_callV hT rfl rfl rfl rfl rfl rfl hc rfl (hp o.s _ (hQ.at H.ext)) ?_
    rintro _ w6 ⟨rfl, E⟩
    refine ⟨_, rfl, ?_⟩
    clear hT; intro a hT
    replace H := H.pure E; clear E
    refine Sx.st_take hT rfl rfl rfl rfl (Sx.x_not hT rfl rfl) ?_
    clear hT; intro a hT
    replace hT := hT.keep [22, 7, 15, 14, 13, 12, 5, 4, 0, 1] rfl
    refine Sx.ser_nil ?_
    refine Sx.then_normal (hK12 _ _ ?_)
    clear hK12
    refine Sx.wp_if hT rfl (fun hc13 => ?_) (fun hc13 => ?_)
    · try simp only [Sx.bq] at hc13
      have hup : upto at_ below o.s = false := by simpa using hc13
      refine wp_exit ?_
      refine Sx.then_exit ?_
      refine Sx.block_exit ?_
      refine Sx.then_normal (hK9 _ _ ?_)
      clear hK9
      refine Sx.wp_text [(0, .take), (1, .take)] rfl ?_
      refine Sx.st_take hT rfl rfl rfl rfl ((fun w => Sx.x_add w hT rfl rfl rfl (Sx.wrap64 (by omega)))) ?_
      clear hT; intro a hT
      refine Sx.st_take hT rfl rfl rfl rfl (Sx.x_move hT rfl rfl) ?_
      clear hT; intro a hT
      replace hT := hT.keep [14, 22, 7, 15, 13, 12, 5, 4, 0, 1] rfl
      refine Sx.ser_nil ?_
      refine Sx.then_normal ?_
      exact ⟨(i + 1, R9), ⟨by show i + 1 ≤ _; omega, by show R9 = _; rw [filtE_snoc ho, if_neg (by rw [hup]; decide), ← hR], by show List.length R9 ≤ _; omega⟩, (hT.keep [14, 13, 12, 5, 4, 0, 1] rfl), (H.keep [1, 2, 3] rfl rfl), by show _ - (i + 1) < _ - i; omega⟩
    · try simp only [Sx.bq] at hc13
      have hup : upto at_ below o.s = true := by simpa using hc13
      refine wp_skip ?_
      refine Sx.then_normal (hK11 _ _ ?_)
      clear hK11
      refine wp_seq_k fun K14 hK14 => ?_
      refine Sx.wp_text [(0, .take), (1, .run), (2, .take), (3, .take)] rfl ?_
      refine Sx.st_take hT rfl rfl rfl rfl (Sx.x_fieldAddr hT rfl Try.fa36_2 rfl) ?_
      clear hT; intro a hT
      refine Sx.st_run hT rfl rfl rfl rfl (Sx.x_load1 hT rfl Try.fl34 rfl ((H.blk 0 rfl).nth rfl)) ?_
      clear hT; intro a hT
      refine Sx.st_take hT rfl rfl rfl rfl (Sx.x_len_slice hT rfl rfl Try.underlying34 rfl) ?_
      clear hT; intro a hT
      refine Sx.st_take hT rfl rfl rfl rfl (Sx.x_move hT rfl rfl) ?_
      clear hT; intro a hT
      replace hT := hT.keep [26, 25, 24, 22, 7, 15, 14, 13, 12, 5, 4, 0, 1] rfl
      refine Sx.ser_nil ?_
      refine Sx.then_normal (hK14 _ _ ?_)
      clear hK14
      refine wp_block ?_
      refine Sx.wp_loopH (G := Nat × List Wt) (fun ⟨k, R2⟩ => [(26, .int .i64 (k : Int))]) (fun ⟨k, R2⟩ => [cM Try.prog 9 bm3 (tw R2)]) (fun ⟨k, R2⟩ => k ≤ o.ws.length ∧ R2 = (o.ws.take k).foldl putR R9 ∧ R2.length ≤ R9.length + k) (fun ⟨k, R2⟩ => o.ws.length - k) (0, R9) (hT.keep [26, 25, 24, 22, 7, 15, 14, 13, 12, 5, 4, 0, 1] rfl) (H.keep [1, 0, 2, 3] rfl rfl) (⟨Nat.zero_le _, rfl, Nat.le_refl _⟩) ?_
      clear hT H
      rintro ⟨k, R2⟩ a w7 hJ hT H
      replace hT := hT.keep [26, 25, 24, 22, 7, 15, 14, 13, 12, 5, 4, 0, 1] rfl
      replace H := H.keep [0, 1, 2, 3] rfl rfl
      obtain ⟨hk, hR2, hRl2⟩ := hJ
      refine wp_seq_k fun K15 hK15 => ?_
      refine Sx.wp_text [(0, .take)] rfl ?_
      refine Sx.st_take hT rfl rfl rfl rfl ((fun w => Sx.x_lt w hT rfl rfl rfl)) ?_
      clear hT; intro a hT
      replace hT := hT.keep [27, 26, 25, 24, 22, 7, 15, 14, 13, 12, 5, 4, 0, 1] rfl
      refine Sx.ser_nil ?_
      refine Sx.then_normal (hK15 _ _ ?_)
      clear hK15
      refine wp_seq_k fun K16 hK16 => ?_
      refine Sx.wp_if hT rfl (fun hc17 => ?_) (fun hc17 => ?_)
      · try simp only [Sx.bq] at hc17
        obtain ⟨z, hz⟩ : ∃ q9, o.ws[k]? = some q9 := ⟨_, List.getElem?_eq_getElem (by omega)⟩
        refine wp_skip ?_
        refine Sx.then_normal (hK16 _ _ ?_)
        clear hK16
        refine wp_seq_k fun K18 hK18 => ?_
        refine wp_block ?_
        refine wp_seq_k fun K19 hK19 => ?_
        refine Sx.wp_text [(0, .take), (1, .run), (2, .run), (3, .run)] rfl ?_
        refine Sx.st_take hT rfl rfl rfl rfl (Sx.x_index (k := k) hT rfl Try.underlying34 Try.ti41 (Row.ssn (xs := o.ws) (enc := Wt.cells) ((H.fam 3 rfl).row o hom) rfl) rfl rfl (by first | rfl | omega) (by omega)) ?_
        clear hT; intro a hT
        refine Sx.st_run hT rfl rfl rfl rfl (Sx.y_loadS hT rfl Try.underlying41 Try.ti41 rfl (by first | exact ((H.blk 1 rfl).seg (k := 4) rfl) | exact ((Row.ssn (xs := o.ws) (enc := Wt.cells) ((H.fam 3 rfl).row o hom) rfl).cs Wt.len hz)) (by rfl)) ?_
        clear hT; intro a hT
        refine Sx.st_eff hT rfl rfl rfl rfl (Sx.y_alloc hT rfl Try.ti41 rfl _) ?_
        clear hT; rintro _ w8 ⟨b2, rfl, N⟩ a hT
        replace H := H.new N; clear N
        refine Sx.st_act hT rfl rfl rfl (Sx.y_storeS hT rfl Try.ti41 rfl rfl rfl rfl rfl (H.blk 0 rfl) rfl) ?_
        rintro w9 ⟨hb, E, _⟩
        replace H := H.setB 0 rfl hb E rfl; clear hb E
        replace hT := hT.keep [9, 27, 26, 25, 24, 22, 7, 15, 14, 13, 12, 5, 4, 0, 1] rfl
        refine Sx.ser_nil ?_
        refine Sx.then_normal (hK19 _ _ ?_)
        clear hK19
        refine wp_seq_k fun K20 hK20 => ?_
        refine Sx.wp_text [(0, .take), (1, .run), (2, .run), (3, .take), (4, .take), (5, .run), (6, .run), (7, .take)] rfl ?_
        refine Sx.st_take hT rfl rfl rfl rfl (Sx.x_fieldAddr hT rfl Try.fa41_0 rfl) ?_
        clear hT; intro a hT
        refine Sx.st_run hT rfl rfl rfl rfl (Sx.x_load1 hT rfl Try.fl9 rfl ((H.blk 0 rfl).nth rfl)) ?_
        clear hT; intro a hT
        refine Sx.st_call hT rfl rfl rfl rfl rfl Try.can67 rfl (Key_calls _ _) ?_
        rintro _ w10 ⟨rfl, E⟩
        refine ⟨_, rfl, ?_⟩
        clear hT; intro a hT
        replace H := H.pure E; clear E
        refine Sx.st_take hT rfl rfl rfl rfl (Sx.x_move hT rfl rfl) ?_
        clear hT; intro a hT
        refine Sx.Sl.two hT 33 rfl (fun hc21 hT => ?_) (fun hc21 hT => ?_)
        · try simp only [Sx.bq] at hc21
          have hk9 : keyB z.key = true := hc21
          refine Sx.st_take hT rfl rfl rfl rfl (Sx.x_fieldAddr hT rfl Try.fa41_1 rfl) ?_
          clear hT; intro a hT
          refine Sx.st_run hT rfl rfl rfl rfl (Sx.y_loadS hT rfl Try.underlying39 Try.ti39 rfl ((H.blk 0 rfl).seg (k := 3) rfl) (by rfl)) ?_
          clear hT; intro a hT
          refine Sx.st_call hT rfl rfl rfl rfl rfl Try.can68 rfl (MayV_calls _ _) ?_
          rintro _ w11 ⟨rfl, E⟩
          refine ⟨_, rfl, ?_⟩
          clear hT; intro a hT
          replace H := H.pure E; clear E
          refine Sx.st_take hT rfl rfl rfl rfl (Sx.x_pick_t hT rfl rfl rfl) ?_
          clear hT; intro a hT
          replace hT := hT.keep [37, 9, 27, 26, 25, 24, 22, 7, 15, 14, 13, 12, 5, 4, 0, 1] rfl
          refine Sx.ser_nil ?_
          refine Sx.then_normal (hK20 _ _ ?_)
          clear hK20
          refine Sx.wp_if hT rfl (fun hc22 => ?_) (fun hc22 => ?_)
          · try simp only [Sx.bq] at hc22
            have hok9 : keyB z.key = true ∧ mayV z.v = true := ⟨hk9, hc22⟩
            refine Sx.wp_text [(0, .take), (1, .take), (2, .run), (3, .take), (4, .run), (5, .run)] rfl ?_
            refine Sx.st_take hT rfl rfl rfl rfl (Sx.x_move hT rfl rfl) ?_
            clear hT; intro a hT
            refine Sx.st_take hT rfl rfl rfl rfl (Sx.x_fieldAddr hT rfl Try.fa41_0 rfl) ?_
            clear hT; intro a hT
            refine Sx.st_run hT rfl rfl rfl rfl (Sx.x_load1 hT rfl Try.fl9 rfl ((H.blk 0 rfl).nth rfl)) ?_
            clear hT; intro a hT
            refine Sx.st_take hT rfl rfl rfl rfl (Sx.x_fieldAddr hT rfl Try.fa41_1 rfl) ?_
            clear hT; intro a hT
            refine Sx.st_run hT rfl rfl rfl rfl (Sx.y_loadS hT rfl Try.underlying39 Try.ti39 rfl ((H.blk 0 rfl).seg (k := 3) rfl) (by rfl)) ?_
            clear hT; intro a hT
            refine Sx.st_act hT rfl rfl rfl (Sx.x_mapUpdate hT rfl Try.underlying81 (Go.Maps.string_keyed Try.underlying9) rfl rfl rfl (key_str Try.underlying9 z.key (by have := keyB_len hk9; omega)) (H.mp 1 rfl) (by rw [Sx.size_tab]; unfold maxLen; omega)) ?_
            rintro w12 ⟨hm, E, _⟩
            replace H := H.setM 1 rfl hm E rfl; clear hm E
            rw [put_v] at H
            replace hT := hT.keep [37, 9, 27, 26, 25, 24, 22, 7, 15, 14, 13, 12, 5, 4, 0, 1] rfl
            refine Sx.ser_nil ?_
            refine Sx.block_normal ?_
            refine Sx.then_normal (hK18 _ _ ?_)
            clear hK18
            refine Sx.wp_text [(0, .take), (1, .take)] rfl ?_
            refine Sx.st_take hT rfl rfl rfl rfl ((fun w => Sx.x_add w hT rfl rfl rfl (Sx.wrap64 (by omega)))) ?_
            clear hT; intro a hT
            refine Sx.st_take hT rfl rfl rfl rfl (Sx.x_move hT rfl rfl) ?_
            clear hT; intro a hT
            replace hT := hT.keep [26, 37, 9, 27, 25, 24, 22, 7, 15, 14, 13, 12, 5, 4, 0, 1] rfl
            refine Sx.ser_nil ?_
            refine Sx.then_normal ?_
            have hst : putR R2 z = ptK slit Wt.key z R2 := by unfold putR; exact if_pos hok9
            have hpl := putR_len R2 z
            rw [hst] at hpl
            exact ⟨(k + 1, ptK slit Wt.key z R2), ⟨by show k + 1 ≤ _; omega, by show ptK slit Wt.key z R2 = _; rw [take_app hz, List.foldl_append, ← hR2]; exact hst.symm, by show List.length (ptK slit Wt.key z R2) ≤ _ + (k + 1); omega⟩, (hT.keep [26, 25, 24, 22, 7, 15, 14, 13, 12, 5, 4, 0, 1] rfl), (H.keep [1, 2, 3, 4] rfl rfl), by show _ - (k + 1) < _ - k; omega⟩
          · try simp only [Sx.bq] at hc22
            have hok9 : ¬ (keyB z.key = true ∧ mayV z.v = true) := by simp [show mayV z.v = false from hc22]
            refine wp_skip ?_
            refine Sx.block_normal ?_
            refine Sx.then_normal (hK18 _ _ ?_)
            clear hK18
            refine Sx.wp_text [(0, .take), (1, .take)] rfl ?_
            refine Sx.st_take hT rfl rfl rfl rfl ((fun w => Sx.x_add w hT rfl rfl rfl (Sx.wrap64 (by omega)))) ?_
            clear hT; intro a hT
            refine Sx.st_take hT rfl rfl rfl rfl (Sx.x_move hT rfl rfl) ?_
            clear hT; intro a hT
            replace hT := hT.keep [26, 37, 9, 27, 25, 24, 22, 7, 15, 14, 13, 12, 5, 4, 0, 1] rfl
            refine Sx.ser_nil ?_
            refine Sx.then_normal ?_
            have hst : putR R2 z = R2 := by unfold putR; exact if_neg hok9
            have hpl := putR_len R2 z
            rw [hst] at hpl
            exact ⟨(k + 1, R2), ⟨by show k + 1 ≤ _; omega, by show R2 = _; rw [take_app hz, List.foldl_append, ← hR2]; exact hst.symm, by show List.length R2 ≤ _ + (k + 1); omega⟩, (hT.keep [26, 25, 24, 22, 7, 15, 14, 13, 12, 5, 4, 0, 1] rfl), (H.keep [1, 2, 3, 4] rfl rfl), by show _ - (k + 1) < _ - k; omega⟩
        · try simp only [Sx.bq] at hc21
          have hok9 : ¬ (keyB z.key = true ∧ mayV z.v = true) := by simp [show keyB z.key = false from hc21]
          refine Sx.st_skip hT rfl rfl rfl rfl ?_
          clear hT; intro a hT
          refine Sx.st_runskip hT rfl rfl rfl rfl ?_
          clear hT; intro a hT
          refine Sx.st_runskip hT rfl rfl rfl rfl ?_
          clear hT; intro a hT
          refine Sx.st_take hT rfl rfl rfl rfl (Sx.x_pick_f hT rfl rfl rfl) ?_
          clear hT; intro a hT
          replace hT := hT.keep [37, 9, 27, 26, 25, 24, 22, 7, 15, 14, 13, 12, 5, 4, 0, 1] rfl
          refine Sx.ser_nil ?_
          refine Sx.then_normal (hK20 _ _ ?_)
          clear hK20
          refine Sx.wp_if hT rfl (fun h => by cases h) (fun _ => ?_)
          skip
          refine wp_skip ?_
          refine Sx.block_normal ?_
          refine Sx.then_normal (hK18 _ _ ?_)
          clear hK18
          refine Sx.wp_text [(0, .take), (1, .take)] rfl ?_
          refine Sx.st_take hT rfl rfl rfl rfl ((fun w => Sx.x_add w hT rfl rfl rfl (Sx.wrap64 (by omega)))) ?_
          clear hT; intro a hT
          refine Sx.st_take hT rfl rfl rfl rfl (Sx.x_move hT rfl rfl) ?_
          clear hT; intro a hT
          replace hT := hT.keep [26, 37, 9, 27, 25, 24, 22, 7, 15, 14, 13, 12, 5, 4, 0, 1] rfl
          refine Sx.ser_nil ?_
          refine Sx.then_normal ?_
          have hst : putR R2 z = R2 := by unfold putR; exact if_neg hok9
          have hpl := putR_len R2 z
          rw [hst] at hpl
          exact ⟨(k + 1, R2), ⟨by show k + 1 ≤ _; omega, by show R2 = _; rw [take_app hz, List.foldl_append, ← hR2]; exact hst.symm, by show List.length R2 ≤ _ + (k + 1); omega⟩, (hT.keep [26, 25, 24, 22, 7, 15, 14, 13, 12, 5, 4, 0, 1] rfl), (H.keep [1, 2, 3, 4] rfl rfl), by show _ - (k + 1) < _ - k; omega⟩
      · try simp only [Sx.bq] at hc17
        have hky : k = o.ws.length := by omega
        rw [hky, List.take_length] at hR2
        refine wp_exit ?_
        refine Sx.then_exit ?_
        refine Sx.then_exit ?_
        refine Sx.block_exit ?_
        refine Sx.block_normal ?_
        refine Sx.then_normal (hK9 _ _ ?_)
        clear hK9
        refine Sx.wp_text [(0, .take), (1, .take)] rfl ?_
        refine Sx.st_take hT rfl rfl rfl rfl ((fun w => Sx.x_add w hT rfl rfl rfl (Sx.wrap64 (by omega)))) ?_
        clear hT; intro a hT
        refine Sx.st_take hT rfl rfl rfl rfl (Sx.x_move hT rfl rfl) ?_
        clear hT; intro a hT
        replace hT := hT.keep [14, 27, 26, 25, 24, 22, 7, 15, 13, 12, 5, 4, 0, 1] rfl
        refine Sx.ser_nil ?_
        refine Sx.then_normal ?_
        exact ⟨(i + 1, R2), ⟨by show i + 1 ≤ _; omega, by show R2 = _; rw [filtE_snoc ho, if_pos hup, ← hR]; exact hR2, by show List.length R2 ≤ _; omega⟩, (hT.keep [14, 13, 12, 5, 4, 0, 1] rfl), (H.keep [0, 2, 3] rfl rfl), by show _ - (i + 1) < _ - i; omega⟩
  · try simp only [Sx.bq] at hc8
    have hil : i = M.length := by omega
    rw [hil, List.take_length] at hR
    refine wp_exit ?_
    refine Sx.then_exit ?_
    refine Sx.then_exit ?_
    refine Sx.block_exit ?_
    refine Sx.then_normal (hK4 _ _ ?_)
    clear hK4
    refine wp_seq_k fun K23 hK23 => ?_
    refine Sx.wp_text [(0, .take), (1, .take)] rfl ?_
    refine Sx.st_take hT rfl rfl rfl rfl (Sx.x_move hT rfl rfl) ?_
    clear hT; intro a hT
    refine Sx.st_take hT rfl rfl rfl rfl (Sx.x_assign hT rfl rfl) ?_
    clear hT; intro a hT
    replace hT := hT.keep [4, 15, 14, 13, 12, 5, 0, 1] rfl
    refine Sx.ser_nil ?_
    refine Sx.then_normal (hK23 _ _ ?_)
    clear hK23
    refine wp_ret ?_
    refine Sx.done1 (fn := Try.f41) hT rfl (.tmp (hT.get 4 _ rfl)) ?_
    rw [raw_en hM, ← hR]
    exact ⟨_, rfl, H.keep [0] rfl rfl⟩

theorem pairs_calls {b : Nat} (R9 : List Wt) {w : World} (hM : Mp Try.prog 9 w b (tw R9)) (hG : GoodR R9) (hL : R9.length ≤ 1000000) : Calls Try.prog 40 #[.map (some b)] w fun e w' => ∃ ad' c', e = .returned (.slice ad' (fil R9).length c') ∧ Hp w No w' [cR 73 4 ad' (fil R9).length c' ((fil R9).flatMap Wt.cells)] := by
  refine Sx.calls_into Try.func40 rfl Try.ntmps40 rfl fun a hT => ?_
  replace hT := hT.keep [0] rfl
  have H : Sx.Hp w (Sx.No) w [] := Sx.Hp.start _ _
  refine wp_seq_k fun K1 hK1 => ?_
  refine Sx.wp_text [(0, .take)] rfl ?_
  refine Sx.st_take hT rfl rfl rfl rfl (Sx.x_assign hT rfl rfl) ?_
  clear hT; intro a hT
  replace hT := hT.keep [2, 0] rfl
  refine Sx.ser_nil ?_
  refine Sx.then_normal (hK1 _ _ ?_)
  clear hK1
  refine wp_seq_k fun K2 hK2 => ?_
  refine Sx.wp_text [(0, .take)] rfl ?_
  refine Sx.st_take hT rfl rfl rfl rfl (Sx.x_assign hT rfl rfl) ?_
  clear hT; intro a hT
  replace hT := hT.keep [3, 2, 0] rfl
  refine Sx.ser_nil ?_
  refine Sx.then_normal (hK2 _ _ ?_)
  clear hK2
  refine wp_seq_k fun K3 hK3 => ?_
  refine wp_seq_k fun K4 hK4 => ?_
  refine Sx.wp_text [(0, .take), (1, .run), (2, .run), (3, .take), (4, .take)] rfl ?_
  refine Sx.st_take hT rfl rfl rfl rfl (Sx.x_move hT rfl rfl) ?_
  clear hT; intro a hT
  have hM1 := hM.ext H.ext (not_No _)
  refine Sx.st_call hT rfl rfl rfl rfl rfl Try.can66 rfl (KeysS66_calls _ _) ?_
  rintro _ w1 ⟨rfl, E, ew⟩
  refine ⟨_, rfl, ?_⟩
  clear hT; intro a hT
  replace H := H.pure E; clear E
  refine Sx.st_call hT rfl rfl rfl rfl rfl Try.can65 rfl (SortedS66_calls hM1 ew hG.srt hL) ?_
  rintro _ w2 ⟨ad1, c1, rfl, K⟩
  refine ⟨_, rfl, ?_⟩
  clear hT; intro a hT
  replace H := H.more K rfl; clear K
  refine Sx.st_take hT rfl rfl rfl rfl (Sx.x_len_slice hT rfl rfl Try.underlying98 rfl) ?_
  clear hT; intro a hT
  refine Sx.st_take hT rfl rfl rfl rfl (Sx.x_move hT rfl rfl) ?_
  clear hT; intro a hT
  replace hT := hT.keep [10, 9, 8, 3, 2, 0] rfl
  refine Sx.ser_nil ?_
  refine Sx.then_normal (hK4 _ _ ?_)
  clear hK4
  refine wp_block ?_
  replace H := H.nilR 73 4
  refine Sx.wp_loopH (G := Nat × List Wt × Option Addr × Nat) (fun ⟨k, P, ad2, c2⟩ => [(10, .int .i64 (k : Int)), (3, .slice ad2 P.length c2)]) (fun ⟨k, P, ad2, c2⟩ => [cR 73 4 ad2 (P).length c2 ((P).flatMap Wt.cells)]) (fun ⟨k, P, ad2, c2⟩ => k ≤ R9.length ∧ P = fil (R9.take k) ∧ P.length ≤ k) (fun ⟨k, P, ad2, c2⟩ => R9.length - k) (0, [], none, 0) (hT.keep [10, 3, 9, 8, 2, 0] rfl) (H.keep [0, 1] rfl rfl) (⟨Nat.zero_le _, (by rw [List.take_zero]; rfl), Nat.zero_le _⟩) ?_
  clear hT H
  rintro ⟨k, P, ad2, c2⟩ a w3 hJ hT H
  replace hT := hT.keep [10, 3, 9, 8, 2, 0] rfl
  replace H := H.keep [0, 1] rfl rfl
  obtain ⟨hk, hP, hPl⟩ := hJ
  refine wp_seq_k fun K5 hK5 => ?_
  refine Sx.wp_text [(0, .take)] rfl ?_
  refine Sx.st_take hT rfl rfl rfl rfl ((fun w => Sx.x_lt w hT rfl rfl rfl)) ?_
  clear hT; intro a hT
  replace hT := hT.keep [11, 10, 3, 9, 8, 2, 0] rfl
  refine Sx.ser_nil ?_
  refine Sx.then_normal (hK5 _ _ ?_)
  clear hK5
  refine wp_seq_k fun K6 hK6 => ?_
  refine Sx.wp_if hT rfl (fun hc7 => ?_) (fun hc7 => ?_)
  · try simp only [Sx.bq] at hc7
    obtain ⟨o, ho⟩ : ∃ q9, R9[k]? = some q9 := ⟨_, List.getElem?_eq_getElem (by omega)⟩
    have hob : o.key.length ≤ 140737488351232 := by have := keyB_len (hG.may o (List.mem_of_getElem? ho)).1; omega
    have hok : (R9.map Wt.key)[k]? = some o.key := by rw [List.getElem?_map, ho]; rfl
    refine wp_skip ?_
    refine Sx.then_normal (hK6 _ _ ?_)
    clear hK6
    refine wp_seq_k fun K8 hK8 => ?_
    refine wp_block ?_
    refine wp_seq_k fun K9 hK9 => ?_
    refine Sx.wp_text [(0, .take), (1, .run), (2, .take)] rfl ?_
    refine Sx.st_take hT rfl rfl rfl rfl (Sx.x_index (k := k) hT rfl Try.underlying98 Try.ti9 (H.row 1 rfl).sv rfl rfl (by first | rfl | omega) (by omega)) ?_
    clear hT; intro a hT
    refine Sx.st_run hT rfl rfl rfl rfl (Sx.x_load1 hT rfl Try.fl9 rfl (((H.row 1 rfl).ssn (by rw [List.length_map])).cell (j := 0) kc_len hok rfl)) ?_
    clear hT; intro a hT
    refine Sx.st_take hT rfl rfl rfl rfl (Sx.x_assign hT rfl rfl) ?_
    clear hT; intro a hT
    replace hT := hT.keep [5, 11, 10, 3, 9, 8, 2, 0] rfl
    refine Sx.ser_nil ?_
    refine Sx.then_normal (hK9 _ _ ?_)
    clear hK9
    refine wp_seq_k fun K10 hK10 => ?_
    refine Sx.wp_text [(0, .take), (1, .take), (2, .run), (3, .take), (4, .take)] rfl ?_
    refine Sx.st_take hT rfl rfl rfl rfl (Sx.x_move hT rfl rfl) ?_
    clear hT; intro a hT
    refine Sx.st_take hT rfl rfl rfl rfl (Sx.x_move hT rfl rfl) ?_
    clear hT; intro a hT
    refine Sx.st_run hT rfl rfl rfl rfl (Sx.x_lookup hT rfl Try.underlying81 (Go.Maps.string_keyed Try.underlying9) Try.ti39 rfl rfl (key_str Try.underlying9 o.key hob) (hM.ext H.ext (not_No _))) ?_
    clear hT; intro a hT
    rw [look_v hG.srt (List.mem_of_getElem? ho)] at hT
    refine Sx.st_take hT rfl rfl rfl rfl (Sx.x_field1L hT rfl Try.fv39_0 Try.fl3 rfl rfl) ?_
    clear hT; intro a hT
    refine Sx.st_take hT rfl rfl rfl rfl ((fun w => Sx.x_ne w hT rfl rfl rfl)) ?_
    clear hT; intro a hT
    replace hT := hT.keep [18, 5, 11, 10, 3, 9, 8, 2, 0] rfl
    refine Sx.ser_nil ?_
    refine Sx.then_normal (hK10 _ _ ?_)
    clear hK10
    refine Sx.wp_if hT rfl (fun hc11 => ?_) (fun hc11 => ?_)
    · try simp only [Sx.bq] at hc11
      have hkz : o.v.k ≠ 0 := hc11
      refine Sx.wp_text [(0, .take), (1, .take), (2, .take), (3, .take), (4, .run), (5, .take), (6, .run), (7, .run), (8, .take)] rfl ?_
      refine Sx.st_take hT rfl rfl rfl rfl (Sx.x_move hT rfl rfl) ?_
      clear hT; intro a hT
      refine Sx.st_take hT rfl rfl rfl rfl (Sx.x_move hT rfl rfl) ?_
      clear hT; intro a hT
      refine Sx.st_take hT rfl rfl rfl rfl (Sx.x_move hT rfl rfl) ?_
      clear hT; intro a hT
      refine Sx.st_take hT rfl rfl rfl rfl (Sx.x_move hT rfl rfl) ?_
      clear hT; intro a hT
      refine Sx.st_run hT rfl rfl rfl rfl (Sx.x_lookup hT rfl Try.underlying81 (Go.Maps.string_keyed Try.underlying9) Try.ti39 rfl rfl (key_str Try.underlying9 o.key hob) (hM.ext H.ext (not_No _))) ?_
      clear hT; intro a hT
      rw [look_v hG.srt (List.mem_of_getElem? ho)] at hT
      refine Sx.st_take hT rfl rfl rfl rfl (Sx.x_bld hT rfl Try.bld73 rfl rfl) ?_
      clear hT; intro a hT
      refine Sx.st_eff hT rfl rfl rfl rfl (Sx.y_slice1 hT rfl Try.underlying43 Try.ti73 rfl rfl rfl rfl rfl rfl _) ?_
      clear hT; rintro _ w4 ⟨b1, rfl, N⟩ a hT
      replace H := H.new N; clear N
      refine Sx.st_eff hT rfl rfl rfl rfl (Sx.x_append hT rfl rfl Try.underlying43 Try.ti73 rfl (by decide) rfl rfl (H.row 1 rfl) ((H.blk 0 rfl).sv1 rfl) (by simp [Value.oneCell']) (fun h => by cases h) (by unfold maxLen; omega) (by omega)) ?_
      rintro _ w5 ⟨ad5, c5, rfl, hr, E, hown, -⟩
      clear hT; intro a hT
      replace H := H.setR 1 rfl hr E hown rfl; clear hr E hown
      refine Sx.st_take hT rfl rfl rfl rfl (Sx.x_assign hT rfl rfl) ?_
      clear hT; intro a hT
      replace hT := hT.keep [3, 18, 5, 11, 10, 9, 8, 2, 0] rfl
      refine Sx.ser_nil ?_
      refine Sx.block_normal ?_
      refine Sx.then_normal (hK8 _ _ ?_)
      clear hK8
      refine Sx.wp_text [(0, .take), (1, .take)] rfl ?_
      refine Sx.st_take hT rfl rfl rfl rfl ((fun w => Sx.x_add w hT rfl rfl rfl (Sx.wrap64 (by omega)))) ?_
      clear hT; intro a hT
      refine Sx.st_take hT rfl rfl rfl rfl (Sx.x_move hT rfl rfl) ?_
      clear hT; intro a hT
      replace hT := hT.keep [10, 3, 18, 5, 11, 9, 8, 2, 0] rfl
      refine Sx.ser_nil ?_
      refine Sx.then_normal ?_
      rw [snoc_w, show P.length + 1 = (P ++ [o]).length from by simp] at H
      rw [show P.length + 1 = (P ++ [o]).length from by simp] at hT
      exact ⟨(k + 1, P ++ [o], ad5, c5), ⟨by show k + 1 ≤ _; omega, by show P ++ [o] = _; rw [fil_snoc ho, if_pos hkz, ← hP], by show List.length _ ≤ k + 1; simp; omega⟩, (hT.keep [10, 3, 9, 8, 2, 0] rfl), (H.keep [1, 2] rfl rfl), by show _ - (k + 1) < _ - k; omega⟩
    · try simp only [Sx.bq] at hc11
      have hkz : o.v.k = 0 := by omega
      refine wp_skip ?_
      refine Sx.block_normal ?_
      refine Sx.then_normal (hK8 _ _ ?_)
      clear hK8
      refine Sx.wp_text [(0, .take), (1, .take)] rfl ?_
      refine Sx.st_take hT rfl rfl rfl rfl ((fun w => Sx.x_add w hT rfl rfl rfl (Sx.wrap64 (by omega)))) ?_
      clear hT; intro a hT
      refine Sx.st_take hT rfl rfl rfl rfl (Sx.x_move hT rfl rfl) ?_
      clear hT; intro a hT
      replace hT := hT.keep [10, 18, 5, 11, 3, 9, 8, 2, 0] rfl
      refine Sx.ser_nil ?_
      refine Sx.then_normal ?_
      skip
      exact ⟨(k + 1, P, ad2, c2), ⟨by show k + 1 ≤ _; omega, by show P = _; rw [fil_snoc ho, if_neg (fun h9 => h9 hkz), ← hP], by show List.length _ ≤ k + 1; omega⟩, (hT.keep [10, 3, 9, 8, 2, 0] rfl), (H.keep [0, 1] rfl rfl), by show _ - (k + 1) < _ - k; omega⟩
  · try simp only [Sx.bq] at hc7
    have hkl : k = R9.length := by omega
    rw [hkl, List.take_length] at hP
    refine wp_exit ?_
    refine Sx.then_exit ?_
    refine Sx.then_exit ?_
    refine Sx.block_exit ?_
    refine Sx.then_normal (hK3 _ _ ?_)
    clear hK3
    refine wp_seq_k fun K12 hK12 => ?_
    refine Sx.wp_text [(0, .take), (1, .take)] rfl ?_
    refine Sx.st_take hT rfl rfl rfl rfl (Sx.x_move hT rfl rfl) ?_
    clear hT; intro a hT
    refine Sx.st_take hT rfl rfl rfl rfl (Sx.x_assign hT rfl rfl) ?_
    clear hT; intro a hT
    replace hT := hT.keep [2, 11, 10, 3, 9, 8, 0] rfl
    refine Sx.ser_nil ?_
    refine Sx.then_normal (hK12 _ _ ?_)
    clear hK12
    refine wp_ret ?_
    refine Sx.done1 (fn := Try.f40) hT rfl (.tmp (hT.get 2 _ rfl)) ?_
    rw [← hP]
    exact ⟨_, _, rfl, H.keep [0] rfl rfl⟩

theorem Snap1_calls (s at_ : Stp) {b : Nat} {w : World} (hB : Blk w b at_.cells 24) : Calls Try.prog 42 #[.agg #[.int .i64 s.w, .int .i64 s.l, .int .i64 s.n], .pointer (some ⟨b, 0, none⟩)] w fun e w' => e = .returned (.bool (upto at_ false s)) ∧ Ext No w w' := by
  have RB : Ro w No _ := Ro.of fun w' x => hB.ext_no x
  refine Sx.calls_into Try.func42 rfl Try.ntmps42 rfl fun a hT => ?_
  replace hT := hT.keep [0, 1] rfl
  have H : Sx.Hp w (Sx.No) w [] := Sx.Hp.start _ _
  refine wp_seq_k fun K1 hK1 => ?_
  refine Sx.wp_text [(0, .run), (1, .take)] rfl ?_
  refine Sx.st_eff hT rfl rfl rfl rfl (Sx.y_box hT rfl rfl rfl _) ?_
  clear hT; rintro _ w1 ⟨b1, rfl, N⟩ a hT
  replace H := H.new N; clear N
  refine Sx.st_take hT rfl rfl rfl rfl (Sx.x_assign hT rfl rfl) ?_
  clear hT; intro a hT
  replace hT := hT.keep [3, 2, 0, 1] rfl
  refine Sx.ser_nil ?_
  refine Sx.then_normal (hK1 _ _ ?_)
  clear hK1
  refine wp_seq_k fun K2 hK2 => ?_
  refine Sx.wp_text [(0, .run), (1, .run), (2, .run), (3, .take), (4, .take)] rfl ?_
  refine Sx.st_run hT rfl rfl rfl rfl (Sx.y_loadS hT rfl Try.underlying24 Try.ti24 rfl ((H.blk 0 rfl).seg (k := 3) rfl) (by rfl)) ?_
  clear hT; intro a hT
  refine Sx.st_run hT rfl rfl rfl rfl (Sx.y_loadS hT rfl Try.underlying24 Try.ti24 rfl ((RB.at H.ext).seg (off := 0) (k := 3) rfl) (by rfl)) ?_
  clear hT; intro a hT
  refine Sx.st_call hT rfl rfl rfl rfl rfl Try.can43 rfl (Compare_calls _ _ _) ?_
  rintro _ w2 ⟨rfl, E⟩
  refine ⟨_, rfl, ?_⟩
  clear hT; intro a hT
  replace H := H.pure E; clear E
  refine Sx.st_take hT rfl rfl rfl rfl ((fun w => Sx.x_le w hT rfl rfl rfl)) ?_
  clear hT; intro a hT
  refine Sx.st_take hT rfl rfl rfl rfl (Sx.x_assign hT rfl rfl) ?_
  clear hT; intro a hT
  replace hT := hT.keep [3, 2, 0, 1] rfl
  refine Sx.ser_nil ?_
  refine Sx.then_normal (hK2 _ _ ?_)
  clear hK2
  refine wp_ret ?_
  refine Sx.done1 (fn := Try.f42) hT rfl (.tmp (hT.get 3 _ rfl)) ?_
  refine ⟨ret_b ?_, H.ext⟩
  clear hT H
  unfold upto
  rw [Bool.eq_iff_iff]
  simp only [Bool.or_eq_true, Bool.and_eq_true, decide_eq_true_eq, Bool.not_true, Bool.not_false, and_true, Bool.false_eq_true, and_false, or_false]
  try omega

theorem SnapA_calls {ad : Option Addr} {c : Nat} (L : List En) (at_ : Stp) {w : World} (hs : Ss w ad En.cells 7 L) (hf : ∀ x ∈ L, Ss w x.ad Wt.cells 4 x.ws ∧ (x.ad = none → x.ws.length = 0 ∧ x.c = 0) ∧ x.ws.length ≤ 1000000) (hl : L.length ≤ 1000000) (hsum : sumN wl L ≤ 900000) : Calls Try.prog 15 #[.slice ad L.length c, .agg #[.int .i64 at_.w, .int .i64 at_.l, .int .i64 at_.n]] w fun e w' => ∃ ad' c', e = .returned (.slice ad' (makesF (L.map En.p) at_ false).length c') ∧ Hp w No w' [cR 73 4 ad' (makesF (L.map En.p) at_ false).length c' ((makesF (L.map En.p) at_ false).flatMap Wt.cells)] := by
  have R : Ro w No _ := Ro.of fun w' x => hs.ext_no x
  have RF : Ro w No (fun u => ∀ x ∈ L, Ss u x.ad Wt.cells 4 x.ws) := Ro.of fun w' y x hx => ((hf x hx).1).ext_no y
  refine Sx.calls_into Try.func15 rfl Try.ntmps15 rfl fun a hT => ?_
  replace hT := hT.keep [0, 1] rfl
  have H : Sx.Hp w (Sx.No) w [] := Sx.Hp.start _ _
  refine wp_seq_k fun K1 hK1 => ?_
  refine Sx.wp_text [(0, .run), (1, .take)] rfl ?_
  refine Sx.st_eff hT rfl rfl rfl rfl (Sx.y_box hT rfl rfl rfl _) ?_
  clear hT; rintro _ w1 ⟨b1, rfl, N⟩ a hT
  replace H := H.new N; clear N
  refine Sx.st_take hT rfl rfl rfl rfl (Sx.x_assign hT rfl rfl) ?_
  clear hT; intro a hT
  replace hT := hT.keep [4, 3, 0, 1] rfl
  refine Sx.ser_nil ?_
  refine Sx.then_normal (hK1 _ _ ?_)
  clear hK1
  refine wp_seq_k fun K2 hK2 => ?_
  refine Sx.wp_text [(0, .take), (1, .take), (2, .run), (3, .run), (4, .take)] rfl ?_
  refine Sx.st_take hT rfl rfl rfl rfl (Sx.x_move hT rfl rfl) ?_
  clear hT; intro a hT
  refine Sx.st_take hT rfl rfl rfl rfl (Sx.x_makeFunc hT rfl rfl) ?_
  clear hT; intro a hT
  refine Sx.st_call hT rfl rfl rfl rfl rfl Try.can41 rfl (made_calls L (cs := [.pointer (some ⟨b1, 0, none⟩)]) at_ false (Q := fun u => Blk u b1 at_.cells 24) (R.at H.ext) (fun x hx => ⟨(RF.at H.ext) x hx, (hf x hx).2⟩) hl hsum Try.can42 (Ro.of fun w1 x1 => ((H.blk 0 rfl)).ext_no x1) (fun s w1 hq => Snap1_calls s at_ hq)) ?_
  rintro _ w2 ⟨bm, rfl, K⟩
  refine ⟨_, rfl, ?_⟩
  clear hT; intro a hT
  replace H := H.more K rfl; clear K
  have hG := goodR_raw (L.map En.p) at_ false
  have hRl := rawF_len L at_ false
  refine Sx.st_call hT rfl rfl rfl rfl rfl Try.can40 rfl (pairs_calls (rawF (L.map En.p) at_ false) (H.mp 0 rfl) hG (by omega)) ?_
  rintro _ w3 ⟨ad8, c8, rfl, K⟩
  refine ⟨_, rfl, ?_⟩
  clear hT; intro a hT
  replace H := H.more K rfl; clear K
  rw [fil_raw] at H hT
  refine Sx.st_take hT rfl rfl rfl rfl (Sx.x_assign hT rfl rfl) ?_
  clear hT; intro a hT
  replace hT := hT.keep [4, 3, 0, 1] rfl
  refine Sx.ser_nil ?_
  refine Sx.then_normal (hK2 _ _ ?_)
  clear hK2
  refine wp_ret ?_
  refine Sx.done1 (fn := Try.f15) hT rfl (.tmp (hT.get 4 _ rfl)) ?_
  exact ⟨_, _, rfl, H.keep [0] rfl rfl⟩

theorem Below1_calls (s at_ : Stp) {b : Nat} {w : World} (hB : Blk w b at_.cells 24) : Calls Try.prog 45 #[.agg #[.int .i64 s.w, .int .i64 s.l, .int .i64 s.n], .pointer (some ⟨b, 0, none⟩)] w fun e w' => e = .returned (.bool (upto at_ true s)) ∧ Ext No w w' := by
  have RB : Ro w No _ := Ro.of fun w' x => hB.ext_no x
  refine Sx.calls_into Try.func45 rfl Try.ntmps45 rfl fun a hT => ?_
  replace hT := hT.keep [0, 1] rfl
  have H : Sx.Hp w (Sx.No) w [] := Sx.Hp.start _ _
  refine wp_seq_k fun K1 hK1 => ?_
  refine Sx.wp_text [(0, .run), (1, .take)] rfl ?_
  refine Sx.st_eff hT rfl rfl rfl rfl (Sx.y_box hT rfl rfl rfl _) ?_
  clear hT; rintro _ w1 ⟨b1, rfl, N⟩ a hT
  replace H := H.new N; clear N
  refine Sx.st_take hT rfl rfl rfl rfl (Sx.x_assign hT rfl rfl) ?_
  clear hT; intro a hT
  replace hT := hT.keep [3, 2, 0, 1] rfl
  refine Sx.ser_nil ?_
  refine Sx.then_normal (hK1 _ _ ?_)
  clear hK1
  refine wp_seq_k fun K2 hK2 => ?_
  refine Sx.wp_text [(0, .run), (1, .run), (2, .run), (3, .take), (4, .take)] rfl ?_
  refine Sx.st_run hT rfl rfl rfl rfl (Sx.y_loadS hT rfl Try.underlying24 Try.ti24 rfl ((H.blk 0 rfl).seg (k := 3) rfl) (by rfl)) ?_
  clear hT; intro a hT
  refine Sx.st_run hT rfl rfl rfl rfl (Sx.y_loadS hT rfl Try.underlying24 Try.ti24 rfl ((RB.at H.ext).seg (off := 0) (k := 3) rfl) (by rfl)) ?_
  clear hT; intro a hT
  refine Sx.st_call hT rfl rfl rfl rfl rfl Try.can43 rfl (Compare_calls _ _ _) ?_
  rintro _ w2 ⟨rfl, E⟩
  refine ⟨_, rfl, ?_⟩
  clear hT; intro a hT
  replace H := H.pure E; clear E
  refine Sx.st_take hT rfl rfl rfl rfl ((fun w => Sx.x_lt w hT rfl rfl rfl)) ?_
  clear hT; intro a hT
  refine Sx.st_take hT rfl rfl rfl rfl (Sx.x_assign hT rfl rfl) ?_
  clear hT; intro a hT
  replace hT := hT.keep [3, 2, 0, 1] rfl
  refine Sx.ser_nil ?_
  refine Sx.then_normal (hK2 _ _ ?_)
  clear hK2
  refine wp_ret ?_
  refine Sx.done1 (fn := Try.f45) hT rfl (.tmp (hT.get 3 _ rfl)) ?_
  refine ⟨ret_b ?_, H.ext⟩
  clear hT H
  unfold upto
  rw [Bool.eq_iff_iff]
  simp only [Bool.or_eq_true, Bool.and_eq_true, decide_eq_true_eq, Bool.not_true, Bool.not_false, and_true, Bool.false_eq_true, and_false, or_false]
  try omega

theorem BelowA_calls {ad : Option Addr} {c : Nat} (L : List En) (at_ : Stp) {w : World} (hs : Ss w ad En.cells 7 L) (hf : ∀ x ∈ L, Ss w x.ad Wt.cells 4 x.ws ∧ (x.ad = none → x.ws.length = 0 ∧ x.c = 0) ∧ x.ws.length ≤ 1000000) (hl : L.length ≤ 1000000) (hsum : sumN wl L ≤ 900000) : Calls Try.prog 17 #[.slice ad L.length c, .agg #[.int .i64 at_.w, .int .i64 at_.l, .int .i64 at_.n]] w fun e w' => ∃ ad' c', e = .returned (.slice ad' (makesF (L.map En.p) at_ true).length c') ∧ Hp w No w' [cR 73 4 ad' (makesF (L.map En.p) at_ true).length c' ((makesF (L.map En.p) at_ true).flatMap Wt.cells)] := by
  have R : Ro w No _ := Ro.of fun w' x => hs.ext_no x
  have RF : Ro w No (fun u => ∀ x ∈ L, Ss u x.ad Wt.cells 4 x.ws) := Ro.of fun w' y x hx => ((hf x hx).1).ext_no y
  refine Sx.calls_into Try.func17 rfl Try.ntmps17 rfl fun a hT => ?_
  replace hT := hT.keep [0, 1] rfl
  have H : Sx.Hp w (Sx.No) w [] := Sx.Hp.start _ _
  refine wp_seq_k fun K1 hK1 => ?_
  refine Sx.wp_text [(0, .run), (1, .take)] rfl ?_
  refine Sx.st_eff hT rfl rfl rfl rfl (Sx.y_box hT rfl rfl rfl _) ?_
  clear hT; rintro _ w1 ⟨b1, rfl, N⟩ a hT
  replace H := H.new N; clear N
  refine Sx.st_take hT rfl rfl rfl rfl (Sx.x_assign hT rfl rfl) ?_
  clear hT; intro a hT
  replace hT := hT.keep [4, 3, 0, 1] rfl
  refine Sx.ser_nil ?_
  refine Sx.then_normal (hK1 _ _ ?_)
  clear hK1
  refine wp_seq_k fun K2 hK2 => ?_
  refine Sx.wp_text [(0, .take), (1, .take), (2, .run), (3, .run), (4, .take)] rfl ?_
  refine Sx.st_take hT rfl rfl rfl rfl (Sx.x_move hT rfl rfl) ?_
  clear hT; intro a hT
  refine Sx.st_take hT rfl rfl rfl rfl (Sx.x_makeFunc hT rfl rfl) ?_
  clear hT; intro a hT
  refine Sx.st_call hT rfl rfl rfl rfl rfl Try.can41 rfl (made_calls L (cs := [.pointer (some ⟨b1, 0, none⟩)]) at_ true (Q := fun u => Blk u b1 at_.cells 24) (R.at H.ext) (fun x hx => ⟨(RF.at H.ext) x hx, (hf x hx).2⟩) hl hsum Try.can45 (Ro.of fun w1 x1 => ((H.blk 0 rfl)).ext_no x1) (fun s w1 hq => Below1_calls s at_ hq)) ?_
  rintro _ w2 ⟨bm, rfl, K⟩
  refine ⟨_, rfl, ?_⟩
  clear hT; intro a hT
  replace H := H.more K rfl; clear K
  have hG := goodR_raw (L.map En.p) at_ true
  have hRl := rawF_len L at_ true
  refine Sx.st_call hT rfl rfl rfl rfl rfl Try.can40 rfl (pairs_calls (rawF (L.map En.p) at_ true) (H.mp 0 rfl) hG (by omega)) ?_
  rintro _ w3 ⟨ad8, c8, rfl, K⟩
  refine ⟨_, rfl, ?_⟩
  clear hT; intro a hT
  replace H := H.more K rfl; clear K
  rw [fil_raw] at H hT
  refine Sx.st_take hT rfl rfl rfl rfl (Sx.x_assign hT rfl rfl) ?_
  clear hT; intro a hT
  replace hT := hT.keep [4, 3, 0, 1] rfl
  refine Sx.ser_nil ?_
  refine Sx.then_normal (hK2 _ _ ?_)
  clear hK2
  refine wp_ret ?_
  refine Sx.done1 (fn := Try.f17) hT rfl (.tmp (hT.get 4 _ rfl)) ?_
  exact ⟨_, _, rfl, H.keep [0] rfl rfl⟩

end Go.Proofs.Ytpggijfpkgglmaa
