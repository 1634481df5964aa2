/- Walks: the first deed that saw what was not so. -/
import Derived.Test.YtpggijfpkgglmaaA11
set_option linter.unusedSimpArgs false
set_option linter.unusedVariables false
namespace Go.Proofs.Ytpggijfpkgglmaa
open Sx
theorem Try.ti49 : Sx.TI Try.prog 49 (.slice none 0 0) 1 24 := .mk' (by kernel_rfl)
theorem Try.ti51 : Sx.TI Try.prog 51 (.agg #[.int .i64 0, .int .i64 0, .int .i64 0, .int .i64 0, .int .i64 0, .int .i64 0, .slice none 0 0, .slice none 0 0]) 8 96 := .mk' (by kernel_rfl)
theorem Try.ti52 : Sx.TI Try.prog 52 (.agg #[.int .i64 0, .int .i64 0, .int .i64 0, .int .i64 0, .int .i64 0, .int .i64 0, .slice none 0 0, .slice none 0 0]) 8 96 := .mk' (by kernel_rfl)
theorem Try.fl49 : Sx.Flat Try.prog 49 := ⟨_, Try.underlying49, trivial⟩
theorem Try.fa51_0 : Sx.FA Try.prog 51 0 0 := ⟨_, _, _, _, _, Try.underlying51, rfl, rfl, Try.ti36, by decide⟩
theorem Try.fa51_1 : Sx.FA Try.prog 51 1 7 := ⟨_, _, _, _, _, Try.underlying51, rfl, rfl, Try.ti49, by decide⟩
theorem Try.fa52_0 : Sx.FA Try.prog 52 0 0 := ⟨_, _, _, _, _, Try.underlying52, rfl, rfl, Try.ti36, by decide⟩
theorem Try.fa52_1 : Sx.FA Try.prog 52 1 7 := ⟨_, _, _, _, _, Try.underlying52, rfl, rfl, Try.ti49, by decide⟩
theorem Try.can20 : Sx.Can Try.prog 20 := ⟨_, Try.func20, by kernel_rfl, rfl⟩
theorem Try.can21 : Sx.Can Try.prog 21 := ⟨_, Try.func21, by kernel_rfl, rfl⟩
theorem Try.can47 : Sx.Can Try.prog 47 := ⟨_, Try.func47, by kernel_rfl, rfl⟩
theorem wl_e (l : List Dn) : sumN wl (l.map Dn.e) = sumN (fun x : Dn => x.ws.length) l := by
  induction l with
  | nil => rfl
  | cons x l ih => simp only [List.map_cons, sumN, ih]; rfl
theorem any_take {α : Type} {l : List α} {p : α → Bool} (h : ∀ (t : Nat) q, l[t]? = some q → p q = false) : l.any p = false := by
  rw [List.any_eq_false]
  intro x hx
  obtain ⟨t, ht⟩ := List.mem_iff_getElem?.1 hx
  rw [h t x ht]
  decide

theorem Reads1_calls (s : Stp) (x : Dn) {b : Nat} {w : World} (hB : Blk w b x.cells 51) : Calls Try.prog 47 #[.agg #[.int .i64 s.w, .int .i64 s.l, .int .i64 s.n], .pointer (some ⟨b, 0, none⟩)] w fun e w' => e = .returned (.bool (upto x.s true s)) ∧ Ext No w w' := by
  have RB : Ro w No _ := Ro.of fun w' x => hB.ext_no x
  refine Sx.calls_into Try.func47 rfl Try.ntmps47 rfl fun a hT => ?_
  replace hT := hT.keep [0, 1] rfl
  have H : Sx.Hp w (Sx.No) w [] := Sx.Hp.start _ _
  refine wp_seq_k fun K1 hK1 => ?_
  refine Sx.wp_text [(0, .run), (1, .take)] rfl ?_
  refine Sx.st_eff hT rfl rfl rfl rfl (Sx.y_box hT rfl rfl rfl _) ?_
  clear hT; rintro _ w1 ⟨b1, rfl, N⟩ a hT
  replace H := H.new N; clear N
  refine Sx.st_take hT rfl rfl rfl rfl (Sx.x_assign hT rfl rfl) ?_
  clear hT; intro a hT
  replace hT := hT.keep [3, 2, 0, 1] rfl
  refine Sx.ser_nil ?_
  refine Sx.then_normal (hK1 _ _ ?_)
  clear hK1
  refine wp_seq_k fun K2 hK2 => ?_
  refine Sx.wp_text [(0, .run), (1, .take), (2, .take), (3, .run), (4, .run), (5, .take), (6, .take)] rfl ?_
  refine Sx.st_run hT rfl rfl rfl rfl (Sx.y_loadS hT rfl Try.underlying24 Try.ti24 rfl ((H.blk 0 rfl).seg (k := 3) rfl) (by rfl)) ?_
  clear hT; intro a hT
  refine Sx.st_take hT rfl rfl rfl rfl (Sx.x_fieldAddr hT rfl Try.fa51_0 rfl) ?_
  clear hT; intro a hT
  refine Sx.st_take hT rfl rfl rfl rfl (Sx.x_fieldAddr hT rfl Try.fa36_1 rfl) ?_
  clear hT; intro a hT
  refine Sx.st_run hT rfl rfl rfl rfl (Sx.y_loadS hT rfl Try.underlying24 Try.ti24 rfl ((RB.at H.ext).seg (off := 3) (k := 3) rfl) (by rfl)) ?_
  clear hT; intro a hT
  refine Sx.st_call hT rfl rfl rfl rfl rfl Try.can43 rfl (Compare_calls _ _ _) ?_
  rintro _ w2 ⟨rfl, E⟩
  refine ⟨_, rfl, ?_⟩
  clear hT; intro a hT
  replace H := H.pure E; clear E
  refine Sx.st_take hT rfl rfl rfl rfl ((fun w => Sx.x_lt w hT rfl rfl rfl)) ?_
  clear hT; intro a hT
  refine Sx.st_take hT rfl rfl rfl rfl (Sx.x_assign hT rfl rfl) ?_
  clear hT; intro a hT
  replace hT := hT.keep [3, 2, 0, 1] rfl
  refine Sx.ser_nil ?_
  refine Sx.then_normal (hK2 _ _ ?_)
  clear hK2
  refine wp_ret ?_
  refine Sx.done1 (fn := Try.f47) hT rfl (.tmp (hT.get 3 _ rfl)) ?_
  refine ⟨ret_b ?_, H.ext⟩
  clear hT H
  unfold upto
  rw [Bool.eq_iff_iff]
  simp only [Bool.or_eq_true, Bool.and_eq_true, decide_eq_true_eq, Bool.not_true, Bool.not_false, and_true, Bool.false_eq_true, and_false, or_false]

theorem ReadsA_calls {ad : Option Addr} {c : Nat} (L : List Dn) {w : World} (hs : Ss w ad Dn.cells 8 L) (hf : ∀ x ∈ L, Ss w x.ad Wt.cells 4 x.ws ∧ (x.ad = none → x.ws.length = 0 ∧ x.c = 0) ∧ x.ws.length ≤ 1000000) (hg : ∀ x ∈ L, Ss w x.sa Sn.cells 7 x.sn ∧ (∀ y ∈ x.sn, y.key.length ≤ 140737488351232) ∧ x.sn.length ≤ 9223372036854775806) (hl : L.length ≤ 1000000) (hsum : sumN (fun x : Dn => x.ws.length) L ≤ 900000) : Calls Try.prog 20 #[.slice ad L.length c] w fun e w' => e = .returned (.tuple #[.int .i64 (rdF (L.map Dn.p)).1, .int .i64 (rdF (L.map Dn.p)).2]) ∧ Ext No w w' := by
  have R : Ro w No _ := Ro.of fun w' x => hs.ext_no x
  have RF : Ro w No (fun u => ∀ x ∈ L, Ss u x.ad Wt.cells 4 x.ws) := Ro.of fun w' y x hx => ((hf x hx).1).ext_no y
  have RG : Ro w No (fun u => ∀ x ∈ L, Ss u x.sa Sn.cells 7 x.sn) := Ro.of fun w' y x hx => ((hg x hx).1).ext_no y
  have hem : (L.map Dn.e).map En.p = (L.map Dn.p).map Prod.fst := ents_map L
  refine Sx.calls_into Try.func20 rfl Try.ntmps20 rfl fun a hT => ?_
  replace hT := hT.keep [0] rfl
  have H : Sx.Hp w (Sx.No) w [] := Sx.Hp.start _ _
  refine wp_seq_k fun K1 hK1 => ?_
  refine Sx.wp_text [(0, .take), (1, .take)] rfl ?_
  refine Sx.st_take hT rfl rfl rfl rfl (Sx.x_assign hT rfl rfl) ?_
  clear hT; intro a hT
  refine Sx.st_take hT rfl rfl rfl rfl (Sx.x_assign hT rfl rfl) ?_
  clear hT; intro a hT
  replace hT := hT.keep [3, 2, 0] rfl
  refine Sx.ser_nil ?_
  refine Sx.then_normal (hK1 _ _ ?_)
  clear hK1
  refine wp_seq_k fun K2 hK2 => ?_
  refine Sx.wp_text [(0, .take)] rfl ?_
  refine Sx.st_take hT rfl rfl rfl rfl (Sx.x_assign hT rfl rfl) ?_
  clear hT; intro a hT
  replace hT := hT.keep [4, 3, 2, 0] rfl
  refine Sx.ser_nil ?_
  refine Sx.then_normal (hK2 _ _ ?_)
  clear hK2
  refine wp_seq_k fun K3 hK3 => ?_
  refine wp_seq_k fun K4 hK4 => ?_
  refine Sx.wp_text [(0, .take), (1, .take), (2, .take)] rfl ?_
  refine Sx.st_take hT rfl rfl rfl rfl (Sx.x_move hT rfl rfl) ?_
  clear hT; intro a hT
  refine Sx.st_take hT rfl rfl rfl rfl (Sx.x_len_slice hT rfl rfl Try.underlying46 rfl) ?_
  clear hT; intro a hT
  refine Sx.st_take hT rfl rfl rfl rfl (Sx.x_move hT rfl rfl) ?_
  clear hT; intro a hT
  replace hT := hT.keep [16, 15, 14, 4, 3, 2, 0] rfl
  refine Sx.ser_nil ?_
  refine Sx.then_normal (hK4 _ _ ?_)
  clear hK4
  refine wp_block ?_
  replace H := H.nilR 36 7
  refine Sx.wp_loopH (G := Nat × Option Addr × Nat) (fun ⟨i, ad2, c2⟩ => [(16, .int .i64 (i : Int)), (4, .slice ad2 i c2)]) (fun ⟨i, ad2, c2⟩ => [cR 36 7 ad2 i c2 (((L.take i).map Dn.e).flatMap En.cells)]) (fun ⟨i, ad2, c2⟩ => i ≤ L.length) (fun ⟨i, ad2, c2⟩ => L.length - i) (0, none, 0) (hT.keep [16, 4, 15, 14, 3, 2, 0] rfl) (H.keep [0] rfl rfl) (Nat.zero_le _) ?_
  clear hT H
  rintro ⟨i, ad2, c2⟩ a w1 hJ hT H
  replace hT := hT.keep [16, 4, 15, 14, 3, 2, 0] rfl
  replace H := H.keep [0] rfl rfl
  have hi : i ≤ L.length := hJ
  refine wp_seq_k fun K5 hK5 => ?_
  refine Sx.wp_text [(0, .take)] rfl ?_
  refine Sx.st_take hT rfl rfl rfl rfl ((fun w => Sx.x_lt w hT rfl rfl rfl)) ?_
  clear hT; intro a hT
  replace hT := hT.keep [17, 16, 4, 15, 14, 3, 2, 0] rfl
  refine Sx.ser_nil ?_
  refine Sx.then_normal (hK5 _ _ ?_)
  clear hK5
  refine wp_seq_k fun K6 hK6 => ?_
  refine Sx.wp_if hT rfl (fun hc7 => ?_) (fun hc7 => ?_)
  · try simp only [Sx.bq] at hc7
    obtain ⟨o, ho⟩ : ∃ q9, L[i]? = some q9 := ⟨_, List.getElem?_eq_getElem (by omega)⟩
    refine wp_skip ?_
    refine Sx.then_normal (hK6 _ _ ?_)
    clear hK6
    refine wp_seq_k fun K8 hK8 => ?_
    refine wp_block ?_
    refine wp_seq_k fun K9 hK9 => ?_
    refine Sx.wp_text [(0, .take), (1, .run), (2, .run), (3, .run)] rfl ?_
    refine Sx.st_take hT rfl rfl rfl rfl (Sx.x_index (k := i) hT rfl Try.underlying46 Try.ti51 (R.at H.ext).sv rfl rfl (by first | rfl | omega) (by omega)) ?_
    clear hT; intro a hT
    refine Sx.st_run hT rfl rfl rfl rfl (Sx.y_loadS hT rfl Try.underlying51 Try.ti51 rfl ((R.at H.ext).cs Dn.len ho) (by rfl)) ?_
    clear hT; intro a hT
    refine Sx.st_eff hT rfl rfl rfl rfl (Sx.y_alloc hT rfl Try.ti51 rfl _) ?_
    clear hT; rintro _ w2 ⟨b1, rfl, N⟩ a hT
    replace H := H.new N; clear N
    refine Sx.st_act hT rfl rfl rfl (Sx.y_storeS hT rfl Try.ti51 rfl rfl rfl rfl rfl (H.blk 0 rfl) rfl) ?_
    rintro w3 ⟨hb, E, _⟩
    replace H := H.setB 0 rfl hb E rfl; clear hb E
    replace hT := hT.keep [6, 17, 16, 4, 15, 14, 3, 2, 0] rfl
    refine Sx.ser_nil ?_
    refine Sx.then_normal (hK9 _ _ ?_)
    clear hK9
    refine Sx.wp_text [(0, .take), (1, .take), (2, .run), (3, .run), (4, .run), (5, .take)] rfl ?_
    refine Sx.st_take hT rfl rfl rfl rfl (Sx.x_move hT rfl rfl) ?_
    clear hT; intro a hT
    refine Sx.st_take hT rfl rfl rfl rfl (Sx.x_fieldAddr hT rfl Try.fa51_0 rfl) ?_
    clear hT; intro a hT
    refine Sx.st_run hT rfl rfl rfl rfl (Sx.y_loadS hT rfl Try.underlying36 Try.ti36 rfl ((H.blk 0 rfl).seg (k := 7) rfl) (by rfl)) ?_
    clear hT; intro a hT
    refine Sx.st_eff hT rfl rfl rfl rfl (Sx.y_slice1 hT rfl Try.underlying22 Try.ti36 rfl rfl rfl rfl rfl rfl _) ?_
    clear hT; rintro _ w4 ⟨b2, rfl, N⟩ a hT
    replace H := H.new N; clear N
    refine Sx.st_eff hT rfl rfl rfl rfl (Sx.x_append hT rfl rfl Try.underlying22 Try.ti36 rfl (by decide) rfl rfl (H.row 2 rfl) ((H.blk 0 rfl).sv1 rfl) (by simp [Value.oneCell']) (fun h => by cases h) (by unfold maxLen; omega) (by omega)) ?_
    rintro _ w5 ⟨ad5, c5, rfl, hr, E, hown, -⟩
    clear hT; intro a hT
    replace H := H.setR 2 rfl hr E hown rfl; clear hr E hown
    rw [tk_h ho] at H
    refine Sx.st_take hT rfl rfl rfl rfl (Sx.x_assign hT rfl rfl) ?_
    clear hT; intro a hT
    replace hT := hT.keep [4, 6, 17, 16, 15, 14, 3, 2, 0] rfl
    refine Sx.ser_nil ?_
    refine Sx.block_normal ?_
    refine Sx.then_normal (hK8 _ _ ?_)
    clear hK8
    refine Sx.wp_text [(0, .take), (1, .take)] rfl ?_
    refine Sx.st_take hT rfl rfl rfl rfl ((fun w => Sx.x_add w hT rfl rfl rfl (Sx.wrap64 (by omega)))) ?_
    clear hT; intro a hT
    refine Sx.st_take hT rfl rfl rfl rfl (Sx.x_move hT rfl rfl) ?_
    clear hT; intro a hT
    replace hT := hT.keep [16, 4, 6, 17, 15, 14, 3, 2, 0] rfl
    refine Sx.ser_nil ?_
    refine Sx.then_normal ?_
    exact ⟨(i + 1, ad5, c5), (show i + 1 ≤ _ by omega), (hT.keep [16, 4, 15, 14, 3, 2, 0] rfl), (H.keep [2] rfl rfl), by show _ - (i + 1) < _ - i; omega⟩
  · try simp only [Sx.bq] at hc7
    obtain rfl : i = L.length := by omega
    rw [List.take_length] at H
    rw [show cR 36 7 ad2 L.length c2 = cR 36 7 ad2 (L.map Dn.e).length c2 from by rw [List.length_map]] at H
    rw [show Value.slice ad2 L.length c2 = Value.slice ad2 (L.map Dn.e).length c2 from by rw [List.length_map]] at hT
    refine wp_exit ?_
    refine Sx.then_exit ?_
    refine Sx.then_exit ?_
    refine Sx.block_exit ?_
    refine Sx.then_normal (hK3 _ _ ?_)
    clear hK3
    refine wp_seq_k fun K10 hK10 => ?_
    refine wp_seq_k fun K11 hK11 => ?_
    refine Sx.wp_text [(0, .take), (1, .run), (2, .take), (3, .take), (4, .take), (5, .take), (6, .take)] rfl ?_
    refine Sx.st_take hT rfl rfl rfl rfl (Sx.x_move hT rfl rfl) ?_
    clear hT; intro a hT
    refine Sx.st_call hT rfl rfl rfl rfl rfl Try.can35 rfl (fault_calls (L.map Dn.e) ((H.row 0 rfl).ssn rfl) (fun x hx => by obtain ⟨y, hy, rfl⟩ := List.mem_map.1 hx; exact ⟨(RF.at H.ext) y hy, (hf y hy).2.1, (hf y hy).2.2⟩) (by rw [List.length_map]; omega) (H.row 0 rfl).le.1) ?_
    rintro _ w6 ⟨rfl, E⟩
    refine ⟨_, rfl, ?_⟩
    clear hT; intro a hT
    replace H := H.pure E; clear E
    rw [hem] at hT
    try rw [hem] at hT
    refine Sx.st_take hT rfl rfl rfl rfl (Sx.x_move hT rfl rfl) ?_
    clear hT; intro a hT
    refine Sx.st_take hT rfl rfl rfl rfl (Sx.x_extractL hT rfl rfl rfl) ?_
    clear hT; intro a hT
    refine Sx.st_take hT rfl rfl rfl rfl (Sx.x_extractL hT rfl rfl rfl) ?_
    clear hT; intro a hT
    refine Sx.st_take hT rfl rfl rfl rfl (Sx.x_assign hT rfl rfl) ?_
    clear hT; intro a hT
    refine Sx.st_take hT rfl rfl rfl rfl (Sx.x_assign hT rfl rfl) ?_
    clear hT; intro a hT
    replace hT := hT.keep [8, 7, 17, 16, 4, 15, 14, 3, 2, 0] rfl
    refine Sx.ser_nil ?_
    refine Sx.then_normal (hK11 _ _ ?_)
    clear hK11
    refine wp_seq_k fun K12 hK12 => ?_
    refine Sx.wp_text [(0, .take), (1, .take)] rfl ?_
    refine Sx.st_take hT rfl rfl rfl rfl (Sx.x_move hT rfl rfl) ?_
    clear hT; intro a hT
    refine Sx.st_take hT rfl rfl rfl rfl ((fun w => Sx.x_ne w hT rfl rfl rfl)) ?_
    clear hT; intro a hT
    replace hT := hT.keep [32, 8, 7, 17, 16, 4, 15, 14, 3, 2, 0] rfl
    refine Sx.ser_nil ?_
    refine Sx.then_normal (hK12 _ _ ?_)
    clear hK12
    refine Sx.wp_if hT rfl (fun hc13 => ?_) (fun hc13 => ?_)
    · try simp only [Sx.bq] at hc13
      have hE : (ordE ((L.map Dn.p).map Prod.fst)).2 ≠ 0 := by rw [← fa_two]; exact hc13
      refine wp_seq_k fun K14 hK14 => ?_
      refine Sx.wp_text [(0, .take), (1, .take), (2, .take), (3, .take)] rfl ?_
      refine Sx.st_take hT rfl rfl rfl rfl (Sx.x_move hT rfl rfl) ?_
      clear hT; intro a hT
      refine Sx.st_take hT rfl rfl rfl rfl (Sx.x_move hT rfl rfl) ?_
      clear hT; intro a hT
      refine Sx.st_take hT rfl rfl rfl rfl (Sx.x_assign hT rfl rfl) ?_
      clear hT; intro a hT
      refine Sx.st_take hT rfl rfl rfl rfl (Sx.x_assign hT rfl rfl) ?_
      clear hT; intro a hT
      replace hT := hT.keep [3, 2, 32, 8, 7, 17, 16, 4, 15, 14, 0] rfl
      refine Sx.ser_nil ?_
      refine Sx.then_normal (hK14 _ _ ?_)
      clear hK14
      refine wp_ret ?_
      refine Sx.then_ret ?_
      refine Sx.done2 (fn := Try.f20) hT rfl (.tmp (hT.get 2 _ rfl)) (.tmp (hT.get 3 _ rfl)) ?_
      rw [rd_fault hE]
      exact ⟨by unfold faF; rw [if_neg hE], H.ext⟩
    · try simp only [Sx.bq] at hc13
      have hE : (ordE ((L.map Dn.p).map Prod.fst)).2 = 0 := by rw [← fa_two]; simpa using hc13
      refine wp_skip ?_
      refine Sx.then_normal (hK10 _ _ ?_)
      clear hK10
      refine wp_seq_k fun K15 hK15 => ?_
      refine wp_seq_k fun K16 hK16 => ?_
      refine Sx.wp_text [(0, .take), (1, .take), (2, .take)] rfl ?_
      refine Sx.st_take hT rfl rfl rfl rfl (Sx.x_move hT rfl rfl) ?_
      clear hT; intro a hT
      refine Sx.st_take hT rfl rfl rfl rfl (Sx.x_len_slice hT rfl rfl Try.underlying46 rfl) ?_
      clear hT; intro a hT
      refine Sx.st_take hT rfl rfl rfl rfl (Sx.x_move hT rfl rfl) ?_
      clear hT; intro a hT
      replace hT := hT.keep [37, 36, 35, 32, 8, 7, 17, 16, 4, 15, 14, 3, 2, 0] rfl
      refine Sx.ser_nil ?_
      refine Sx.then_normal (hK16 _ _ ?_)
      clear hK16
      refine wp_block ?_
      refine Sx.wp_loopH (G := Nat) (fun i => [(37, .int .i64 (i : Int))]) (fun i => []) (fun i => i ≤ L.length ∧ ∀ (t : Nat) q, t < i → L[t]? = some q → badD ((L.map Dn.p).map Prod.fst) q.p = false) (fun i => L.length - i) 0 (hT.keep [37, 36, 35, 32, 8, 7, 17, 16, 4, 15, 14, 0] rfl) (H.keep [0] rfl rfl) (⟨Nat.zero_le _, fun t q h => by omega⟩) ?_
      clear hT H
      rintro i a w7 hJ hT H
      replace hT := hT.keep [37, 36, 35, 32, 8, 7, 17, 16, 4, 15, 14, 0] rfl
      replace H := H.keep [0] rfl rfl
      obtain ⟨hi, hbd⟩ := hJ
      refine wp_seq_k fun K17 hK17 => ?_
      refine Sx.wp_text [(0, .take)] rfl ?_
      refine Sx.st_take hT rfl rfl rfl rfl ((fun w => Sx.x_lt w hT rfl rfl rfl)) ?_
      clear hT; intro a hT
      replace hT := hT.keep [38, 37, 36, 35, 32, 8, 7, 17, 16, 4, 15, 14, 0] rfl
      refine Sx.ser_nil ?_
      refine Sx.then_normal (hK17 _ _ ?_)
      clear hK17
      refine wp_seq_k fun K18 hK18 => ?_
      refine Sx.wp_if hT rfl (fun hc19 => ?_) (fun hc19 => ?_)
      · try simp only [Sx.bq] at hc19
        obtain ⟨o, ho⟩ : ∃ q9, L[i]? = some q9 := ⟨_, List.getElem?_eq_getElem (by omega)⟩
        have hom := List.mem_of_getElem? ho
        have hgo := (hg o hom).2.2
        refine wp_skip ?_
        refine Sx.then_normal (hK18 _ _ ?_)
        clear hK18
        refine wp_seq_k fun K20 hK20 => ?_
        refine wp_block ?_
        refine wp_seq_k fun K21 hK21 => ?_
        refine Sx.wp_text [(0, .take), (1, .take), (2, .run), (3, .run), (4, .take), (5, .run)] rfl ?_
        refine Sx.st_take hT rfl rfl rfl rfl (Sx.x_move hT rfl rfl) ?_
        clear hT; intro a hT
        refine Sx.st_take hT rfl rfl rfl rfl (Sx.x_index (k := i) hT rfl Try.underlying46 Try.ti51 (R.at H.ext).sv rfl rfl (by first | rfl | omega) (by omega)) ?_
        clear hT; intro a hT
        refine Sx.st_run hT rfl rfl rfl rfl (Sx.y_loadS hT rfl Try.underlying51 Try.ti51 rfl ((R.at H.ext).cs Dn.len ho) (by rfl)) ?_
        clear hT; intro a hT
        refine Sx.st_eff hT rfl rfl rfl rfl (Sx.y_alloc hT rfl Try.ti51 rfl _) ?_
        clear hT; rintro _ w8 ⟨b3, rfl, N⟩ a hT
        replace H := H.new N; clear N
        refine Sx.st_take hT rfl rfl rfl rfl (Sx.x_assign hT rfl rfl) ?_
        clear hT; intro a hT
        refine Sx.st_act hT rfl rfl rfl (Sx.y_storeS hT rfl Try.ti51 rfl rfl rfl rfl rfl (H.blk 0 rfl) rfl) ?_
        rintro w9 ⟨hb, E, _⟩
        replace H := H.setB 0 rfl hb E rfl; clear hb E
        replace hT := hT.keep [9, 10, 38, 37, 36, 35, 32, 8, 7, 17, 16, 4, 15, 14, 0] rfl
        refine Sx.ser_nil ?_
        refine Sx.then_normal (hK21 _ _ ?_)
        clear hK21
        refine wp_seq_k fun K22 hK22 => ?_
        refine Sx.wp_text [(0, .take), (1, .take), (2, .run), (3, .take)] rfl ?_
        refine Sx.st_take hT rfl rfl rfl rfl (Sx.x_move hT rfl rfl) ?_
        clear hT; intro a hT
        refine Sx.st_take hT rfl rfl rfl rfl (Sx.x_makeFunc hT rfl rfl) ?_
        clear hT; intro a hT
        refine Sx.st_call hT rfl rfl rfl rfl rfl Try.can41 rfl (made_calls (L.map Dn.e) (cs := [.pointer (some ⟨b3, 0, none⟩)]) o.s true (Q := fun u => Blk u b3 o.cells 51) ((H.row 1 rfl).ssn rfl) (fun x hx => by obtain ⟨y, hy, rfl⟩ := List.mem_map.1 hx; exact ⟨(RF.at H.ext) y hy, (hf y hy).2.1, (hf y hy).2.2⟩) (by rw [List.length_map]; omega) (by rw [wl_e]; exact hsum) Try.can47 (Ro.of fun w1 x1 => ((H.blk 0 rfl)).ext_no x1) (fun s w1 hq => Reads1_calls s o hq)) ?_
        rintro _ w10 ⟨bm, rfl, K⟩
        refine ⟨_, rfl, ?_⟩
        clear hT; intro a hT
        replace H := H.more K rfl; clear K
        rw [hem] at H
        have hGr := goodR_raw ((L.map Dn.p).map Prod.fst) o.s true
        refine Sx.st_take hT rfl rfl rfl rfl (Sx.x_assign hT rfl rfl) ?_
        clear hT; intro a hT
        replace hT := hT.keep [11, 9, 10, 38, 37, 36, 35, 32, 8, 7, 17, 16, 4, 15, 14, 0] rfl
        refine Sx.ser_nil ?_
        refine Sx.then_normal (hK22 _ _ ?_)
        clear hK22
        refine wp_seq_k fun K23 hK23 => ?_
        refine Sx.wp_text [(0, .take), (1, .run), (2, .take), (3, .take)] rfl ?_
        refine Sx.st_take hT rfl rfl rfl rfl (Sx.x_fieldAddr hT rfl Try.fa51_1 rfl) ?_
        clear hT; intro a hT
        refine Sx.st_run hT rfl rfl rfl rfl (Sx.x_load1 hT rfl Try.fl49 rfl ((H.blk 1 rfl).nth rfl)) ?_
        clear hT; intro a hT
        refine Sx.st_take hT rfl rfl rfl rfl (Sx.x_len_slice hT rfl rfl Try.underlying49 rfl) ?_
        clear hT; intro a hT
        refine Sx.st_take hT rfl rfl rfl rfl (Sx.x_move hT rfl rfl) ?_
        clear hT; intro a hT
        replace hT := hT.keep [48, 47, 46, 11, 9, 10, 38, 37, 36, 35, 32, 8, 7, 17, 16, 4, 15, 14, 0] rfl
        refine Sx.ser_nil ?_
        refine Sx.then_normal (hK23 _ _ ?_)
        clear hK23
        refine wp_block ?_
        refine Sx.wp_loopH (G := Nat) (fun k => [(48, .int .i64 (k : Int))]) (fun k => []) (fun k => k ≤ o.sn.length ∧ ∀ (t : Nat) q, t < k → o.sn[t]? = some q → sameV q.v (gtv (rawF ((L.map Dn.p).map Prod.fst) o.s true) q.key) = true) (fun k => o.sn.length - k) 0 (hT.keep [48, 47, 46, 11, 9, 10, 38, 37, 36, 35, 32, 8, 7, 17, 16, 4, 15, 14, 0] rfl) (H.keep [0, 1, 2] rfl rfl) (⟨Nat.zero_le _, fun t q h => by omega⟩) ?_
        clear hT H
        rintro k a w11 hJ hT H
        replace hT := hT.keep [48, 47, 46, 11, 9, 10, 38, 37, 36, 35, 32, 8, 7, 17, 16, 4, 15, 14, 0] rfl
        replace H := H.keep [0, 1, 2] rfl rfl
        obtain ⟨hk, hsj⟩ := hJ
        refine wp_seq_k fun K24 hK24 => ?_
        refine Sx.wp_text [(0, .take)] rfl ?_
        refine Sx.st_take hT rfl rfl rfl rfl ((fun w => Sx.x_lt w hT rfl rfl rfl)) ?_
        clear hT; intro a hT
        replace hT := hT.keep [49, 48, 47, 46, 11, 9, 10, 38, 37, 36, 35, 32, 8, 7, 17, 16, 4, 15, 14, 0] rfl
        refine Sx.ser_nil ?_
        refine Sx.then_normal (hK24 _ _ ?_)
        clear hK24
        refine wp_seq_k fun K25 hK25 => ?_
        refine Sx.wp_if hT rfl (fun hc26 => ?_) (fun hc26 => ?_)
        · try simp only [Sx.bq] at hc26
          obtain ⟨y, hy⟩ : ∃ q9, o.sn[k]? = some q9 := ⟨_, List.getElem?_eq_getElem (by omega)⟩
          have hyb := (hg o hom).2.1 y (List.mem_of_getElem? hy)
          refine wp_skip ?_
          refine Sx.then_normal (hK25 _ _ ?_)
          clear hK25
          refine wp_seq_k fun K27 hK27 => ?_
          refine wp_block ?_
          refine wp_seq_k fun K28 hK28 => ?_
          refine Sx.wp_text [(0, .take), (1, .run), (2, .run), (3, .run)] rfl ?_
          refine Sx.st_take hT rfl rfl rfl rfl (Sx.x_index (k := k) hT rfl Try.underlying49 Try.ti59 ((RG.at H.ext) o hom).sv rfl rfl (by first | rfl | omega) (by omega)) ?_
          clear hT; intro a hT
          refine Sx.st_run hT rfl rfl rfl rfl (Sx.y_loadS hT rfl Try.underlying59 Try.ti59 rfl (by first | exact ((H.blk 1 rfl).seg (k := 7) rfl) | exact (((RG.at H.ext) o hom).cs Sn.len hy)) (by rfl)) ?_
          clear hT; intro a hT
          refine Sx.st_eff hT rfl rfl rfl rfl (Sx.y_alloc hT rfl Try.ti59 rfl _) ?_
          clear hT; rintro _ w12 ⟨b4, rfl, N⟩ a hT
          replace H := H.new N; clear N
          refine Sx.st_act hT rfl rfl rfl (Sx.y_storeS hT rfl Try.ti59 rfl rfl rfl rfl rfl (H.blk 0 rfl) rfl) ?_
          rintro w13 ⟨hb, E, _⟩
          replace H := H.setB 0 rfl hb E rfl; clear hb E
          replace hT := hT.keep [13, 49, 48, 47, 46, 11, 9, 10, 38, 37, 36, 35, 32, 8, 7, 17, 16, 4, 15, 14, 0] rfl
          refine Sx.ser_nil ?_
          refine Sx.then_normal (hK28 _ _ ?_)
          clear hK28
          refine wp_seq_k fun K29 hK29 => ?_
          refine Sx.wp_text [(0, .take), (1, .run), (2, .take), (3, .take), (4, .run), (5, .run), (6, .run), (7, .take)] rfl ?_
          refine Sx.st_take hT rfl rfl rfl rfl (Sx.x_fieldAddr hT rfl Try.fa59_1 rfl) ?_
          clear hT; intro a hT
          refine Sx.st_run hT rfl rfl rfl rfl (Sx.y_loadS hT rfl Try.underlying39 Try.ti39 rfl ((H.blk 0 rfl).seg (k := 3) rfl) (by rfl)) ?_
          clear hT; intro a hT
          refine Sx.st_take hT rfl rfl rfl rfl (Sx.x_move hT rfl rfl) ?_
          clear hT; intro a hT
          refine Sx.st_take hT rfl rfl rfl rfl (Sx.x_fieldAddr hT rfl Try.fa59_0 rfl) ?_
          clear hT; intro a hT
          refine Sx.st_run hT rfl rfl rfl rfl (Sx.x_load1 hT rfl Try.fl9 rfl ((H.blk 0 rfl).nth rfl)) ?_
          clear hT; intro a hT
          refine Sx.st_run hT rfl rfl rfl rfl (Sx.x_lookup hT rfl Try.underlying81 (Go.Maps.string_keyed Try.underlying9) Try.ti39 rfl rfl (key_str Try.underlying9 y.key hyb) (H.mp 1 rfl)) ?_
          clear hT; intro a hT
          rw [look_g] at hT
          refine Sx.st_call hT rfl rfl rfl rfl rfl Try.can48 rfl (Same_calls y.v (gtv (rawF ((L.map Dn.p).map Prod.fst) o.s true) y.key) _) ?_
          rintro _ w14 ⟨rfl, E⟩
          refine ⟨_, rfl, ?_⟩
          clear hT; intro a hT
          replace H := H.pure E; clear E
          refine Sx.st_take hT rfl rfl rfl rfl (Sx.x_not hT rfl rfl) ?_
          clear hT; intro a hT
          replace hT := hT.keep [59, 13, 49, 48, 47, 46, 11, 9, 10, 38, 37, 36, 35, 32, 8, 7, 17, 16, 4, 15, 14, 0] rfl
          refine Sx.ser_nil ?_
          refine Sx.then_normal (hK29 _ _ ?_)
          clear hK29
          refine Sx.wp_if hT rfl (fun hc30 => ?_) (fun hc30 => ?_)
          · try simp only [Sx.bq] at hc30
            have hsn : sameV y.v (gtv (rawF ((L.map Dn.p).map Prod.fst) o.s true) y.key) = false := by simpa using hc30
            refine wp_seq_k fun K31 hK31 => ?_
            refine Sx.wp_text [(0, .take), (1, .take), (2, .take)] rfl ?_
            refine Sx.st_take hT rfl rfl rfl rfl (Sx.x_move hT rfl rfl) ?_
            clear hT; intro a hT
            refine Sx.st_take hT rfl rfl rfl rfl (Sx.x_assign hT rfl rfl) ?_
            clear hT; intro a hT
            refine Sx.st_take hT rfl rfl rfl rfl (Sx.x_assign hT rfl rfl) ?_
            clear hT; intro a hT
            replace hT := hT.keep [3, 2, 59, 13, 49, 48, 47, 46, 11, 9, 10, 38, 37, 36, 35, 32, 8, 7, 17, 16, 4, 15, 14, 0] rfl
            refine Sx.ser_nil ?_
            refine Sx.then_normal (hK31 _ _ ?_)
            clear hK31
            refine wp_ret ?_
            refine Sx.block_ret ?_
            refine Sx.then_ret ?_
            refine Sx.then_ret ?_
            refine Sx.block_ret ?_
            refine Sx.block_ret ?_
            refine Sx.then_ret ?_
            refine Sx.then_ret ?_
            refine Sx.block_ret ?_
            refine Sx.then_ret ?_
            refine Sx.done2 (fn := Try.f20) hT rfl (.tmp (hT.get 2 _ rfl)) (.tmp (hT.get 3 _ rfl)) ?_
            rw [rd_at hE (get_e ho) (List.any_eq_true.2 ⟨y, List.mem_of_getElem? hy, by show (!sameV y.v (gtv (rawF ((L.map Dn.p).map Prod.fst) o.s true) y.key)) = true; rw [hsn]; rfl⟩) (fun t q ht hq => by
              rw [List.getElem?_map] at hq
              cases h9 : L[t]? with
              | none => rw [h9] at hq; cases hq
              | some z => rw [h9] at hq; cases hq; exact hbd t z ht h9)]
            exact ⟨rfl, H.ext⟩
          · try simp only [Sx.bq] at hc30
            have hsn : sameV y.v (gtv (rawF ((L.map Dn.p).map Prod.fst) o.s true) y.key) = true := by simpa using hc30
            refine wp_skip ?_
            refine Sx.block_normal ?_
            refine Sx.then_normal (hK27 _ _ ?_)
            clear hK27
            refine Sx.wp_text [(0, .take), (1, .take)] rfl ?_
            refine Sx.st_take hT rfl rfl rfl rfl ((fun w => Sx.x_add w hT rfl rfl rfl (Sx.wrap64 (by omega)))) ?_
            clear hT; intro a hT
            refine Sx.st_take hT rfl rfl rfl rfl (Sx.x_move hT rfl rfl) ?_
            clear hT; intro a hT
            replace hT := hT.keep [48, 59, 13, 49, 47, 46, 11, 9, 10, 38, 37, 36, 35, 32, 8, 7, 17, 16, 4, 15, 14, 0] rfl
            refine Sx.ser_nil ?_
            refine Sx.then_normal ?_
            exact ⟨k + 1, ⟨by omega, fun t q h3 h4 => by rcases Nat.lt_or_ge t k with h5 | h5; exact hsj t q h5 h4; obtain rfl : t = k := (by omega); rw [hy] at h4; cases h4; exact hsn⟩, (hT.keep [48, 47, 46, 11, 9, 10, 38, 37, 36, 35, 32, 8, 7, 17, 16, 4, 15, 14, 0] rfl), (H.keep [1, 2, 3] rfl rfl), by omega⟩
        · try simp only [Sx.bq] at hc26
          have hkl : k = o.sn.length := by omega
          have hnb : badD ((L.map Dn.p).map Prod.fst) o.p = false := by
            show (o.sn.any _) = false
            refine any_take fun t q hq => ?_
            show (!sameV q.v _) = false
            rw [show gtv (rawF ((L.map Dn.p).map Prod.fst) o.p.1.s true) q.key = gtv (rawF ((L.map Dn.p).map Prod.fst) o.s true) q.key from rfl, hsj t q (by have := (List.getElem?_eq_some_iff.1 hq).1; omega) hq]; rfl
          refine wp_exit ?_
          refine Sx.then_exit ?_
          refine Sx.then_exit ?_
          refine Sx.block_exit ?_
          refine Sx.block_normal ?_
          refine Sx.then_normal (hK20 _ _ ?_)
          clear hK20
          refine Sx.wp_text [(0, .take), (1, .take)] rfl ?_
          refine Sx.st_take hT rfl rfl rfl rfl ((fun w => Sx.x_add w hT rfl rfl rfl (Sx.wrap64 (by omega)))) ?_
          clear hT; intro a hT
          refine Sx.st_take hT rfl rfl rfl rfl (Sx.x_move hT rfl rfl) ?_
          clear hT; intro a hT
          replace hT := hT.keep [37, 49, 48, 47, 46, 11, 9, 10, 38, 36, 35, 32, 8, 7, 17, 16, 4, 15, 14, 0] rfl
          refine Sx.ser_nil ?_
          refine Sx.then_normal ?_
          exact ⟨i + 1, ⟨by omega, fun t q h3 h4 => by rcases Nat.lt_or_ge t i with h5 | h5; exact hbd t q h5 h4; obtain rfl : t = i := (by omega); rw [ho] at h4; cases h4; exact hnb⟩, (hT.keep [37, 36, 35, 32, 8, 7, 17, 16, 4, 15, 14, 0] rfl), (H.keep [2] rfl rfl), by omega⟩
      · try simp only [Sx.bq] at hc19
        have hil : i = L.length := by omega
        refine wp_exit ?_
        refine Sx.then_exit ?_
        refine Sx.then_exit ?_
        refine Sx.block_exit ?_
        refine Sx.then_normal (hK15 _ _ ?_)
        clear hK15
        refine wp_seq_k fun K32 hK32 => ?_
        refine Sx.wp_text [(0, .take), (1, .take)] rfl ?_
        refine Sx.st_take hT rfl rfl rfl rfl (Sx.x_assign hT rfl rfl) ?_
        clear hT; intro a hT
        refine Sx.st_take hT rfl rfl rfl rfl (Sx.x_assign hT rfl rfl) ?_
        clear hT; intro a hT
        replace hT := hT.keep [3, 2, 38, 37, 36, 35, 32, 8, 7, 17, 16, 4, 15, 14, 0] rfl
        refine Sx.ser_nil ?_
        refine Sx.then_normal (hK32 _ _ ?_)
        clear hK32
        refine wp_ret ?_
        refine Sx.done2 (fn := Try.f20) hT rfl (.tmp (hT.get 2 _ rfl)) (.tmp (hT.get 3 _ rfl)) ?_
        rw [rd_no hE fun t q hq => by
          rw [List.getElem?_map] at hq
          cases h9 : L[t]? with
          | none => rw [h9] at hq; cases hq
          | some y => rw [h9] at hq; cases hq; exact hbd t y (by have := (List.getElem?_eq_some_iff.1 h9).1; omega) h9]
        exact ⟨rfl, H.ext⟩

theorem Reads25_calls {ad : Option Addr} {c : Nat} (L : List Dn) {w : World} (hs : Ss w ad Dn.cells 8 L) (hf : ∀ x ∈ L, Ss w x.ad Wt.cells 4 x.ws ∧ (x.ad = none → x.ws.length = 0 ∧ x.c = 0) ∧ x.ws.length ≤ 1000000) (hg : ∀ x ∈ L, Ss w x.sa Sn.cells 7 x.sn ∧ (∀ y ∈ x.sn, y.key.length ≤ 140737488351232) ∧ x.sn.length ≤ 9223372036854775806) (hl : L.length ≤ 1000000) (hsum : sumN (fun x : Dn => x.ws.length) L ≤ 900000) : Calls Try.prog 21 #[.slice ad L.length c] w fun e w' => e = .returned (.tuple #[.int .i64 (rdF (L.map Dn.p)).1, .int .i64 (rdF (L.map Dn.p)).2]) ∧ Ext No w w' := by
  have R : Ro w No _ := Ro.of fun w' x => hs.ext_no x
  have RF : Ro w No (fun u => ∀ x ∈ L, Ss u x.ad Wt.cells 4 x.ws) := Ro.of fun w' y x hx => ((hf x hx).1).ext_no y
  have RG : Ro w No (fun u => ∀ x ∈ L, Ss u x.sa Sn.cells 7 x.sn) := Ro.of fun w' y x hx => ((hg x hx).1).ext_no y
  have hem : (L.map Dn.e).map En.p = (L.map Dn.p).map Prod.fst := ents_map L
  refine Sx.calls_into Try.func21 rfl Try.ntmps21 rfl fun a hT => ?_
  replace hT := hT.keep [0] rfl
  have H : Sx.Hp w (Sx.No) w [] := Sx.Hp.start _ _
  refine wp_seq_k fun K1 hK1 => ?_
  refine Sx.wp_text [(0, .take), (1, .take)] rfl ?_
  refine Sx.st_take hT rfl rfl rfl rfl (Sx.x_assign hT rfl rfl) ?_
  clear hT; intro a hT
  refine Sx.st_take hT rfl rfl rfl rfl (Sx.x_assign hT rfl rfl) ?_
  clear hT; intro a hT
  replace hT := hT.keep [3, 2, 0] rfl
  refine Sx.ser_nil ?_
  refine Sx.then_normal (hK1 _ _ ?_)
  clear hK1
  refine wp_seq_k fun K2 hK2 => ?_
  refine Sx.wp_text [(0, .take)] rfl ?_
  refine Sx.st_take hT rfl rfl rfl rfl (Sx.x_assign hT rfl rfl) ?_
  clear hT; intro a hT
  replace hT := hT.keep [4, 3, 2, 0] rfl
  refine Sx.ser_nil ?_
  refine Sx.then_normal (hK2 _ _ ?_)
  clear hK2
  refine wp_seq_k fun K3 hK3 => ?_
  refine wp_seq_k fun K4 hK4 => ?_
  refine Sx.wp_text [(0, .take)] rfl ?_
  refine Sx.st_take hT rfl rfl rfl rfl (Sx.x_assign hT rfl rfl) ?_
  clear hT; intro a hT
  replace hT := hT.keep [5, 4, 3, 2, 0] rfl
  refine Sx.ser_nil ?_
  refine Sx.then_normal (hK4 _ _ ?_)
  clear hK4
  refine wp_block ?_
  replace H := H.nilR 36 7
  refine Sx.wp_loopH (G := Nat × Option Addr × Nat) (fun ⟨i, ad2, c2⟩ => [(5, .int .i64 (i : Int)), (4, .slice ad2 i c2)]) (fun ⟨i, ad2, c2⟩ => [cR 36 7 ad2 i c2 (((L.take i).map Dn.e).flatMap En.cells)]) (fun ⟨i, ad2, c2⟩ => i ≤ L.length) (fun ⟨i, ad2, c2⟩ => L.length - i) (0, none, 0) (hT.keep [5, 4, 3, 2, 0] rfl) (H.keep [0] rfl rfl) (Nat.zero_le _) ?_
  clear hT H
  rintro ⟨i, ad2, c2⟩ a w1 hJ hT H
  replace hT := hT.keep [5, 4, 3, 2, 0] rfl
  replace H := H.keep [0] rfl rfl
  have hi : i ≤ L.length := hJ
  refine wp_seq_k fun K5 hK5 => ?_
  refine wp_seq_k fun K6 hK6 => ?_
  refine Sx.wp_text [(0, .take), (1, .take), (2, .take), (3, .take)] rfl ?_
  refine Sx.st_take hT rfl rfl rfl rfl (Sx.x_move hT rfl rfl) ?_
  clear hT; intro a hT
  refine Sx.st_take hT rfl rfl rfl rfl (Sx.x_move hT rfl rfl) ?_
  clear hT; intro a hT
  refine Sx.st_take hT rfl rfl rfl rfl (Sx.x_len_slice hT rfl rfl Try.underlying47 rfl) ?_
  clear hT; intro a hT
  refine Sx.st_take hT rfl rfl rfl rfl ((fun w => Sx.x_lt w hT rfl rfl rfl)) ?_
  clear hT; intro a hT
  replace hT := hT.keep [15, 5, 4, 3, 2, 0] rfl
  refine Sx.ser_nil ?_
  refine Sx.then_normal (hK6 _ _ ?_)
  clear hK6
  refine Sx.wp_if hT rfl (fun hc7 => ?_) (fun hc7 => ?_)
  · try simp only [Sx.bq] at hc7
    obtain ⟨o, ho⟩ : ∃ q9, L[i]? = some q9 := ⟨_, List.getElem?_eq_getElem (by omega)⟩
    refine wp_skip ?_
    refine Sx.then_normal (hK5 _ _ ?_)
    clear hK5
    refine wp_seq_k fun K8 hK8 => ?_
    refine wp_block ?_
    refine Sx.wp_text [(0, .take), (1, .take), (2, .take), (3, .take), (4, .take), (5, .run), (6, .run), (7, .run), (8, .take)] rfl ?_
    refine Sx.st_take hT rfl rfl rfl rfl (Sx.x_move hT rfl rfl) ?_
    clear hT; intro a hT
    refine Sx.st_take hT rfl rfl rfl rfl (Sx.x_move hT rfl rfl) ?_
    clear hT; intro a hT
    refine Sx.st_take hT rfl rfl rfl rfl (Sx.x_move hT rfl rfl) ?_
    clear hT; intro a hT
    refine Sx.st_take hT rfl rfl rfl rfl (Sx.x_index (k := i) hT rfl Try.underlying47 Try.ti52 (R.at H.ext).sv rfl rfl (by first | rfl | omega) (by omega)) ?_
    clear hT; intro a hT
    refine Sx.st_take hT rfl rfl rfl rfl (Sx.x_fieldAddr hT rfl Try.fa52_0 rfl) ?_
    clear hT; intro a hT
    refine Sx.st_run hT rfl rfl rfl rfl (Sx.y_loadS hT rfl Try.underlying36 Try.ti36 rfl (by first | exact (((R.at H.ext).cs Dn.len ho).seg (i := 0) (k := 7) rfl) | exact (((R.at H.ext).cs Dn.len ho).seg (i := 3) (k := 3) rfl)) (by rfl)) ?_
    clear hT; intro a hT
    refine Sx.st_eff hT rfl rfl rfl rfl (Sx.y_slice1 hT rfl Try.underlying22 Try.ti36 rfl rfl rfl rfl rfl rfl _) ?_
    clear hT; rintro _ w2 ⟨b1, rfl, N⟩ a hT
    replace H := H.new N; clear N
    refine Sx.st_eff hT rfl rfl rfl rfl (Sx.x_append hT rfl rfl Try.underlying22 Try.ti36 rfl (by decide) rfl rfl (H.row 1 rfl) ((H.blk 0 rfl).sv1 rfl) (by simp [Value.oneCell']) (fun h => by cases h) (by unfold maxLen; omega) (by omega)) ?_
    rintro _ w3 ⟨ad3, c3, rfl, hr, E, hown, -⟩
    clear hT; intro a hT
    replace H := H.setR 1 rfl hr E hown rfl; clear hr E hown
    rw [tk_h ho] at H
    refine Sx.st_take hT rfl rfl rfl rfl (Sx.x_assign hT rfl rfl) ?_
    clear hT; intro a hT
    replace hT := hT.keep [4, 15, 5, 3, 2, 0] rfl
    refine Sx.ser_nil ?_
    refine Sx.block_normal ?_
    refine Sx.then_normal (hK8 _ _ ?_)
    clear hK8
    refine Sx.wp_text [(0, .take), (1, .take), (2, .take)] rfl ?_
    refine Sx.st_take hT rfl rfl rfl rfl (Sx.x_move hT rfl rfl) ?_
    clear hT; intro a hT
    refine Sx.st_take hT rfl rfl rfl rfl ((fun w => Sx.x_add w hT rfl rfl rfl (Sx.wrap64 (by omega)))) ?_
    clear hT; intro a hT
    refine Sx.st_take hT rfl rfl rfl rfl (Sx.x_assign hT rfl rfl) ?_
    clear hT; intro a hT
    replace hT := hT.keep [5, 4, 15, 3, 2, 0] rfl
    refine Sx.ser_nil ?_
    refine Sx.then_normal ?_
    exact ⟨(i + 1, ad3, c3), (show i + 1 ≤ _ by omega), (hT.keep [5, 4, 3, 2, 0] rfl), (H.keep [1] rfl rfl), by show _ - (i + 1) < _ - i; omega⟩
  · try simp only [Sx.bq] at hc7
    obtain rfl : i = L.length := by omega
    rw [List.take_length] at H
    rw [show cR 36 7 ad2 L.length c2 = cR 36 7 ad2 (L.map Dn.e).length c2 from by rw [List.length_map]] at H
    rw [show Value.slice ad2 L.length c2 = Value.slice ad2 (L.map Dn.e).length c2 from by rw [List.length_map]] at hT
    refine wp_exit ?_
    refine Sx.then_exit ?_
    refine Sx.then_exit ?_
    refine Sx.block_exit ?_
    refine Sx.then_normal (hK3 _ _ ?_)
    clear hK3
    refine wp_seq_k fun K9 hK9 => ?_
    refine Sx.wp_text [(0, .take), (1, .run), (2, .take), (3, .take), (4, .take), (5, .take), (6, .take), (7, .take), (8, .take)] rfl ?_
    refine Sx.st_take hT rfl rfl rfl rfl (Sx.x_move hT rfl rfl) ?_
    clear hT; intro a hT
    refine Sx.st_call hT rfl rfl rfl rfl rfl Try.can37 rfl (order_calls (L.map Dn.e) ((H.row 0 rfl).ssn rfl) (fun x hx => by obtain ⟨y, hy, rfl⟩ := List.mem_map.1 hx; exact ⟨(RF.at H.ext) y hy, (hf y hy).2.2⟩) (by rw [List.length_map]; omega)) ?_
    rintro _ w4 ⟨ad6, c6, L6, rfl, K, -⟩
    refine ⟨_, rfl, ?_⟩
    clear hT; intro a hT
    replace H := H.more K rfl; clear K
    rw [hem] at hT
    try rw [hem] at hT
    refine Sx.st_take hT rfl rfl rfl rfl (Sx.x_move hT rfl rfl) ?_
    clear hT; intro a hT
    refine Sx.st_take hT rfl rfl rfl rfl (Sx.x_extractL hT rfl rfl rfl) ?_
    clear hT; intro a hT
    refine Sx.st_take hT rfl rfl rfl rfl (Sx.x_extractL hT rfl rfl rfl) ?_
    clear hT; intro a hT
    refine Sx.st_take hT rfl rfl rfl rfl (Sx.x_extractL hT rfl rfl rfl) ?_
    clear hT; intro a hT
    refine Sx.st_take hT rfl rfl rfl rfl (Sx.x_assign hT rfl rfl) ?_
    clear hT; intro a hT
    refine Sx.st_take hT rfl rfl rfl rfl (Sx.x_assign hT rfl rfl) ?_
    clear hT; intro a hT
    refine Sx.st_take hT rfl rfl rfl rfl (Sx.x_assign hT rfl rfl) ?_
    clear hT; intro a hT
    replace hT := hT.keep [8, 7, 15, 5, 4, 3, 2, 0] rfl
    refine Sx.ser_nil ?_
    refine Sx.then_normal (hK9 _ _ ?_)
    clear hK9
    refine wp_seq_k fun K10 hK10 => ?_
    refine wp_seq_k fun K11 hK11 => ?_
    refine Sx.wp_text [(0, .take), (1, .take)] rfl ?_
    refine Sx.st_take hT rfl rfl rfl rfl (Sx.x_move hT rfl rfl) ?_
    clear hT; intro a hT
    refine Sx.st_take hT rfl rfl rfl rfl ((fun w => Sx.x_ne w hT rfl rfl rfl)) ?_
    clear hT; intro a hT
    replace hT := hT.keep [33, 8, 7, 15, 5, 4, 3, 2, 0] rfl
    refine Sx.ser_nil ?_
    refine Sx.then_normal (hK11 _ _ ?_)
    clear hK11
    refine Sx.wp_if hT rfl (fun hc12 => ?_) (fun hc12 => ?_)
    · try simp only [Sx.bq] at hc12
      have hE : (ordE ((L.map Dn.p).map Prod.fst)).2 ≠ 0 := hc12
      refine wp_seq_k fun K13 hK13 => ?_
      refine Sx.wp_text [(0, .take), (1, .take), (2, .take), (3, .take)] rfl ?_
      refine Sx.st_take hT rfl rfl rfl rfl (Sx.x_move hT rfl rfl) ?_
      clear hT; intro a hT
      refine Sx.st_take hT rfl rfl rfl rfl (Sx.x_move hT rfl rfl) ?_
      clear hT; intro a hT
      refine Sx.st_take hT rfl rfl rfl rfl (Sx.x_assign hT rfl rfl) ?_
      clear hT; intro a hT
      refine Sx.st_take hT rfl rfl rfl rfl (Sx.x_assign hT rfl rfl) ?_
      clear hT; intro a hT
      replace hT := hT.keep [3, 2, 33, 8, 7, 15, 5, 4, 0] rfl
      refine Sx.ser_nil ?_
      refine Sx.then_normal (hK13 _ _ ?_)
      clear hK13
      refine wp_ret ?_
      refine Sx.then_ret ?_
      refine Sx.done2 (fn := Try.f21) hT rfl (.tmp (hT.get 2 _ rfl)) (.tmp (hT.get 3 _ rfl)) ?_
      rw [rd_fault hE]
      exact ⟨rfl, H.ext⟩
    · try simp only [Sx.bq] at hc12
      have hE : (ordE ((L.map Dn.p).map Prod.fst)).2 = 0 := by simpa using hc12
      refine wp_skip ?_
      refine Sx.then_normal (hK10 _ _ ?_)
      clear hK10
      refine wp_seq_k fun K14 hK14 => ?_
      refine wp_seq_k fun K15 hK15 => ?_
      refine Sx.wp_text [(0, .take)] rfl ?_
      refine Sx.st_take hT rfl rfl rfl rfl (Sx.x_assign hT rfl rfl) ?_
      clear hT; intro a hT
      replace hT := hT.keep [9, 33, 8, 7, 15, 5, 4, 3, 2, 0] rfl
      refine Sx.ser_nil ?_
      refine Sx.then_normal (hK15 _ _ ?_)
      clear hK15
      refine wp_block ?_
      refine Sx.wp_loopH (G := Nat) (fun i => [(9, .int .i64 (i : Int))]) (fun i => []) (fun i => i ≤ L.length ∧ ∀ (t : Nat) q, t < i → L[t]? = some q → badD ((L.map Dn.p).map Prod.fst) q.p = false) (fun i => L.length - i) 0 (hT.keep [9, 33, 8, 7, 15, 5, 4, 0] rfl) (H.keep [0, 1, 2] rfl rfl) (⟨Nat.zero_le _, fun t q h => by omega⟩) ?_
      clear hT H
      rintro i a w5 hJ hT H
      replace hT := hT.keep [9, 33, 8, 7, 15, 5, 4, 0] rfl
      replace H := H.keep [0, 1, 2] rfl rfl
      obtain ⟨hi, hbd⟩ := hJ
      refine wp_seq_k fun K16 hK16 => ?_
      refine wp_seq_k fun K17 hK17 => ?_
      refine Sx.wp_text [(0, .take), (1, .take), (2, .take), (3, .take)] rfl ?_
      refine Sx.st_take hT rfl rfl rfl rfl (Sx.x_move hT rfl rfl) ?_
      clear hT; intro a hT
      refine Sx.st_take hT rfl rfl rfl rfl (Sx.x_move hT rfl rfl) ?_
      clear hT; intro a hT
      refine Sx.st_take hT rfl rfl rfl rfl (Sx.x_len_slice hT rfl rfl Try.underlying47 rfl) ?_
      clear hT; intro a hT
      refine Sx.st_take hT rfl rfl rfl rfl ((fun w => Sx.x_lt w hT rfl rfl rfl)) ?_
      clear hT; intro a hT
      replace hT := hT.keep [39, 9, 33, 8, 7, 15, 5, 4, 0] rfl
      refine Sx.ser_nil ?_
      refine Sx.then_normal (hK17 _ _ ?_)
      clear hK17
      refine Sx.wp_if hT rfl (fun hc18 => ?_) (fun hc18 => ?_)
      · try simp only [Sx.bq] at hc18
        obtain ⟨o, ho⟩ : ∃ q9, L[i]? = some q9 := ⟨_, List.getElem?_eq_getElem (by omega)⟩
        have hom := List.mem_of_getElem? ho
        have hgo := (hg o hom).2.2
        refine wp_skip ?_
        refine Sx.then_normal (hK16 _ _ ?_)
        clear hK16
        refine wp_seq_k fun K19 hK19 => ?_
        refine wp_block ?_
        refine wp_seq_k fun K20 hK20 => ?_
        refine Sx.wp_text [(0, .take), (1, .take), (2, .take), (3, .take), (4, .take), (5, .take), (6, .run), (7, .run), (8, .take)] rfl ?_
        refine Sx.st_take hT rfl rfl rfl rfl (Sx.x_move hT rfl rfl) ?_
        clear hT; intro a hT
        refine Sx.st_take hT rfl rfl rfl rfl (Sx.x_move hT rfl rfl) ?_
        clear hT; intro a hT
        refine Sx.st_take hT rfl rfl rfl rfl (Sx.x_move hT rfl rfl) ?_
        clear hT; intro a hT
        refine Sx.st_take hT rfl rfl rfl rfl (Sx.x_index (k := i) hT rfl Try.underlying47 Try.ti52 (R.at H.ext).sv rfl rfl (by first | rfl | omega) (by omega)) ?_
        clear hT; intro a hT
        refine Sx.st_take hT rfl rfl rfl rfl (Sx.x_fieldAddr hT rfl Try.fa52_0 rfl) ?_
        clear hT; intro a hT
        refine Sx.st_take hT rfl rfl rfl rfl (Sx.x_fieldAddr hT rfl Try.fa36_1 rfl) ?_
        clear hT; intro a hT
        refine Sx.st_run hT rfl rfl rfl rfl (Sx.y_loadS hT rfl Try.underlying24 Try.ti24 rfl (by first | exact (((R.at H.ext).cs Dn.len ho).seg (i := 0) (k := 7) rfl) | exact (((R.at H.ext).cs Dn.len ho).seg (i := 3) (k := 3) rfl)) (by rfl)) ?_
        clear hT; intro a hT
        refine Sx.st_call hT rfl rfl rfl rfl rfl Try.can18 rfl (Below25_calls (L.map Dn.e) o.s ((H.row 2 rfl).ssn rfl) (fun x hx => by obtain ⟨y, hy, rfl⟩ := List.mem_map.1 hx; exact (RF.at H.ext) y hy) (by rw [List.length_map]; omega) (by rw [wl_e]; exact hsum)) ?_
        rintro _ w6 ⟨ad7, c7, rfl, K⟩
        refine ⟨_, rfl, ?_⟩
        clear hT; intro a hT
        replace H := H.more K rfl; clear K
        rw [hem] at H hT
        have hmk : ((makesF ((L.map Dn.p).map Prod.fst) o.s true)).length ≤ 900000 := by have h7 := rawF_len (L.map Dn.e) o.s true; rw [hem, wl_e] at h7; have h8 := fil_len (rawF ((L.map Dn.p).map Prod.fst) o.s true); rw [fil_raw] at h8; omega
        refine Sx.st_take hT rfl rfl rfl rfl (Sx.x_assign hT rfl rfl) ?_
        clear hT; intro a hT
        replace hT := hT.keep [10, 39, 9, 33, 8, 7, 15, 5, 4, 0] rfl
        refine Sx.ser_nil ?_
        refine Sx.then_normal (hK20 _ _ ?_)
        clear hK20
        refine wp_seq_k fun K21 hK21 => ?_
        refine Sx.wp_text [(0, .take)] rfl ?_
        refine Sx.st_take hT rfl rfl rfl rfl (Sx.x_assign hT rfl rfl) ?_
        clear hT; intro a hT
        replace hT := hT.keep [11, 10, 39, 9, 33, 8, 7, 15, 5, 4, 0] rfl
        refine Sx.ser_nil ?_
        refine Sx.then_normal (hK21 _ _ ?_)
        clear hK21
        refine wp_block ?_
        refine Sx.wp_loopH (G := Nat) (fun k => [(11, .int .i64 (k : Int))]) (fun k => []) (fun k => k ≤ o.sn.length ∧ ∀ (t : Nat) q, t < k → o.sn[t]? = some q → sameV q.v (gtv (rawF ((L.map Dn.p).map Prod.fst) o.s true) q.key) = true) (fun k => o.sn.length - k) 0 (hT.keep [11, 10, 39, 9, 33, 8, 7, 15, 5, 4, 0] rfl) (H.keep [0, 1, 2, 3] rfl rfl) (⟨Nat.zero_le _, fun t q h => by omega⟩) ?_
        clear hT H
        rintro k a w7 hJ hT H
        replace hT := hT.keep [11, 10, 39, 9, 33, 8, 7, 15, 5, 4, 0] rfl
        replace H := H.keep [0, 1, 2, 3] rfl rfl
        obtain ⟨hk, hsj⟩ := hJ
        refine wp_seq_k fun K22 hK22 => ?_
        refine wp_seq_k fun K23 hK23 => ?_
        refine Sx.wp_text [(0, .take), (1, .take), (2, .take), (3, .take), (4, .take), (5, .run), (6, .take), (7, .take)] rfl ?_
        refine Sx.st_take hT rfl rfl rfl rfl (Sx.x_move hT rfl rfl) ?_
        clear hT; intro a hT
        refine Sx.st_take hT rfl rfl rfl rfl (Sx.x_move hT rfl rfl) ?_
        clear hT; intro a hT
        refine Sx.st_take hT rfl rfl rfl rfl (Sx.x_move hT rfl rfl) ?_
        clear hT; intro a hT
        refine Sx.st_take hT rfl rfl rfl rfl (Sx.x_index (k := i) hT rfl Try.underlying47 Try.ti52 (by first | exact (R.at H.ext).sv | exact ((RG.at H.ext) o hom).sv) rfl rfl (by first | rfl | omega) (by omega)) ?_
        clear hT; intro a hT
        refine Sx.st_take hT rfl rfl rfl rfl (Sx.x_fieldAddr hT rfl Try.fa52_1 rfl) ?_
        clear hT; intro a hT
        refine Sx.st_run hT rfl rfl rfl rfl (Sx.x_load1 hT rfl Try.fl49 rfl (by first | exact ((R.at H.ext).cell (j := 7) Dn.len ho rfl) | exact (((RG.at H.ext) o hom).cell (j := 0) Sn.len hy rfl))) ?_
        clear hT; intro a hT
        refine Sx.st_take hT rfl rfl rfl rfl (Sx.x_len_slice hT rfl rfl Try.underlying49 rfl) ?_
        clear hT; intro a hT
        refine Sx.st_take hT rfl rfl rfl rfl ((fun w => Sx.x_lt w hT rfl rfl rfl)) ?_
        clear hT; intro a hT
        replace hT := hT.keep [57, 11, 10, 39, 9, 33, 8, 7, 15, 5, 4, 0] rfl
        refine Sx.ser_nil ?_
        refine Sx.then_normal (hK23 _ _ ?_)
        clear hK23
        refine Sx.wp_if hT rfl (fun hc24 => ?_) (fun hc24 => ?_)
        · try simp only [Sx.bq] at hc24
          obtain ⟨y, hy⟩ : ∃ q9, o.sn[k]? = some q9 := ⟨_, List.getElem?_eq_getElem (by omega)⟩
          have hyb := (hg o hom).2.1 y (List.mem_of_getElem? hy)
          refine wp_skip ?_
          refine Sx.then_normal (hK22 _ _ ?_)
          clear hK22
          refine wp_seq_k fun K25 hK25 => ?_
          refine wp_block ?_
          refine wp_seq_k fun K26 hK26 => ?_
          refine Sx.wp_draws (fun u => Sx.Ext (Sx.No) u) [(0, .take), (1, .take), (2, .take), (3, .take), (4, .held), (5, .take), (6, .take), (7, .take), (8, .held), (9, .take), (10, .take), (11, .take), (12, .take), (13, .take), (14, .held), (15, .take), (16, .take), (17, .take), (18, .held), (19, .keep), (20, .run), (21, .take)] (by kernel_rfl) (by kernel_rfl) (fun u E _ => ?_)
          replace H := H.pure E; clear E
          have hH : Sx.Ext (Sx.No) u u := Sx.Ext.refl _ _
          have Hu := H
          refine Sx.st_take hT rfl rfl rfl rfl (Sx.x_move hT rfl rfl) ?_
          clear hT; intro a hT
          refine Sx.st_take hT rfl rfl rfl rfl (Sx.x_move hT rfl rfl) ?_
          clear hT; intro a hT
          refine Sx.st_take hT rfl rfl rfl rfl (Sx.x_index (k := i) hT rfl Try.underlying47 Try.ti52 (by first | exact (R.at H.ext).sv | exact ((RG.at H.ext) o hom).sv) rfl rfl (by first | rfl | omega) (by omega)) ?_
          clear hT; intro a hT
          refine Sx.st_take hT rfl rfl rfl rfl (Sx.x_fieldAddr hT rfl Try.fa52_1 rfl) ?_
          clear hT; intro a hT
          refine Sx.st_held hT rfl rfl rfl rfl hH (fun w' h' => Sx.x_load1 hT rfl Try.fl49 rfl (by first | exact ((R.at (Hu.ext.step h')).cell (j := 7) Dn.len ho rfl) | exact (((RG.at (Hu.ext.step h')) o hom).cell (j := 0) Sn.len hy rfl))) ?_
          clear hT; intro a hT
          refine Sx.st_take hT rfl rfl rfl rfl (Sx.x_move hT rfl rfl) ?_
          clear hT; intro a hT
          refine Sx.st_take hT rfl rfl rfl rfl (Sx.x_index (k := k) hT rfl Try.underlying49 Try.ti59 (by first | exact (R.at H.ext).sv | exact ((RG.at H.ext) o hom).sv) rfl rfl (by first | rfl | omega) (by omega)) ?_
          clear hT; intro a hT
          refine Sx.st_take hT rfl rfl rfl rfl (Sx.x_fieldAddr hT rfl Try.fa59_1 rfl) ?_
          clear hT; intro a hT
          refine Sx.st_held hT rfl rfl rfl rfl hH (fun w' h' => Sx.y_loadS hT rfl Try.underlying39 Try.ti39 rfl ((((RG.at (Hu.ext.step h')) o hom).cs Sn.len hy).seg (i := 1) (k := 3) rfl) (by rfl)) ?_
          clear hT; intro a hT
          refine Sx.st_take hT rfl rfl rfl rfl (Sx.x_move hT rfl rfl) ?_
          clear hT; intro a hT
          refine Sx.st_take hT rfl rfl rfl rfl (Sx.x_move hT rfl rfl) ?_
          clear hT; intro a hT
          refine Sx.st_take hT rfl rfl rfl rfl (Sx.x_move hT rfl rfl) ?_
          clear hT; intro a hT
          refine Sx.st_take hT rfl rfl rfl rfl (Sx.x_index (k := i) hT rfl Try.underlying47 Try.ti52 (by first | exact (R.at H.ext).sv | exact ((RG.at H.ext) o hom).sv) rfl rfl (by first | rfl | omega) (by omega)) ?_
          clear hT; intro a hT
          refine Sx.st_take hT rfl rfl rfl rfl (Sx.x_fieldAddr hT rfl Try.fa52_1 rfl) ?_
          clear hT; intro a hT
          refine Sx.st_held hT rfl rfl rfl rfl hH (fun w' h' => Sx.x_load1 hT rfl Try.fl49 rfl (by first | exact ((R.at (Hu.ext.step h')).cell (j := 7) Dn.len ho rfl) | exact (((RG.at (Hu.ext.step h')) o hom).cell (j := 0) Sn.len hy rfl))) ?_
          clear hT; intro a hT
          refine Sx.st_take hT rfl rfl rfl rfl (Sx.x_move hT rfl rfl) ?_
          clear hT; intro a hT
          refine Sx.st_take hT rfl rfl rfl rfl (Sx.x_index (k := k) hT rfl Try.underlying49 Try.ti59 (by first | exact (R.at H.ext).sv | exact ((RG.at H.ext) o hom).sv) rfl rfl (by first | rfl | omega) (by omega)) ?_
          clear hT; intro a hT
          refine Sx.st_take hT rfl rfl rfl rfl (Sx.x_fieldAddr hT rfl Try.fa59_0 rfl) ?_
          clear hT; intro a hT
          refine Sx.st_held hT rfl rfl rfl rfl hH (fun w' h' => Sx.x_load1 hT rfl Try.fl9 rfl (by first | exact ((R.at (Hu.ext.step h')).cell (j := 7) Dn.len ho rfl) | exact (((RG.at (Hu.ext.step h')) o hom).cell (j := 0) Sn.len hy rfl))) ?_
          clear hT; intro a hT
          refine Sx.st_callkeep hT rfl rfl rfl rfl rfl Try.can22 rfl (Value25_calls (makesF ((L.map Dn.p).map Prod.fst) o.s true) y.key ((H.row 0 rfl).ssn rfl) (by omega)) ?_
          rintro _ w8 ⟨rfl, E⟩
          refine ⟨_, rfl, hH.step E, ?_⟩
          replace hH := hH.step E
          clear hT; intro a hT
          replace H := H.pure E; clear E
          rw [show gtv (makesF ((L.map Dn.p).map Prod.fst) o.s true) y.key = gtv (rawF ((L.map Dn.p).map Prod.fst) o.s true) y.key from by rw [← fil_raw, gtv_fil (goodR_raw _ _ _)]] at hT
          refine Sx.st_call hT rfl rfl rfl rfl rfl Try.can23 rfl (xSame_calls y.v (gtv (rawF ((L.map Dn.p).map Prod.fst) o.s true) y.key) _) ?_
          rintro _ w9 ⟨rfl, E⟩
          refine ⟨_, rfl, ?_⟩
          clear hT; intro a hT
          replace H := H.pure E; clear E
          refine Sx.st_take hT rfl rfl rfl rfl (Sx.x_not hT rfl rfl) ?_
          clear hT; intro a hT
          replace hT := hT.keep [81, 57, 11, 10, 39, 9, 33, 8, 7, 15, 5, 4, 0] rfl
          clear Hu hH
          refine Sx.ser_calm ?_
          refine Sx.then_normal (hK26 _ _ ?_)
          clear hK26
          refine Sx.wp_if hT rfl (fun hc27 => ?_) (fun hc27 => ?_)
          · try simp only [Sx.bq] at hc27
            have hsn : sameV y.v (gtv (rawF ((L.map Dn.p).map Prod.fst) o.s true) y.key) = false := by simpa using hc27
            refine wp_seq_k fun K28 hK28 => ?_
            refine Sx.wp_text [(0, .take), (1, .take), (2, .take)] rfl ?_
            refine Sx.st_take hT rfl rfl rfl rfl (Sx.x_move hT rfl rfl) ?_
            clear hT; intro a hT
            refine Sx.st_take hT rfl rfl rfl rfl (Sx.x_assign hT rfl rfl) ?_
            clear hT; intro a hT
            refine Sx.st_take hT rfl rfl rfl rfl (Sx.x_assign hT rfl rfl) ?_
            clear hT; intro a hT
            replace hT := hT.keep [3, 2, 81, 57, 11, 10, 39, 9, 33, 8, 7, 15, 5, 4, 0] rfl
            refine Sx.ser_nil ?_
            refine Sx.then_normal (hK28 _ _ ?_)
            clear hK28
            refine wp_ret ?_
            refine Sx.block_ret ?_
            refine Sx.then_ret ?_
            refine Sx.then_ret ?_
            refine Sx.block_ret ?_
            refine Sx.block_ret ?_
            refine Sx.then_ret ?_
            refine Sx.then_ret ?_
            refine Sx.block_ret ?_
            refine Sx.then_ret ?_
            refine Sx.done2 (fn := Try.f21) hT rfl (.tmp (hT.get 2 _ rfl)) (.tmp (hT.get 3 _ rfl)) ?_
            rw [rd_at hE (get_e ho) (List.any_eq_true.2 ⟨y, List.mem_of_getElem? hy, by show (!sameV y.v (gtv (rawF ((L.map Dn.p).map Prod.fst) o.s true) y.key)) = true; rw [hsn]; rfl⟩) (fun t q ht hq => by
              rw [List.getElem?_map] at hq
              cases h9 : L[t]? with
              | none => rw [h9] at hq; cases hq
              | some z => rw [h9] at hq; cases hq; exact hbd t z ht h9)]
            exact ⟨rfl, H.ext⟩
          · try simp only [Sx.bq] at hc27
            have hsn : sameV y.v (gtv (rawF ((L.map Dn.p).map Prod.fst) o.s true) y.key) = true := by simpa using hc27
            refine wp_skip ?_
            refine Sx.block_normal ?_
            refine Sx.then_normal (hK25 _ _ ?_)
            clear hK25
            refine Sx.wp_text [(0, .take), (1, .take), (2, .take)] rfl ?_
            refine Sx.st_take hT rfl rfl rfl rfl (Sx.x_move hT rfl rfl) ?_
            clear hT; intro a hT
            refine Sx.st_take hT rfl rfl rfl rfl ((fun w => Sx.x_add w hT rfl rfl rfl (Sx.wrap64 (by omega)))) ?_
            clear hT; intro a hT
            refine Sx.st_take hT rfl rfl rfl rfl (Sx.x_assign hT rfl rfl) ?_
            clear hT; intro a hT
            replace hT := hT.keep [11, 81, 57, 10, 39, 9, 33, 8, 7, 15, 5, 4, 0] rfl
            refine Sx.ser_nil ?_
            refine Sx.then_normal ?_
            exact ⟨k + 1, ⟨by omega, fun t q h3 h4 => by rcases Nat.lt_or_ge t k with h5 | h5; exact hsj t q h5 h4; obtain rfl : t = k := (by omega); rw [hy] at h4; cases h4; exact hsn⟩, (hT.keep [11, 10, 39, 9, 33, 8, 7, 15, 5, 4, 0] rfl), (H.keep [0, 1, 2, 3] rfl rfl), by omega⟩
        · try simp only [Sx.bq] at hc24
          have hkl : k = o.sn.length := by omega
          have hnb : badD ((L.map Dn.p).map Prod.fst) o.p = false := by
            show (o.sn.any _) = false
            refine any_take fun t q hq => ?_
            show (!sameV q.v _) = false
            rw [show gtv (rawF ((L.map Dn.p).map Prod.fst) o.p.1.s true) q.key = gtv (rawF ((L.map Dn.p).map Prod.fst) o.s true) q.key from rfl, hsj t q (by have := (List.getElem?_eq_some_iff.1 hq).1; omega) hq]; rfl
          refine wp_exit ?_
          refine Sx.then_exit ?_
          refine Sx.then_exit ?_
          refine Sx.block_exit ?_
          refine Sx.block_normal ?_
          refine Sx.then_normal (hK19 _ _ ?_)
          clear hK19
          refine Sx.wp_text [(0, .take), (1, .take), (2, .take)] rfl ?_
          refine Sx.st_take hT rfl rfl rfl rfl (Sx.x_move hT rfl rfl) ?_
          clear hT; intro a hT
          refine Sx.st_take hT rfl rfl rfl rfl ((fun w => Sx.x_add w hT rfl rfl rfl (Sx.wrap64 (by omega)))) ?_
          clear hT; intro a hT
          refine Sx.st_take hT rfl rfl rfl rfl (Sx.x_assign hT rfl rfl) ?_
          clear hT; intro a hT
          replace hT := hT.keep [9, 57, 11, 10, 39, 33, 8, 7, 15, 5, 4, 0] rfl
          refine Sx.ser_nil ?_
          refine Sx.then_normal ?_
          exact ⟨i + 1, ⟨by omega, fun t q h3 h4 => by rcases Nat.lt_or_ge t i with h5 | h5; exact hbd t q h5 h4; obtain rfl : t = i := (by omega); rw [ho] at h4; cases h4; exact hnb⟩, (hT.keep [9, 33, 8, 7, 15, 5, 4, 0] rfl), (H.keep [1, 2, 3] rfl rfl), by omega⟩
      · try simp only [Sx.bq] at hc18
        have hil : i = L.length := by omega
        refine wp_exit ?_
        refine Sx.then_exit ?_
        refine Sx.then_exit ?_
        refine Sx.block_exit ?_
        refine Sx.then_normal (hK14 _ _ ?_)
        clear hK14
        refine wp_seq_k fun K29 hK29 => ?_
        refine Sx.wp_text [(0, .take), (1, .take)] rfl ?_
        refine Sx.st_take hT rfl rfl rfl rfl (Sx.x_assign hT rfl rfl) ?_
        clear hT; intro a hT
        refine Sx.st_take hT rfl rfl rfl rfl (Sx.x_assign hT rfl rfl) ?_
        clear hT; intro a hT
        replace hT := hT.keep [3, 2, 39, 9, 33, 8, 7, 15, 5, 4, 0] rfl
        refine Sx.ser_nil ?_
        refine Sx.then_normal (hK29 _ _ ?_)
        clear hK29
        refine wp_ret ?_
        refine Sx.done2 (fn := Try.f21) hT rfl (.tmp (hT.get 2 _ rfl)) (.tmp (hT.get 3 _ rfl)) ?_
        rw [rd_no hE fun t q hq => by
          rw [List.getElem?_map] at hq
          cases h9 : L[t]? with
          | none => rw [h9] at hq; cases hq
          | some y => rw [h9] at hq; cases hq; exact hbd t y (by have := (List.getElem?_eq_some_iff.1 h9).1; omega) h9]
        exact ⟨rfl, H.ext⟩

end Go.Proofs.Ytpggijfpkgglmaa
