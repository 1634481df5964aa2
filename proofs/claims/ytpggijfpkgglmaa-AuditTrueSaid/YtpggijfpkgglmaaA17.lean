/- Walks: AuditTrue. -/
import Derived.Test.YtpggijfpkgglmaaA15
import Derived.Test.YtpggijfpkgglmaaA16
set_option linter.unusedSimpArgs false
set_option linter.unusedVariables false
namespace Go.Proofs.Ytpggijfpkgglmaa
open Sx
theorem Try.can5 : Sx.Can Try.prog 5 := ⟨_, Try.func5, by kernel_rfl, rfl⟩
set_option maxHeartbeats 2000000 in
theorem True_all {ad : Option Addr} {c : Nat} (l : List En) (at9 : Int) (v9 : Vl) {w : World} (hs : Ss w ad En.cells 7 l) (hw : ∀ x ∈ l, Ss w x.ad Wt.cells 4 x.ws ∧ (∀ y ∈ x.ws, y.wf) ∧ x.ws.length ≤ 9223372036854775806 ∧ (x.ad = none → x.ws.length = 0 ∧ x.c = 0)) (hc : l.length ≤ c) (hl : l.length ≤ 9223372036854775806) (ha1 : -9223372036854775808 ≤ at9) (ha2 : at9 ≤ 9223372036854775807) : Calls Try.prog 5 #[.slice ad l.length c, .int .i64 at9, .agg #[.int .i64 v9.k, .float .f64 v9.num, .string ⟨v9.tx.toArray⟩]] w fun e w' => e = .returned (.bool true) ∧ Ext No w w' := by
  have R : Ro w No _ := Ro.of fun w' x => hs.ext_no x
  have RM : Ro w No (fun u => ∀ x ∈ l, Ss u x.ad Wt.cells 4 x.ws) := Ro.of fun w' y x hx => ((hw x hx).1).ext_no y
  refine Sx.calls_into Try.func5 rfl Try.ntmps5 rfl fun a hT => ?_
  replace hT := hT.keep [0, 1, 2] rfl
  have H : Sx.Hp w (Sx.No) w [] := Sx.Hp.start _ _
  refine wp_seq_k fun K1 hK1 => ?_
  refine Sx.wp_text [(0, .run), (1, .take)] rfl ?_
  refine Sx.st_eff hT rfl rfl rfl rfl (Sx.y_box hT rfl rfl rfl _) ?_
  clear hT; rintro _ w1 ⟨b1, rfl, N⟩ a hT
  replace H := H.new N; clear N
  refine Sx.st_take hT rfl rfl rfl rfl (Sx.x_assign hT rfl rfl) ?_
  clear hT; intro a hT
  replace hT := hT.keep [6, 5, 0, 1, 2] rfl
  refine Sx.ser_nil ?_
  refine Sx.then_normal (hK1 _ _ ?_)
  clear hK1
  refine wp_seq_k fun K2 hK2 => ?_
  refine wp_seq_k fun K3 hK3 => ?_
  refine Sx.wp_text [(0, .run), (1, .take)] rfl ?_
  refine Sx.st_call hT rfl rfl rfl rfl rfl Try.can8 rfl (first_calls _) ?_
  rintro _ w2 ⟨rfl, E⟩
  refine ⟨_, rfl, ?_⟩
  clear hT; intro a hT
  replace H := H.pure E; clear E
  refine Sx.st_take hT rfl rfl rfl rfl (Sx.x_not hT rfl rfl) ?_
  clear hT; intro a hT
  replace hT := hT.keep [20, 6, 5, 0, 1, 2] rfl
  refine Sx.ser_nil ?_
  refine Sx.then_normal (hK3 _ _ ?_)
  clear hK3
  refine Sx.wp_if hT rfl (fun h => by cases h) (fun _ => ?_)
  refine wp_skip ?_
  refine Sx.then_normal (hK2 _ _ ?_)
  clear hK2
  refine wp_seq_k fun K4 hK4 => ?_
  refine wp_seq_k fun K5 hK5 => ?_
  refine Sx.wp_text [(0, .take), (1, .run), (2, .take), (3, .take), (4, .take), (5, .run), (6, .take), (7, .take), (8, .take)] rfl ?_
  refine Sx.st_take hT rfl rfl rfl rfl (Sx.x_move hT rfl rfl) ?_
  clear hT; intro a hT
  refine Sx.st_call hT rfl rfl rfl rfl rfl Try.can9 rfl (few_calls l (R.at H.ext) (fun x hx => ⟨(RM.at H.ext) x hx, (hw x hx).2.1, (hw x hx).2.2.1⟩) hl) ?_
  rintro _ w3 ⟨b9, rfl, hb9, E⟩
  refine ⟨_, rfl, ?_⟩
  clear hT; intro a hT
  replace H := H.pure E; clear E
  refine Sx.st_take hT rfl rfl rfl rfl (Sx.x_not hT rfl rfl) ?_
  clear hT; intro a hT
  refine Sx.st_take hT rfl rfl rfl rfl (Sx.x_move hT rfl rfl) ?_
  clear hT; intro a hT
  refine Sx.Sl.two hT 24 rfl (fun hc6 hT => ?_) (fun hc6 hT => ?_)
  · try simp only [Sx.bq] at hc6
    refine Sx.st_skip hT rfl rfl rfl rfl ?_
    clear hT; intro a hT
    refine Sx.st_runskip hT rfl rfl rfl rfl ?_
    clear hT; intro a hT
    refine Sx.st_skip hT rfl rfl rfl rfl ?_
    clear hT; intro a hT
    refine Sx.st_skip hT rfl rfl rfl rfl ?_
    clear hT; intro a hT
    refine Sx.st_take hT rfl rfl rfl rfl (Sx.x_pick_t hT rfl rfl rfl) ?_
    clear hT; intro a hT
    replace hT := hT.keep [29, 20, 6, 5, 0, 1, 2] rfl
    refine Sx.ser_nil ?_
    refine Sx.then_normal (hK5 _ _ ?_)
    clear hK5
    refine Sx.wp_if hT rfl (fun _ => ?_) (fun h => by cases h)
    refine wp_seq_k fun K7 hK7 => ?_
    refine Sx.wp_text [(0, .run), (1, .take)] rfl ?_
    refine Sx.st_call hT rfl rfl rfl rfl rfl Try.can8 rfl (first_calls _) ?_
    rintro _ w4 ⟨rfl, E⟩
    refine ⟨_, rfl, ?_⟩
    clear hT; intro a hT
    replace H := H.pure E; clear E
    refine Sx.st_take hT rfl rfl rfl rfl (Sx.x_assign hT rfl rfl) ?_
    clear hT; intro a hT
    replace hT := hT.keep [6, 29, 20, 5, 0, 1, 2] rfl
    refine Sx.ser_nil ?_
    refine Sx.then_normal (hK7 _ _ ?_)
    clear hK7
    refine wp_ret ?_
    refine Sx.then_ret ?_
    refine Sx.done1 (fn := Try.f5) hT rfl (.tmp (hT.get 6 _ rfl)) ?_
    exact ⟨ret_b (by simp), H.ext⟩
  · try simp only [Sx.bq] at hc6
    have hbt : b9 = true := by simpa using hc6
    refine Sx.st_take hT rfl rfl rfl rfl (Sx.x_fieldAddr hT rfl Try.fa39_2 rfl) ?_
    clear hT; intro a hT
    refine Sx.st_run hT rfl rfl rfl rfl (Sx.x_load1 hT rfl Try.fl9 rfl ((H.blk 0 rfl).nth rfl)) ?_
    clear hT; intro a hT
    refine Sx.st_take hT rfl rfl rfl rfl (Sx.x_lenStr hT rfl rfl Try.underlying9 rfl) ?_
    clear hT; intro a hT
    refine Sx.st_take hT rfl rfl rfl rfl ((fun w => Sx.x_gt w hT rfl rfl rfl)) ?_
    clear hT; intro a hT
    refine Sx.st_take hT rfl rfl rfl rfl (Sx.x_pick_f hT rfl rfl rfl) ?_
    clear hT; intro a hT
    replace hT := hT.keep [29, 20, 6, 5, 0, 1, 2] rfl
    refine Sx.ser_nil ?_
    refine Sx.then_normal (hK5 _ _ ?_)
    clear hK5
    refine Sx.wp_if hT rfl (fun hc8 => ?_) (fun hc8 => ?_)
    · try simp only [Sx.bq] at hc8
      refine wp_seq_k fun K9 hK9 => ?_
      refine Sx.wp_text [(0, .run), (1, .take)] rfl ?_
      refine Sx.st_call hT rfl rfl rfl rfl rfl Try.can8 rfl (first_calls _) ?_
      rintro _ w5 ⟨rfl, E⟩
      refine ⟨_, rfl, ?_⟩
      clear hT; intro a hT
      replace H := H.pure E; clear E
      refine Sx.st_take hT rfl rfl rfl rfl (Sx.x_assign hT rfl rfl) ?_
      clear hT; intro a hT
      replace hT := hT.keep [6, 29, 20, 5, 0, 1, 2] rfl
      refine Sx.ser_nil ?_
      refine Sx.then_normal (hK9 _ _ ?_)
      clear hK9
      refine wp_ret ?_
      refine Sx.then_ret ?_
      refine Sx.done1 (fn := Try.f5) hT rfl (.tmp (hT.get 6 _ rfl)) ?_
      exact ⟨ret_b (by simp), H.ext⟩
    · try simp only [Sx.bq] at hc8
      obtain ⟨hl1, hsum0⟩ := hb9 hbt
      obtain ⟨hsum, hws⟩ := few_len hsum0
      refine wp_skip ?_
      refine Sx.then_normal (hK4 _ _ ?_)
      clear hK4
      refine wp_seq_k fun K10 hK10 => ?_
      refine Sx.wp_text [(0, .take), (1, .run), (2, .take), (3, .take), (4, .take), (5, .take), (6, .take)] rfl ?_
      refine Sx.st_take hT rfl rfl rfl rfl (Sx.x_move hT rfl rfl) ?_
      clear hT; intro a hT
      refine Sx.st_call hT rfl rfl rfl rfl rfl Try.can11 rfl (OrderA_calls l (R.at H.ext) (fun x hx => ⟨(RM.at H.ext) x hx, (hw x hx).2.2.2, by have := hws x hx; omega⟩) (by omega) hc) ?_
      rintro _ w6 ⟨ada, ca, L1, rfl, K, -⟩
      refine ⟨_, rfl, ?_⟩
      clear hT; intro a hT
      replace H := H.more K rfl; clear K
      refine Sx.st_take hT rfl rfl rfl rfl (Sx.x_move hT rfl rfl) ?_
      clear hT; intro a hT
      refine Sx.st_take hT rfl rfl rfl rfl (Sx.x_extractL hT rfl rfl rfl) ?_
      clear hT; intro a hT
      refine Sx.st_take hT rfl rfl rfl rfl (Sx.x_extractL hT rfl rfl rfl) ?_
      clear hT; intro a hT
      refine Sx.st_take hT rfl rfl rfl rfl (Sx.x_assign hT rfl rfl) ?_
      clear hT; intro a hT
      refine Sx.st_take hT rfl rfl rfl rfl (Sx.x_assign hT rfl rfl) ?_
      clear hT; intro a hT
      replace hT := hT.keep [8, 29, 20, 6, 5, 0, 1, 2] rfl
      refine Sx.ser_nil ?_
      refine Sx.then_normal (hK10 _ _ ?_)
      clear hK10
      refine wp_seq_k fun K11 hK11 => ?_
      refine wp_seq_k fun K12 hK12 => ?_
      refine Sx.wp_text [(0, .take), (1, .take)] rfl ?_
      refine Sx.st_take hT rfl rfl rfl rfl (Sx.x_move hT rfl rfl) ?_
      clear hT; intro a hT
      refine Sx.st_take hT rfl rfl rfl rfl ((fun w => Sx.x_ne w hT rfl rfl rfl)) ?_
      clear hT; intro a hT
      replace hT := hT.keep [37, 8, 29, 20, 6, 5, 0, 1, 2] rfl
      refine Sx.ser_nil ?_
      refine Sx.then_normal (hK12 _ _ ?_)
      clear hK12
      refine Sx.wp_if hT rfl (fun hc13 => ?_) (fun hc13 => ?_)
      · try simp only [Sx.bq] at hc13
        refine wp_seq_k fun K14 hK14 => ?_
        refine Sx.wp_text [(0, .run), (1, .take)] rfl ?_
        refine Sx.st_call hT rfl rfl rfl rfl rfl Try.can8 rfl (first_calls _) ?_
        rintro _ w7 ⟨rfl, E⟩
        refine ⟨_, rfl, ?_⟩
        clear hT; intro a hT
        replace H := H.pure E; clear E
        refine Sx.st_take hT rfl rfl rfl rfl (Sx.x_assign hT rfl rfl) ?_
        clear hT; intro a hT
        replace hT := hT.keep [6, 37, 8, 29, 20, 5, 0, 1, 2] rfl
        refine Sx.ser_nil ?_
        refine Sx.then_normal (hK14 _ _ ?_)
        clear hK14
        refine wp_ret ?_
        refine Sx.then_ret ?_
        refine Sx.done1 (fn := Try.f5) hT rfl (.tmp (hT.get 6 _ rfl)) ?_
        exact ⟨ret_b (by simp), H.ext⟩
      · try simp only [Sx.bq] at hc13
        have hE : (ordE (l.map En.p)).2 = 0 := by simpa using hc13
        refine wp_skip ?_
        refine Sx.then_normal (hK11 _ _ ?_)
        clear hK11
        refine wp_seq_k fun K15 hK15 => ?_
        refine Sx.wp_text [(0, .take)] rfl ?_
        refine Sx.st_take hT rfl rfl rfl rfl (Sx.x_assign hT rfl rfl) ?_
        clear hT; intro a hT
        replace hT := hT.keep [9, 37, 8, 29, 20, 6, 5, 0, 1, 2] rfl
        refine Sx.ser_nil ?_
        refine Sx.then_normal (hK15 _ _ ?_)
        clear hK15
        refine wp_seq_k fun K16 hK16 => ?_
        refine wp_seq_k fun K17 hK17 => ?_
        refine Sx.wp_text [(0, .take)] rfl ?_
        refine Sx.st_take hT rfl rfl rfl rfl (Sx.x_assign hT rfl rfl) ?_
        clear hT; intro a hT
        replace hT := hT.keep [10, 9, 37, 8, 29, 20, 6, 5, 0, 1, 2] rfl
        refine Sx.ser_nil ?_
        refine Sx.then_normal (hK17 _ _ ?_)
        clear hK17
        refine wp_block ?_
        replace H := H.nilR 51 8
        replace H := H.famNil (α := Dn) 59 7 Dn.rw
        refine Sx.wp_loopH (G := Nat × List Dn × Option Addr × Nat) (fun ⟨i, L, ad2, c2⟩ => [(10, .int .i64 (i : Int)), (9, .slice ad2 L.length c2)]) (fun ⟨i, L, ad2, c2⟩ => [cF 59 7 Dn.rw (L), cR 51 8 ad2 (L).length c2 ((L).flatMap Dn.cells)]) (fun ⟨i, L, ad2, c2⟩ => i ≤ l.length ∧ L.map Dn.q = (l.take i).map (fun x => (x, seenF (l.map En.p) x.p)) ∧ L.length = i) (fun ⟨i, L, ad2, c2⟩ => l.length - i) (0, [], none, 0) (hT.keep [10, 9, 37, 8, 29, 20, 6, 5, 0, 1, 2] rfl) (H.keep [0, 1, 2, 3, 4] rfl rfl) (⟨Nat.zero_le _, (by simp), rfl⟩) ?_
        clear hT H
        rintro ⟨i, L, ad2, c2⟩ a w8 hJ hT H
        replace hT := hT.keep [10, 9, 37, 8, 29, 20, 6, 5, 0, 1, 2] rfl
        replace H := H.keep [0, 1, 2, 3, 4] rfl rfl
        obtain ⟨hi, hL, hLi⟩ := hJ
        refine wp_seq_k fun K18 hK18 => ?_
        refine wp_seq_k fun K19 hK19 => ?_
        refine Sx.wp_text [(0, .take), (1, .take), (2, .take), (3, .take)] rfl ?_
        refine Sx.st_take hT rfl rfl rfl rfl (Sx.x_move hT rfl rfl) ?_
        clear hT; intro a hT
        refine Sx.st_take hT rfl rfl rfl rfl (Sx.x_move hT rfl rfl) ?_
        clear hT; intro a hT
        refine Sx.st_take hT rfl rfl rfl rfl (Sx.x_len_slice hT rfl rfl Try.underlying22 rfl) ?_
        clear hT; intro a hT
        refine Sx.st_take hT rfl rfl rfl rfl ((fun w => Sx.x_lt w hT rfl rfl rfl)) ?_
        clear hT; intro a hT
        replace hT := hT.keep [42, 10, 9, 37, 8, 29, 20, 6, 5, 0, 1, 2] rfl
        refine Sx.ser_nil ?_
        refine Sx.then_normal (hK19 _ _ ?_)
        clear hK19
        refine Sx.wp_if hT rfl (fun hc20 => ?_) (fun hc20 => ?_)
        · try simp only [Sx.bq] at hc20
          obtain ⟨o, ho⟩ : ∃ q9, l[i]? = some q9 := ⟨_, List.getElem?_eq_getElem (by omega)⟩
          have hom := List.mem_of_getElem? ho
          have how := hws o hom
          refine wp_skip ?_
          refine Sx.then_normal (hK18 _ _ ?_)
          clear hK18
          refine wp_seq_k fun K21 hK21 => ?_
          refine wp_block ?_
          refine wp_seq_k fun K22 hK22 => ?_
          refine Sx.wp_text [(0, .take), (1, .take), (2, .take), (3, .run), (4, .take), (5, .run), (6, .run)] rfl ?_
          refine Sx.st_take hT rfl rfl rfl rfl (Sx.x_move hT rfl rfl) ?_
          clear hT; intro a hT
          refine Sx.st_take hT rfl rfl rfl rfl (Sx.x_move hT rfl rfl) ?_
          clear hT; intro a hT
          refine Sx.st_take hT rfl rfl rfl rfl (Sx.x_index (k := i) hT rfl Try.underlying22 Try.ti36 (R.at H.ext).sv rfl rfl (by first | rfl | omega) (by omega)) ?_
          clear hT; intro a hT
          refine Sx.st_run hT rfl rfl rfl rfl (Sx.y_loadS hT rfl Try.underlying36 Try.ti36 rfl (by first | exact ((H.blk 4 rfl).seg (k := 7) rfl) | exact ((R.at H.ext).cs En.len ho) | exact (((R.at H.ext).cs En.len ho).seg (i := 3) (k := 3) rfl)) (by rfl)) ?_
          clear hT; intro a hT
          refine Sx.st_take hT rfl rfl rfl rfl (Sx.x_bld hT rfl Try.bld51 rfl rfl) ?_
          clear hT; intro a hT
          refine Sx.st_eff hT rfl rfl rfl rfl (Sx.y_alloc hT rfl Try.ti51 rfl _) ?_
          clear hT; rintro _ w9 ⟨b2, rfl, N⟩ a hT
          replace H := H.new N; clear N
          refine Sx.st_act hT rfl rfl rfl (Sx.y_storeS hT rfl Try.ti51 rfl rfl rfl rfl rfl (H.blk 0 rfl) rfl) ?_
          rintro w10 ⟨hb, E, _⟩
          replace H := H.setB 0 rfl hb E rfl; clear hb E
          replace hT := hT.keep [11, 42, 10, 9, 37, 8, 29, 20, 6, 5, 0, 1, 2] rfl
          refine Sx.ser_nil ?_
          refine Sx.then_normal (hK22 _ _ ?_)
          clear hK22
          refine wp_seq_k fun K23 hK23 => ?_
          refine Sx.wp_text [(0, .take), (1, .take), (2, .take), (3, .take), (4, .take), (5, .run), (6, .run), (7, .take)] rfl ?_
          refine Sx.st_take hT rfl rfl rfl rfl (Sx.x_move hT rfl rfl) ?_
          clear hT; intro a hT
          refine Sx.st_take hT rfl rfl rfl rfl (Sx.x_move hT rfl rfl) ?_
          clear hT; intro a hT
          refine Sx.st_take hT rfl rfl rfl rfl (Sx.x_move hT rfl rfl) ?_
          clear hT; intro a hT
          refine Sx.st_take hT rfl rfl rfl rfl (Sx.x_index (k := i) hT rfl Try.underlying22 Try.ti36 (R.at H.ext).sv rfl rfl (by first | rfl | omega) (by omega)) ?_
          clear hT; intro a hT
          refine Sx.st_take hT rfl rfl rfl rfl (Sx.x_fieldAddr hT rfl Try.fa36_1 rfl) ?_
          clear hT; intro a hT
          refine Sx.st_run hT rfl rfl rfl rfl (Sx.y_loadS hT rfl Try.underlying24 Try.ti24 rfl (by first | exact ((H.blk 0 rfl).seg (k := 3) rfl) | exact ((H.blk 5 rfl).seg (k := 3) rfl) | exact ((R.at H.ext).cs En.len ho) | exact (((R.at H.ext).cs En.len ho).seg (i := 3) (k := 3) rfl)) (by rfl)) ?_
          clear hT; intro a hT
          refine Sx.st_call hT rfl rfl rfl rfl rfl Try.can18 rfl (Below25_calls l o.s (R.at H.ext) (RM.at H.ext) (by omega) (by omega)) ?_
          rintro _ w11 ⟨ad7, c7, rfl, K⟩
          refine ⟨_, rfl, ?_⟩
          clear hT; intro a hT
          replace H := H.more K rfl; clear K
          have hmk : (makesF (l.map En.p) o.s true).length ≤ 900000 := by have h7 := rawF_len l o.s true; have h8 := fil_len (rawF (l.map En.p) o.s true); rw [fil_raw] at h8; omega
          refine Sx.st_take hT rfl rfl rfl rfl (Sx.x_assign hT rfl rfl) ?_
          clear hT; intro a hT
          replace hT := hT.keep [12, 11, 42, 10, 9, 37, 8, 29, 20, 6, 5, 0, 1, 2] rfl
          refine Sx.ser_nil ?_
          refine Sx.then_normal (hK23 _ _ ?_)
          clear hK23
          refine wp_seq_k fun K24 hK24 => ?_
          refine wp_seq_k fun K25 hK25 => ?_
          refine Sx.wp_text [(0, .take)] rfl ?_
          refine Sx.st_take hT rfl rfl rfl rfl (Sx.x_assign hT rfl rfl) ?_
          clear hT; intro a hT
          replace hT := hT.keep [13, 12, 11, 42, 10, 9, 37, 8, 29, 20, 6, 5, 0, 1, 2] rfl
          refine Sx.ser_nil ?_
          refine Sx.then_normal (hK25 _ _ ?_)
          clear hK25
          refine wp_block ?_
          replace H := H.nilR 59 7
          refine Sx.wp_loopH (G := Nat × Option Addr × Nat) (fun ⟨k, ad3, c3⟩ => [(13, .int .i64 (k : Int))]) (fun ⟨k, ad3, c3⟩ => [cB b2 [.int .i64 o.t.co, .int .i64 o.t.li, .int .i64 o.t.sq, .int .i64 o.s.w, .int .i64 o.s.l, .int .i64 o.s.n, .slice o.ad o.ws.length o.c, .slice ad3 ((seenF (l.map En.p) o.p).take k).length c3] 51, cR 59 7 ad3 ((seenF (l.map En.p) o.p).take k).length c3 (((seenF (l.map En.p) o.p).take k).flatMap Sn.cells)]) (fun ⟨k, ad3, c3⟩ => k ≤ o.ws.length) (fun ⟨k, ad3, c3⟩ => o.ws.length - k) (0, none, 0) (hT.keep [13, 12, 11, 42, 10, 9, 37, 8, 29, 20, 6, 5, 0, 1, 2] rfl) (H.keep [2, 0, 1, 3, 4, 5, 6, 7] rfl rfl) (Nat.zero_le _) ?_
          clear hT H
          rintro ⟨k, ad3, c3⟩ a w12 hJ hT H
          replace hT := hT.keep [13, 12, 11, 42, 10, 9, 37, 8, 29, 20, 6, 5, 0, 1, 2] rfl
          replace H := H.keep [0, 1, 2, 3, 4, 5, 6, 7] rfl rfl
          have hk : k ≤ o.ws.length := hJ
          refine wp_seq_k fun K26 hK26 => ?_
          refine wp_seq_k fun K27 hK27 => ?_
          refine Sx.wp_text [(0, .take), (1, .take), (2, .take), (3, .take), (4, .take), (5, .run), (6, .take), (7, .take)] rfl ?_
          refine Sx.st_take hT rfl rfl rfl rfl (Sx.x_move hT rfl rfl) ?_
          clear hT; intro a hT
          refine Sx.st_take hT rfl rfl rfl rfl (Sx.x_move hT rfl rfl) ?_
          clear hT; intro a hT
          refine Sx.st_take hT rfl rfl rfl rfl (Sx.x_move hT rfl rfl) ?_
          clear hT; intro a hT
          refine Sx.st_take hT rfl rfl rfl rfl (Sx.x_index (k := i) hT rfl Try.underlying22 Try.ti36 (by first | exact (R.at H.ext).sv | exact ((RM.at H.ext) o hom).sv) rfl rfl (by first | rfl | omega) (by omega)) ?_
          clear hT; intro a hT
          refine Sx.st_take hT rfl rfl rfl rfl (Sx.x_fieldAddr hT rfl Try.fa36_2 rfl) ?_
          clear hT; intro a hT
          refine Sx.st_run hT rfl rfl rfl rfl (Sx.x_load1 hT rfl Try.fl34 rfl (by first | exact ((H.blk 0 rfl).nth rfl) | exact ((H.blk 7 rfl).nth rfl) | exact ((R.at H.ext).cell (j := 6) En.len ho rfl) | exact (((RM.at H.ext) o hom).cell (j := 0) Wt.len hy rfl))) ?_
          clear hT; intro a hT
          refine Sx.st_take hT rfl rfl rfl rfl (Sx.x_len_slice hT rfl rfl Try.underlying34 rfl) ?_
          clear hT; intro a hT
          refine Sx.st_take hT rfl rfl rfl rfl ((fun w => Sx.x_lt w hT rfl rfl rfl)) ?_
          clear hT; intro a hT
          replace hT := hT.keep [64, 13, 12, 11, 42, 10, 9, 37, 8, 29, 20, 6, 5, 0, 1, 2] rfl
          refine Sx.ser_nil ?_
          refine Sx.then_normal (hK27 _ _ ?_)
          clear hK27
          refine Sx.wp_if hT rfl (fun hc28 => ?_) (fun hc28 => ?_)
          · try simp only [Sx.bq] at hc28
            obtain ⟨y, hy⟩ : ∃ q9, o.ws[k]? = some q9 := ⟨_, List.getElem?_eq_getElem (by omega)⟩
            have htk : ((seenF (l.map En.p) o.p).take k).length ≤ 20000 := by rw [List.length_take, seen_len]; have h9 : o.p.ws.length ≤ 20000 := how; omega
            refine wp_skip ?_
            refine Sx.then_normal (hK26 _ _ ?_)
            clear hK26
            refine wp_seq_k fun K29 hK29 => ?_
            refine wp_block ?_
            refine Sx.wp_draws (fun u => Sx.Ext (Sx.No) u) [(0, .take), (1, .held), (2, .take), (3, .take), (4, .take), (5, .take), (6, .held), (7, .take), (8, .take), (9, .take), (10, .held), (11, .take), (12, .take), (13, .take), (14, .take), (15, .take), (16, .held), (17, .take), (18, .take), (19, .take), (20, .held), (21, .keep), (22, .take), (23, .keep), (24, .run), (25, .take), (26, .run)] (by kernel_rfl) (by kernel_rfl) (fun u E _ => ?_)
            replace H := H.pure E; clear E
            have hH : Sx.Ext (Sx.No) u u := Sx.Ext.refl _ _
            have Hu := H
            refine Sx.st_take hT rfl rfl rfl rfl (Sx.x_fieldAddr hT rfl Try.fa51_1 rfl) ?_
            clear hT; intro a hT
            refine Sx.st_held hT rfl rfl rfl rfl hH (fun w' h' => Sx.x_load1 hT rfl Try.fl49 rfl ((Hu.heldB 0 rfl h' Sx.off_No).nth rfl)) ?_
            clear hT; intro a hT
            refine Sx.st_take hT rfl rfl rfl rfl (Sx.x_move hT rfl rfl) ?_
            clear hT; intro a hT
            refine Sx.st_take hT rfl rfl rfl rfl (Sx.x_move hT rfl rfl) ?_
            clear hT; intro a hT
            refine Sx.st_take hT rfl rfl rfl rfl (Sx.x_index (k := i) hT rfl Try.underlying22 Try.ti36 (by first | exact (R.at H.ext).sv | exact ((RM.at H.ext) o hom).sv) rfl rfl (by first | rfl | omega) (by omega)) ?_
            clear hT; intro a hT
            refine Sx.st_take hT rfl rfl rfl rfl (Sx.x_fieldAddr hT rfl Try.fa36_2 rfl) ?_
            clear hT; intro a hT
            refine Sx.st_held hT rfl rfl rfl rfl hH (fun w' h' => Sx.x_load1 hT rfl Try.fl34 rfl (by first | exact ((Hu.heldB 0 rfl h' Sx.off_No).nth rfl) | exact ((Hu.heldB 7 rfl h' Sx.off_No).nth rfl) | exact ((R.at (Hu.ext.step h')).cell (j := 6) En.len ho rfl) | exact (((RM.at (Hu.ext.step h')) o hom).cell (j := 0) Wt.len hy rfl))) ?_
            clear hT; intro a hT
            refine Sx.st_take hT rfl rfl rfl rfl (Sx.x_move hT rfl rfl) ?_
            clear hT; intro a hT
            refine Sx.st_take hT rfl rfl rfl rfl (Sx.x_index (k := k) hT rfl Try.underlying34 Try.ti41 (by first | exact (R.at H.ext).sv | exact ((RM.at H.ext) o hom).sv) rfl rfl (by first | rfl | omega) (by omega)) ?_
            clear hT; intro a hT
            refine Sx.st_take hT rfl rfl rfl rfl (Sx.x_fieldAddr hT rfl Try.fa41_0 rfl) ?_
            clear hT; intro a hT
            refine Sx.st_held hT rfl rfl rfl rfl hH (fun w' h' => Sx.x_load1 hT rfl Try.fl9 rfl (by first | exact ((Hu.heldB 0 rfl h' Sx.off_No).nth rfl) | exact ((Hu.heldB 7 rfl h' Sx.off_No).nth rfl) | exact ((R.at (Hu.ext.step h')).cell (j := 6) En.len ho rfl) | exact (((RM.at (Hu.ext.step h')) o hom).cell (j := 0) Wt.len hy rfl))) ?_
            clear hT; intro a hT
            refine Sx.st_take hT rfl rfl rfl rfl (Sx.x_move hT rfl rfl) ?_
            clear hT; intro a hT
            refine Sx.st_take hT rfl rfl rfl rfl (Sx.x_move hT rfl rfl) ?_
            clear hT; intro a hT
            refine Sx.st_take hT rfl rfl rfl rfl (Sx.x_move hT rfl rfl) ?_
            clear hT; intro a hT
            refine Sx.st_take hT rfl rfl rfl rfl (Sx.x_index (k := i) hT rfl Try.underlying22 Try.ti36 (by first | exact (R.at H.ext).sv | exact ((RM.at H.ext) o hom).sv) rfl rfl (by first | rfl | omega) (by omega)) ?_
            clear hT; intro a hT
            refine Sx.st_take hT rfl rfl rfl rfl (Sx.x_fieldAddr hT rfl Try.fa36_2 rfl) ?_
            clear hT; intro a hT
            refine Sx.st_held hT rfl rfl rfl rfl hH (fun w' h' => Sx.x_load1 hT rfl Try.fl34 rfl (by first | exact ((Hu.heldB 0 rfl h' Sx.off_No).nth rfl) | exact ((Hu.heldB 7 rfl h' Sx.off_No).nth rfl) | exact ((R.at (Hu.ext.step h')).cell (j := 6) En.len ho rfl) | exact (((RM.at (Hu.ext.step h')) o hom).cell (j := 0) Wt.len hy rfl))) ?_
            clear hT; intro a hT
            refine Sx.st_take hT rfl rfl rfl rfl (Sx.x_move hT rfl rfl) ?_
            clear hT; intro a hT
            refine Sx.st_take hT rfl rfl rfl rfl (Sx.x_index (k := k) hT rfl Try.underlying34 Try.ti41 (by first | exact (R.at H.ext).sv | exact ((RM.at H.ext) o hom).sv) rfl rfl (by first | rfl | omega) (by omega)) ?_
            clear hT; intro a hT
            refine Sx.st_take hT rfl rfl rfl rfl (Sx.x_fieldAddr hT rfl Try.fa41_0 rfl) ?_
            clear hT; intro a hT
            refine Sx.st_held hT rfl rfl rfl rfl hH (fun w' h' => Sx.x_load1 hT rfl Try.fl9 rfl (by first | exact ((Hu.heldB 0 rfl h' Sx.off_No).nth rfl) | exact ((Hu.heldB 7 rfl h' Sx.off_No).nth rfl) | exact ((R.at (Hu.ext.step h')).cell (j := 6) En.len ho rfl) | exact (((RM.at (Hu.ext.step h')) o hom).cell (j := 0) Wt.len hy rfl))) ?_
            clear hT; intro a hT
            refine Sx.st_callkeep hT rfl rfl rfl rfl rfl Try.can22 rfl (Value25_calls (makesF (l.map En.p) o.s true) y.key ((H.row 2 rfl).ssn rfl) (by omega)) ?_
            rintro _ w13 ⟨rfl, E⟩
            refine ⟨_, rfl, hH.step E, ?_⟩
            replace hH := hH.step E
            clear hT; intro a hT
            replace H := H.pure E; clear E
            refine Sx.st_take hT rfl rfl rfl rfl (Sx.x_bld hT rfl Try.bld59 rfl rfl) ?_
            clear hT; intro a hT
            refine Sx.st_effkeep hT rfl rfl rfl rfl (Sx.y_slice1 hT rfl Try.underlying49 Try.ti59 rfl rfl rfl rfl rfl rfl _) ?_
            rintro _ w14 ⟨b3, rfl, N⟩
            have q_b3 : u.heap.size ≤ b3 := by have h8 := hH.size; have h9 := N.at_; omega
            refine ⟨hH.step N.ext, ?_⟩
            replace hH := hH.step N.ext
            clear hT; intro a hT
            replace H := H.new N; clear N
            refine Sx.st_eff hT rfl rfl rfl rfl (Sx.x_append hT rfl rfl Try.underlying49 Try.ti59 rfl (by decide) rfl rfl (H.row 2 rfl) ((H.blk 0 rfl).sv1 rfl) (by simp [Value.oneCell']) (fun h => by cases h) (by unfold maxLen; omega) (by omega)) ?_
            rintro _ w15 ⟨ad15, c15, rfl, hr, E, hown, -⟩
            clear hT; intro a hT
            replace H := H.setR 2 rfl hr E hown rfl; clear hr E hown
            rw [show ((seenF (l.map En.p) o.p).take k).flatMap Sn.cells ++ [.string ⟨y.key.toArray⟩, .int .i64 (gtv (makesF (l.map En.p) o.s true) y.key).k, .float .f64 (gtv (makesF (l.map En.p) o.s true) y.key).num, .string ⟨(gtv (makesF (l.map En.p) o.s true) y.key).tx.toArray⟩, .int .i64 0, .int .i64 0, .int .i64 0] = ((seenF (l.map En.p) o.p).take (k + 1)).flatMap Sn.cells from by rw [seen_take hy, List.flatMap_append] <;> simp [Sn.cells, sz0]] at H
            have htl : ((seenF (l.map En.p) o.p).take k).length + 1 = ((seenF (l.map En.p) o.p).take (k + 1)).length := by rw [seen_take hy]; simp
            rw [htl] at H hT
            refine Sx.st_take hT rfl rfl rfl rfl (Sx.x_fieldAddr hT rfl Try.fa51_1 rfl) ?_
            clear hT; intro a hT
            refine Sx.st_act hT rfl rfl rfl (Sx.y_store1 hT rfl Try.ti49 rfl rfl rfl (H.blk 1 rfl) rfl) ?_
            rintro w16 ⟨hb, E, _⟩
            replace H := H.setB 1 rfl hb E rfl; clear hb E
            replace hT := hT.keep [64, 13, 12, 11, 42, 10, 9, 37, 8, 29, 20, 6, 5, 0, 1, 2] rfl
            clear Hu hH
            refine Sx.ser_calm ?_
            refine Sx.block_normal ?_
            refine Sx.then_normal (hK29 _ _ ?_)
            clear hK29
            refine Sx.wp_text [(0, .take), (1, .take), (2, .take)] rfl ?_
            refine Sx.st_take hT rfl rfl rfl rfl (Sx.x_move hT rfl rfl) ?_
            clear hT; intro a hT
            refine Sx.st_take hT rfl rfl rfl rfl ((fun w => Sx.x_add w hT rfl rfl rfl (Sx.wrap64 (by omega)))) ?_
            clear hT; intro a hT
            refine Sx.st_take hT rfl rfl rfl rfl (Sx.x_assign hT rfl rfl) ?_
            clear hT; intro a hT
            replace hT := hT.keep [13, 64, 12, 11, 42, 10, 9, 37, 8, 29, 20, 6, 5, 0, 1, 2] rfl
            refine Sx.ser_nil ?_
            refine Sx.then_normal ?_
            exact ⟨(k + 1, ad15, c15), (show k + 1 ≤ _ by omega), (hT.keep [13, 12, 11, 42, 10, 9, 37, 8, 29, 20, 6, 5, 0, 1, 2] rfl), (H.keep [1, 2, 3, 4, 5, 6, 7, 8] rfl rfl), by show _ - (k + 1) < _ - k; omega⟩
          · try simp only [Sx.bq] at hc28
            have hky : k = o.ws.length := by omega
            rw [hky, List.take_of_length_le (show (seenF (l.map En.p) o.p).length ≤ o.ws.length from Nat.le_of_eq (seen_len _ _))] at H
            refine wp_exit ?_
            refine Sx.then_exit ?_
            refine Sx.then_exit ?_
            refine Sx.block_exit ?_
            refine Sx.then_normal (hK24 _ _ ?_)
            clear hK24
            refine Sx.wp_text [(0, .take), (1, .run), (2, .run), (3, .run), (4, .take)] rfl ?_
            refine Sx.st_take hT rfl rfl rfl rfl (Sx.x_move hT rfl rfl) ?_
            clear hT; intro a hT
            refine Sx.st_run hT rfl rfl rfl rfl (Sx.y_loadS hT rfl Try.underlying51 Try.ti51 rfl ((H.blk 0 rfl).seg (k := 8) rfl) (by rfl)) ?_
            clear hT; intro a hT
            refine Sx.st_eff hT rfl rfl rfl rfl (Sx.y_slice1 hT rfl Try.underlying46 Try.ti51 rfl rfl rfl rfl rfl rfl _) ?_
            clear hT; rintro _ w17 ⟨b4, rfl, N⟩ a hT
            replace H := H.new N; clear N
            refine Sx.st_eff hT rfl rfl rfl rfl (Sx.x_append hT rfl rfl Try.underlying46 Try.ti51 rfl (by decide) rfl rfl (H.row 5 rfl) ((H.blk 0 rfl).sv1 rfl) (by simp [Value.oneCell']) (fun h => by cases h) (by unfold maxLen; omega) (by omega)) ?_
            rintro _ w18 ⟨ad18, c18, rfl, hr, E, hown, -⟩
            clear hT; intro a hT
            replace H := H.setR 5 rfl hr E hown rfl; clear hr E hown
            rw [show (L.flatMap Dn.cells ++ [.int .i64 o.t.co, .int .i64 o.t.li, .int .i64 o.t.sq, .int .i64 o.s.w, .int .i64 o.s.l, .int .i64 o.s.n, .slice o.ad o.ws.length o.c, .slice ad3 (seenF (l.map En.p) o.p).length c3]) = (L ++ [(⟨o.t, o.s, o.ad, o.c, o.ws, ad3, c3, seenF (l.map En.p) o.p⟩ : Dn)]).flatMap Dn.cells from by rw [List.flatMap_append] <;> simp [Dn.cells], show L.length + 1 = (L ++ [(⟨o.t, o.s, o.ad, o.c, o.ws, ad3, c3, seenF (l.map En.p) o.p⟩ : Dn)]).length from by simp] at H
            rw [show L.length + 1 = (L ++ [(⟨o.t, o.s, o.ad, o.c, o.ws, ad3, c3, seenF (l.map En.p) o.p⟩ : Dn)]).length from by simp] at hT
            replace H := H.famPut (x := (⟨o.t, o.s, o.ad, o.c, o.ws, ad3, c3, seenF (l.map En.p) o.p⟩ : Dn)) 4 2 rfl rfl rfl rfl [0, 1, 3, 5, 6, 7, 8] rfl rfl (show (L ++ [_]).Perm (_ :: L) from List.perm_append_comm)
            refine Sx.st_take hT rfl rfl rfl rfl (Sx.x_assign hT rfl rfl) ?_
            clear hT; intro a hT
            replace hT := hT.keep [9, 64, 13, 12, 11, 42, 10, 37, 8, 29, 20, 6, 5, 0, 1, 2] rfl
            refine Sx.ser_nil ?_
            refine Sx.block_normal ?_
            refine Sx.then_normal (hK21 _ _ ?_)
            clear hK21
            refine Sx.wp_text [(0, .take), (1, .take), (2, .take)] rfl ?_
            refine Sx.st_take hT rfl rfl rfl rfl (Sx.x_move hT rfl rfl) ?_
            clear hT; intro a hT
            refine Sx.st_take hT rfl rfl rfl rfl ((fun w => Sx.x_add w hT rfl rfl rfl (Sx.wrap64 (by omega)))) ?_
            clear hT; intro a hT
            refine Sx.st_take hT rfl rfl rfl rfl (Sx.x_assign hT rfl rfl) ?_
            clear hT; intro a hT
            replace hT := hT.keep [10, 9, 64, 13, 12, 11, 42, 37, 8, 29, 20, 6, 5, 0, 1, 2] rfl
            refine Sx.ser_nil ?_
            refine Sx.then_normal ?_
            exact ⟨(i + 1, L ++ [(⟨o.t, o.s, o.ad, o.c, o.ws, ad3, c3, seenF (l.map En.p) o.p⟩ : Dn)], ad18, c18), ⟨by show i + 1 ≤ _; omega, by show (L ++ [_]).map Dn.q = _; rw [take_app ho, List.map_append, List.map_append, hL]; rfl, by show (L ++ [_]).length = i + 1; simp [hLi]⟩, (hT.keep [10, 9, 37, 8, 29, 20, 6, 5, 0, 1, 2] rfl), (H.keep [0, 4, 5, 6, 7] rfl rfl), by show _ - (i + 1) < _ - i; omega⟩
        · try simp only [Sx.bq] at hc20
          have hil : i = l.length := by omega
          rw [hil, List.take_length] at hL
          have hLe := q_entries hL
          have hLp := q_deeds hL
          have hLm := q_mem hL
          refine wp_exit ?_
          refine Sx.then_exit ?_
          refine Sx.then_exit ?_
          refine Sx.block_exit ?_
          refine Sx.then_normal (hK16 _ _ ?_)
          clear hK16
          refine wp_seq_k fun K30 hK30 => ?_
          refine Sx.wp_text [(0, .take), (1, .run), (2, .take), (3, .take), (4, .take), (5, .take), (6, .take)] rfl ?_
          refine Sx.st_take hT rfl rfl rfl rfl (Sx.x_move hT rfl rfl) ?_
          clear hT; intro a hT
          refine Sx.st_call hT rfl rfl rfl rfl rfl Try.can20 rfl (ReadsA_calls L ((H.row 1 rfl).ssn rfl) (fun x hx => ⟨(RM.at H.ext) x.e (hLm x hx).1, (hw x.e (hLm x hx).1).2.2.2, by have := hws x.e (hLm x hx).1; exact Nat.le_trans this (by decide)⟩) (fun x hx => ⟨Row.ssn (xs := x.sn) (enc := Sn.cells) ((H.fam 0 rfl).row x hx) rfl, (fun z hz => by rw [(hLm x hx).2] at hz; obtain ⟨-, u9, hu, he⟩ := seen_v hz; rw [he]; exact ((hw x.e (hLm x hx).1).2.1 u9 hu).1), (by rw [(hLm x hx).2, seen_len]; have := hws x.e (hLm x hx).1; exact Nat.le_trans this (by decide))⟩) (by omega) (by rw [← wl_e, hLe]; omega)) ?_
          rintro _ w19 ⟨rfl, E⟩
          refine ⟨_, rfl, ?_⟩
          clear hT; intro a hT
          replace H := H.pure E; clear E
          rw [hLp, rd_true hE] at hT
          refine Sx.st_take hT rfl rfl rfl rfl (Sx.x_move hT rfl rfl) ?_
          clear hT; intro a hT
          refine Sx.st_take hT rfl rfl rfl rfl (Sx.x_extractL hT rfl rfl rfl) ?_
          clear hT; intro a hT
          refine Sx.st_take hT rfl rfl rfl rfl (Sx.x_extractL hT rfl rfl rfl) ?_
          clear hT; intro a hT
          refine Sx.st_take hT rfl rfl rfl rfl (Sx.x_assign hT rfl rfl) ?_
          clear hT; intro a hT
          refine Sx.st_take hT rfl rfl rfl rfl (Sx.x_assign hT rfl rfl) ?_
          clear hT; intro a hT
          replace hT := hT.keep [15, 14, 42, 10, 9, 37, 8, 29, 20, 6, 5, 0, 1, 2] rfl
          refine Sx.ser_nil ?_
          refine Sx.then_normal (hK30 _ _ ?_)
          clear hK30
          refine wp_seq_k fun K31 hK31 => ?_
          refine wp_seq_k fun K32 hK32 => ?_
          refine Sx.wp_text [(0, .take), (1, .take), (2, .take), (3, .take), (4, .take), (5, .take)] rfl ?_
          refine Sx.st_take hT rfl rfl rfl rfl (Sx.x_move hT rfl rfl) ?_
          clear hT; intro a hT
          refine Sx.st_take hT rfl rfl rfl rfl ((fun w => Sx.x_ne w hT rfl rfl rfl)) ?_
          clear hT; intro a hT
          refine Sx.st_take hT rfl rfl rfl rfl (Sx.x_move hT rfl rfl) ?_
          clear hT; intro a hT
          refine Sx.Sl.two hT 104 rfl (fun hc33 hT => ?_) (fun hc33 hT => ?_)
          · exfalso
            try simp only [Sx.bq] at hc33
            simp at hc33
          · try simp only [Sx.bq] at hc33
            refine Sx.st_take hT rfl rfl rfl rfl (Sx.x_move hT rfl rfl) ?_
            clear hT; intro a hT
            refine Sx.st_take hT rfl rfl rfl rfl ((fun w => Sx.x_ne w hT rfl rfl rfl)) ?_
            clear hT; intro a hT
            refine Sx.st_take hT rfl rfl rfl rfl (Sx.x_pick_f hT rfl rfl rfl) ?_
            clear hT; intro a hT
            replace hT := hT.keep [107, 15, 14, 42, 10, 9, 37, 8, 29, 20, 6, 5, 0, 1, 2] rfl
            refine Sx.ser_nil ?_
            refine Sx.then_normal (hK32 _ _ ?_)
            clear hK32
            refine Sx.wp_if hT rfl (fun hc34 => ?_) (fun hc34 => ?_)
            · exfalso
              try simp only [Sx.bq] at hc34
              simp at hc34
            · try simp only [Sx.bq] at hc34
              refine wp_skip ?_
              refine Sx.then_normal (hK31 _ _ ?_)
              clear hK31
              refine wp_seq_k fun K35 hK35 => ?_
              refine wp_seq_k fun K36 hK36 => ?_
              refine Sx.wp_text [(0, .take), (1, .take), (2, .take)] rfl ?_
              refine Sx.st_take hT rfl rfl rfl rfl (Sx.x_move hT rfl rfl) ?_
              clear hT; intro a hT
              refine Sx.st_take hT rfl rfl rfl rfl (Sx.x_len_slice hT rfl rfl Try.underlying46 rfl) ?_
              clear hT; intro a hT
              refine Sx.st_take hT rfl rfl rfl rfl ((fun w => Sx.x_eq w hT rfl rfl rfl)) ?_
              clear hT; intro a hT
              replace hT := hT.keep [110, 107, 15, 14, 42, 10, 9, 37, 8, 29, 20, 6, 5, 0, 1, 2] rfl
              refine Sx.ser_nil ?_
              refine Sx.then_normal (hK36 _ _ ?_)
              clear hK36
              refine Sx.wp_if hT rfl (fun hc37 => ?_) (fun hc37 => ?_)
              · try simp only [Sx.bq] at hc37
                refine wp_seq_k fun K38 hK38 => ?_
                refine Sx.wp_text [(0, .run), (1, .take)] rfl ?_
                refine Sx.st_call hT rfl rfl rfl rfl rfl Try.can8 rfl (first_calls _) ?_
                rintro _ w20 ⟨rfl, E⟩
                refine ⟨_, rfl, ?_⟩
                clear hT; intro a hT
                replace H := H.pure E; clear E
                refine Sx.st_take hT rfl rfl rfl rfl (Sx.x_assign hT rfl rfl) ?_
                clear hT; intro a hT
                replace hT := hT.keep [6, 110, 107, 15, 14, 42, 10, 9, 37, 8, 29, 20, 5, 0, 1, 2] rfl
                refine Sx.ser_nil ?_
                refine Sx.then_normal (hK38 _ _ ?_)
                clear hK38
                refine wp_ret ?_
                refine Sx.then_ret ?_
                refine Sx.done1 (fn := Try.f5) hT rfl (.tmp (hT.get 6 _ rfl)) ?_
                exact ⟨ret_b (by simp), H.ext⟩
              · try simp only [Sx.bq] at hc37
                have hL0 : 0 < L.length := by omega
                refine wp_skip ?_
                refine Sx.then_normal (hK35 _ _ ?_)
                clear hK35
                refine wp_seq_k fun K39 hK39 => ?_
                refine Sx.wp_join (G := Nat) (fun a9 => [(1, .int .i64 (a9 : Int))]) (fun a9 => []) (fun a9 => True) (hT.keep [110, 107, 15, 14, 42, 10, 9, 37, 8, 29, 20, 6, 5, 0, 2] rfl) (H.keep [0, 1, 2, 3, 4] rfl rfl) hK39 ?_ ?_
                · clear hT H hK39
                  rintro a9 a w21 hJ hT H
                  replace hT := hT.keep [1, 110, 107, 15, 14, 42, 10, 9, 37, 8, 29, 20, 6, 5, 0, 2] rfl
                  replace H := H.keep [0, 1, 2, 3, 4] rfl rfl
                  clear hJ
                  refine wp_seq_k fun K40 hK40 => ?_
                  refine Sx.wp_text [(0, .take), (1, .take), (2, .take), (3, .take), (4, .take)] rfl ?_
                  refine Sx.st_take hT rfl rfl rfl rfl (Sx.x_move hT rfl rfl) ?_
                  clear hT; intro a hT
                  refine Sx.st_take hT rfl rfl rfl rfl (Sx.x_move hT rfl rfl) ?_
                  clear hT; intro a hT
                  refine Sx.st_take hT rfl rfl rfl rfl (Sx.x_len_slice hT rfl rfl Try.underlying46 rfl) ?_
                  clear hT; intro a hT
                  refine Sx.st_take hT rfl rfl rfl rfl ((fun w => Sx.x_rem w hT rfl rfl rfl (by omega))) ?_
                  clear hT; intro a hT
                  rw [show Int.tmod (a9 : Int) (L.length : Int) = ((a9 % L.length : Nat) : Int) from (Int.ofNat_tmod _ _).symm] at hT
                  obtain ⟨j9, hj9⟩ : ∃ j, j = a9 % L.length := ⟨_, rfl⟩
                  rw [← hj9] at hT
                  have hjl : j9 < L.length := by rw [hj9]; exact Nat.mod_lt _ hL0
                  obtain ⟨o, ho⟩ : ∃ q9, L[j9]? = some q9 := ⟨_, List.getElem?_eq_getElem (by omega)⟩
                  have hom := List.mem_of_getElem? ho
                  have hoe := q_at hL ho
                  have hje : (l.map En.p)[j9]? = some o.e.p := by rw [List.getElem?_map, hoe]; rfl
                  have hosn : o.sn.length ≤ 20000 := by rw [(hLm o hom).2, seen_len]; exact hws o.e (hLm o hom).1
                  have hset : l.set j9 o.e = l := by obtain ⟨h1, h2⟩ := List.getElem?_eq_some_iff.1 hoe; rw [← h2]; exact List.set_getElem_self h1
                  refine Sx.st_take hT rfl rfl rfl rfl (Sx.x_assign hT rfl rfl) ?_
                  clear hT; intro a hT
                  replace hT := hT.keep [1, 110, 107, 15, 14, 42, 10, 9, 37, 8, 29, 20, 6, 5, 0, 2] rfl
                  refine Sx.ser_nil ?_
                  refine Sx.then_normal (hK40 _ _ ?_)
                  clear hK40
                  refine wp_seq_k fun K41 hK41 => ?_
                  refine wp_seq_k fun K42 hK42 => ?_
                  refine Sx.wp_draws (fun u => Sx.Ext (Sx.No) u) [(0, .take), (1, .take), (2, .take), (3, .take), (4, .held), (5, .take), (6, .take), (7, .take), (8, .take), (9, .take), (10, .take), (11, .take), (12, .held), (13, .take), (14, .take), (15, .held), (16, .held), (17, .run), (18, .take)] (by kernel_rfl) (by kernel_rfl) (fun u E _ => ?_)
                  replace H := H.pure E; clear E
                  have hH : Sx.Ext (Sx.No) u u := Sx.Ext.refl _ _
                  have Hu := H
                  refine Sx.st_take hT rfl rfl rfl rfl (Sx.x_move hT rfl rfl) ?_
                  clear hT; intro a hT
                  refine Sx.st_take hT rfl rfl rfl rfl (Sx.x_move hT rfl rfl) ?_
                  clear hT; intro a hT
                  refine Sx.st_take hT rfl rfl rfl rfl (Sx.x_index (k := j9) hT rfl Try.underlying46 Try.ti51 (H.row 1 rfl).sv rfl rfl (by first | rfl | omega) (by omega)) ?_
                  clear hT; intro a hT
                  refine Sx.st_take hT rfl rfl rfl rfl (Sx.x_fieldAddr hT rfl Try.fa51_1 rfl) ?_
                  clear hT; intro a hT
                  refine Sx.st_held hT rfl rfl rfl rfl hH (fun w' h' => Sx.x_load1 hT rfl Try.fl49 rfl (((Hu.heldR 1 rfl h' Sx.off_No).ssn rfl).cell (j := 7) Dn.len ho rfl)) ?_
                  clear hT; intro a hT
                  refine Sx.st_take hT rfl rfl rfl rfl (Sx.x_len_slice hT rfl rfl Try.underlying49 rfl) ?_
                  clear hT; intro a hT
                  refine Sx.st_take hT rfl rfl rfl rfl ((fun w => Sx.x_eq w hT rfl rfl rfl)) ?_
                  clear hT; intro a hT
                  refine Sx.st_take hT rfl rfl rfl rfl (Sx.x_move hT rfl rfl) ?_
                  clear hT; intro a hT
                  refine Sx.Sl.two hT 128 rfl (fun hc43 hT => ?_) (fun hc43 hT => ?_)
                  · try simp only [Sx.bq] at hc43
                    refine Sx.st_skip hT rfl rfl rfl rfl ?_
                    clear hT; intro a hT
                    refine Sx.st_skip hT rfl rfl rfl rfl ?_
                    clear hT; intro a hT
                    refine Sx.st_skip hT rfl rfl rfl rfl ?_
                    clear hT; intro a hT
                    refine Sx.st_skip hT rfl rfl rfl rfl ?_
                    clear hT; intro a hT
                    refine Sx.st_heldskip hT rfl rfl rfl rfl hH ?_
                    clear hT; intro a hT
                    refine Sx.st_skip hT rfl rfl rfl rfl ?_
                    clear hT; intro a hT
                    refine Sx.st_skip hT rfl rfl rfl rfl ?_
                    clear hT; intro a hT
                    refine Sx.st_heldskip hT rfl rfl rfl rfl hH ?_
                    clear hT; intro a hT
                    refine Sx.st_heldskip hT rfl rfl rfl rfl hH ?_
                    clear hT; intro a hT
                    refine Sx.st_runskip hT rfl rfl rfl rfl ?_
                    clear hT; intro a hT
                    refine Sx.st_take hT rfl rfl rfl rfl (Sx.x_pick_t hT rfl rfl rfl) ?_
                    clear hT; intro a hT
                    replace hT := hT.keep [139, 1, 110, 107, 15, 14, 42, 10, 9, 37, 8, 29, 20, 6, 5, 0, 2] rfl
                    clear Hu hH
                    refine Sx.ser_calm ?_
                    refine Sx.then_normal (hK42 _ _ ?_)
                    clear hK42
                    refine Sx.wp_if hT rfl (fun _ => ?_) (fun h => by cases h)
                    refine wp_seq_k fun K44 hK44 => ?_
                    refine Sx.wp_text [(0, .run), (1, .take)] rfl ?_
                    refine Sx.st_call hT rfl rfl rfl rfl rfl Try.can8 rfl (first_calls _) ?_
                    rintro _ w22 ⟨rfl, E⟩
                    refine ⟨_, rfl, ?_⟩
                    clear hT; intro a hT
                    replace H := H.pure E; clear E
                    refine Sx.st_take hT rfl rfl rfl rfl (Sx.x_assign hT rfl rfl) ?_
                    clear hT; intro a hT
                    replace hT := hT.keep [6, 139, 1, 110, 107, 15, 14, 42, 10, 9, 37, 8, 29, 20, 5, 0, 2] rfl
                    refine Sx.ser_nil ?_
                    refine Sx.then_normal (hK44 _ _ ?_)
                    clear hK44
                    refine wp_ret ?_
                    refine Sx.then_ret ?_
                    refine Sx.done1 (fn := Try.f5) hT rfl (.tmp (hT.get 6 _ rfl)) ?_
                    exact ⟨ret_b (by simp), H.ext⟩
                  · try simp only [Sx.bq] at hc43
                    have hsn0 : 0 < o.sn.length := by omega
                    obtain ⟨y, hy⟩ : ∃ q9, o.sn[0]? = some q9 := ⟨_, List.getElem?_eq_getElem (by omega)⟩
                    refine Sx.st_take hT rfl rfl rfl rfl (Sx.x_move hT rfl rfl) ?_
                    clear hT; intro a hT
                    refine Sx.st_take hT rfl rfl rfl rfl (Sx.x_move hT rfl rfl) ?_
                    clear hT; intro a hT
                    refine Sx.st_take hT rfl rfl rfl rfl (Sx.x_index (k := j9) hT rfl Try.underlying46 Try.ti51 (H.row 1 rfl).sv rfl rfl (by first | rfl | omega) (by omega)) ?_
                    clear hT; intro a hT
                    refine Sx.st_take hT rfl rfl rfl rfl (Sx.x_fieldAddr hT rfl Try.fa51_1 rfl) ?_
                    clear hT; intro a hT
                    refine Sx.st_held hT rfl rfl rfl rfl hH (fun w' h' => Sx.x_load1 hT rfl Try.fl49 rfl (((Hu.heldR 1 rfl h' Sx.off_No).ssn rfl).cell (j := 7) Dn.len ho rfl)) ?_
                    clear hT; intro a hT
                    refine Sx.st_take hT rfl rfl rfl rfl (Sx.x_index (k := 0) hT rfl Try.underlying49 Try.ti59 (by first | exact (R.at H.ext).sv | exact (Row.ssn (xs := o.sn) (enc := Sn.cells) ((show Fam 59 7 Dn.rw _ L from (H.at 0 rfl)).row o hom) rfl).sv) rfl rfl (by first | rfl | omega) (by omega)) ?_
                    clear hT; intro a hT
                    refine Sx.st_take hT rfl rfl rfl rfl (Sx.x_fieldAddr hT rfl Try.fa59_1 rfl) ?_
                    clear hT; intro a hT
                    refine Sx.st_held hT rfl rfl rfl rfl hH (fun w' h' => Sx.y_loadS hT rfl Try.underlying39 Try.ti39 rfl (by first | exact ((Hu.heldB 4 rfl h' Sx.off_No).seg (k := 3) rfl) | exact (((Row.ssn (xs := o.sn) (enc := Sn.cells) ((show Fam 59 7 Dn.rw _ L from (Hu.held 0 rfl h' Sx.off_No)).row o hom) rfl).cs Sn.len hy).seg (i := 1) (k := 3) rfl)) (by rfl)) ?_
                    clear hT; intro a hT
                    refine Sx.st_held hT rfl rfl rfl rfl hH (fun w' h' => Sx.y_loadS hT rfl Try.underlying39 Try.ti39 rfl ((Hu.heldB 4 rfl h' Sx.off_No).seg (k := 3) rfl) (by rfl)) ?_
                    clear hT; intro a hT
                    refine Sx.st_call hT rfl rfl rfl rfl rfl Try.can23 rfl (xSame_calls y.v v9 _) ?_
                    rintro _ w23 ⟨rfl, E⟩
                    refine ⟨_, rfl, ?_⟩
                    clear hT; intro a hT
                    replace H := H.pure E; clear E
                    refine Sx.st_take hT rfl rfl rfl rfl (Sx.x_pick_f hT rfl rfl rfl) ?_
                    clear hT; intro a hT
                    replace hT := hT.keep [139, 1, 110, 107, 15, 14, 42, 10, 9, 37, 8, 29, 20, 6, 5, 0, 2] rfl
                    clear Hu hH
                    refine Sx.ser_calm ?_
                    refine Sx.then_normal (hK42 _ _ ?_)
                    clear hK42
                    refine Sx.wp_if hT rfl (fun hc45 => ?_) (fun hc45 => ?_)
                    · try simp only [Sx.bq] at hc45
                      refine wp_seq_k fun K46 hK46 => ?_
                      refine Sx.wp_text [(0, .run), (1, .take)] rfl ?_
                      refine Sx.st_call hT rfl rfl rfl rfl rfl Try.can8 rfl (first_calls _) ?_
                      rintro _ w24 ⟨rfl, E⟩
                      refine ⟨_, rfl, ?_⟩
                      clear hT; intro a hT
                      replace H := H.pure E; clear E
                      refine Sx.st_take hT rfl rfl rfl rfl (Sx.x_assign hT rfl rfl) ?_
                      clear hT; intro a hT
                      replace hT := hT.keep [6, 139, 1, 110, 107, 15, 14, 42, 10, 9, 37, 8, 29, 20, 5, 0, 2] rfl
                      refine Sx.ser_nil ?_
                      refine Sx.then_normal (hK46 _ _ ?_)
                      clear hK46
                      refine wp_ret ?_
                      refine Sx.then_ret ?_
                      refine Sx.done1 (fn := Try.f5) hT rfl (.tmp (hT.get 6 _ rfl)) ?_
                      exact ⟨ret_b (by simp), H.ext⟩
                    · try simp only [Sx.bq] at hc45
                      have hsm : sameV y.v v9 = false := by simpa using hc45
                      have hym := List.mem_of_getElem? hy
                      have hys := hym
                      rw [(hLm o hom).2] at hys
                      obtain ⟨hyv, u9, hu9, hyk⟩ := seen_v hys
                      have hwrong : ∃ x ∈ o.sn.set 0 (⟨y.key, v9, sz0⟩ : Sn), sameV x.v (gtv (rawF (l.map En.p) o.e.p.s true) x.key) = false := ⟨(⟨y.key, v9, sz0⟩ : Sn), List.mem_iff_getElem?.2 ⟨0, by rw [List.getElem?_set_self hsn0]⟩, by show sameV v9 (gtv (rawF (l.map En.p) o.e.p.s true) y.key) = false; rw [sameV_sym, ← gtv_mk, ← hyv]; exact hsm⟩
                      have hk2 : ∀ z ∈ o.sn.set 0 (⟨y.key, v9, sz0⟩ : Sn), z.key.length ≤ 140737488351232 := fun z hz => by
                        rcases List.mem_or_eq_of_mem_set hz with hz | rfl
                        · rw [(hLm o hom).2] at hz
                          obtain ⟨-, u8, hu8, he⟩ := seen_v hz
                          rw [he]
                          exact ((hw o.e (hLm o hom).1).2.1 u8 hu8).1
                        · show y.key.length ≤ _
                          rw [hyk]
                          exact ((hw o.e (hLm o hom).1).2.1 u9 hu9).1
                      refine wp_skip ?_
                      refine Sx.then_normal (hK41 _ _ ?_)
                      clear hK41
                      refine wp_seq_k fun K47 hK47 => ?_
                      refine Sx.wp_text [(0, .take), (1, .take), (2, .take), (3, .take), (4, .run), (5, .run), (6, .take)] rfl ?_
                      refine Sx.st_take hT rfl rfl rfl rfl (Sx.x_move hT rfl rfl) ?_
                      clear hT; intro a hT
                      refine Sx.st_take hT rfl rfl rfl rfl (Sx.x_move hT rfl rfl) ?_
                      clear hT; intro a hT
                      refine Sx.st_take hT rfl rfl rfl rfl (Sx.x_index (k := j9) hT rfl Try.underlying46 Try.ti51 (H.row 1 rfl).sv rfl rfl (by first | rfl | omega) (by omega)) ?_
                      clear hT; intro a hT
                      refine Sx.st_take hT rfl rfl rfl rfl (Sx.x_fieldAddr hT rfl Try.fa51_1 rfl) ?_
                      clear hT; intro a hT
                      refine Sx.st_run hT rfl rfl rfl rfl (Sx.x_load1 hT rfl Try.fl49 rfl (((H.row 1 rfl).ssn rfl).cell (j := 7) Dn.len ho rfl)) ?_
                      clear hT; intro a hT
                      refine Sx.st_call hT rfl rfl rfl rfl rfl Try.can24 rfl (CopySeen_calls o.sn (Row.ssn (xs := o.sn) (enc := Sn.cells) ((show Fam 59 7 Dn.rw _ L from (H.at 0 rfl)).row o hom) rfl) (by omega)) ?_
                      rintro _ w25 ⟨ad6, c6, rfl, K⟩
                      refine ⟨_, rfl, ?_⟩
                      clear hT; intro a hT
                      replace H := H.more K rfl; clear K
                      refine Sx.st_take hT rfl rfl rfl rfl (Sx.x_assign hT rfl rfl) ?_
                      clear hT; intro a hT
                      replace hT := hT.keep [16, 139, 1, 110, 107, 15, 14, 42, 10, 9, 37, 8, 29, 20, 6, 5, 0, 2] rfl
                      refine Sx.ser_nil ?_
                      refine Sx.then_normal (hK47 _ _ ?_)
                      clear hK47
                      refine wp_seq_k fun K48 hK48 => ?_
                      refine Sx.wp_draws (fun u => Sx.Ext (Sx.No) u) [(0, .take), (1, .take), (2, .take), (3, .take), (4, .held), (5, .held), (6, .take), (7, .take), (8, .run)] (by kernel_rfl) (by kernel_rfl) (fun u E _ => ?_)
                      replace H := H.pure E; clear E
                      have hH : Sx.Ext (Sx.No) u u := Sx.Ext.refl _ _
                      have Hu := H
                      refine Sx.st_take hT rfl rfl rfl rfl (Sx.x_move hT rfl rfl) ?_
                      clear hT; intro a hT
                      refine Sx.st_take hT rfl rfl rfl rfl (Sx.x_move hT rfl rfl) ?_
                      clear hT; intro a hT
                      refine Sx.st_take hT rfl rfl rfl rfl (Sx.x_index (k := 0) hT rfl Try.underlying49 Try.ti59 (H.row 0 rfl).sv rfl rfl (by first | rfl | omega) (by omega)) ?_
                      clear hT; intro a hT
                      refine Sx.st_take hT rfl rfl rfl rfl (Sx.x_fieldAddr hT rfl Try.fa59_0 rfl) ?_
                      clear hT; intro a hT
                      refine Sx.st_held hT rfl rfl rfl rfl hH (fun w' h' => Sx.x_load1 hT rfl Try.fl9 rfl (((Hu.heldR 0 rfl h' Sx.off_No).ssn rfl).cell (j := 0) Sn.len hy rfl)) ?_
                      clear hT; intro a hT
                      refine Sx.st_held hT rfl rfl rfl rfl hH (fun w' h' => Sx.y_loadS hT rfl Try.underlying39 Try.ti39 rfl ((Hu.heldB 5 rfl h' Sx.off_No).seg (k := 3) rfl) (by rfl)) ?_
                      clear hT; intro a hT
                      refine Sx.st_take hT rfl rfl rfl rfl (Sx.x_bld hT rfl Try.bld59 rfl rfl) ?_
                      clear hT; intro a hT
                      refine Sx.st_take hT rfl rfl rfl rfl (Sx.x_index (k := 0) hT rfl Try.underlying49 Try.ti59 (H.row 0 rfl).sv rfl rfl (by first | rfl | omega) (by omega)) ?_
                      clear hT; intro a hT
                      refine Sx.st_act hT rfl rfl rfl (Sx.x_storeRowS (k := 0) (r := (⟨y.key, v9, sz0⟩ : Sn)) hT rfl Try.ti59 rfl rfl Sn.len Sn.one rfl (H.row 0 rfl) rfl (by omega)) ?_
                      rintro w26 ⟨hr, E, _⟩
                      replace H := H.setR 0 rfl hr E (fun _ hk => .inl hk) rfl; clear hr E
                      replace hT := hT.keep [16, 139, 1, 110, 107, 15, 14, 42, 10, 9, 37, 8, 29, 20, 6, 5, 0, 2] rfl
                      clear Hu hH
                      refine Sx.ser_calm ?_
                      refine Sx.then_normal (hK48 _ _ ?_)
                      clear hK48
                      refine wp_seq_k fun K49 hK49 => ?_
                      refine Sx.wp_text [(0, .take), (1, .take), (2, .take), (3, .take), (4, .take), (5, .run), (6, .take), (7, .take), (8, .take), (9, .run)] rfl ?_
                      refine Sx.st_take hT rfl rfl rfl rfl (Sx.x_move hT rfl rfl) ?_
                      clear hT; intro a hT
                      refine Sx.st_take hT rfl rfl rfl rfl (Sx.x_move hT rfl rfl) ?_
                      clear hT; intro a hT
                      refine Sx.st_take hT rfl rfl rfl rfl (Sx.x_move hT rfl rfl) ?_
                      clear hT; intro a hT
                      refine Sx.st_take hT rfl rfl rfl rfl (Sx.x_move hT rfl rfl) ?_
                      clear hT; intro a hT
                      refine Sx.st_take hT rfl rfl rfl rfl (Sx.x_index (k := j9) hT rfl Try.underlying22 Try.ti36 (by first | exact (R.at H.ext).sv | exact (Row.ssn (xs := o.sn) (enc := Sn.cells) ((show Fam 59 7 Dn.rw _ L from (H.at 1 rfl)).row o hom) rfl).sv) rfl rfl (by first | rfl | omega) (by omega)) ?_
                      clear hT; intro a hT
                      refine Sx.st_run hT rfl rfl rfl rfl (Sx.y_loadS hT rfl Try.underlying36 Try.ti36 rfl ((R.at H.ext).cs En.len hoe) (by rfl)) ?_
                      clear hT; intro a hT
                      refine Sx.st_take hT rfl rfl rfl rfl (Sx.x_move hT rfl rfl) ?_
                      clear hT; intro a hT
                      rw [show Value.slice ad6 o.sn.length c6 = Value.slice ad6 (o.sn.set 0 (⟨y.key, v9, sz0⟩ : Sn)).length c6 from by rw [List.length_set]] at hT
                      refine Sx.st_take hT rfl rfl rfl rfl (Sx.x_bld hT rfl Try.bld51 rfl rfl) ?_
                      clear hT; intro a hT
                      refine Sx.st_take hT rfl rfl rfl rfl (Sx.x_index (k := j9) hT rfl Try.underlying46 Try.ti51 (H.row 2 rfl).sv rfl rfl (by first | rfl | omega) (by omega)) ?_
                      clear hT; intro a hT
                      refine Sx.st_act hT rfl rfl rfl (Sx.x_storeRowS (k := j9) (r := (⟨o.t, o.s, o.ad, o.c, o.ws, ad6, c6, o.sn.set 0 (⟨y.key, v9, sz0⟩ : Sn)⟩ : Dn)) hT rfl Try.ti51 rfl rfl Dn.len Dn.one rfl (H.row 2 rfl) rfl (by omega)) ?_
                      rintro w27 ⟨hr, E, _⟩
                      replace H := H.setR 2 rfl hr E (fun _ hk => .inl hk) rfl; clear hr E
                      replace hT := hT.keep [16, 139, 1, 110, 107, 15, 14, 42, 10, 9, 37, 8, 29, 20, 6, 5, 0, 2] rfl
                      refine Sx.ser_nil ?_
                      refine Sx.then_normal (hK49 _ _ ?_)
                      clear hK49
                      refine wp_seq_k fun K50 hK50 => ?_
                      refine Sx.wp_text [(0, .take), (1, .run), (2, .take), (3, .take), (4, .take), (5, .take), (6, .take)] rfl ?_
                      refine Sx.st_take hT rfl rfl rfl rfl (Sx.x_move hT rfl rfl) ?_
                      clear hT; intro a hT
                      rw [show L.length = (L.set j9 (⟨o.t, o.s, o.ad, o.c, o.ws, ad6, c6, o.sn.set 0 (⟨y.key, v9, sz0⟩ : Sn)⟩ : Dn)).length from (List.length_set ..).symm] at hT
                      refine Sx.st_call hT rfl rfl rfl rfl rfl Try.can20 rfl (ReadsA_calls (L.set j9 (⟨o.t, o.s, o.ad, o.c, o.ws, ad6, c6, o.sn.set 0 (⟨y.key, v9, sz0⟩ : Sn)⟩ : Dn)) ((H.row 2 rfl).ssn (by rw [List.length_set])) (fun x hx => by have hdx : ∀ x ∈ L, Ss w27 x.ad Wt.cells 4 x.ws ∧ (x.ad = none → x.ws.length = 0 ∧ x.c = 0) ∧ x.ws.length ≤ 1000000 := (fun x hx => ⟨(RM.at H.ext) x.e (hLm x hx).1, (hw x.e (hLm x hx).1).2.2.2, by have := hws x.e (hLm x hx).1; exact Nat.le_trans this (by decide)⟩); rcases List.mem_or_eq_of_mem_set hx with hx | rfl; exact hdx x hx; exact hdx o hom) (fun x hx => by rcases List.mem_or_eq_of_mem_set hx with hx | rfl; exact ⟨Row.ssn (xs := x.sn) (enc := Sn.cells) ((H.fam 1 rfl).row x hx) rfl, (fun z hz => by rw [(hLm x hx).2] at hz; obtain ⟨-, u9, hu, he⟩ := seen_v hz; rw [he]; exact ((hw x.e (hLm x hx).1).2.1 u9 hu).1), (by rw [(hLm x hx).2, seen_len]; have := hws x.e (hLm x hx).1; exact Nat.le_trans this (by decide))⟩; exact ⟨(H.row 0 rfl).ssn (by rw [List.length_set]), hk2, by show (o.sn.set 0 _).length ≤ _; rw [List.length_set]; omega⟩) (by rw [List.length_set]; omega) (by rw [← wl_e, List.map_set, show Dn.e (⟨o.t, o.s, o.ad, o.c, o.ws, ad6, c6, o.sn.set 0 (⟨y.key, v9, sz0⟩ : Sn)⟩ : Dn) = o.e from rfl, hLe, hset]; omega)) ?_
                      rintro _ w28 ⟨rfl, E⟩
                      refine ⟨_, rfl, ?_⟩
                      clear hT; intro a hT
                      replace H := H.pure E; clear E
                      rw [show (L.set j9 (⟨o.t, o.s, o.ad, o.c, o.ws, ad6, c6, o.sn.set 0 (⟨y.key, v9, sz0⟩ : Sn)⟩ : Dn)).map Dn.p = (dsF (l.map En.p)).set j9 (o.e.p, o.sn.set 0 (⟨y.key, v9, sz0⟩ : Sn)) from by rw [List.map_set, hLp]; rfl, rd_wrong hE hje hwrong] at hT
                      refine Sx.st_take hT rfl rfl rfl rfl (Sx.x_move hT rfl rfl) ?_
                      clear hT; intro a hT
                      refine Sx.st_take hT rfl rfl rfl rfl (Sx.x_extractL hT rfl rfl rfl) ?_
                      clear hT; intro a hT
                      refine Sx.st_take hT rfl rfl rfl rfl (Sx.x_extractL hT rfl rfl rfl) ?_
                      clear hT; intro a hT
                      refine Sx.st_take hT rfl rfl rfl rfl (Sx.x_assign hT rfl rfl) ?_
                      clear hT; intro a hT
                      refine Sx.st_take hT rfl rfl rfl rfl (Sx.x_assign hT rfl rfl) ?_
                      clear hT; intro a hT
                      replace hT := hT.keep [18, 17, 16, 139, 1, 110, 107, 15, 14, 42, 10, 9, 37, 8, 29, 20, 6, 5, 0, 2] rfl
                      refine Sx.ser_nil ?_
                      refine Sx.then_normal (hK50 _ _ ?_)
                      clear hK50
                      refine wp_seq_k fun K51 hK51 => ?_
                      refine Sx.wp_text [(0, .run), (1, .take), (2, .take), (3, .take), (4, .take), (5, .take), (6, .take), (7, .take), (8, .take), (9, .take), (10, .take)] rfl ?_
                      refine Sx.st_call hT rfl rfl rfl rfl rfl Try.can8 rfl (first_calls _) ?_
                      rintro _ w29 ⟨rfl, E⟩
                      refine ⟨_, rfl, ?_⟩
                      clear hT; intro a hT
                      replace H := H.pure E; clear E
                      refine Sx.st_take hT rfl rfl rfl rfl (Sx.x_move hT rfl rfl) ?_
                      clear hT; intro a hT
                      refine Sx.st_take hT rfl rfl rfl rfl (Sx.x_move hT rfl rfl) ?_
                      clear hT; intro a hT
                      refine Sx.st_take hT rfl rfl rfl rfl (Sx.x_move hT rfl rfl) ?_
                      clear hT; intro a hT
                      refine Sx.st_take hT rfl rfl rfl rfl ((fun w => Sx.x_eq w hT rfl rfl rfl)) ?_
                      clear hT; intro a hT
                      refine Sx.st_take hT rfl rfl rfl rfl (Sx.x_pick_t hT rfl rfl rfl) ?_
                      clear hT; intro a hT
                      refine Sx.st_take hT rfl rfl rfl rfl (Sx.x_move hT rfl rfl) ?_
                      clear hT; intro a hT
                      refine Sx.Sl.two hT 175 rfl (fun hc52 hT => ?_) (fun hc52 hT => ?_)
                      · try simp only [Sx.bq] at hc52
                        refine Sx.st_take hT rfl rfl rfl rfl (Sx.x_move hT rfl rfl) ?_
                        clear hT; intro a hT
                        refine Sx.st_take hT rfl rfl rfl rfl ((fun w => Sx.x_eq w hT rfl rfl rfl)) ?_
                        clear hT; intro a hT
                        refine Sx.st_take hT rfl rfl rfl rfl (Sx.x_pick_t hT rfl rfl rfl) ?_
                        clear hT; intro a hT
                        refine Sx.st_take hT rfl rfl rfl rfl (Sx.x_assign hT rfl rfl) ?_
                        clear hT; intro a hT
                        replace hT := hT.keep [6, 18, 17, 16, 139, 1, 110, 107, 15, 14, 42, 10, 9, 37, 8, 29, 20, 5, 0, 2] rfl
                        refine Sx.ser_nil ?_
                        refine Sx.then_normal (hK51 _ _ ?_)
                        clear hK51
                        refine wp_ret ?_
                        refine Sx.done1 (fn := Try.f5) hT rfl (.tmp (hT.get 6 _ rfl)) ?_
                        exact ⟨ret_b (by simp), H.ext⟩
                      · exfalso
                        try simp only [Sx.bq] at hc52
                        simp at hc52
                · clear hK39; intro hJK39
                  refine wp_seq_k fun K53 hK53 => ?_
                  refine Sx.wp_text [(0, .take), (1, .take)] rfl ?_
                  refine Sx.st_take hT rfl rfl rfl rfl (Sx.x_move hT rfl rfl) ?_
                  clear hT; intro a hT
                  refine Sx.st_take hT rfl rfl rfl rfl ((fun w => Sx.x_lt w hT rfl rfl rfl)) ?_
                  clear hT; intro a hT
                  replace hT := hT.keep [113, 110, 107, 15, 14, 42, 10, 9, 37, 8, 29, 20, 6, 5, 0, 1, 2] rfl
                  refine Sx.ser_nil ?_
                  refine Sx.then_normal (hK53 _ _ ?_)
                  clear hK53
                  refine Sx.wp_if hT rfl (fun hc54 => ?_) (fun hc54 => ?_)
                  · try simp only [Sx.bq] at hc54
                    refine Sx.wp_text [(0, .take), (1, .take), (2, .take), (3, .take)] rfl ?_
                    refine Sx.st_take hT rfl rfl rfl rfl (Sx.x_move hT rfl rfl) ?_
                    clear hT; intro a hT
                    refine Sx.st_take hT rfl rfl rfl rfl ((fun w => Sx.x_add w hT rfl rfl rfl (Sx.wrap64 (by omega)))) ?_
                    clear hT; intro a hT
                    refine Sx.st_take hT rfl rfl rfl rfl ((fun w => Sx.x_neg w hT rfl rfl (Sx.wrap64 (by omega)))) ?_
                    clear hT; intro a hT
                    refine Sx.st_take hT rfl rfl rfl rfl (Sx.x_assign hT rfl rfl) ?_
                    clear hT; intro a hT
                    replace hT := hT.keep [1, 113, 110, 107, 15, 14, 42, 10, 9, 37, 8, 29, 20, 6, 5, 0, 2] rfl
                    refine Sx.ser_nil ?_
                    exact Sx.then_normal (hJK39 (-(at9 + 1)).toNat _ _ trivial ((hT.keep [1, 110, 107, 15, 14, 42, 10, 9, 37, 8, 29, 20, 6, 5, 0, 2] rfl).conv (by rw [show (((-(at9 + 1)).toNat : Nat) : Int) = -(at9 + 1) from by omega]; rfl)) (H.keep [0, 1, 2, 3, 4] rfl rfl))
                  · try simp only [Sx.bq] at hc54
                    refine wp_skip ?_
                    exact Sx.then_normal (hJK39 at9.toNat _ _ trivial ((hT.keep [1, 110, 107, 15, 14, 42, 10, 9, 37, 8, 29, 20, 6, 5, 0, 2] rfl).conv (by rw [show ((at9.toNat : Nat) : Int) = at9 from by omega]; rfl)) (H.keep [0, 1, 2, 3, 4] rfl rfl))

end Go.Proofs.Ytpggijfpkgglmaa
