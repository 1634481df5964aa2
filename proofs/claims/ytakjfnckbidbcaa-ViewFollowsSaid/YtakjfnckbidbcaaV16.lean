/- Walks: a group by its name; the document's view. -/
import Derived.Test.YtakjfnckbidbcaaV15
set_option linter.unusedSimpArgs false
set_option linter.unusedVariables false
namespace Go.Proofs.Ytakjfnckbidbcaa
open Sx
theorem Try.ti33 : Sx.TI Try.prog 33 (.slice none 0 0) 1 24 := .mk' (by kernel_rfl)
theorem Try.fl33 : Sx.Flat Try.prog 33 := ⟨_, Try.underlying33, trivial⟩
theorem Try.fa37_1 : Sx.FA Try.prog 37 1 1 := ⟨_, _, _, _, _, Try.underlying37, rfl, rfl, Try.ti33, by decide⟩
theorem Try.fa37_2 : Sx.FA Try.prog 37 2 2 := ⟨_, _, _, _, _, Try.underlying37, rfl, rfl, Try.ti35, by decide⟩
theorem Try.can13 : Sx.Can Try.prog 13 := ⟨_, Try.func13, by kernel_rfl, rfl⟩
theorem Try.can18 : Sx.Can Try.prog 18 := ⟨_, Try.func18, by kernel_rfl, rfl⟩
theorem Group_calls {p cut b : Nat} {h : Stp} {L : List Wt} (nm : Key) {w : World} (hB : Blk w p (vwc (cut : Int) b h) 79) (hM : Mp Try.prog 9 w b (tw L)) (hs : SrtK slt Wt.key L) (hL : L.length ≤ 1000000) (hcut : cut ≤ 24) (hb : ∀ x ∈ L, x.key.length ≤ 140737488351232) : Calls Try.prog 18 #[.pointer (some ⟨p, 0, none⟩), .string ⟨nm.toArray⟩] w fun e w' => e = .returned (.tuple #[.agg #[.string ⟨((gfind (groupsF cut L) nm).getD gz6).name.toArray⟩, .int .i64 ((gfind (groupsF cut L) nm).getD gz6).keys, .int .i64 ((gfind (groupsF cut L) nm).getD gz6).nums, .float .f64 ((gfind (groupsF cut L) nm).getD gz6).sum, .float .f64 ((gfind (groupsF cut L) nm).getD gz6).least, .float .f64 ((gfind (groupsF cut L) nm).getD gz6).most], .bool (gfind (groupsF cut L) nm).isSome]) ∧ Ext No w w' := by
  have RB : Ro w No _ := Ro.of fun w' x => hB.ext_no x
  refine Sx.calls_into Try.func18 rfl Try.ntmps18 rfl fun a hT => ?_
  replace hT := hT.keep [0, 1] rfl
  have H : Sx.Hp w (Sx.No) w [] := Sx.Hp.start _ _
  refine wp_seq_k fun K1 hK1 => ?_
  -- region 0 (view.go:102)
  refine Sx.wp_text [(0, .run), (1, .take)] rfl ?_
  refine Sx.st_eff hT rfl rfl rfl rfl (Sx.y_alloc hT rfl Try.ti56 rfl _) ?_
  clear hT; rintro _ w1 ⟨b1, rfl, N⟩ a hT
  replace H := H.new N; clear N
  refine Sx.st_take hT rfl rfl rfl rfl (Sx.x_assign hT rfl rfl) ?_
  clear hT; intro a hT
  replace hT := hT.keep [5, 4, 0, 1] rfl
  refine Sx.ser_nil ?_
  refine Sx.then_normal (hK1 _ _ ?_)
  clear hK1
  refine wp_seq_k fun K2 hK2 => ?_
  refine wp_seq_k fun K3 hK3 => ?_
  -- region 1 (view.go:103)
  refine Sx.wp_text [(0, .take), (1, .run), (2, .take), (3, .take)] rfl ?_
  refine Sx.st_take hT rfl rfl rfl rfl (Sx.x_move hT rfl rfl) ?_
  clear hT; intro a hT
  refine Sx.st_call hT rfl rfl rfl rfl rfl Try.can15 rfl (Groups_calls (RB.at H.ext) (hM.ext H.ext (not_No _)) hs hL hcut hb) ?_
  rintro _ w2 ⟨ad8, c8, rfl, K⟩
  refine ⟨_, rfl, ?_⟩
  clear hT; intro a hT
  replace H := H.more K rfl; clear K
  refine Sx.st_take hT rfl rfl rfl rfl (Sx.x_len_slice hT rfl rfl Try.underlying51 rfl) ?_
  clear hT; intro a hT
  refine Sx.st_take hT rfl rfl rfl rfl (Sx.x_move hT rfl rfl) ?_
  clear hT; intro a hT
  replace hT := hT.keep [11, 10, 9, 5, 4, 0, 1] rfl
  refine Sx.ser_nil ?_
  refine Sx.then_normal (hK3 _ _ ?_)
  clear hK3
  refine wp_block ?_
  have hgl := groups_len cut L
  -- loop 0
  refine Sx.wp_loopH (G := Nat) (fun k => [(11, .int .i64 (k : Int))]) (fun k => []) (fun k => k ≤ (groupsF cut L).length ∧ ∀ (t : Nat) g, t < k → (groupsF cut L)[t]? = some g → g.name ≠ nm) (fun k => (groupsF cut L).length - k) 0 (hT.keep [11, 10, 9, 4, 0, 1] rfl) (H.keep [0, 1] rfl rfl) (⟨Nat.zero_le _, fun t g h => by omega⟩) ?_
  clear hT H
  rintro k a w3 hJ hT H
  replace hT := hT.keep [11, 10, 9, 4, 0, 1] rfl
  replace H := H.keep [0, 1] rfl rfl
  obtain ⟨hk, hnq⟩ := hJ
  refine wp_seq_k fun K4 hK4 => ?_
  -- region 2 (view.go:103)
  refine Sx.wp_text [(0, .take)] rfl ?_
  refine Sx.st_take hT rfl rfl rfl rfl ((fun w => Sx.x_lt w hT rfl rfl rfl)) ?_
  clear hT; intro a hT
  replace hT := hT.keep [12, 11, 10, 9, 4, 0, 1] rfl
  refine Sx.ser_nil ?_
  refine Sx.then_normal (hK4 _ _ ?_)
  clear hK4
  refine wp_seq_k fun K5 hK5 => ?_
  -- cond 0
  refine Sx.wp_if hT rfl (fun hc6 => ?_) (fun hc6 => ?_)
  · try simp only [decide_eq_true_eq, decide_eq_false_iff_not, Bool.not_eq_true', Bool.not_eq_false', Bool.not_eq_true, Bool.not_eq_false, Bool.and_eq_true, Bool.or_eq_false_iff, beq_iff_eq, bne_iff_ne, Int.not_lt, Int.not_le, ne_eq] at hc6
    obtain ⟨o, ho⟩ : ∃ o, (groupsF cut L)[k]? = some o := ⟨_, List.getElem?_eq_getElem (by omega)⟩
    refine wp_skip ?_
    refine Sx.then_normal (hK5 _ _ ?_)
    clear hK5
    refine wp_seq_k fun K7 hK7 => ?_
    refine wp_block ?_
    refine wp_seq_k fun K8 hK8 => ?_
    -- region 3 (view.go:103)
    refine Sx.wp_text [(0, .take), (1, .run), (2, .run), (3, .run)] rfl ?_
    refine Sx.st_take hT rfl rfl rfl rfl (Sx.x_index (k := k) hT rfl Try.underlying51 Try.ti56 (H.row 0 rfl).sv rfl rfl (by first | rfl | omega) (by omega)) ?_
    clear hT; intro a hT
    refine Sx.st_run hT rfl rfl rfl rfl (Sx.y_loadS hT rfl Try.underlying56 Try.ti56 rfl (((H.row 0 rfl).ssn rfl).cs G6.len ho) (by rfl)) ?_
    clear hT; intro a hT
    refine Sx.st_eff hT rfl rfl rfl rfl (Sx.y_alloc hT rfl Try.ti56 rfl _) ?_
    clear hT; rintro _ w4 ⟨b2, rfl, N⟩ a hT
    replace H := H.new N; clear N
    refine Sx.st_act hT rfl rfl rfl (Sx.y_storeS hT rfl Try.ti56 rfl rfl rfl rfl rfl (H.blk 0 rfl) rfl) ?_
    rintro w5 ⟨hb, E, _⟩
    replace H := H.setB 0 rfl hb E rfl; clear hb E
    replace hT := hT.keep [7, 12, 11, 10, 9, 4, 0, 1] rfl
    refine Sx.ser_nil ?_
    refine Sx.then_normal (hK8 _ _ ?_)
    clear hK8
    refine wp_seq_k fun K9 hK9 => ?_
    -- region 4 (view.go:104)
    refine Sx.wp_text [(0, .take), (1, .run), (2, .take), (3, .take)] rfl ?_
    refine Sx.st_take hT rfl rfl rfl rfl (Sx.x_fieldAddr hT rfl Try.fa56_0 rfl) ?_
    clear hT; intro a hT
    refine Sx.st_run hT rfl rfl rfl rfl (Sx.x_load1 hT rfl Try.fl9 rfl ((H.blk 0 rfl).nth rfl)) ?_
    clear hT; intro a hT
    refine Sx.st_take hT rfl rfl rfl rfl (Sx.x_move hT rfl rfl) ?_
    clear hT; intro a hT
    refine Sx.st_take hT rfl rfl rfl rfl ((fun w => Sx.x_streq w hT rfl rfl rfl)) ?_
    clear hT; intro a hT
    replace hT := hT.keep [18, 7, 12, 11, 10, 9, 4, 0, 1] rfl
    refine Sx.ser_nil ?_
    refine Sx.then_normal (hK9 _ _ ?_)
    clear hK9
    -- cond 1
    refine Sx.wp_if hT rfl (fun hc10 => ?_) (fun hc10 => ?_)
    · try simp only [decide_eq_true_eq, decide_eq_false_iff_not, Bool.not_eq_true', Bool.not_eq_false', Bool.not_eq_true, Bool.not_eq_false, Bool.and_eq_true, Bool.or_eq_false_iff, beq_iff_eq, bne_iff_ne, Int.not_lt, Int.not_le, ne_eq] at hc10
      have heq : o.name = nm := hc10
      refine wp_seq_k fun K11 hK11 => ?_
      -- region 5 (view.go:105)
      refine Sx.wp_text [(0, .run), (1, .run), (2, .take)] rfl ?_
      refine Sx.st_run hT rfl rfl rfl rfl (Sx.y_loadS hT rfl Try.underlying56 Try.ti56 rfl ((H.blk 0 rfl).seg (k := 6) rfl) (by rfl)) ?_
      clear hT; intro a hT
      refine Sx.st_act hT rfl rfl rfl (Sx.y_storeS hT rfl Try.ti56 rfl rfl rfl rfl rfl (H.blk 2 rfl) rfl) ?_
      rintro w6 ⟨hb, E, _⟩
      replace H := H.setB 2 rfl hb E rfl; clear hb E
      refine Sx.st_take hT rfl rfl rfl rfl (Sx.x_assign hT rfl rfl) ?_
      clear hT; intro a hT
      replace hT := hT.keep [5, 18, 7, 12, 11, 10, 9, 4, 0, 1] rfl
      refine Sx.ser_nil ?_
      refine Sx.then_normal (hK11 _ _ ?_)
      clear hK11
      refine wp_ret ?_
      refine Sx.block_ret ?_
      refine Sx.then_ret ?_
      refine Sx.then_ret ?_
      refine Sx.block_ret ?_
      refine Sx.then_ret ?_
      refine Sx.done2 (fn := Try.f18) hT rfl (.cell (hT.get 4 _ rfl) (Sx.run_resS Try.underlying56 Try.ti56 ((H.blk 2 rfl).seg (k := 6) rfl) (by rfl))) (.tmp (hT.get 5 _ rfl)) ?_
      rw [gfind_yes hnq ho heq]
      exact ⟨rfl, H.ext⟩
    · try simp only [decide_eq_true_eq, decide_eq_false_iff_not, Bool.not_eq_true', Bool.not_eq_false', Bool.not_eq_true, Bool.not_eq_false, Bool.and_eq_true, Bool.or_eq_false_iff, beq_iff_eq, bne_iff_ne, Int.not_lt, Int.not_le, ne_eq] at hc10
      have hne : o.name ≠ nm := hc10
      refine wp_skip ?_
      refine Sx.block_normal ?_
      refine Sx.then_normal (hK7 _ _ ?_)
      clear hK7
      -- region 6 (view.go:103)
      refine Sx.wp_text [(0, .take), (1, .take)] rfl ?_
      refine Sx.st_take hT rfl rfl rfl rfl ((fun w => Sx.x_add w hT rfl rfl rfl (Sx.wrap64 (by omega)))) ?_
      clear hT; intro a hT
      refine Sx.st_take hT rfl rfl rfl rfl (Sx.x_move hT rfl rfl) ?_
      clear hT; intro a hT
      replace hT := hT.keep [11, 18, 7, 12, 10, 9, 4, 0, 1] rfl
      refine Sx.ser_nil ?_
      refine Sx.then_normal ?_
      exact ⟨k + 1, ⟨by omega, fun t g h3 h4 => by rcases Nat.lt_or_ge t k with h5 | h5; exact hnq t g h5 h4; obtain rfl : t = k := (by omega); rw [ho] at h4; cases h4; exact hne⟩, (hT.keep [11, 10, 9, 4, 0, 1] rfl), (H.keep [1, 2] rfl rfl), by omega⟩
  · try simp only [decide_eq_true_eq, decide_eq_false_iff_not, Bool.not_eq_true', Bool.not_eq_false', Bool.not_eq_true, Bool.not_eq_false, Bool.and_eq_true, Bool.or_eq_false_iff, beq_iff_eq, bne_iff_ne, Int.not_lt, Int.not_le, ne_eq] at hc6
    have hkl : k = (groupsF cut L).length := by omega
    rw [hkl] at hnq
    refine wp_exit ?_
    refine Sx.then_exit ?_
    refine Sx.then_exit ?_
    refine Sx.block_exit ?_
    refine Sx.then_normal (hK2 _ _ ?_)
    clear hK2
    refine wp_seq_k fun K12 hK12 => ?_
    -- region 7 (view.go:108)
    refine Sx.wp_text [(0, .take), (1, .run), (2, .take)] rfl ?_
    refine Sx.st_take hT rfl rfl rfl rfl (Sx.x_bld hT rfl Try.bld56 rfl rfl) ?_
    clear hT; intro a hT
    refine Sx.st_act hT rfl rfl rfl (Sx.y_storeS hT rfl Try.ti56 rfl rfl rfl rfl rfl (H.blk 1 rfl) rfl) ?_
    rintro w7 ⟨hb, E, _⟩
    replace H := H.setB 1 rfl hb E rfl; clear hb E
    refine Sx.st_take hT rfl rfl rfl rfl (Sx.x_assign hT rfl rfl) ?_
    clear hT; intro a hT
    replace hT := hT.keep [5, 12, 11, 10, 9, 4, 0, 1] rfl
    refine Sx.ser_nil ?_
    refine Sx.then_normal (hK12 _ _ ?_)
    clear hK12
    refine wp_ret ?_
    refine Sx.done2 (fn := Try.f18) hT rfl (.cell (hT.get 4 _ rfl) (Sx.run_resS Try.underlying56 Try.ti56 ((H.blk 1 rfl).seg (k := 6) rfl) (by rfl))) (.tmp (hT.get 5 _ rfl)) ?_
    rw [gfind_no hnq]
    exact ⟨rfl, H.ext⟩

theorem Apply27_calls {S : Nat → Prop} {q : Nat} {cut : Int} {adp : Option Addr} {cp : Nat} {h : Stp} {L0 : List Wt} (t : Tn) (s : Stp) {ad : Option Addr} {c : Nat} (l : List Wt) {w : World} (H : Hp w S w [cB q [.int .i64 cut, .slice adp L0.length cp, .int .i64 h.w, .int .i64 h.l, .int .i64 h.n] 37, cR 69 4 adp (L0).length cp ((L0).flatMap Wt.cells)]) (R : Ro w S fun u => Ss u ad Wt.cells 4 l) (hl : l.length ≤ 1000000) (hL : L0.length ≤ 900000) (hs : SrtK slt Wt.key L0) : Calls Try.prog 13 #[.pointer (some ⟨q, 0, none⟩), .agg #[.int .i64 t.co, .int .i64 t.li, .int .i64 t.sq, .int .i64 s.w, .int .i64 s.l, .int .i64 s.n, .slice ad l.length c]] w fun e w' => ∃ ad' c', e = .returned (.int .i64 (appE h t s l)) ∧ Hp w S w' [cB q [.int .i64 cut, .slice ad' (appL h t s L0 l).length c', .int .i64 (appH h t s l).w, .int .i64 (appH h t s l).l, .int .i64 (appH h t s l).n] 37, cR 69 4 ad' (appL h t s L0 l).length c' ((appL h t s L0 l).flatMap Wt.cells)] := by
  refine Sx.calls_into Try.func13 rfl Try.ntmps13 rfl fun a hT => ?_
  replace hT := hT.keep [0, 1] rfl
  refine wp_seq_k fun K1 hK1 => ?_
  -- region 0 (ref.go:107)
  refine Sx.wp_text [(0, .run), (1, .take)] rfl ?_
  refine Sx.st_eff hT rfl rfl rfl rfl (Sx.y_box hT rfl rfl rfl _) ?_
  clear hT; rintro _ w1 ⟨b1, rfl, N⟩ a hT
  replace H := H.new N; clear N
  refine Sx.st_take hT rfl rfl rfl rfl (Sx.x_assign hT rfl rfl) ?_
  clear hT; intro a hT
  replace hT := hT.keep [4, 3, 0, 1] rfl
  refine Sx.ser_nil ?_
  refine Sx.then_normal (hK1 _ _ ?_)
  clear hK1
  refine wp_seq_k fun K2 hK2 => ?_
  refine wp_seq_k fun K3 hK3 => ?_
  -- region 1 (ref.go:108)
  refine Sx.wp_text [(0, .run), (1, .run), (2, .take)] rfl ?_
  refine Sx.st_run hT rfl rfl rfl rfl (Sx.y_loadS hT rfl Try.underlying42 Try.ti42 rfl ((H.blk 0 rfl).seg (k := 7) rfl) (by rfl)) ?_
  clear hT; intro a hT
  refine Sx.st_call hT rfl rfl rfl rfl rfl Try.can35 rfl (EntryMay_calls t s l (R.at H.ext) hl) ?_
  rintro _ w2 ⟨rfl, E⟩
  refine ⟨_, rfl, ?_⟩
  clear hT; intro a hT
  replace H := H.pure E; clear E
  refine Sx.st_take hT rfl rfl rfl rfl (Sx.x_not hT rfl rfl) ?_
  clear hT; intro a hT
  replace hT := hT.keep [8, 4, 3, 0, 1] rfl
  refine Sx.ser_nil ?_
  refine Sx.then_normal (hK3 _ _ ?_)
  clear hK3
  -- cond 0
  refine Sx.wp_if hT rfl (fun hc4 => ?_) (fun hc4 => ?_)
  · try simp only [decide_eq_true_eq, decide_eq_false_iff_not, Bool.not_eq_true', Bool.not_eq_false', Bool.not_eq_true, Bool.not_eq_false, Bool.and_eq_true, Bool.or_eq_false_iff, beq_iff_eq, bne_iff_ne, Int.not_lt, Int.not_le, ne_eq] at hc4
    have h1 : emay t s l = false := hc4
    refine wp_seq_k fun K5 hK5 => ?_
    -- region 2 (ref.go:109)
    refine Sx.wp_text [(0, .take)] rfl ?_
    refine Sx.st_take hT rfl rfl rfl rfl (Sx.x_assign hT rfl rfl) ?_
    clear hT; intro a hT
    replace hT := hT.keep [4, 8, 3, 0, 1] rfl
    refine Sx.ser_nil ?_
    refine Sx.then_normal (hK5 _ _ ?_)
    clear hK5
    refine wp_ret ?_
    refine Sx.then_ret ?_
    refine Sx.done1 (fn := Try.f13) hT rfl (.tmp (hT.get 4 _ rfl)) ?_
    have he : appE h t s l = 4 := by rw [appE_form]; exact if_pos h1
    obtain ⟨e1, e2⟩ := app_no L0 he (by decide)
    rw [he, e1, e2]
    exact ⟨_, _, rfl, H.keep [1, 2] rfl rfl⟩
  · try simp only [decide_eq_true_eq, decide_eq_false_iff_not, Bool.not_eq_true', Bool.not_eq_false', Bool.not_eq_true, Bool.not_eq_false, Bool.and_eq_true, Bool.or_eq_false_iff, beq_iff_eq, bne_iff_ne, Int.not_lt, Int.not_le, ne_eq] at hc4
    have h1 : emay t s l = true := hc4
    have hlw : l.length ≤ 16 := by
      have h9 := h1
      unfold emay at h9
      simp only [Bool.and_eq_true] at h9
      exact (okW_el h9.2).1
    refine wp_skip ?_
    refine Sx.then_normal (hK2 _ _ ?_)
    clear hK2
    refine wp_seq_k fun K6 hK6 => ?_
    refine wp_seq_k fun K7 hK7 => ?_
    -- region 3 (ref.go:111)
    refine Sx.wp_draws (fun u => Sx.Ext (Sx.No) u) [(0, .take), (1, .take), (2, .take), (3, .held), (4, .take), (5, .held), (6, .run), (7, .take)] (by kernel_rfl) (by kernel_rfl) (fun u E _ => ?_)
    replace H := H.pure E; clear E
    have hH : Sx.Ext (Sx.No) u u := Sx.Ext.refl _ _
    have Hu := H
    refine Sx.st_take hT rfl rfl rfl rfl (Sx.x_move hT rfl rfl) ?_
    clear hT; intro a hT
    refine Sx.st_take hT rfl rfl rfl rfl (Sx.x_nilCheck hT rfl rfl) ?_
    clear hT; intro a hT
    refine Sx.st_take hT rfl rfl rfl rfl (Sx.x_fieldAddr hT rfl Try.fa37_2 rfl) ?_
    clear hT; intro a hT
    refine Sx.st_held hT rfl rfl rfl rfl hH (fun w' h' => Sx.y_loadS hT rfl Try.underlying35 Try.ti35 rfl ((Hu.heldB 1 rfl h' Sx.off_No).seg (k := 3) rfl) (by rfl)) ?_
    clear hT; intro a hT
    refine Sx.st_take hT rfl rfl rfl rfl (Sx.x_fieldAddr hT rfl Try.fa42_1 rfl) ?_
    clear hT; intro a hT
    refine Sx.st_held hT rfl rfl rfl rfl hH (fun w' h' => Sx.y_loadS hT rfl Try.underlying35 Try.ti35 rfl ((Hu.heldB 0 rfl h' Sx.off_No).seg (k := 3) rfl) (by rfl)) ?_
    clear hT; intro a hT
    refine Sx.st_call hT rfl rfl rfl rfl rfl Try.can36 rfl (Less_calls h s _) ?_
    rintro _ w3 ⟨rfl, E⟩
    refine ⟨_, rfl, ?_⟩
    clear hT; intro a hT
    replace H := H.pure E; clear E
    refine Sx.st_take hT rfl rfl rfl rfl (Sx.x_not hT rfl rfl) ?_
    clear hT; intro a hT
    replace hT := hT.keep [16, 8, 4, 3, 0, 1] rfl
    clear Hu hH
    refine Sx.ser_calm ?_
    refine Sx.then_normal (hK7 _ _ ?_)
    clear hK7
    -- cond 1
    refine Sx.wp_if hT rfl (fun hc8 => ?_) (fun hc8 => ?_)
    · try simp only [decide_eq_true_eq, decide_eq_false_iff_not, Bool.not_eq_true', Bool.not_eq_false', Bool.not_eq_true, Bool.not_eq_false, Bool.and_eq_true, Bool.or_eq_false_iff, beq_iff_eq, bne_iff_ne, Int.not_lt, Int.not_le, ne_eq] at hc8
      have h2 : ¬ ltS h s := hc8
      refine wp_seq_k fun K9 hK9 => ?_
      -- region 4 (ref.go:112)
      refine Sx.wp_text [(0, .take)] rfl ?_
      refine Sx.st_take hT rfl rfl rfl rfl (Sx.x_assign hT rfl rfl) ?_
      clear hT; intro a hT
      replace hT := hT.keep [4, 16, 8, 3, 0, 1] rfl
      refine Sx.ser_nil ?_
      refine Sx.then_normal (hK9 _ _ ?_)
      clear hK9
      refine wp_ret ?_
      refine Sx.then_ret ?_
      refine Sx.done1 (fn := Try.f13) hT rfl (.tmp (hT.get 4 _ rfl)) ?_
      have he : appE h t s l = 20 := by rw [appE_form, if_neg (by rw [h1]; decide), if_neg h2]
      obtain ⟨e1, e2⟩ := app_no L0 he (by decide)
      rw [he, e1, e2]
      exact ⟨_, _, rfl, H.keep [1, 2] rfl rfl⟩
    · try simp only [decide_eq_true_eq, decide_eq_false_iff_not, Bool.not_eq_true', Bool.not_eq_false', Bool.not_eq_true, Bool.not_eq_false, Bool.and_eq_true, Bool.or_eq_false_iff, beq_iff_eq, bne_iff_ne, Int.not_lt, Int.not_le, ne_eq] at hc8
      have h2 : ltS h s := hc8
      refine wp_skip ?_
      refine Sx.then_normal (hK6 _ _ ?_)
      clear hK6
      refine wp_seq_k fun K10 hK10 => ?_
      refine wp_seq_k fun K11 hK11 => ?_
      -- region 5 (ref.go:114)
      refine Sx.wp_text [(0, .take)] rfl ?_
      refine Sx.st_take hT rfl rfl rfl rfl (Sx.x_assign hT rfl rfl) ?_
      clear hT; intro a hT
      replace hT := hT.keep [5, 16, 8, 4, 3, 0, 1] rfl
      refine Sx.ser_nil ?_
      refine Sx.then_normal (hK11 _ _ ?_)
      clear hK11
      refine wp_block ?_
      -- loop 0
      refine Sx.wp_loopH (G := Nat × List Wt × Option Addr × Nat) (fun ⟨k, L, ad2, c2⟩ => [(5, .int .i64 (k : Int))]) (fun ⟨k, L, ad2, c2⟩ => [cB q [.int .i64 cut, .slice ad2 L.length c2, .int .i64 h.w, .int .i64 h.l, .int .i64 h.n] 37, cR 69 4 ad2 (L).length c2 ((L).flatMap Wt.cells)]) (fun ⟨k, L, ad2, c2⟩ => k ≤ l.length ∧ (l.take k).foldl putV L0 = L ∧ L.length ≤ L0.length + k ∧ SrtK slt Wt.key L) (fun ⟨k, L, ad2, c2⟩ => l.length - k) (0, L0, adp, cp) (hT.keep [5, 16, 8, 4, 3, 0, 1] rfl) (H.keep [1, 2, 0] rfl rfl) (⟨Nat.zero_le _, rfl, Nat.le_refl _, hs⟩) ?_
      clear hT H
      rintro ⟨k, L, ad2, c2⟩ a w4 hJ hT H
      replace hT := hT.keep [5, 16, 8, 4, 3, 0, 1] rfl
      replace H := H.keep [0, 1, 2] rfl rfl
      obtain ⟨hk, hf, hLk, hsr⟩ := hJ
      refine wp_seq_k fun K12 hK12 => ?_
      refine wp_seq_k fun K13 hK13 => ?_
      -- region 6 (ref.go:114)
      refine Sx.wp_text [(0, .take), (1, .take), (2, .run), (3, .take), (4, .take)] rfl ?_
      refine Sx.st_take hT rfl rfl rfl rfl (Sx.x_move hT rfl rfl) ?_
      clear hT; intro a hT
      refine Sx.st_take hT rfl rfl rfl rfl (Sx.x_fieldAddr hT rfl Try.fa42_2 rfl) ?_
      clear hT; intro a hT
      refine Sx.st_run hT rfl rfl rfl rfl (Sx.x_load1 hT rfl Try.fl40 rfl ((H.blk 2 rfl).nth rfl)) ?_
      clear hT; intro a hT
      refine Sx.st_take hT rfl rfl rfl rfl (Sx.x_len_slice hT rfl rfl Try.underlying40 rfl) ?_
      clear hT; intro a hT
      refine Sx.st_take hT rfl rfl rfl rfl ((fun w => Sx.x_lt w hT rfl rfl rfl)) ?_
      clear hT; intro a hT
      replace hT := hT.keep [21, 5, 16, 8, 4, 3, 0, 1] rfl
      refine Sx.ser_nil ?_
      refine Sx.then_normal (hK13 _ _ ?_)
      clear hK13
      -- cond 2
      refine Sx.wp_if hT rfl (fun hc14 => ?_) (fun hc14 => ?_)
      · try simp only [decide_eq_true_eq, decide_eq_false_iff_not, Bool.not_eq_true', Bool.not_eq_false', Bool.not_eq_true, Bool.not_eq_false, Bool.and_eq_true, Bool.or_eq_false_iff, beq_iff_eq, bne_iff_ne, Int.not_lt, Int.not_le, ne_eq] at hc14
        obtain ⟨o, ho⟩ : ∃ o, l[k]? = some o := ⟨_, List.getElem?_eq_getElem (by omega)⟩
        refine wp_skip ?_
        refine Sx.then_normal (hK12 _ _ ?_)
        clear hK12
        refine wp_seq_k fun K15 hK15 => ?_
        refine wp_block ?_
        -- region 8 (ref.go:115)
        refine Sx.wp_draws (fun u => Sx.Ext (Sx.No) u) [(0, .take), (1, .take), (2, .take), (3, .take), (4, .held), (5, .take), (6, .held), (7, .take), (8, .take), (9, .held), (10, .run), (11, .take), (12, .take), (13, .run)] (by kernel_rfl) (by kernel_rfl) (fun u E _ => ?_)
        replace H := H.pure E; clear E
        have hH : Sx.Ext (Sx.No) u u := Sx.Ext.refl _ _
        have Hu := H
        refine Sx.st_take hT rfl rfl rfl rfl (Sx.x_move hT rfl rfl) ?_
        clear hT; intro a hT
        refine Sx.st_take hT rfl rfl rfl rfl (Sx.x_move hT rfl rfl) ?_
        clear hT; intro a hT
        refine Sx.st_take hT rfl rfl rfl rfl (Sx.x_nilCheck hT rfl rfl) ?_
        clear hT; intro a hT
        refine Sx.st_take hT rfl rfl rfl rfl (Sx.x_fieldAddr hT rfl Try.fa37_1 rfl) ?_
        clear hT; intro a hT
        refine Sx.st_held hT rfl rfl rfl rfl hH (fun w' h' => Sx.x_load1 hT rfl Try.fl33 rfl ((Hu.heldB 0 rfl h' Sx.off_No).nth rfl)) ?_
        clear hT; intro a hT
        refine Sx.st_take hT rfl rfl rfl rfl (Sx.x_fieldAddr hT rfl Try.fa42_2 rfl) ?_
        clear hT; intro a hT
        refine Sx.st_held hT rfl rfl rfl rfl hH (fun w' h' => Sx.x_load1 hT rfl Try.fl40 rfl ((Hu.heldB 2 rfl h' Sx.off_No).nth rfl)) ?_
        clear hT; intro a hT
        refine Sx.st_take hT rfl rfl rfl rfl (Sx.x_move hT rfl rfl) ?_
        clear hT; intro a hT
        refine Sx.st_take hT rfl rfl rfl rfl (Sx.x_index (k := k) hT rfl Try.underlying40 Try.ti50 (R.at H.ext).sv rfl rfl (by first | rfl | omega) (by omega)) ?_
        clear hT; intro a hT
        refine Sx.st_held hT rfl rfl rfl rfl hH (fun w' h' => Sx.y_loadS hT rfl Try.underlying50 Try.ti50 rfl (by first | exact ((Hu.heldB 0 rfl h' Sx.off_No).seg (k := 4) rfl) | exact ((Hu.heldB 2 rfl h' Sx.off_No).seg (k := 4) rfl) | exact ((R.at (Hu.ext.step h')).cs Wt.len ho)) (by rfl)) ?_
        clear hT; intro a hT
        refine Sx.st_call hT rfl rfl rfl rfl rfl Try.can37 rfl (Put_calls L o ((H.row 1 rfl).ssn rfl) (H.row 1 rfl).le.1 (rownil (H.row 1 rfl)) (by omega)) ?_
        rintro _ w5 ⟨ad8, c8, rfl, K⟩
        refine ⟨_, rfl, ?_⟩
        clear hT; intro a hT
        replace H := H.more K rfl; clear K
        rw [putD_eq hsr] at H hT
        refine Sx.st_take hT rfl rfl rfl rfl (Sx.x_nilCheck hT rfl rfl) ?_
        clear hT; intro a hT
        refine Sx.st_take hT rfl rfl rfl rfl (Sx.x_fieldAddr hT rfl Try.fa37_1 rfl) ?_
        clear hT; intro a hT
        refine Sx.st_act hT rfl rfl rfl (Sx.y_store1 hT rfl Try.ti33 rfl rfl rfl (H.blk 1 rfl) rfl) ?_
        rintro w6 ⟨hb, E, _⟩
        replace H := H.setB 1 rfl hb E rfl; clear hb E
        replace hT := hT.keep [21, 5, 16, 8, 4, 3, 0, 1] rfl
        clear Hu hH
        refine Sx.ser_calm ?_
        refine Sx.block_normal ?_
        refine Sx.then_normal (hK15 _ _ ?_)
        clear hK15
        -- region 7 (ref.go:114)
        refine Sx.wp_text [(0, .take), (1, .take), (2, .take)] rfl ?_
        refine Sx.st_take hT rfl rfl rfl rfl (Sx.x_move hT rfl rfl) ?_
        clear hT; intro a hT
        refine Sx.st_take hT rfl rfl rfl rfl ((fun w => Sx.x_add w hT rfl rfl rfl (Sx.wrap64 (by omega)))) ?_
        clear hT; intro a hT
        refine Sx.st_take hT rfl rfl rfl rfl (Sx.x_assign hT rfl rfl) ?_
        clear hT; intro a hT
        replace hT := hT.keep [5, 21, 16, 8, 4, 3, 0, 1] rfl
        refine Sx.ser_nil ?_
        refine Sx.then_normal ?_
        exact ⟨(k + 1, putV L o, ad8, c8), ⟨by show k + 1 ≤ _; omega, by show (l.take (k + 1)).foldl putV L0 = _; rw [take_app ho, List.foldl_append, hf]; rfl, by show List.length (putV L o) ≤ _ + (k + 1); have := putV_len L o; omega, putV_srt o hsr⟩, (hT.keep [5, 16, 8, 4, 3, 0, 1] rfl), (H.keep [1, 0, 3] rfl rfl), by show _ - (k + 1) < _ - k; omega⟩
      · try simp only [decide_eq_true_eq, decide_eq_false_iff_not, Bool.not_eq_true', Bool.not_eq_false', Bool.not_eq_true, Bool.not_eq_false, Bool.and_eq_true, Bool.or_eq_false_iff, beq_iff_eq, bne_iff_ne, Int.not_lt, Int.not_le, ne_eq] at hc14
        have hkl : k = l.length := by omega
        rw [hkl, List.take_length] at hf
        refine wp_exit ?_
        refine Sx.then_exit ?_
        refine Sx.then_exit ?_
        refine Sx.block_exit ?_
        refine Sx.then_normal (hK10 _ _ ?_)
        clear hK10
        refine wp_seq_k fun K16 hK16 => ?_
        -- region 9 (ref.go:117)
        refine Sx.wp_text [(0, .take), (1, .take), (2, .run), (3, .take), (4, .take), (5, .run)] rfl ?_
        refine Sx.st_take hT rfl rfl rfl rfl (Sx.x_move hT rfl rfl) ?_
        clear hT; intro a hT
        refine Sx.st_take hT rfl rfl rfl rfl (Sx.x_fieldAddr hT rfl Try.fa42_1 rfl) ?_
        clear hT; intro a hT
        refine Sx.st_run hT rfl rfl rfl rfl (Sx.y_loadS hT rfl Try.underlying35 Try.ti35 rfl ((H.blk 2 rfl).seg (k := 3) rfl) (by rfl)) ?_
        clear hT; intro a hT
        refine Sx.st_take hT rfl rfl rfl rfl (Sx.x_nilCheck hT rfl rfl) ?_
        clear hT; intro a hT
        refine Sx.st_take hT rfl rfl rfl rfl (Sx.x_fieldAddr hT rfl Try.fa37_2 rfl) ?_
        clear hT; intro a hT
        refine Sx.st_act hT rfl rfl rfl (Sx.y_storeS hT rfl Try.ti35 rfl rfl rfl rfl rfl (H.blk 0 rfl) rfl) ?_
        rintro w7 ⟨hb, E, _⟩
        replace H := H.setB 0 rfl hb E rfl; clear hb E
        replace hT := hT.keep [21, 5, 16, 8, 4, 3, 0, 1] rfl
        refine Sx.ser_nil ?_
        refine Sx.then_normal (hK16 _ _ ?_)
        clear hK16
        refine wp_seq_k fun K17 hK17 => ?_
        -- region 10 (ref.go:118)
        refine Sx.wp_text [(0, .take)] rfl ?_
        refine Sx.st_take hT rfl rfl rfl rfl (Sx.x_assign hT rfl rfl) ?_
        clear hT; intro a hT
        replace hT := hT.keep [4, 21, 5, 16, 8, 3, 0, 1] rfl
        refine Sx.ser_nil ?_
        refine Sx.then_normal (hK17 _ _ ?_)
        clear hK17
        refine wp_ret ?_
        refine Sx.done1 (fn := Try.f13) hT rfl (.tmp (hT.get 4 _ rfl)) ?_
        have he : appE h t s l = 0 := by rw [appE_form, if_neg (by rw [h1]; decide), if_pos h2]
        obtain ⟨e1, e2⟩ := app_yes L0 he
        rw [he, e1, e2, hf]
        exact ⟨_, _, rfl, H.keep [0, 1] rfl rfl⟩

end Go.Proofs.Ytakjfnckbidbcaa
