/- Walks: a view follows. -/
import Derived.Test.YtakjfnckbidbcaaV7
import Derived.Test.YtakjfnckbidbcaaC6
set_option linter.unusedSimpArgs false
set_option linter.unusedVariables false
namespace Go.Proofs.Ytakjfnckbidbcaa
open Sx
theorem Try.fl77 : Sx.Flat Try.prog 77 := ⟨_, Try.underlying77, trivial⟩
theorem Try.fa79_1 : Sx.FA Try.prog 79 1 1 := ⟨_, _, _, _, _, Try.underlying79, rfl, rfl, Try.ti77, by decide⟩
theorem Try.bld87 : Sx.Bld Try.prog 87 #[.int .i64 0, .int .i64 0, .int .i64 0, .int .i64 0, .int .i64 0, .int .i64 0, .slice none 0 0, .slice none 0 0] #[(0, 3), (3, 3), (6, 1), (7, 1)] := ⟨_, _, _, _, Try.ti87, rfl, Try.underlying87, fun w => by simp [Sx.placesOf, Sx.run_sizeOf Try.ti35, Sx.run_sizeOf Try.ti39, Sx.run_sizeOf Try.ti40, Sx.run_sizeOf Try.ti85]⟩
theorem Try.can12 : Sx.Can Try.prog 12 := ⟨_, Try.func12, by kernel_rfl, rfl⟩
def appE (h : Stp) (t : Tn) (s : Stp) (l : List Wt) : Int := if pmay t s [] l ≠ 0 then 4 else if cmpS s h ≤ 0 then 20 else 0
def appL (h : Stp) (t : Tn) (s : Stp) (L l : List Wt) : List Wt := if appE h t s l = 0 then l.foldl putV L else L
def appH (h : Stp) (t : Tn) (s : Stp) (l : List Wt) : Stp := if appE h t s l = 0 then s else h
theorem app_no {h : Stp} {t : Tn} {s : Stp} {l : List Wt} {n : Int} (L : List Wt) (he : appE h t s l = n) (hn : n ≠ 0) : appL h t s L l = L ∧ appH h t s l = h := by
  unfold appL appH
  rw [he, if_neg hn, if_neg hn]
  exact ⟨rfl, rfl⟩
theorem app_yes {h : Stp} {t : Tn} {s : Stp} {l : List Wt} (L : List Wt) (he : appE h t s l = 0) : appL h t s L l = l.foldl putV L ∧ appH h t s l = s := by
  unfold appL appH
  rw [he, if_pos rfl, if_pos rfl]
  exact ⟨rfl, rfl⟩
theorem del_v (k : Key) (L : List Wt) : (tw L).del (slit k) = tw (dlK Wt.key k L) := delK sO k
theorem put_v (x : Wt) (L : List Wt) : (tw L).put (slit x.key) (.held (.agg #[.int .i64 x.v.k, .float .f64 x.v.num, .string ⟨x.v.tx.toArray⟩])) = tw (ptK slit Wt.key x L) := putK x

theorem Apply_calls {S : Nat → Prop} {p : Nat} {cut : Int} {b : Nat} {h : Stp} {L0 : List Wt} (t : Tn) (s : Stp) {ad : Option Addr} {c : Nat} (l : List Wt) {w : World} (H : Hp w S w [cB p (vwc cut b h) 79, cM Try.prog 9 b (tw L0)]) (R : Ro w S fun u => Ss u ad Wt.cells 4 l) (hl : l.length ≤ 1000000) (hL : L0.length ≤ 1000000) (hb : ∀ x ∈ l, x.key.length ≤ 140737488351232) : Calls Try.prog 12 #[.pointer (some ⟨p, 0, none⟩), .agg #[.int .i64 t.co, .int .i64 t.li, .int .i64 t.sq, .int .i64 s.w, .int .i64 s.l, .int .i64 s.n, .slice ad l.length c]] w fun e w' => e = .returned (.int .i64 (appE h t s l)) ∧ Hp w S w' [cB p (vwc cut b (appH h t s l)) 79, cM Try.prog 9 b (tw (appL h t s L0 l))] := by
  refine Sx.calls_into Try.func12 rfl Try.ntmps12 rfl fun a hT => ?_
  replace hT := hT.keep [0, 1] rfl
  refine wp_seq_k fun K1 hK1 => ?_
  -- region 0 (view.go:40)
  refine Sx.wp_text [(0, .run), (1, .take)] rfl ?_
  refine Sx.st_eff hT rfl rfl rfl rfl (Sx.y_box hT rfl rfl rfl _) ?_
  clear hT; rintro _ w1 ⟨b1, rfl, N⟩ a hT
  replace H := H.new N; clear N
  refine Sx.st_take hT rfl rfl rfl rfl (Sx.x_assign hT rfl rfl) ?_
  clear hT; intro a hT
  replace hT := hT.keep [4, 3, 0, 1] rfl
  refine Sx.ser_nil ?_
  refine Sx.then_normal (hK1 _ _ ?_)
  clear hK1
  refine wp_seq_k fun K2 hK2 => ?_
  refine wp_block ?_
  refine wp_seq_k fun K3 hK3 => ?_
  -- region 1 (view.go:42)
  refine Sx.wp_text [(0, .take), (1, .run), (2, .take), (3, .run), (4, .take), (5, .run), (6, .take), (7, .run), (8, .take), (9, .take)] rfl ?_
  refine Sx.st_take hT rfl rfl rfl rfl (Sx.x_fieldAddr hT rfl Try.fa42_0 rfl) ?_
  clear hT; intro a hT
  refine Sx.st_run hT rfl rfl rfl rfl (Sx.y_loadS hT rfl Try.underlying39 Try.ti39 rfl ((H.blk 0 rfl).seg (k := 3) rfl) (by rfl)) ?_
  clear hT; intro a hT
  refine Sx.st_take hT rfl rfl rfl rfl (Sx.x_fieldAddr hT rfl Try.fa42_1 rfl) ?_
  clear hT; intro a hT
  refine Sx.st_run hT rfl rfl rfl rfl (Sx.y_loadS hT rfl Try.underlying35 Try.ti35 rfl ((H.blk 0 rfl).seg (k := 3) rfl) (by rfl)) ?_
  clear hT; intro a hT
  refine Sx.st_take hT rfl rfl rfl rfl (Sx.x_fieldAddr hT rfl Try.fa42_2 rfl) ?_
  clear hT; intro a hT
  refine Sx.st_run hT rfl rfl rfl rfl (Sx.x_load1 hT rfl Try.fl40 rfl ((H.blk 0 rfl).nth rfl)) ?_
  clear hT; intro a hT
  refine Sx.st_take hT rfl rfl rfl rfl (Sx.x_bld hT rfl Try.bld87 rfl rfl) ?_
  clear hT; intro a hT
  refine Sx.st_call hT rfl rfl rfl rfl rfl Try.can33 rfl (PendingMay_calls t s [] l (Ss.nil _ kc 1) (R.at H.ext) (by decide) hl) ?_
  rintro _ w2 ⟨rfl, E⟩
  refine ⟨_, rfl, ?_⟩
  clear hT; intro a hT
  replace H := H.pure E; clear E
  refine Sx.st_take hT rfl rfl rfl rfl ((fun w => Sx.x_ne w hT rfl rfl rfl)) ?_
  clear hT; intro a hT
  refine Sx.st_take hT rfl rfl rfl rfl (Sx.x_assign hT rfl rfl) ?_
  clear hT; intro a hT
  replace hT := hT.keep [7, 4, 3, 0, 1] rfl
  refine Sx.ser_nil ?_
  refine Sx.then_normal (hK3 _ _ ?_)
  clear hK3
  -- cond 0
  refine Sx.wp_if hT rfl (fun hc4 => ?_) (fun hc4 => ?_)
  · try simp only [decide_eq_true_eq, decide_eq_false_iff_not, Bool.not_eq_true', Bool.not_eq_false', Bool.not_eq_true, Bool.not_eq_false, Bool.and_eq_true, Bool.or_eq_false_iff, beq_iff_eq, bne_iff_ne, Int.not_lt, Int.not_le, ne_eq] at hc4
    have h1 : pmay t s [] l ≠ 0 := hc4
    refine wp_seq_k fun K5 hK5 => ?_
    -- region 2 (view.go:43)
    refine Sx.wp_text [(0, .take)] rfl ?_
    refine Sx.st_take hT rfl rfl rfl rfl (Sx.x_assign hT rfl rfl) ?_
    clear hT; intro a hT
    replace hT := hT.keep [4, 7, 3, 0, 1] rfl
    refine Sx.ser_nil ?_
    refine Sx.then_normal (hK5 _ _ ?_)
    clear hK5
    refine wp_ret ?_
    refine Sx.block_ret ?_
    refine Sx.then_ret ?_
    refine Sx.done1 (fn := Try.f12) hT rfl (.tmp (hT.get 4 _ rfl)) ?_
    have he : appE h t s l = 4 := by unfold appE; exact if_pos h1
    obtain ⟨e1, e2⟩ := app_no L0 he (by decide)
    rw [he, e1, e2]
    exact ⟨rfl, H.keep [1, 2] rfl rfl⟩
  · try simp only [decide_eq_true_eq, decide_eq_false_iff_not, Bool.not_eq_true', Bool.not_eq_false', Bool.not_eq_true, Bool.not_eq_false, Bool.and_eq_true, Bool.or_eq_false_iff, beq_iff_eq, bne_iff_ne, Int.not_lt, Int.not_le, ne_eq] at hc4
    have h1 : pmay t s [] l = 0 := by omega
    refine wp_seq_k fun K6 hK6 => ?_
    -- region 3 (view.go:44)
    refine Sx.wp_draws (fun u => Sx.Ext (Sx.No) u) [(0, .take), (1, .held), (2, .take), (3, .take), (4, .take), (5, .held), (6, .run), (7, .take), (8, .take)] (by kernel_rfl) (by kernel_rfl) (fun u E _ => ?_)
    replace H := H.pure E; clear E
    have hH : Sx.Ext (Sx.No) u u := Sx.Ext.refl _ _
    have Hu := H
    refine Sx.st_take hT rfl rfl rfl rfl (Sx.x_fieldAddr hT rfl Try.fa42_1 rfl) ?_
    clear hT; intro a hT
    refine Sx.st_held hT rfl rfl rfl rfl hH (fun w' h' => Sx.y_loadS hT rfl Try.underlying35 Try.ti35 rfl ((Hu.heldB 0 rfl h' Sx.off_No).seg (k := 3) rfl) (by rfl)) ?_
    clear hT; intro a hT
    refine Sx.st_take hT rfl rfl rfl rfl (Sx.x_move hT rfl rfl) ?_
    clear hT; intro a hT
    refine Sx.st_take hT rfl rfl rfl rfl (Sx.x_nilCheck hT rfl rfl) ?_
    clear hT; intro a hT
    refine Sx.st_take hT rfl rfl rfl rfl (Sx.x_fieldAddr hT rfl Try.fa79_2 rfl) ?_
    clear hT; intro a hT
    refine Sx.st_held hT rfl rfl rfl rfl hH (fun w' h' => Sx.y_loadS hT rfl Try.underlying35 Try.ti35 rfl ((Hu.heldB 1 rfl h' Sx.off_No).seg (k := 3) rfl) (by rfl)) ?_
    clear hT; intro a hT
    refine Sx.st_call hT rfl rfl rfl rfl rfl Try.can34 rfl (Compare_calls _ _ _) ?_
    rintro _ w3 ⟨rfl, E⟩
    refine ⟨_, rfl, ?_⟩
    clear hT; intro a hT
    replace H := H.pure E; clear E
    refine Sx.st_take hT rfl rfl rfl rfl ((fun w => Sx.x_le w hT rfl rfl rfl)) ?_
    clear hT; intro a hT
    refine Sx.st_take hT rfl rfl rfl rfl (Sx.x_assign hT rfl rfl) ?_
    clear hT; intro a hT
    replace hT := hT.keep [17, 7, 4, 3, 0, 1] rfl
    clear Hu hH
    refine Sx.ser_calm ?_
    refine Sx.then_normal (hK6 _ _ ?_)
    clear hK6
    -- cond 1
    refine Sx.wp_if hT rfl (fun hc7 => ?_) (fun hc7 => ?_)
    · try simp only [decide_eq_true_eq, decide_eq_false_iff_not, Bool.not_eq_true', Bool.not_eq_false', Bool.not_eq_true, Bool.not_eq_false, Bool.and_eq_true, Bool.or_eq_false_iff, beq_iff_eq, bne_iff_ne, Int.not_lt, Int.not_le, ne_eq] at hc7
      have h2 : cmpS s h ≤ 0 := hc7
      refine wp_seq_k fun K8 hK8 => ?_
      -- region 4 (view.go:45)
      refine Sx.wp_text [(0, .take)] rfl ?_
      refine Sx.st_take hT rfl rfl rfl rfl (Sx.x_assign hT rfl rfl) ?_
      clear hT; intro a hT
      replace hT := hT.keep [4, 17, 7, 3, 0, 1] rfl
      refine Sx.ser_nil ?_
      refine Sx.then_normal (hK8 _ _ ?_)
      clear hK8
      refine wp_ret ?_
      refine Sx.block_ret ?_
      refine Sx.then_ret ?_
      refine Sx.done1 (fn := Try.f12) hT rfl (.tmp (hT.get 4 _ rfl)) ?_
      have he : appE h t s l = 20 := by unfold appE; rw [if_neg (by omega), if_pos h2]
      obtain ⟨e1, e2⟩ := app_no L0 he (by decide)
      rw [he, e1, e2]
      exact ⟨rfl, H.keep [1, 2] rfl rfl⟩
    · try simp only [decide_eq_true_eq, decide_eq_false_iff_not, Bool.not_eq_true', Bool.not_eq_false', Bool.not_eq_true, Bool.not_eq_false, Bool.and_eq_true, Bool.or_eq_false_iff, beq_iff_eq, bne_iff_ne, Int.not_lt, Int.not_le, ne_eq] at hc7
      have h2 : ¬ cmpS s h ≤ 0 := by omega
      refine wp_skip ?_
      refine Sx.block_normal ?_
      refine Sx.then_normal (hK2 _ _ ?_)
      clear hK2
      refine wp_seq_k fun K9 hK9 => ?_
      refine wp_seq_k fun K10 hK10 => ?_
      -- region 5 (view.go:47)
      refine Sx.wp_text [(0, .take), (1, .run), (2, .take), (3, .take)] rfl ?_
      refine Sx.st_take hT rfl rfl rfl rfl (Sx.x_fieldAddr hT rfl Try.fa42_2 rfl) ?_
      clear hT; intro a hT
      refine Sx.st_run hT rfl rfl rfl rfl (Sx.x_load1 hT rfl Try.fl40 rfl ((H.blk 0 rfl).nth rfl)) ?_
      clear hT; intro a hT
      refine Sx.st_take hT rfl rfl rfl rfl (Sx.x_len_slice hT rfl rfl Try.underlying40 rfl) ?_
      clear hT; intro a hT
      refine Sx.st_take hT rfl rfl rfl rfl (Sx.x_move hT rfl rfl) ?_
      clear hT; intro a hT
      replace hT := hT.keep [29, 28, 27, 17, 7, 4, 3, 0, 1] rfl
      refine Sx.ser_nil ?_
      refine Sx.then_normal (hK10 _ _ ?_)
      clear hK10
      refine wp_block ?_
      -- loop 0
      refine Sx.wp_loopH (G := Nat × List Wt) (fun ⟨k, L⟩ => [(29, .int .i64 (k : Int))]) (fun ⟨k, L⟩ => [cM Try.prog 9 b (tw L)]) (fun ⟨k, L⟩ => k ≤ l.length ∧ (l.take k).foldl putV L0 = L ∧ L.length ≤ L0.length + k) (fun ⟨k, L⟩ => l.length - k) (0, L0) (hT.keep [29, 28, 27, 17, 7, 4, 3, 0, 1] rfl) (H.keep [2, 0, 1] rfl rfl) (⟨Nat.zero_le _, rfl, Nat.le_refl _⟩) ?_
      clear hT H
      rintro ⟨k, L⟩ a w4 hJ hT H
      replace hT := hT.keep [29, 28, 27, 17, 7, 4, 3, 0, 1] rfl
      replace H := H.keep [0, 1, 2] rfl rfl
      obtain ⟨hk, hf, hLk⟩ := hJ
      refine wp_seq_k fun K11 hK11 => ?_
      -- region 6 (view.go:47)
      refine Sx.wp_text [(0, .take)] rfl ?_
      refine Sx.st_take hT rfl rfl rfl rfl ((fun w => Sx.x_lt w hT rfl rfl rfl)) ?_
      clear hT; intro a hT
      replace hT := hT.keep [30, 29, 28, 27, 17, 7, 4, 3, 0, 1] rfl
      refine Sx.ser_nil ?_
      refine Sx.then_normal (hK11 _ _ ?_)
      clear hK11
      refine wp_seq_k fun K12 hK12 => ?_
      -- cond 2
      refine Sx.wp_if hT rfl (fun hc13 => ?_) (fun hc13 => ?_)
      · try simp only [decide_eq_true_eq, decide_eq_false_iff_not, Bool.not_eq_true', Bool.not_eq_false', Bool.not_eq_true, Bool.not_eq_false, Bool.and_eq_true, Bool.or_eq_false_iff, beq_iff_eq, bne_iff_ne, Int.not_lt, Int.not_le, ne_eq] at hc13
        obtain ⟨o, ho⟩ : ∃ o, l[k]? = some o := ⟨_, List.getElem?_eq_getElem (by omega)⟩
        have hob := hb o (List.mem_of_getElem? ho)
        refine wp_skip ?_
        refine Sx.then_normal (hK12 _ _ ?_)
        clear hK12
        refine wp_seq_k fun K14 hK14 => ?_
        refine wp_block ?_
        refine wp_seq_k fun K15 hK15 => ?_
        -- region 7 (view.go:47)
        refine Sx.wp_text [(0, .take), (1, .run), (2, .run), (3, .run)] rfl ?_
        refine Sx.st_take hT rfl rfl rfl rfl (Sx.x_index (k := k) hT rfl Try.underlying40 Try.ti50 (R.at H.ext).sv rfl rfl (by first | rfl | omega) (by omega)) ?_
        clear hT; intro a hT
        refine Sx.st_run hT rfl rfl rfl rfl (Sx.y_loadS hT rfl Try.underlying50 Try.ti50 rfl (by first | exact ((H.blk 1 rfl).seg (k := 4) rfl) | exact ((H.blk 2 rfl).seg (k := 4) rfl) | exact ((R.at H.ext).cs Wt.len ho)) (by rfl)) ?_
        clear hT; intro a hT
        refine Sx.st_eff hT rfl rfl rfl rfl (Sx.y_alloc hT rfl Try.ti50 rfl _) ?_
        clear hT; rintro _ w5 ⟨b2, rfl, N⟩ a hT
        replace H := H.new N; clear N
        refine Sx.st_act hT rfl rfl rfl (Sx.y_storeS hT rfl Try.ti50 rfl rfl rfl rfl rfl (H.blk 0 rfl) rfl) ?_
        rintro w6 ⟨hb, E, _⟩
        replace H := H.setB 0 rfl hb E rfl; clear hb E
        replace hT := hT.keep [6, 30, 29, 28, 27, 17, 7, 4, 3, 0, 1] rfl
        refine Sx.ser_nil ?_
        refine Sx.then_normal (hK15 _ _ ?_)
        clear hK15
        refine wp_seq_k fun K16 hK16 => ?_
        refine wp_seq_k fun K17 hK17 => ?_
        -- region 8 (view.go:48)
        refine Sx.wp_text [(0, .take), (1, .take), (2, .run), (3, .take)] rfl ?_
        refine Sx.st_take hT rfl rfl rfl rfl (Sx.x_fieldAddr hT rfl Try.fa50_1 rfl) ?_
        clear hT; intro a hT
        refine Sx.st_take hT rfl rfl rfl rfl (Sx.x_fieldAddr hT rfl Try.fa48_0 rfl) ?_
        clear hT; intro a hT
        refine Sx.st_run hT rfl rfl rfl rfl (Sx.x_load1 hT rfl Try.fl3 rfl ((H.blk 0 rfl).nth rfl)) ?_
        clear hT; intro a hT
        refine Sx.st_take hT rfl rfl rfl rfl ((fun w => Sx.x_eq w hT rfl rfl rfl)) ?_
        clear hT; intro a hT
        replace hT := hT.keep [36, 6, 30, 29, 28, 27, 17, 7, 4, 3, 0, 1] rfl
        refine Sx.ser_nil ?_
        refine Sx.then_normal (hK17 _ _ ?_)
        clear hK17
        -- cond 3
        refine Sx.wp_if hT rfl (fun hc18 => ?_) (fun hc18 => ?_)
        · try simp only [decide_eq_true_eq, decide_eq_false_iff_not, Bool.not_eq_true', Bool.not_eq_false', Bool.not_eq_true, Bool.not_eq_false, Bool.and_eq_true, Bool.or_eq_false_iff, beq_iff_eq, bne_iff_ne, Int.not_lt, Int.not_le, ne_eq] at hc18
          have hz : o.v.k = 0 := hc18
          refine wp_seq_k fun K19 hK19 => ?_
          -- region 9 (view.go:49)
          refine Sx.wp_draws (fun u => Sx.Ext (Sx.No) u) [(0, .take), (1, .take), (2, .take), (3, .held), (4, .take), (5, .held), (6, .run)] (by kernel_rfl) (by kernel_rfl) (fun u E _ => ?_)
          replace H := H.pure E; clear E
          have hH : Sx.Ext (Sx.No) u u := Sx.Ext.refl _ _
          have Hu := H
          refine Sx.st_take hT rfl rfl rfl rfl (Sx.x_move hT rfl rfl) ?_
          clear hT; intro a hT
          refine Sx.st_take hT rfl rfl rfl rfl (Sx.x_nilCheck hT rfl rfl) ?_
          clear hT; intro a hT
          refine Sx.st_take hT rfl rfl rfl rfl (Sx.x_fieldAddr hT rfl Try.fa79_1 rfl) ?_
          clear hT; intro a hT
          refine Sx.st_held hT rfl rfl rfl rfl hH (fun w' h' => Sx.x_load1 hT rfl Try.fl77 rfl ((Hu.heldB 3 rfl h' Sx.off_No).nth rfl)) ?_
          clear hT; intro a hT
          refine Sx.st_take hT rfl rfl rfl rfl (Sx.x_fieldAddr hT rfl Try.fa50_0 rfl) ?_
          clear hT; intro a hT
          refine Sx.st_held hT rfl rfl rfl rfl hH (fun w' h' => Sx.x_load1 hT rfl Try.fl9 rfl ((Hu.heldB 0 rfl h' Sx.off_No).nth rfl)) ?_
          clear hT; intro a hT
          refine Sx.st_drop hT rfl rfl rfl (Sx.x_delete hT rfl rfl Try.underlying77 (Go.Maps.string_keyed Try.underlying9) rfl rfl (key_str Try.underlying9 o.key hob) (H.mp 1 rfl)) ?_
          rintro _ w7 ⟨rfl, hm, E, _⟩
          replace H := H.setM 1 rfl hm E rfl; clear hm E
          rw [del_v] at H
          replace hT := hT.keep [36, 6, 30, 29, 28, 27, 17, 7, 4, 3, 0, 1] rfl
          clear Hu hH
          refine Sx.ser_calm ?_
          refine Sx.then_normal (hK19 _ _ ?_)
          clear hK19
          refine wp_exit ?_
          refine Sx.then_exit ?_
          refine Sx.block_exit ?_
          refine Sx.then_normal (hK14 _ _ ?_)
          clear hK14
          -- region 11 (view.go:47)
          refine Sx.wp_text [(0, .take), (1, .take)] rfl ?_
          refine Sx.st_take hT rfl rfl rfl rfl ((fun w => Sx.x_add w hT rfl rfl rfl (Sx.wrap64 (by omega)))) ?_
          clear hT; intro a hT
          refine Sx.st_take hT rfl rfl rfl rfl (Sx.x_move hT rfl rfl) ?_
          clear hT; intro a hT
          replace hT := hT.keep [29, 36, 6, 30, 28, 27, 17, 7, 4, 3, 0, 1] rfl
          refine Sx.ser_nil ?_
          refine Sx.then_normal ?_
          have hst : putV L o = dlK Wt.key o.key L := by unfold putV; exact if_pos hz
          have hln := putV_len L o
          rw [hst] at hln
          exact ⟨(k + 1, dlK Wt.key o.key L), ⟨by show k + 1 ≤ _; omega, by show (l.take (k + 1)).foldl putV L0 = _; rw [take_app ho, List.foldl_append, hf]; exact hst, by show List.length _ ≤ _ + (k + 1); omega⟩, (hT.keep [29, 28, 27, 17, 7, 4, 3, 0, 1] rfl), (H.keep [1, 2, 3] rfl rfl), by show _ - (k + 1) < _ - k; omega⟩
        · try simp only [decide_eq_true_eq, decide_eq_false_iff_not, Bool.not_eq_true', Bool.not_eq_false', Bool.not_eq_true, Bool.not_eq_false, Bool.and_eq_true, Bool.or_eq_false_iff, beq_iff_eq, bne_iff_ne, Int.not_lt, Int.not_le, ne_eq] at hc18
          have hz : o.v.k ≠ 0 := hc18
          refine wp_skip ?_
          refine Sx.then_normal (hK16 _ _ ?_)
          clear hK16
          -- region 10 (view.go:52)
          refine Sx.wp_draws (fun u => Sx.Ext (Sx.No) u) [(0, .take), (1, .take), (2, .take), (3, .held), (4, .take), (5, .held), (6, .take), (7, .held), (8, .run)] (by kernel_rfl) (by kernel_rfl) (fun u E _ => ?_)
          replace H := H.pure E; clear E
          have hH : Sx.Ext (Sx.No) u u := Sx.Ext.refl _ _
          have Hu := H
          refine Sx.st_take hT rfl rfl rfl rfl (Sx.x_move hT rfl rfl) ?_
          clear hT; intro a hT
          refine Sx.st_take hT rfl rfl rfl rfl (Sx.x_nilCheck hT rfl rfl) ?_
          clear hT; intro a hT
          refine Sx.st_take hT rfl rfl rfl rfl (Sx.x_fieldAddr hT rfl Try.fa79_1 rfl) ?_
          clear hT; intro a hT
          refine Sx.st_held hT rfl rfl rfl rfl hH (fun w' h' => Sx.x_load1 hT rfl Try.fl77 rfl ((Hu.heldB 3 rfl h' Sx.off_No).nth rfl)) ?_
          clear hT; intro a hT
          refine Sx.st_take hT rfl rfl rfl rfl (Sx.x_fieldAddr hT rfl Try.fa50_0 rfl) ?_
          clear hT; intro a hT
          refine Sx.st_held hT rfl rfl rfl rfl hH (fun w' h' => Sx.x_load1 hT rfl Try.fl9 rfl ((Hu.heldB 0 rfl h' Sx.off_No).nth rfl)) ?_
          clear hT; intro a hT
          refine Sx.st_take hT rfl rfl rfl rfl (Sx.x_fieldAddr hT rfl Try.fa50_1 rfl) ?_
          clear hT; intro a hT
          refine Sx.st_held hT rfl rfl rfl rfl hH (fun w' h' => Sx.y_loadS hT rfl Try.underlying48 Try.ti48 rfl ((Hu.heldB 0 rfl h' Sx.off_No).seg (k := 3) rfl) (by rfl)) ?_
          clear hT; intro a hT
          refine Sx.st_act hT rfl rfl rfl (Sx.x_mapUpdate hT rfl Try.underlying77 (Go.Maps.string_keyed Try.underlying9) rfl rfl rfl (key_str Try.underlying9 o.key hob) (H.mp 1 rfl) (by rw [Sx.size_tab]; unfold maxLen; omega)) ?_
          rintro w8 ⟨hm, E, _⟩
          replace H := H.setM 1 rfl hm E rfl; clear hm E
          rw [put_v] at H
          replace hT := hT.keep [36, 6, 30, 29, 28, 27, 17, 7, 4, 3, 0, 1] rfl
          clear Hu hH
          refine Sx.ser_calm ?_
          refine Sx.block_normal ?_
          refine Sx.then_normal (hK14 _ _ ?_)
          clear hK14
          -- region 11 (view.go:47)
          refine Sx.wp_text [(0, .take), (1, .take)] rfl ?_
          refine Sx.st_take hT rfl rfl rfl rfl ((fun w => Sx.x_add w hT rfl rfl rfl (Sx.wrap64 (by omega)))) ?_
          clear hT; intro a hT
          refine Sx.st_take hT rfl rfl rfl rfl (Sx.x_move hT rfl rfl) ?_
          clear hT; intro a hT
          replace hT := hT.keep [29, 36, 6, 30, 28, 27, 17, 7, 4, 3, 0, 1] rfl
          refine Sx.ser_nil ?_
          refine Sx.then_normal ?_
          have hst : putV L o = ptK slit Wt.key o L := by unfold putV; exact if_neg hz
          have hln := putV_len L o
          rw [hst] at hln
          exact ⟨(k + 1, ptK slit Wt.key o L), ⟨by show k + 1 ≤ _; omega, by show (l.take (k + 1)).foldl putV L0 = _; rw [take_app ho, List.foldl_append, hf]; exact hst, by show List.length _ ≤ _ + (k + 1); omega⟩, (hT.keep [29, 28, 27, 17, 7, 4, 3, 0, 1] rfl), (H.keep [1, 2, 3] rfl rfl), by show _ - (k + 1) < _ - k; omega⟩
      · try simp only [decide_eq_true_eq, decide_eq_false_iff_not, Bool.not_eq_true', Bool.not_eq_false', Bool.not_eq_true, Bool.not_eq_false, Bool.and_eq_true, Bool.or_eq_false_iff, beq_iff_eq, bne_iff_ne, Int.not_lt, Int.not_le, ne_eq] at hc13
        have hkl : k = l.length := by omega
        rw [hkl, List.take_length] at hf
        refine wp_exit ?_
        refine Sx.then_exit ?_
        refine Sx.then_exit ?_
        refine Sx.block_exit ?_
        refine Sx.then_normal (hK9 _ _ ?_)
        clear hK9
        refine wp_seq_k fun K20 hK20 => ?_
        -- region 12 (view.go:54)
        refine Sx.wp_text [(0, .take), (1, .take), (2, .run), (3, .take), (4, .take), (5, .run)] rfl ?_
        refine Sx.st_take hT rfl rfl rfl rfl (Sx.x_move hT rfl rfl) ?_
        clear hT; intro a hT
        refine Sx.st_take hT rfl rfl rfl rfl (Sx.x_fieldAddr hT rfl Try.fa42_1 rfl) ?_
        clear hT; intro a hT
        refine Sx.st_run hT rfl rfl rfl rfl (Sx.y_loadS hT rfl Try.underlying35 Try.ti35 rfl ((H.blk 1 rfl).seg (k := 3) rfl) (by rfl)) ?_
        clear hT; intro a hT
        refine Sx.st_take hT rfl rfl rfl rfl (Sx.x_nilCheck hT rfl rfl) ?_
        clear hT; intro a hT
        refine Sx.st_take hT rfl rfl rfl rfl (Sx.x_fieldAddr hT rfl Try.fa79_2 rfl) ?_
        clear hT; intro a hT
        refine Sx.st_act hT rfl rfl rfl (Sx.y_storeS hT rfl Try.ti35 rfl rfl rfl rfl rfl (H.blk 2 rfl) rfl) ?_
        rintro w9 ⟨hb, E, _⟩
        replace H := H.setB 2 rfl hb E rfl; clear hb E
        replace hT := hT.keep [30, 29, 28, 27, 17, 7, 4, 3, 0, 1] rfl
        refine Sx.ser_nil ?_
        refine Sx.then_normal (hK20 _ _ ?_)
        clear hK20
        refine wp_seq_k fun K21 hK21 => ?_
        -- region 13 (view.go:55)
        refine Sx.wp_text [(0, .take)] rfl ?_
        refine Sx.st_take hT rfl rfl rfl rfl (Sx.x_assign hT rfl rfl) ?_
        clear hT; intro a hT
        replace hT := hT.keep [4, 30, 29, 28, 27, 17, 7, 3, 0, 1] rfl
        refine Sx.ser_nil ?_
        refine Sx.then_normal (hK21 _ _ ?_)
        clear hK21
        refine wp_ret ?_
        refine Sx.done1 (fn := Try.f12) hT rfl (.tmp (hT.get 4 _ rfl)) ?_
        have he : appE h t s l = 0 := by unfold appE; rw [if_neg (by omega), if_neg h2]
        obtain ⟨e1, e2⟩ := app_yes L0 he
        rw [he, e1, e2, hf]
        exact ⟨rfl, H.keep [2, 0] rfl rfl⟩

end Go.Proofs.Ytakjfnckbidbcaa
