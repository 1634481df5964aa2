/- Walks: DirPlays. -/
import Derived.Test.YtakohabmcgponaaW17
set_option linter.unusedSimpArgs false
set_option linter.unusedVariables false
namespace Go.Proofs.Ytakohabmcgponaa
open Sx
theorem Try.fa66_0 : Sx.FA Try.prog 66 0 0 := ⟨_, _, _, _, _, Try.underlying66, rfl, rfl, Try.ti37, by decide⟩
theorem Try.fa66_1 : Sx.FA Try.prog 66 1 4 := ⟨_, _, _, _, _, Try.underlying66, rfl, rfl, Try.ti25, by decide⟩
theorem Try.can5 : Sx.Can Try.prog 5 := ⟨_, Try.func5, by kernel_rfl, rfl⟩
theorem Try.can25 : Sx.Can Try.prog 25 := ⟨_, Try.func25, by kernel_rfl, rfl⟩
theorem groups_calls {ad ad2 : Option Addr} {c c2 : Nat} (L1 L2 : List Gr) {w : World} (hs : Ss w ad Gr.cells 5 L1) (hs2 : Ss w ad2 Gr.cells 5 L2) (hf : FS w L1) (hf2 : FS w L2) (hl : L1.length ≤ 1000000) (hb : ∀ g ∈ L1, g.ks.length ≤ 1000000) : Calls Try.prog 25 #[.slice ad L1.length c, .slice ad2 L2.length c2] w fun e w' => e = .returned (.bool (decide (L1.map Gr.pure = L2.map Gr.pure))) ∧ Ext No w w' := by
  have R : Ro w No _ := Ro.of fun w' x => hs.ext_no x
  have R2 : Ro w No _ := Ro.of fun w' x => hs2.ext_no x
  have RF : Ro w No (fun u => FS u L1) := Ro.of fun w' x => hf.ext_no x
  have RF2 : Ro w No (fun u => FS u L2) := Ro.of fun w' x => hf2.ext_no x
  refine Sx.calls_into Try.func25 rfl Try.ntmps25 rfl fun a hT => ?_
  replace hT := hT.keep [0, 1] rfl
  have H : Sx.Hp w (Sx.No) w [] := Sx.Hp.start _ _
  refine wp_seq_k fun K1 hK1 => ?_
  -- region 0 (law.go:33)
  refine Sx.wp_text [(0, .take)] rfl ?_
  refine Sx.st_take hT rfl rfl rfl rfl (Sx.x_assign hT rfl rfl) ?_
  clear hT; intro a hT
  replace hT := hT.keep [4, 0, 1] rfl
  refine Sx.ser_nil ?_
  refine Sx.then_normal (hK1 _ _ ?_)
  clear hK1
  refine wp_seq_k fun K2 hK2 => ?_
  refine wp_seq_k fun K3 hK3 => ?_
  -- region 1 (law.go:34)
  refine Sx.wp_text [(0, .take), (1, .take), (2, .take), (3, .take), (4, .take)] rfl ?_
  refine Sx.st_take hT rfl rfl rfl rfl (Sx.x_move hT rfl rfl) ?_
  clear hT; intro a hT
  refine Sx.st_take hT rfl rfl rfl rfl (Sx.x_len_slice hT rfl rfl Try.underlying56 rfl) ?_
  clear hT; intro a hT
  refine Sx.st_take hT rfl rfl rfl rfl (Sx.x_move hT rfl rfl) ?_
  clear hT; intro a hT
  refine Sx.st_take hT rfl rfl rfl rfl (Sx.x_len_slice hT rfl rfl Try.underlying59 rfl) ?_
  clear hT; intro a hT
  refine Sx.st_take hT rfl rfl rfl rfl ((fun w => Sx.x_ne w hT rfl rfl rfl)) ?_
  clear hT; intro a hT
  replace hT := hT.keep [10, 4, 0, 1] rfl
  refine Sx.ser_nil ?_
  refine Sx.then_normal (hK3 _ _ ?_)
  clear hK3
  -- cond 0
  refine Sx.wp_if hT rfl (fun hc4 => ?_) (fun hc4 => ?_)
  · try simp only [decide_eq_true_eq, decide_eq_false_iff_not, Bool.not_eq_true', Bool.not_eq_false', Bool.not_eq_true, Bool.not_eq_false, Bool.and_eq_true, Bool.or_eq_false_iff, beq_iff_eq, bne_iff_ne, Int.not_lt, Int.not_le, ne_eq] at hc4
    refine wp_seq_k fun K5 hK5 => ?_
    -- region 2 (law.go:35)
    refine Sx.wp_text [(0, .take)] rfl ?_
    refine Sx.st_take hT rfl rfl rfl rfl (Sx.x_assign hT rfl rfl) ?_
    clear hT; intro a hT
    replace hT := hT.keep [4, 10, 0, 1] rfl
    refine Sx.ser_nil ?_
    refine Sx.then_normal (hK5 _ _ ?_)
    clear hK5
    refine wp_ret ?_
    refine Sx.then_ret ?_
    refine Sx.done1 (fn := Try.f25) hT rfl (.tmp (hT.get 4 _ rfl)) ?_
    refine ⟨ret_b (decide_eq_false fun h9 => ?_).symm, H.ext⟩
    have h8 := congrArg List.length h9
    rw [List.length_map, List.length_map] at h8
    omega
  · try simp only [decide_eq_true_eq, decide_eq_false_iff_not, Bool.not_eq_true', Bool.not_eq_false', Bool.not_eq_true, Bool.not_eq_false, Bool.and_eq_true, Bool.or_eq_false_iff, beq_iff_eq, bne_iff_ne, Int.not_lt, Int.not_le, ne_eq] at hc4
    refine wp_skip ?_
    refine Sx.then_normal (hK2 _ _ ?_)
    clear hK2
    refine wp_seq_k fun K6 hK6 => ?_
    refine wp_seq_k fun K7 hK7 => ?_
    -- region 3 (law.go:37)
    refine Sx.wp_text [(0, .take)] rfl ?_
    refine Sx.st_take hT rfl rfl rfl rfl (Sx.x_assign hT rfl rfl) ?_
    clear hT; intro a hT
    replace hT := hT.keep [5, 10, 4, 0, 1] rfl
    refine Sx.ser_nil ?_
    refine Sx.then_normal (hK7 _ _ ?_)
    clear hK7
    refine wp_block ?_
    -- loop 0
    refine Sx.wp_loopH (G := Nat) (fun k => [(5, .int .i64 (k : Int))]) (fun k => []) (fun k => k ≤ L1.length ∧ ∀ t, t < k → (L1.map Gr.pure)[t]? = (L2.map Gr.pure)[t]?) (fun k => L1.length - k) 0 (hT.keep [5, 10, 0, 1] rfl) (H.keep [] rfl rfl) (⟨Nat.zero_le _, fun t h => by omega⟩) ?_
    clear hT H
    rintro k a w1 hJ hT H
    replace hT := hT.keep [5, 10, 0, 1] rfl
    replace H := H.keep [] rfl rfl
    obtain ⟨hk, hsm⟩ := hJ
    refine wp_seq_k fun K8 hK8 => ?_
    refine wp_seq_k fun K9 hK9 => ?_
    -- region 4 (law.go:37)
    refine Sx.wp_text [(0, .take), (1, .take), (2, .take), (3, .take)] rfl ?_
    refine Sx.st_take hT rfl rfl rfl rfl (Sx.x_move hT rfl rfl) ?_
    clear hT; intro a hT
    refine Sx.st_take hT rfl rfl rfl rfl (Sx.x_move hT rfl rfl) ?_
    clear hT; intro a hT
    refine Sx.st_take hT rfl rfl rfl rfl (Sx.x_len_slice hT rfl rfl Try.underlying56 rfl) ?_
    clear hT; intro a hT
    refine Sx.st_take hT rfl rfl rfl rfl ((fun w => Sx.x_lt w hT rfl rfl rfl)) ?_
    clear hT; intro a hT
    replace hT := hT.keep [14, 5, 10, 0, 1] rfl
    refine Sx.ser_nil ?_
    refine Sx.then_normal (hK9 _ _ ?_)
    clear hK9
    -- cond 1
    refine Sx.wp_if hT rfl (fun hc10 => ?_) (fun hc10 => ?_)
    · try simp only [decide_eq_true_eq, decide_eq_false_iff_not, Bool.not_eq_true', Bool.not_eq_false', Bool.not_eq_true, Bool.not_eq_false, Bool.and_eq_true, Bool.or_eq_false_iff, beq_iff_eq, bne_iff_ne, Int.not_lt, Int.not_le, ne_eq] at hc10
      obtain ⟨g, hg⟩ : ∃ o, L1[k]? = some o := ⟨_, List.getElem?_eq_getElem (by omega)⟩
      obtain ⟨g2, hg2⟩ : ∃ o, L2[k]? = some o := ⟨_, List.getElem?_eq_getElem (by omega)⟩
      refine wp_skip ?_
      refine Sx.then_normal (hK8 _ _ ?_)
      clear hK8
      refine wp_seq_k fun K11 hK11 => ?_
      refine wp_block ?_
      refine wp_seq_k fun K12 hK12 => ?_
      -- region 6 (law.go:38)
      refine Sx.wp_draws (fun u => Sx.Ext (Sx.No) u) [(0, .take), (1, .take), (2, .take), (3, .take), (4, .held), (5, .take), (6, .take), (7, .take), (8, .take), (9, .held), (10, .keep), (11, .take), (12, .take), (13, .take), (14, .take), (15, .take), (16, .take), (17, .held), (18, .take), (19, .take), (20, .take), (21, .take), (22, .held), (23, .run), (24, .take), (25, .take)] (by kernel_rfl) (by kernel_rfl) (fun u E _ => ?_)
      replace H := H.pure E; clear E
      have hH : Sx.Ext (Sx.No) u u := Sx.Ext.refl _ _
      have Hu := H
      refine Sx.st_take hT rfl rfl rfl rfl (Sx.x_move hT rfl rfl) ?_
      clear hT; intro a hT
      refine Sx.st_take hT rfl rfl rfl rfl (Sx.x_move hT rfl rfl) ?_
      clear hT; intro a hT
      refine Sx.st_take hT rfl rfl rfl rfl (Sx.x_index (k := k) hT rfl Try.underlying56 Try.ti66 (by first | exact (R.at H.ext).sv | exact (R2.at H.ext).sv) rfl rfl (by first | rfl | omega) (by omega)) ?_
      clear hT; intro a hT
      refine Sx.st_take hT rfl rfl rfl rfl (Sx.x_fieldAddr hT rfl Try.fa66_0 rfl) ?_
      clear hT; intro a hT
      refine Sx.st_held hT rfl rfl rfl rfl hH (fun w' h' => Sx.y_loadS hT rfl Try.underlying37 Try.ti37 rfl (by first | exact (((R.at (Hu.ext.step h')).cs Gr.len hg).take 4) | exact (((R2.at (Hu.ext.step h')).cs Gr.len hg2).take 4)) (by rfl)) ?_
      clear hT; intro a hT
      refine Sx.st_take hT rfl rfl rfl rfl (Sx.x_move hT rfl rfl) ?_
      clear hT; intro a hT
      refine Sx.st_take hT rfl rfl rfl rfl (Sx.x_move hT rfl rfl) ?_
      clear hT; intro a hT
      refine Sx.st_take hT rfl rfl rfl rfl (Sx.x_index (k := k) hT rfl Try.underlying59 Try.ti88 (by first | exact (R.at H.ext).sv | exact (R2.at H.ext).sv) rfl rfl (by first | rfl | omega) (by omega)) ?_
      clear hT; intro a hT
      refine Sx.st_take hT rfl rfl rfl rfl (Sx.x_fieldAddr hT rfl Try.fa88_0 rfl) ?_
      clear hT; intro a hT
      refine Sx.st_held hT rfl rfl rfl rfl hH (fun w' h' => Sx.y_loadS hT rfl Try.underlying37 Try.ti37 rfl (by first | exact (((R.at (Hu.ext.step h')).cs Gr.len hg).take 4) | exact (((R2.at (Hu.ext.step h')).cs Gr.len hg2).take 4)) (by rfl)) ?_
      clear hT; intro a hT
      refine Sx.st_callkeep hT rfl rfl rfl rfl rfl Try.can19 rfl (Range_calls g.rg g2.rg _) ?_
      rintro _ w2 ⟨rfl, E⟩
      refine ⟨_, rfl, hH.step E, ?_⟩
      replace hH := hH.step E
      clear hT; intro a hT
      replace H := H.pure E; clear E
      refine Sx.st_take hT rfl rfl rfl rfl (Sx.x_not hT rfl rfl) ?_
      clear hT; intro a hT
      refine Sx.st_take hT rfl rfl rfl rfl (Sx.x_move hT rfl rfl) ?_
      clear hT; intro a hT
      -- guard (6, 12)
      refine Sx.Sl.two hT 29 rfl (fun hc13 hT => ?_) (fun hc13 hT => ?_)
      · try simp only [decide_eq_true_eq, decide_eq_false_iff_not, Bool.not_eq_true', Bool.not_eq_false', Bool.not_eq_true, Bool.not_eq_false, Bool.and_eq_true, Bool.or_eq_false_iff, beq_iff_eq, bne_iff_ne, Int.not_lt, Int.not_le, ne_eq] at hc13
        refine Sx.st_skip hT rfl rfl rfl rfl ?_
        clear hT; intro a hT
        refine Sx.st_skip hT rfl rfl rfl rfl ?_
        clear hT; intro a hT
        refine Sx.st_skip hT rfl rfl rfl rfl ?_
        clear hT; intro a hT
        refine Sx.st_skip hT rfl rfl rfl rfl ?_
        clear hT; intro a hT
        refine Sx.st_heldskip hT rfl rfl rfl rfl hH ?_
        clear hT; intro a hT
        refine Sx.st_skip hT rfl rfl rfl rfl ?_
        clear hT; intro a hT
        refine Sx.st_skip hT rfl rfl rfl rfl ?_
        clear hT; intro a hT
        refine Sx.st_skip hT rfl rfl rfl rfl ?_
        clear hT; intro a hT
        refine Sx.st_skip hT rfl rfl rfl rfl ?_
        clear hT; intro a hT
        refine Sx.st_heldskip hT rfl rfl rfl rfl hH ?_
        clear hT; intro a hT
        refine Sx.st_runskip hT rfl rfl rfl rfl ?_
        clear hT; intro a hT
        refine Sx.st_skip hT rfl rfl rfl rfl ?_
        clear hT; intro a hT
        refine Sx.st_take hT rfl rfl rfl rfl (Sx.x_pick_t hT rfl rfl rfl) ?_
        clear hT; intro a hT
        replace hT := hT.keep [42, 14, 5, 10, 0, 1] rfl
        clear Hu hH
        refine Sx.ser_calm ?_
        refine Sx.then_normal (hK12 _ _ ?_)
        clear hK12
        refine Sx.wp_if hT rfl (fun _ => ?_) (fun h => by cases h)
        have hpn : decide (g.pure = g2.pure) = false := by rw [pure_eq]; simp_all
        refine wp_seq_k fun K14 hK14 => ?_
        -- region 7 (law.go:39)
        refine Sx.wp_text [(0, .take)] rfl ?_
        refine Sx.st_take hT rfl rfl rfl rfl (Sx.x_assign hT rfl rfl) ?_
        clear hT; intro a hT
        replace hT := hT.keep [4, 42, 14, 5, 10, 0, 1] rfl
        refine Sx.ser_nil ?_
        refine Sx.then_normal (hK14 _ _ ?_)
        clear hK14
        refine wp_ret ?_
        refine Sx.block_ret ?_
        refine Sx.then_ret ?_
        refine Sx.then_ret ?_
        refine Sx.block_ret ?_
        refine Sx.then_ret ?_
        refine Sx.done1 (fn := Try.f25) hT rfl (.tmp (hT.get 4 _ rfl)) ?_
        refine ⟨ret_b (decide_eq_false fun h9 => ?_).symm, H.ext⟩
        have h8 := congrArg (fun m => m[k]?) h9
        rw [List.getElem?_map, List.getElem?_map, hg, hg2] at h8
        exact of_decide_eq_false hpn (Option.some.inj h8)
      · try simp only [decide_eq_true_eq, decide_eq_false_iff_not, Bool.not_eq_true', Bool.not_eq_false', Bool.not_eq_true, Bool.not_eq_false, Bool.and_eq_true, Bool.or_eq_false_iff, beq_iff_eq, bne_iff_ne, Int.not_lt, Int.not_le, ne_eq] at hc13
        refine Sx.st_take hT rfl rfl rfl rfl (Sx.x_move hT rfl rfl) ?_
        clear hT; intro a hT
        refine Sx.st_take hT rfl rfl rfl rfl (Sx.x_move hT rfl rfl) ?_
        clear hT; intro a hT
        refine Sx.st_take hT rfl rfl rfl rfl (Sx.x_index (k := k) hT rfl Try.underlying56 Try.ti66 (by first | exact (R.at H.ext).sv | exact (R2.at H.ext).sv) rfl rfl (by first | rfl | omega) (by omega)) ?_
        clear hT; intro a hT
        refine Sx.st_take hT rfl rfl rfl rfl (Sx.x_fieldAddr hT rfl Try.fa66_1 rfl) ?_
        clear hT; intro a hT
        refine Sx.st_held hT rfl rfl rfl rfl hH (fun w' h' => Sx.x_load1 hT rfl Try.fl25 rfl (by first | exact ((R.at (Hu.ext.step h')).cell (j := 4) Gr.len hg rfl) | exact ((R2.at (Hu.ext.step h')).cell (j := 4) Gr.len hg2 rfl))) ?_
        clear hT; intro a hT
        refine Sx.st_take hT rfl rfl rfl rfl (Sx.x_move hT rfl rfl) ?_
        clear hT; intro a hT
        refine Sx.st_take hT rfl rfl rfl rfl (Sx.x_move hT rfl rfl) ?_
        clear hT; intro a hT
        refine Sx.st_take hT rfl rfl rfl rfl (Sx.x_index (k := k) hT rfl Try.underlying59 Try.ti88 (by first | exact (R.at H.ext).sv | exact (R2.at H.ext).sv) rfl rfl (by first | rfl | omega) (by omega)) ?_
        clear hT; intro a hT
        refine Sx.st_take hT rfl rfl rfl rfl (Sx.x_fieldAddr hT rfl Try.fa88_1 rfl) ?_
        clear hT; intro a hT
        refine Sx.st_held hT rfl rfl rfl rfl hH (fun w' h' => Sx.x_load1 hT rfl Try.fl25 rfl (by first | exact ((R.at (Hu.ext.step h')).cell (j := 4) Gr.len hg rfl) | exact ((R2.at (Hu.ext.step h')).cell (j := 4) Gr.len hg2 rfl))) ?_
        clear hT; intro a hT
        refine Sx.st_call hT rfl rfl rfl rfl rfl Try.can43 rfl (Texts_calls g.ks g2.ks (RF.at H.ext g (List.mem_of_getElem? hg)) (RF2.at H.ext g2 (List.mem_of_getElem? hg2)) (by have := hb g (List.mem_of_getElem? hg); omega)) ?_
        rintro _ w3 ⟨rfl, E⟩
        refine ⟨_, rfl, ?_⟩
        clear hT; intro a hT
        replace H := H.pure E; clear E
        refine Sx.st_take hT rfl rfl rfl rfl (Sx.x_not hT rfl rfl) ?_
        clear hT; intro a hT
        refine Sx.st_take hT rfl rfl rfl rfl (Sx.x_pick_f hT rfl rfl rfl) ?_
        clear hT; intro a hT
        replace hT := hT.keep [42, 14, 5, 10, 0, 1] rfl
        clear Hu hH
        refine Sx.ser_calm ?_
        refine Sx.then_normal (hK12 _ _ ?_)
        clear hK12
        -- cond 2
        refine Sx.wp_if hT rfl (fun hc15 => ?_) (fun hc15 => ?_)
        · try simp only [decide_eq_true_eq, decide_eq_false_iff_not, Bool.not_eq_true', Bool.not_eq_false', Bool.not_eq_true, Bool.not_eq_false, Bool.and_eq_true, Bool.or_eq_false_iff, beq_iff_eq, bne_iff_ne, Int.not_lt, Int.not_le, ne_eq] at hc15
          have hpn : decide (g.pure = g2.pure) = false := by rw [pure_eq]; simp_all
          refine wp_seq_k fun K16 hK16 => ?_
          -- region 7 (law.go:39)
          refine Sx.wp_text [(0, .take)] rfl ?_
          refine Sx.st_take hT rfl rfl rfl rfl (Sx.x_assign hT rfl rfl) ?_
          clear hT; intro a hT
          replace hT := hT.keep [4, 42, 14, 5, 10, 0, 1] rfl
          refine Sx.ser_nil ?_
          refine Sx.then_normal (hK16 _ _ ?_)
          clear hK16
          refine wp_ret ?_
          refine Sx.block_ret ?_
          refine Sx.then_ret ?_
          refine Sx.then_ret ?_
          refine Sx.block_ret ?_
          refine Sx.then_ret ?_
          refine Sx.done1 (fn := Try.f25) hT rfl (.tmp (hT.get 4 _ rfl)) ?_
          refine ⟨ret_b (decide_eq_false fun h9 => ?_).symm, H.ext⟩
          have h8 := congrArg (fun m => m[k]?) h9
          rw [List.getElem?_map, List.getElem?_map, hg, hg2] at h8
          exact of_decide_eq_false hpn (Option.some.inj h8)
        · try simp only [decide_eq_true_eq, decide_eq_false_iff_not, Bool.not_eq_true', Bool.not_eq_false', Bool.not_eq_true, Bool.not_eq_false, Bool.and_eq_true, Bool.or_eq_false_iff, beq_iff_eq, bne_iff_ne, Int.not_lt, Int.not_le, ne_eq] at hc15
          have hpe : decide (g.pure = g2.pure) = true := by rw [pure_eq]; simp_all
          refine wp_skip ?_
          refine Sx.block_normal ?_
          refine Sx.then_normal (hK11 _ _ ?_)
          clear hK11
          -- region 5 (law.go:37)
          refine Sx.wp_text [(0, .take), (1, .take), (2, .take)] rfl ?_
          refine Sx.st_take hT rfl rfl rfl rfl (Sx.x_move hT rfl rfl) ?_
          clear hT; intro a hT
          refine Sx.st_take hT rfl rfl rfl rfl ((fun w => Sx.x_add w hT rfl rfl rfl (Sx.wrap64 (by omega)))) ?_
          clear hT; intro a hT
          refine Sx.st_take hT rfl rfl rfl rfl (Sx.x_assign hT rfl rfl) ?_
          clear hT; intro a hT
          replace hT := hT.keep [5, 42, 14, 10, 0, 1] rfl
          refine Sx.ser_nil ?_
          refine Sx.then_normal ?_
          exact ⟨k + 1, ⟨by omega, fun t h => by rcases Nat.lt_or_ge t k with h3 | h3; exact hsm t h3; rw [show t = k from by omega, List.getElem?_map, List.getElem?_map, hg, hg2]; exact congrArg some (of_decide_eq_true hpe)⟩, (hT.keep [5, 10, 0, 1] rfl), (H.keep [] rfl rfl), by omega⟩
    · try simp only [decide_eq_true_eq, decide_eq_false_iff_not, Bool.not_eq_true', Bool.not_eq_false', Bool.not_eq_true, Bool.not_eq_false, Bool.and_eq_true, Bool.or_eq_false_iff, beq_iff_eq, bne_iff_ne, Int.not_lt, Int.not_le, ne_eq] at hc10
      refine wp_exit ?_
      refine Sx.then_exit ?_
      refine Sx.then_exit ?_
      refine Sx.block_exit ?_
      refine Sx.then_normal (hK6 _ _ ?_)
      clear hK6
      refine wp_seq_k fun K17 hK17 => ?_
      -- region 8 (law.go:42)
      refine Sx.wp_text [(0, .take)] rfl ?_
      refine Sx.st_take hT rfl rfl rfl rfl (Sx.x_assign hT rfl rfl) ?_
      clear hT; intro a hT
      replace hT := hT.keep [4, 14, 5, 10, 0, 1] rfl
      refine Sx.ser_nil ?_
      refine Sx.then_normal (hK17 _ _ ?_)
      clear hK17
      refine wp_ret ?_
      refine Sx.done1 (fn := Try.f25) hT rfl (.tmp (hT.get 4 _ rfl)) ?_
      refine ⟨ret_b (decide_eq_true (List.ext_getElem? fun t => ?_)).symm, H.ext⟩
      rcases Nat.lt_or_ge t k with h3 | h3
      · exact hsm t h3
      · rw [List.getElem?_eq_none (by rw [List.length_map]; omega), List.getElem?_eq_none (by rw [List.length_map]; omega)]

set_option maxHeartbeats 4000000 in
theorem Plays_all {ad : Option Addr} {c : Nat} (l : List Rg) {adm : Option Addr} {cm : Nat} (ms : List Ml) {ad4 : Option Addr} {c4 : Nat} (ks : List (List UInt8)) {w : World} (hs : Ss w ad Rg.cells 4 l) (hsm : Ss w adm Ml.cells 1 ms) (hmm : ∀ x ∈ ms, Ss w x.ad Rg.cells 4 x.l ∧ ∀ r ∈ x.l, r.wf) (hs4 : Ss w ad4 kc 1 ks) (hw : ∀ r ∈ l, r.wf) (hlc : l.length ≤ c) (hln : ad = none → l.length = 0 ∧ c = 0) (hks : ks.length ≤ 9223372036854775806) (hkb : ∀ l ∈ ks, l.length ≤ 140737488351232) : Calls Try.prog 5 #[.slice ad l.length c, .slice adm ms.length cm, .slice ad4 ks.length c4] w fun e w' => e = .returned (.bool true) ∧ Ext No w w' := by
  have R : Ro w No _ := Ro.of fun w' x => hs.ext_no x
  have R4 : Ro w No _ := Ro.of fun w' x => hs4.ext_no x
  have RMs : Ro w No _ := Ro.of fun w' x => hsm.ext_no x
  have RM : Ro w No (fun u => ∀ x ∈ ms, Ss u x.ad Rg.cells 4 x.l) := Ro.of fun w' x y hy => ((hmm y hy).1).ext_no x
  refine Sx.calls_into Try.func5 rfl Try.ntmps5 rfl fun a hT => ?_
  replace hT := hT.keep [0, 1, 2] rfl
  have H : Sx.Hp w (Sx.No) w [] := Sx.Hp.start _ _
  refine wp_seq_k fun K1 hK1 => ?_
  -- region 0 (law.go:46)
  refine Sx.wp_text [(0, .take)] rfl ?_
  refine Sx.st_take hT rfl rfl rfl rfl (Sx.x_assign hT rfl rfl) ?_
  clear hT; intro a hT
  replace hT := hT.keep [6, 0, 1, 2] rfl
  refine Sx.ser_nil ?_
  refine Sx.then_normal (hK1 _ _ ?_)
  clear hK1
  refine wp_seq_k fun K2 hK2 => ?_
  refine wp_seq_k fun K3 hK3 => ?_
  -- region 1 (law.go:47)
  refine Sx.wp_text [(0, .run), (1, .take)] rfl ?_
  refine Sx.st_call hT rfl rfl rfl rfl rfl Try.can7 rfl (first_calls _) ?_
  rintro _ w1 ⟨rfl, E⟩
  refine ⟨_, rfl, ?_⟩
  clear hT; intro a hT
  replace H := H.pure E; clear E
  refine Sx.st_take hT rfl rfl rfl rfl (Sx.x_not hT rfl rfl) ?_
  clear hT; intro a hT
  replace hT := hT.keep [27, 6, 0, 1, 2] rfl
  refine Sx.ser_nil ?_
  refine Sx.then_normal (hK3 _ _ ?_)
  clear hK3
  refine Sx.wp_if hT rfl (fun h => by cases h) (fun _ => ?_)
  refine wp_skip ?_
  refine Sx.then_normal (hK2 _ _ ?_)
  clear hK2
  refine wp_seq_k fun K4 hK4 => ?_
  refine wp_seq_k fun K5 hK5 => ?_
  -- region 3 (law.go:50)
  refine Sx.wp_text [(0, .take), (1, .take), (2, .run), (3, .take), (4, .take), (5, .take), (6, .take), (7, .take), (8, .take)] rfl ?_
  refine Sx.st_take hT rfl rfl rfl rfl (Sx.x_move hT rfl rfl) ?_
  clear hT; intro a hT
  refine Sx.st_take hT rfl rfl rfl rfl (Sx.x_move hT rfl rfl) ?_
  clear hT; intro a hT
  refine Sx.st_call hT rfl rfl rfl rfl rfl Try.can8 rfl (fewX_calls ks (R4.at H.ext) hks hkb) ?_
  rintro _ w2 ⟨rfl, E⟩
  refine ⟨_, rfl, ?_⟩
  clear hT; intro a hT
  replace H := H.pure E; clear E
  refine Sx.st_take hT rfl rfl rfl rfl (Sx.x_not hT rfl rfl) ?_
  clear hT; intro a hT
  refine Sx.st_take hT rfl rfl rfl rfl (Sx.x_move hT rfl rfl) ?_
  clear hT; intro a hT
  -- guard (3, 4)
  refine Sx.Sl.two hT 32 rfl (fun hc6 hT => ?_) (fun hc6 hT => ?_)
  · try simp only [decide_eq_true_eq, decide_eq_false_iff_not, Bool.not_eq_true', Bool.not_eq_false', Bool.not_eq_true, Bool.not_eq_false, Bool.and_eq_true, Bool.or_eq_false_iff, beq_iff_eq, bne_iff_ne, Int.not_lt, Int.not_le, ne_eq] at hc6
    refine Sx.st_skip hT rfl rfl rfl rfl ?_
    clear hT; intro a hT
    refine Sx.st_skip hT rfl rfl rfl rfl ?_
    clear hT; intro a hT
    refine Sx.st_skip hT rfl rfl rfl rfl ?_
    clear hT; intro a hT
    refine Sx.st_take hT rfl rfl rfl rfl (Sx.x_pick_t hT rfl rfl rfl) ?_
    clear hT; intro a hT
    replace hT := hT.keep [36, 27, 6, 0, 1, 2] rfl
    refine Sx.ser_nil ?_
    refine Sx.then_normal (hK5 _ _ ?_)
    clear hK5
    refine Sx.wp_if hT rfl (fun _ => ?_) (fun h => by cases h)
    refine wp_seq_k fun K7 hK7 => ?_
    -- region 4 (law.go:51)
    refine Sx.wp_text [(0, .run), (1, .take)] rfl ?_
    refine Sx.st_call hT rfl rfl rfl rfl rfl Try.can7 rfl (first_calls _) ?_
    rintro _ w3 ⟨rfl, E⟩
    refine ⟨_, rfl, ?_⟩
    clear hT; intro a hT
    replace H := H.pure E; clear E
    refine Sx.st_take hT rfl rfl rfl rfl (Sx.x_assign hT rfl rfl) ?_
    clear hT; intro a hT
    replace hT := hT.keep [6, 36, 27, 0, 1, 2] rfl
    refine Sx.ser_nil ?_
    refine Sx.then_normal (hK7 _ _ ?_)
    clear hK7
    refine wp_ret ?_
    refine Sx.then_ret ?_
    refine Sx.done1 (fn := Try.f5) hT rfl (.tmp (hT.get 6 _ rfl)) ?_
    exact ⟨ret_b (by simp), H.ext⟩
  · try simp only [decide_eq_true_eq, decide_eq_false_iff_not, Bool.not_eq_true', Bool.not_eq_false', Bool.not_eq_true, Bool.not_eq_false, Bool.and_eq_true, Bool.or_eq_false_iff, beq_iff_eq, bne_iff_ne, Int.not_lt, Int.not_le, ne_eq] at hc6
    obtain ⟨hl9, hwt⟩ : l.length ≤ 100 ∧ wtF 2000 ks 0 ≤ 2000 := by simpa using hc6
    obtain ⟨hkl0, -⟩ := wt_facts ks 0 hwt
    refine Sx.st_take hT rfl rfl rfl rfl (Sx.x_move hT rfl rfl) ?_
    clear hT; intro a hT
    refine Sx.st_take hT rfl rfl rfl rfl (Sx.x_len_slice hT rfl rfl Try.underlying52 rfl) ?_
    clear hT; intro a hT
    refine Sx.st_take hT rfl rfl rfl rfl ((fun w => Sx.x_gt w hT rfl rfl rfl)) ?_
    clear hT; intro a hT
    refine Sx.st_take hT rfl rfl rfl rfl (Sx.x_pick_f hT rfl rfl rfl) ?_
    clear hT; intro a hT
    replace hT := hT.keep [36, 27, 6, 0, 1, 2] rfl
    refine Sx.ser_nil ?_
    refine Sx.then_normal (hK5 _ _ ?_)
    clear hK5
    -- cond 1
    refine Sx.wp_if hT rfl (fun hc8 => ?_) (fun hc8 => ?_)
    · try simp only [decide_eq_true_eq, decide_eq_false_iff_not, Bool.not_eq_true', Bool.not_eq_false', Bool.not_eq_true, Bool.not_eq_false, Bool.and_eq_true, Bool.or_eq_false_iff, beq_iff_eq, bne_iff_ne, Int.not_lt, Int.not_le, ne_eq] at hc8
      refine wp_seq_k fun K9 hK9 => ?_
      -- region 4 (law.go:51)
      refine Sx.wp_text [(0, .run), (1, .take)] rfl ?_
      refine Sx.st_call hT rfl rfl rfl rfl rfl Try.can7 rfl (first_calls _) ?_
      rintro _ w4 ⟨rfl, E⟩
      refine ⟨_, rfl, ?_⟩
      clear hT; intro a hT
      replace H := H.pure E; clear E
      refine Sx.st_take hT rfl rfl rfl rfl (Sx.x_assign hT rfl rfl) ?_
      clear hT; intro a hT
      replace hT := hT.keep [6, 36, 27, 0, 1, 2] rfl
      refine Sx.ser_nil ?_
      refine Sx.then_normal (hK9 _ _ ?_)
      clear hK9
      refine wp_ret ?_
      refine Sx.then_ret ?_
      refine Sx.done1 (fn := Try.f5) hT rfl (.tmp (hT.get 6 _ rfl)) ?_
      exact ⟨ret_b (by simp), H.ext⟩
    · try simp only [decide_eq_true_eq, decide_eq_false_iff_not, Bool.not_eq_true', Bool.not_eq_false', Bool.not_eq_true, Bool.not_eq_false, Bool.and_eq_true, Bool.or_eq_false_iff, beq_iff_eq, bne_iff_ne, Int.not_lt, Int.not_le, ne_eq] at hc8
      refine wp_skip ?_
      refine Sx.then_normal (hK4 _ _ ?_)
      clear hK4
      refine wp_seq_k fun K10 hK10 => ?_
      -- region 5 (law.go:53)
      refine Sx.wp_text [(0, .run), (1, .take), (2, .run), (3, .take)] rfl ?_
      refine Sx.st_eff hT rfl rfl rfl rfl (Sx.y_slice0 hT rfl Try.underlying28 Try.ti37 _) ?_
      clear hT; rintro _ w5 ⟨b1, rfl, N⟩ a hT
      replace H := H.new N; clear N
      replace H := H.rowB 4 0 rfl rfl
      refine Sx.st_take hT rfl rfl rfl rfl (Sx.x_move hT rfl rfl) ?_
      clear hT; intro a hT
      refine Sx.st_eff hT rfl rfl rfl rfl (Sx.x_append hT rfl rfl Try.underlying28 Try.ti37 rfl (by decide) rfl rfl (H.row 0 rfl) (R.at H.ext).sv (fun u hu => flat_one Rg.one _ u hu) hln (by unfold maxLen; omega) (by omega)) ?_
      rintro _ w6 ⟨ad6, c6, rfl, hr, E, hown, -⟩
      clear hT; intro a hT
      replace H := H.setR 0 rfl hr E hown rfl; clear hr E hown
      rw [Nat.zero_add] at H hT
      rw [List.nil_append] at H
      refine Sx.st_take hT rfl rfl rfl rfl (Sx.x_assign hT rfl rfl) ?_
      clear hT; intro a hT
      replace hT := hT.keep [7, 36, 27, 6, 0, 1, 2] rfl
      refine Sx.ser_nil ?_
      refine Sx.then_normal (hK10 _ _ ?_)
      clear hK10
      refine wp_seq_k fun K11 hK11 => ?_
      by_cases hck : checkF l = 0
      · skip
        -- region 6 (law.go:54)
        refine Sx.wp_text [(0, .take), (1, .run), (2, .take), (3, .take), (4, .take), (5, .take), (6, .take)] rfl ?_
        refine Sx.st_take hT rfl rfl rfl rfl (Sx.x_move hT rfl rfl) ?_
        clear hT; intro a hT
        refine Sx.st_call hT rfl rfl rfl rfl rfl Try.can10 rfl (New_yes l ((H.row 0 rfl).ssn rfl) (by omega) ((H.row 0 rfl).le.1) hw hck) ?_
        rintro _ w7 ⟨pd, bd, rfl, K⟩
        refine ⟨_, rfl, ?_⟩
        clear hT; intro a hT
        replace H := H.more K rfl; clear K
        refine Sx.st_take hT rfl rfl rfl rfl (Sx.x_move hT rfl rfl) ?_
        clear hT; intro a hT
        refine Sx.st_take hT rfl rfl rfl rfl (Sx.x_extractL hT rfl rfl rfl) ?_
        clear hT; intro a hT
        refine Sx.st_take hT rfl rfl rfl rfl (Sx.x_extractL hT rfl rfl rfl) ?_
        clear hT; intro a hT
        refine Sx.st_take hT rfl rfl rfl rfl (Sx.x_assign hT rfl rfl) ?_
        clear hT; intro a hT
        refine Sx.st_take hT rfl rfl rfl rfl (Sx.x_assign hT rfl rfl) ?_
        clear hT; intro a hT
        replace hT := hT.keep [9, 8, 7, 36, 27, 6, 0, 1, 2] rfl
        refine Sx.ser_nil ?_
        refine Sx.then_normal (hK11 _ _ ?_)
        clear hK11
        refine wp_seq_k fun K12 hK12 => ?_
        -- region 7 (law.go:55)
        refine Sx.wp_text [(0, .take), (1, .run), (2, .take), (3, .take), (4, .take), (5, .take), (6, .take)] rfl ?_
        refine Sx.st_take hT rfl rfl rfl rfl (Sx.x_move hT rfl rfl) ?_
        clear hT; intro a hT
        refine Sx.st_call hT rfl rfl rfl rfl rfl Try.can21 rfl (New14_yes l (R.at H.ext) (by omega) hlc hw hck) ?_
        rintro _ w8 ⟨p9, ad0, c0, rfl, K⟩
        refine ⟨_, rfl, ?_⟩
        clear hT; intro a hT
        replace H := H.more K rfl; clear K
        refine Sx.st_take hT rfl rfl rfl rfl (Sx.x_move hT rfl rfl) ?_
        clear hT; intro a hT
        refine Sx.st_take hT rfl rfl rfl rfl (Sx.x_extractL hT rfl rfl rfl) ?_
        clear hT; intro a hT
        refine Sx.st_take hT rfl rfl rfl rfl (Sx.x_extractL hT rfl rfl rfl) ?_
        clear hT; intro a hT
        refine Sx.st_take hT rfl rfl rfl rfl (Sx.x_assign hT rfl rfl) ?_
        clear hT; intro a hT
        refine Sx.st_take hT rfl rfl rfl rfl (Sx.x_assign hT rfl rfl) ?_
        clear hT; intro a hT
        replace hT := hT.keep [11, 10, 9, 8, 7, 36, 27, 6, 0, 1, 2] rfl
        refine Sx.ser_nil ?_
        refine Sx.then_normal (hK12 _ _ ?_)
        clear hK12
        refine wp_seq_k fun K13 hK13 => ?_
        refine wp_seq_k fun K14 hK14 => ?_
        -- region 8 (law.go:56)
        refine Sx.wp_text [(0, .take), (1, .take), (2, .take), (3, .take), (4, .take), (5, .take), (6, .take), (7, .take), (8, .take), (9, .take), (10, .take), (11, .take), (12, .take), (13, .run), (14, .take), (15, .take)] rfl ?_
        refine Sx.st_take hT rfl rfl rfl rfl (Sx.x_move hT rfl rfl) ?_
        clear hT; intro a hT
        refine Sx.st_take hT rfl rfl rfl rfl (Sx.x_move hT rfl rfl) ?_
        clear hT; intro a hT
        refine Sx.st_take hT rfl rfl rfl rfl ((fun w => Sx.x_ne w hT rfl rfl rfl)) ?_
        clear hT; intro a hT
        refine Sx.st_take hT rfl rfl rfl rfl (Sx.x_move hT rfl rfl) ?_
        clear hT; intro a hT
        -- guard (8, 3)
        refine Sx.Sl.two hT 54 rfl (fun hc15 hT => ?_) (fun hc15 hT => ?_)
        · exfalso
          try simp only [decide_eq_true_eq, decide_eq_false_iff_not, Bool.not_eq_true', Bool.not_eq_false', Bool.not_eq_true, Bool.not_eq_false, Bool.and_eq_true, Bool.or_eq_false_iff, beq_iff_eq, bne_iff_ne, Int.not_lt, Int.not_le, ne_eq] at hc15
          simp at hc15
        · try simp only [decide_eq_true_eq, decide_eq_false_iff_not, Bool.not_eq_true', Bool.not_eq_false', Bool.not_eq_true, Bool.not_eq_false, Bool.and_eq_true, Bool.or_eq_false_iff, beq_iff_eq, bne_iff_ne, Int.not_lt, Int.not_le, ne_eq] at hc15
          refine Sx.st_take hT rfl rfl rfl rfl (Sx.x_move hT rfl rfl) ?_
          clear hT; intro a hT
          refine Sx.st_take hT rfl rfl rfl rfl (Sx.x_eqnil_some hT rfl Try.underlying32 rfl rfl) ?_
          clear hT; intro a hT
          refine Sx.st_take hT rfl rfl rfl rfl (Sx.x_move hT rfl rfl) ?_
          clear hT; intro a hT
          refine Sx.st_take hT rfl rfl rfl rfl (Sx.x_eqnil_some hT rfl Try.underlying53 rfl rfl) ?_
          clear hT; intro a hT
          refine Sx.st_take hT rfl rfl rfl rfl (Sx.x_neb hT rfl Try.underlying4 rfl rfl) ?_
          clear hT; intro a hT
          refine Sx.st_take hT rfl rfl rfl rfl (Sx.x_pick_f hT rfl rfl rfl) ?_
          clear hT; intro a hT
          refine Sx.st_take hT rfl rfl rfl rfl (Sx.x_move hT rfl rfl) ?_
          clear hT; intro a hT
          -- guard (8, 10)
          refine Sx.Sl.two hT 61 rfl (fun hc16 hT => ?_) (fun hc16 hT => ?_)
          · exfalso
            try simp only [decide_eq_true_eq, decide_eq_false_iff_not, Bool.not_eq_true', Bool.not_eq_false', Bool.not_eq_true, Bool.not_eq_false, Bool.and_eq_true, Bool.or_eq_false_iff, beq_iff_eq, bne_iff_ne, Int.not_lt, Int.not_le, ne_eq] at hc16
            simp at hc16
          · try simp only [decide_eq_true_eq, decide_eq_false_iff_not, Bool.not_eq_true', Bool.not_eq_false', Bool.not_eq_true, Bool.not_eq_false, Bool.and_eq_true, Bool.or_eq_false_iff, beq_iff_eq, bne_iff_ne, Int.not_lt, Int.not_le, ne_eq] at hc16
            refine Sx.st_take hT rfl rfl rfl rfl (Sx.x_move hT rfl rfl) ?_
            clear hT; intro a hT
            refine Sx.st_take hT rfl rfl rfl rfl (Sx.x_move hT rfl rfl) ?_
            clear hT; intro a hT
            refine Sx.st_call hT rfl rfl rfl rfl rfl Try.can20 rfl (Ranges_calls l l ((H.row 4 rfl).ssn rfl) (R.at H.ext) (by omega)) ?_
            rintro _ w9 ⟨rfl, E⟩
            refine ⟨_, rfl, ?_⟩
            clear hT; intro a hT
            replace H := H.pure E; clear E
            refine Sx.st_take hT rfl rfl rfl rfl (Sx.x_not hT rfl rfl) ?_
            clear hT; intro a hT
            refine Sx.st_take hT rfl rfl rfl rfl (Sx.x_pick_f hT rfl rfl rfl) ?_
            clear hT; intro a hT
            replace hT := hT.keep [66, 11, 10, 9, 8, 7, 36, 27, 6, 0, 1, 2] rfl
            refine Sx.ser_nil ?_
            refine Sx.then_normal (hK14 _ _ ?_)
            clear hK14
            -- cond 2
            refine Sx.wp_if hT rfl (fun hc17 => ?_) (fun hc17 => ?_)
            · exfalso
              try simp only [decide_eq_true_eq, decide_eq_false_iff_not, Bool.not_eq_true', Bool.not_eq_false', Bool.not_eq_true, Bool.not_eq_false, Bool.and_eq_true, Bool.or_eq_false_iff, beq_iff_eq, bne_iff_ne, Int.not_lt, Int.not_le, ne_eq] at hc17
              simp at hc17
            · try simp only [decide_eq_true_eq, decide_eq_false_iff_not, Bool.not_eq_true', Bool.not_eq_false', Bool.not_eq_true, Bool.not_eq_false, Bool.and_eq_true, Bool.or_eq_false_iff, beq_iff_eq, bne_iff_ne, Int.not_lt, Int.not_le, ne_eq] at hc17
              refine wp_skip ?_
              refine Sx.then_normal (hK13 _ _ ?_)
              clear hK13
              refine wp_seq_k fun K18 hK18 => ?_
              refine wp_seq_k fun K19 hK19 => ?_
              -- region 10 (law.go:59)
              refine Sx.wp_text [(0, .take), (1, .take)] rfl ?_
              refine Sx.st_take hT rfl rfl rfl rfl (Sx.x_move hT rfl rfl) ?_
              clear hT; intro a hT
              refine Sx.st_take hT rfl rfl rfl rfl (Sx.x_eqnil_some hT rfl Try.underlying53 rfl rfl) ?_
              clear hT; intro a hT
              replace hT := hT.keep [68, 66, 11, 10, 9, 8, 7, 36, 27, 6, 0, 1, 2] rfl
              refine Sx.ser_nil ?_
              refine Sx.then_normal (hK19 _ _ ?_)
              clear hK19
              refine Sx.wp_if hT rfl (fun h => by cases h) (fun _ => ?_)
              refine wp_skip ?_
              refine Sx.then_normal (hK18 _ _ ?_)
              clear hK18
              refine wp_seq_k fun K20 hK20 => ?_
              refine wp_seq_k fun K21 hK21 => ?_
              -- region 12 (law.go:62)
              refine Sx.wp_text [(0, .take)] rfl ?_
              refine Sx.st_take hT rfl rfl rfl rfl (Sx.x_assign hT rfl rfl) ?_
              clear hT; intro a hT
              replace hT := hT.keep [12, 68, 66, 11, 10, 9, 8, 7, 36, 27, 6, 0, 1, 2] rfl
              refine Sx.ser_nil ?_
              refine Sx.then_normal (hK21 _ _ ?_)
              clear hK21
              refine wp_block ?_
              -- loop 0
              refine Sx.wp_loopH (G := Nat × List Rg × Option Addr × Nat) (fun ⟨i, D, ad9, c9⟩ => [(12, .int .i64 (i : Int))]) (fun ⟨i, D, ad9, c9⟩ => [cM Try.prog 3 bd (tb D), cB p9 [.slice ad9 D.length c9] 64, cR 37 4 ad9 D.length c9 (D.flatMap Rg.cells)]) (fun ⟨i, D, ad9, c9⟩ => i ≤ ms.length + 1 ∧ Srt D ∧ BD D ∧ ∀ r ∈ D, r.wf) (fun ⟨i, D, ad9, c9⟩ => ms.length + 1 - i) (0, (learnR [] l).1, ad0, c0) (hT.keep [12, 68, 66, 11, 10, 9, 8, 7, 36, 27, 0, 1, 2] rfl) (H.keep [3, 0, 1, 2, 4] rfl rfl) (⟨Nat.zero_le _, learn_srt l List.Pairwise.nil, learn_bd l (fun r hr => by simp at hr), learn_wf (by simp) hw⟩) ?_
              clear hT H
              rintro ⟨i, D, ad9, c9⟩ a w10 hJ hT H
              replace hT := hT.keep [12, 68, 66, 11, 10, 9, 8, 7, 36, 27, 0, 1, 2] rfl
              replace H := H.keep [0, 1, 2, 3, 4] rfl rfl
              obtain ⟨hi, hs9, hb9, hw9⟩ := hJ
              have h12 := few12 hs9 hb9
              refine wp_seq_k fun K22 hK22 => ?_
              refine wp_seq_k fun K23 hK23 => ?_
              -- region 13 (law.go:62)
              refine Sx.wp_text [(0, .take), (1, .take), (2, .take), (3, .take)] rfl ?_
              refine Sx.st_take hT rfl rfl rfl rfl (Sx.x_move hT rfl rfl) ?_
              clear hT; intro a hT
              refine Sx.st_take hT rfl rfl rfl rfl (Sx.x_move hT rfl rfl) ?_
              clear hT; intro a hT
              refine Sx.st_take hT rfl rfl rfl rfl (Sx.x_len_slice hT rfl rfl Try.underlying52 rfl) ?_
              clear hT; intro a hT
              refine Sx.st_take hT rfl rfl rfl rfl ((fun w => Sx.x_le w hT rfl rfl rfl)) ?_
              clear hT; intro a hT
              replace hT := hT.keep [73, 12, 68, 66, 11, 10, 9, 8, 7, 36, 27, 0, 1, 2] rfl
              refine Sx.ser_nil ?_
              refine Sx.then_normal (hK23 _ _ ?_)
              clear hK23
              -- cond 4
              refine Sx.wp_if hT rfl (fun hc24 => ?_) (fun hc24 => ?_)
              · try simp only [decide_eq_true_eq, decide_eq_false_iff_not, Bool.not_eq_true', Bool.not_eq_false', Bool.not_eq_true, Bool.not_eq_false, Bool.and_eq_true, Bool.or_eq_false_iff, beq_iff_eq, bne_iff_ne, Int.not_lt, Int.not_le, ne_eq] at hc24
                refine wp_skip ?_
                refine Sx.then_normal (hK22 _ _ ?_)
                clear hK22
                refine wp_seq_k fun K25 hK25 => ?_
                refine wp_block ?_
                refine wp_seq_k fun K26 hK26 => ?_
                refine wp_seq_k fun K27 hK27 => ?_
                -- region 15 (law.go:63)
                refine Sx.wp_text [(0, .take)] rfl ?_
                refine Sx.st_take hT rfl rfl rfl rfl (Sx.x_assign hT rfl rfl) ?_
                clear hT; intro a hT
                replace hT := hT.keep [13, 73, 12, 68, 66, 11, 10, 9, 8, 7, 36, 27, 0, 1, 2] rfl
                refine Sx.ser_nil ?_
                refine Sx.then_normal (hK27 _ _ ?_)
                clear hK27
                refine wp_block ?_
                -- loop 1
                refine Sx.wp_loopH (G := Nat) (fun k => [(13, .int .i64 (k : Int))]) (fun k => []) (fun k => k ≤ ks.length) (fun k => ks.length - k) 0 (hT.keep [13, 73, 12, 68, 66, 11, 10, 9, 8, 7, 36, 27, 0, 1, 2] rfl) (H.keep [0, 1, 2, 3, 4] rfl rfl) (Nat.zero_le _) ?_
                clear hT H
                rintro k a w11 hJ hT H
                replace hT := hT.keep [13, 73, 12, 68, 66, 11, 10, 9, 8, 7, 36, 27, 0, 1, 2] rfl
                replace H := H.keep [0, 1, 2, 3, 4] rfl rfl
                have hk : k ≤ ks.length := hJ
                refine wp_seq_k fun K28 hK28 => ?_
                refine wp_seq_k fun K29 hK29 => ?_
                -- region 16 (law.go:63)
                refine Sx.wp_text [(0, .take), (1, .take), (2, .take), (3, .take)] rfl ?_
                refine Sx.st_take hT rfl rfl rfl rfl (Sx.x_move hT rfl rfl) ?_
                clear hT; intro a hT
                refine Sx.st_take hT rfl rfl rfl rfl (Sx.x_move hT rfl rfl) ?_
                clear hT; intro a hT
                refine Sx.st_take hT rfl rfl rfl rfl (Sx.x_len_slice hT rfl rfl Try.underlying25 rfl) ?_
                clear hT; intro a hT
                refine Sx.st_take hT rfl rfl rfl rfl ((fun w => Sx.x_lt w hT rfl rfl rfl)) ?_
                clear hT; intro a hT
                replace hT := hT.keep [79, 13, 73, 12, 68, 66, 11, 10, 9, 8, 7, 36, 27, 0, 1, 2] rfl
                refine Sx.ser_nil ?_
                refine Sx.then_normal (hK29 _ _ ?_)
                clear hK29
                -- cond 5
                refine Sx.wp_if hT rfl (fun hc30 => ?_) (fun hc30 => ?_)
                · try simp only [decide_eq_true_eq, decide_eq_false_iff_not, Bool.not_eq_true', Bool.not_eq_false', Bool.not_eq_true, Bool.not_eq_false, Bool.and_eq_true, Bool.or_eq_false_iff, beq_iff_eq, bne_iff_ne, Int.not_lt, Int.not_le, ne_eq] at hc30
                  obtain ⟨key, hkey⟩ : ∃ o, ks[k]? = some o := ⟨_, List.getElem?_eq_getElem (by omega)⟩
                  have hkl : key.length ≤ 9223372036854775807 := by have := hkb key (List.mem_of_getElem? hkey); omega
                  refine wp_skip ?_
                  refine Sx.then_normal (hK28 _ _ ?_)
                  clear hK28
                  refine wp_seq_k fun K31 hK31 => ?_
                  refine wp_block ?_
                  refine wp_seq_k fun K32 hK32 => ?_
                  -- region 18 (law.go:64)
                  refine Sx.wp_text [(0, .take), (1, .take), (2, .take), (3, .take), (4, .run), (5, .run), (6, .take), (7, .take), (8, .take), (9, .run), (10, .run), (11, .take)] rfl ?_
                  refine Sx.st_take hT rfl rfl rfl rfl (Sx.x_move hT rfl rfl) ?_
                  clear hT; intro a hT
                  refine Sx.st_take hT rfl rfl rfl rfl (Sx.x_move hT rfl rfl) ?_
                  clear hT; intro a hT
                  refine Sx.st_take hT rfl rfl rfl rfl (Sx.x_move hT rfl rfl) ?_
                  clear hT; intro a hT
                  refine Sx.st_take hT rfl rfl rfl rfl (Sx.x_index (k := k) hT rfl Try.underlying25 Try.ti9 (by first | exact (R4.at H.ext).sv | exact (RMs.at H.ext).sv) rfl rfl (by first | rfl | omega) (by omega)) ?_
                  clear hT; intro a hT
                  refine Sx.st_run hT rfl rfl rfl rfl (Sx.x_load1 hT rfl Try.fl9 rfl (by first | exact ((H.blk 1 rfl).nth rfl) | exact ((R4.at H.ext).cell (j := 0) kc_len hkey rfl) | exact ((RMs.at H.ext).cell (j := 0) Ml.len hx rfl))) ?_
                  clear hT; intro a hT
                  refine Sx.st_call hT rfl rfl rfl rfl rfl Try.can15 rfl (Route_calls key hkl (H.blk 3 rfl) (H.mp 0 rfl)) ?_
                  rintro _ w12 ⟨rfl, E⟩
                  refine ⟨_, rfl, ?_⟩
                  clear hT; intro a hT
                  replace H := H.pure E; clear E
                  obtain ⟨ro9, hro⟩ : ∃ o, routeL D key = o := ⟨_, rfl⟩
                  rw [hro] at hT
                  refine Sx.st_take hT rfl rfl rfl rfl (Sx.x_move hT rfl rfl) ?_
                  clear hT; intro a hT
                  refine Sx.st_take hT rfl rfl rfl rfl (Sx.x_extractL hT rfl rfl rfl) ?_
                  clear hT; intro a hT
                  refine Sx.st_take hT rfl rfl rfl rfl (Sx.x_extractL hT rfl rfl rfl) ?_
                  clear hT; intro a hT
                  refine Sx.st_eff hT rfl rfl rfl rfl (Sx.y_alloc hT rfl Try.ti37 rfl _) ?_
                  clear hT; rintro _ w13 ⟨b2, rfl, N⟩ a hT
                  replace H := H.new N; clear N
                  refine Sx.st_act hT rfl rfl rfl (Sx.y_storeS hT rfl Try.ti37 rfl rfl rfl rfl rfl (H.blk 0 rfl) rfl) ?_
                  rintro w14 ⟨hb, E, _⟩
                  replace H := H.setB 0 rfl hb E rfl; clear hb E
                  refine Sx.st_take hT rfl rfl rfl rfl (Sx.x_assign hT rfl rfl) ?_
                  clear hT; intro a hT
                  replace hT := hT.keep [15, 14, 79, 13, 73, 12, 68, 66, 11, 10, 9, 8, 7, 36, 27, 0, 1, 2] rfl
                  refine Sx.ser_nil ?_
                  refine Sx.then_normal (hK32 _ _ ?_)
                  clear hK32
                  refine wp_seq_k fun K33 hK33 => ?_
                  -- region 19 (law.go:65)
                  refine Sx.wp_text [(0, .take), (1, .take), (2, .take), (3, .take), (4, .run), (5, .run), (6, .take), (7, .take), (8, .take), (9, .run), (10, .run), (11, .take)] rfl ?_
                  refine Sx.st_take hT rfl rfl rfl rfl (Sx.x_move hT rfl rfl) ?_
                  clear hT; intro a hT
                  refine Sx.st_take hT rfl rfl rfl rfl (Sx.x_move hT rfl rfl) ?_
                  clear hT; intro a hT
                  refine Sx.st_take hT rfl rfl rfl rfl (Sx.x_move hT rfl rfl) ?_
                  clear hT; intro a hT
                  refine Sx.st_take hT rfl rfl rfl rfl (Sx.x_index (k := k) hT rfl Try.underlying25 Try.ti9 (by first | exact (R4.at H.ext).sv | exact (RMs.at H.ext).sv) rfl rfl (by first | rfl | omega) (by omega)) ?_
                  clear hT; intro a hT
                  refine Sx.st_run hT rfl rfl rfl rfl (Sx.x_load1 hT rfl Try.fl9 rfl (by first | exact ((H.blk 0 rfl).nth rfl) | exact ((H.blk 2 rfl).nth rfl) | exact ((R4.at H.ext).cell (j := 0) kc_len hkey rfl) | exact ((RMs.at H.ext).cell (j := 0) Ml.len hx rfl))) ?_
                  clear hT; intro a hT
                  refine Sx.st_call hT rfl rfl rfl rfl rfl Try.can22 rfl (Route14_calls key hkl (H.blk 2 rfl) ((H.row 3 rfl).ssn rfl) hs9 hb9) ?_
                  rintro _ w15 ⟨rfl, E⟩
                  refine ⟨_, rfl, ?_⟩
                  clear hT; intro a hT
                  replace H := H.pure E; clear E
                  rw [hro] at hT
                  refine Sx.st_take hT rfl rfl rfl rfl (Sx.x_move hT rfl rfl) ?_
                  clear hT; intro a hT
                  refine Sx.st_take hT rfl rfl rfl rfl (Sx.x_extractL hT rfl rfl rfl) ?_
                  clear hT; intro a hT
                  refine Sx.st_take hT rfl rfl rfl rfl (Sx.x_extractL hT rfl rfl rfl) ?_
                  clear hT; intro a hT
                  refine Sx.st_eff hT rfl rfl rfl rfl (Sx.y_alloc hT rfl Try.ti37 rfl _) ?_
                  clear hT; rintro _ w16 ⟨b3, rfl, N⟩ a hT
                  replace H := H.new N; clear N
                  refine Sx.st_act hT rfl rfl rfl (Sx.y_storeS hT rfl Try.ti37 rfl rfl rfl rfl rfl (H.blk 0 rfl) rfl) ?_
                  rintro w17 ⟨hb, E, _⟩
                  replace H := H.setB 0 rfl hb E rfl; clear hb E
                  refine Sx.st_take hT rfl rfl rfl rfl (Sx.x_assign hT rfl rfl) ?_
                  clear hT; intro a hT
                  replace hT := hT.keep [17, 16, 15, 14, 79, 13, 73, 12, 68, 66, 11, 10, 9, 8, 7, 36, 27, 0, 1, 2] rfl
                  refine Sx.ser_nil ?_
                  refine Sx.then_normal (hK33 _ _ ?_)
                  clear hK33
                  refine wp_seq_k fun K34 hK34 => ?_
                  -- region 20 (law.go:66)
                  refine Sx.wp_text [(0, .take), (1, .take), (2, .take), (3, .take), (4, .run), (5, .run), (6, .run), (7, .take), (8, .take)] rfl ?_
                  refine Sx.st_take hT rfl rfl rfl rfl (Sx.x_move hT rfl rfl) ?_
                  clear hT; intro a hT
                  refine Sx.st_take hT rfl rfl rfl rfl (Sx.x_move hT rfl rfl) ?_
                  clear hT; intro a hT
                  refine Sx.st_take hT rfl rfl rfl rfl (Sx.x_neb hT rfl Try.underlying4 rfl rfl) ?_
                  clear hT; intro a hT
                  refine Sx.st_take hT rfl rfl rfl rfl (Sx.x_move hT rfl rfl) ?_
                  clear hT; intro a hT
                  -- guard (20, 3)
                  refine Sx.Sl.two hT 103 rfl (fun hc35 hT => ?_) (fun hc35 hT => ?_)
                  · exfalso
                    try simp only [decide_eq_true_eq, decide_eq_false_iff_not, Bool.not_eq_true', Bool.not_eq_false', Bool.not_eq_true, Bool.not_eq_false, Bool.and_eq_true, Bool.or_eq_false_iff, beq_iff_eq, bne_iff_ne, Int.not_lt, Int.not_le, ne_eq] at hc35
                    simp at hc35
                  · try simp only [decide_eq_true_eq, decide_eq_false_iff_not, Bool.not_eq_true', Bool.not_eq_false', Bool.not_eq_true, Bool.not_eq_false, Bool.and_eq_true, Bool.or_eq_false_iff, beq_iff_eq, bne_iff_ne, Int.not_lt, Int.not_le, ne_eq] at hc35
                    refine Sx.st_run hT rfl rfl rfl rfl (Sx.y_loadS hT rfl Try.underlying37 Try.ti37 rfl ((H.blk 1 rfl).seg (k := 4) rfl) (by rfl)) ?_
                    clear hT; intro a hT
                    refine Sx.st_run hT rfl rfl rfl rfl (Sx.y_loadS hT rfl Try.underlying37 Try.ti37 rfl ((H.blk 0 rfl).seg (k := 4) rfl) (by rfl)) ?_
                    clear hT; intro a hT
                    refine Sx.st_call hT rfl rfl rfl rfl rfl Try.can19 rfl (Range_calls (ro9.getD rz) (ro9.getD rz) _) ?_
                    rintro _ w18 ⟨rfl, E⟩
                    refine ⟨_, rfl, ?_⟩
                    clear hT; intro a hT
                    replace H := H.pure E; clear E
                    refine Sx.st_take hT rfl rfl rfl rfl (Sx.x_not hT rfl rfl) ?_
                    clear hT; intro a hT
                    refine Sx.st_take hT rfl rfl rfl rfl (Sx.x_pick_f hT rfl rfl rfl) ?_
                    clear hT; intro a hT
                    replace hT := hT.keep [108, 17, 16, 15, 14, 79, 13, 73, 12, 68, 66, 11, 10, 9, 8, 7, 36, 27, 0, 1, 2] rfl
                    refine Sx.ser_nil ?_
                    refine Sx.then_normal (hK34 _ _ ?_)
                    clear hK34
                    -- cond 6
                    refine Sx.wp_if hT rfl (fun hc36 => ?_) (fun hc36 => ?_)
                    · exfalso
                      try simp only [decide_eq_true_eq, decide_eq_false_iff_not, Bool.not_eq_true', Bool.not_eq_false', Bool.not_eq_true, Bool.not_eq_false, Bool.and_eq_true, Bool.or_eq_false_iff, beq_iff_eq, bne_iff_ne, Int.not_lt, Int.not_le, ne_eq] at hc36
                      simp at hc36
                    · try simp only [decide_eq_true_eq, decide_eq_false_iff_not, Bool.not_eq_true', Bool.not_eq_false', Bool.not_eq_true, Bool.not_eq_false, Bool.and_eq_true, Bool.or_eq_false_iff, beq_iff_eq, bne_iff_ne, Int.not_lt, Int.not_le, ne_eq] at hc36
                      refine wp_skip ?_
                      refine Sx.block_normal ?_
                      refine Sx.then_normal (hK31 _ _ ?_)
                      clear hK31
                      -- region 17 (law.go:63)
                      refine Sx.wp_text [(0, .take), (1, .take), (2, .take)] rfl ?_
                      refine Sx.st_take hT rfl rfl rfl rfl (Sx.x_move hT rfl rfl) ?_
                      clear hT; intro a hT
                      refine Sx.st_take hT rfl rfl rfl rfl ((fun w => Sx.x_add w hT rfl rfl rfl (Sx.wrap64 (by omega)))) ?_
                      clear hT; intro a hT
                      refine Sx.st_take hT rfl rfl rfl rfl (Sx.x_assign hT rfl rfl) ?_
                      clear hT; intro a hT
                      replace hT := hT.keep [13, 108, 17, 16, 15, 14, 79, 73, 12, 68, 66, 11, 10, 9, 8, 7, 36, 27, 0, 1, 2] rfl
                      refine Sx.ser_nil ?_
                      refine Sx.then_normal ?_
                      exact ⟨k + 1, (by omega), (hT.keep [13, 73, 12, 68, 66, 11, 10, 9, 8, 7, 36, 27, 0, 1, 2] rfl), (H.keep [2, 3, 4, 5, 6] rfl rfl), by omega⟩
                · try simp only [decide_eq_true_eq, decide_eq_false_iff_not, Bool.not_eq_true', Bool.not_eq_false', Bool.not_eq_true, Bool.not_eq_false, Bool.and_eq_true, Bool.or_eq_false_iff, beq_iff_eq, bne_iff_ne, Int.not_lt, Int.not_le, ne_eq] at hc30
                  refine wp_exit ?_
                  refine Sx.then_exit ?_
                  refine Sx.then_exit ?_
                  refine Sx.block_exit ?_
                  refine Sx.then_normal (hK26 _ _ ?_)
                  clear hK26
                  refine wp_seq_k fun K37 hK37 => ?_
                  -- region 22 (law.go:70)
                  refine Sx.wp_text [(0, .take), (1, .take), (2, .run), (3, .take), (4, .take), (5, .take), (6, .take), (7, .take)] rfl ?_
                  refine Sx.st_take hT rfl rfl rfl rfl (Sx.x_move hT rfl rfl) ?_
                  clear hT; intro a hT
                  refine Sx.st_take hT rfl rfl rfl rfl (Sx.x_move hT rfl rfl) ?_
                  clear hT; intro a hT
                  refine Sx.st_call hT rfl rfl rfl rfl rfl Try.can23 rfl (Group_calls ks (H.blk 3 rfl) (H.mp 0 rfl) hs9 (by omega) (R4.at H.ext) (by omega) (fun l hl => by have := hkb l hl; omega)) ?_
                  rintro _ w19 ⟨ag, cg, L, rfl, K, hL⟩
                  refine ⟨_, rfl, ?_⟩
                  clear hT; intro a hT
                  replace H := H.more K rfl; clear K
                  refine Sx.st_take hT rfl rfl rfl rfl (Sx.x_move hT rfl rfl) ?_
                  clear hT; intro a hT
                  refine Sx.st_take hT rfl rfl rfl rfl (Sx.x_extractL hT rfl rfl rfl) ?_
                  clear hT; intro a hT
                  refine Sx.st_take hT rfl rfl rfl rfl (Sx.x_extractL hT rfl rfl rfl) ?_
                  clear hT; intro a hT
                  refine Sx.st_take hT rfl rfl rfl rfl (Sx.x_assign hT rfl rfl) ?_
                  clear hT; intro a hT
                  refine Sx.st_take hT rfl rfl rfl rfl (Sx.x_assign hT rfl rfl) ?_
                  clear hT; intro a hT
                  replace hT := hT.keep [19, 18, 79, 13, 73, 12, 68, 66, 11, 10, 9, 8, 7, 36, 27, 0, 1, 2] rfl
                  refine Sx.ser_nil ?_
                  refine Sx.then_normal (hK37 _ _ ?_)
                  clear hK37
                  refine wp_seq_k fun K38 hK38 => ?_
                  -- region 23 (law.go:71)
                  refine Sx.wp_text [(0, .take), (1, .take), (2, .run), (3, .take), (4, .take), (5, .take), (6, .take), (7, .take)] rfl ?_
                  refine Sx.st_take hT rfl rfl rfl rfl (Sx.x_move hT rfl rfl) ?_
                  clear hT; intro a hT
                  refine Sx.st_take hT rfl rfl rfl rfl (Sx.x_move hT rfl rfl) ?_
                  clear hT; intro a hT
                  refine Sx.st_call hT rfl rfl rfl rfl rfl Try.can24 rfl (Group14_calls ks (H.blk 3 rfl) ((H.row 4 rfl).ssn rfl) hs9 hb9 (R4.at H.ext) (by omega) (fun l hl => by have := hkb l hl; omega)) ?_
                  rintro _ w20 ⟨ah, ch, L2, rfl, K, hL2⟩
                  refine ⟨_, rfl, ?_⟩
                  clear hT; intro a hT
                  replace H := H.more K rfl; clear K
                  have hLL : L.map Gr.pure = L2.map Gr.pure := hL.trans hL2.symm
                  obtain ⟨hLb1, hLb2⟩ := grp_bounds hL
                  refine Sx.st_take hT rfl rfl rfl rfl (Sx.x_move hT rfl rfl) ?_
                  clear hT; intro a hT
                  refine Sx.st_take hT rfl rfl rfl rfl (Sx.x_extractL hT rfl rfl rfl) ?_
                  clear hT; intro a hT
                  refine Sx.st_take hT rfl rfl rfl rfl (Sx.x_extractL hT rfl rfl rfl) ?_
                  clear hT; intro a hT
                  refine Sx.st_take hT rfl rfl rfl rfl (Sx.x_assign hT rfl rfl) ?_
                  clear hT; intro a hT
                  refine Sx.st_take hT rfl rfl rfl rfl (Sx.x_assign hT rfl rfl) ?_
                  clear hT; intro a hT
                  replace hT := hT.keep [21, 20, 19, 18, 79, 13, 73, 12, 68, 66, 11, 10, 9, 8, 7, 36, 27, 0, 1, 2] rfl
                  refine Sx.ser_nil ?_
                  refine Sx.then_normal (hK38 _ _ ?_)
                  clear hK38
                  refine wp_seq_k fun K39 hK39 => ?_
                  refine wp_seq_k fun K40 hK40 => ?_
                  -- region 24 (law.go:72)
                  refine Sx.wp_draws (fun u => Sx.Ext (Sx.No) u) [(0, .take), (1, .take), (2, .take), (3, .take), (4, .take), (5, .take), (6, .keep), (7, .take), (8, .take), (9, .take), (10, .take), (12, .take), (13, .take), (14, .take), (15, .held), (11, .keep), (16, .run), (17, .take), (18, .take)] (by kernel_rfl) (by kernel_rfl) (fun u E _ => ?_)
                  replace H := H.pure E; clear E
                  have hH : Sx.Ext (Sx.No) u u := Sx.Ext.refl _ _
                  have Hu := H
                  refine Sx.st_take hT rfl rfl rfl rfl (Sx.x_move hT rfl rfl) ?_
                  clear hT; intro a hT
                  refine Sx.st_take hT rfl rfl rfl rfl (Sx.x_move hT rfl rfl) ?_
                  clear hT; intro a hT
                  refine Sx.st_take hT rfl rfl rfl rfl ((fun w => Sx.x_ne w hT rfl rfl rfl)) ?_
                  clear hT; intro a hT
                  refine Sx.st_take hT rfl rfl rfl rfl (Sx.x_move hT rfl rfl) ?_
                  clear hT; intro a hT
                  -- guard (24, 3)
                  refine Sx.Sl.two hT 124 rfl (fun hc41 hT => ?_) (fun hc41 hT => ?_)
                  · exfalso
                    try simp only [decide_eq_true_eq, decide_eq_false_iff_not, Bool.not_eq_true', Bool.not_eq_false', Bool.not_eq_true, Bool.not_eq_false, Bool.and_eq_true, Bool.or_eq_false_iff, beq_iff_eq, bne_iff_ne, Int.not_lt, Int.not_le, ne_eq] at hc41
                    simp at hc41
                  · try simp only [decide_eq_true_eq, decide_eq_false_iff_not, Bool.not_eq_true', Bool.not_eq_false', Bool.not_eq_true, Bool.not_eq_false, Bool.and_eq_true, Bool.or_eq_false_iff, beq_iff_eq, bne_iff_ne, Int.not_lt, Int.not_le, ne_eq] at hc41
                    refine Sx.st_take hT rfl rfl rfl rfl (Sx.x_move hT rfl rfl) ?_
                    clear hT; intro a hT
                    refine Sx.st_take hT rfl rfl rfl rfl (Sx.x_move hT rfl rfl) ?_
                    clear hT; intro a hT
                    refine Sx.st_callkeep hT rfl rfl rfl rfl rfl Try.can25 rfl (groups_calls L L2 ((H.row 2 rfl).ssn rfl) ((H.row 0 rfl).ssn rfl) (FS.of (H.at 3 rfl)) (FS.of (H.at 1 rfl)) (by omega) (fun g hg => by have := hLb2 g hg; omega)) ?_
                    rintro _ w21 ⟨rfl, E⟩
                    refine ⟨_, rfl, hH.step E, ?_⟩
                    replace hH := hH.step E
                    clear hT; intro a hT
                    replace H := H.pure E; clear E
                    rw [decide_eq_true hLL] at hT
                    refine Sx.st_take hT rfl rfl rfl rfl (Sx.x_not hT rfl rfl) ?_
                    clear hT; intro a hT
                    refine Sx.st_take hT rfl rfl rfl rfl (Sx.x_pick_f hT rfl rfl rfl) ?_
                    clear hT; intro a hT
                    refine Sx.st_take hT rfl rfl rfl rfl (Sx.x_move hT rfl rfl) ?_
                    clear hT; intro a hT
                    -- guard (24, 9)
                    refine Sx.Sl.two hT 130 rfl (fun hc42 hT => ?_) (fun hc42 hT => ?_)
                    · exfalso
                      try simp only [decide_eq_true_eq, decide_eq_false_iff_not, Bool.not_eq_true', Bool.not_eq_false', Bool.not_eq_true, Bool.not_eq_false, Bool.and_eq_true, Bool.or_eq_false_iff, beq_iff_eq, bne_iff_ne, Int.not_lt, Int.not_le, ne_eq] at hc42
                      simp at hc42
                    · try simp only [decide_eq_true_eq, decide_eq_false_iff_not, Bool.not_eq_true', Bool.not_eq_false', Bool.not_eq_true, Bool.not_eq_false, Bool.and_eq_true, Bool.or_eq_false_iff, beq_iff_eq, bne_iff_ne, Int.not_lt, Int.not_le, ne_eq] at hc42
                      refine Sx.st_take hT rfl rfl rfl rfl (Sx.x_move hT rfl rfl) ?_
                      clear hT; intro a hT
                      refine Sx.st_take hT rfl rfl rfl rfl (Sx.x_move hT rfl rfl) ?_
                      clear hT; intro a hT
                      refine Sx.st_take hT rfl rfl rfl rfl (Sx.x_nilCheck hT rfl rfl) ?_
                      clear hT; intro a hT
                      refine Sx.st_take hT rfl rfl rfl rfl (Sx.x_fieldAddr hT rfl Try.fa64_0 rfl) ?_
                      clear hT; intro a hT
                      refine Sx.st_held hT rfl rfl rfl rfl hH (fun w' h' => Sx.x_load1 hT rfl Try.fl28 rfl ((Hu.heldB 5 rfl h' Sx.off_No).nth rfl)) ?_
                      clear hT; intro a hT
                      refine Sx.st_callkeep hT rfl rfl rfl rfl rfl Try.can17 rfl (List_calls (H.blk 7 rfl) (H.mp 4 rfl) hs9 (by omega) hw9) ?_
                      rintro _ w22 ⟨adx24, cx24, rfl, K⟩
                      refine ⟨_, rfl, hH.step K.ext, ?_⟩
                      replace hH := hH.step K.ext
                      clear hT; intro a hT
                      replace H := H.more K rfl; clear K
                      refine Sx.st_call hT rfl rfl rfl rfl rfl Try.can20 rfl (Ranges_calls D D ((H.row 0 rfl).ssn rfl) ((H.row 7 rfl).ssn rfl) (by omega)) ?_
                      rintro _ w23 ⟨rfl, E⟩
                      refine ⟨_, rfl, ?_⟩
                      clear hT; intro a hT
                      replace H := H.pure E; clear E
                      refine Sx.st_take hT rfl rfl rfl rfl (Sx.x_not hT rfl rfl) ?_
                      clear hT; intro a hT
                      refine Sx.st_take hT rfl rfl rfl rfl (Sx.x_pick_f hT rfl rfl rfl) ?_
                      clear hT; intro a hT
                      replace hT := hT.keep [139, 21, 20, 19, 18, 79, 13, 73, 12, 68, 66, 11, 10, 9, 8, 7, 36, 27, 0, 1, 2] rfl
                      clear Hu hH
                      refine Sx.ser_calm ?_
                      refine Sx.then_normal (hK40 _ _ ?_)
                      clear hK40
                      -- cond 7
                      refine Sx.wp_if hT rfl (fun hc43 => ?_) (fun hc43 => ?_)
                      · exfalso
                        try simp only [decide_eq_true_eq, decide_eq_false_iff_not, Bool.not_eq_true', Bool.not_eq_false', Bool.not_eq_true, Bool.not_eq_false, Bool.and_eq_true, Bool.or_eq_false_iff, beq_iff_eq, bne_iff_ne, Int.not_lt, Int.not_le, ne_eq] at hc43
                        simp at hc43
                      · try simp only [decide_eq_true_eq, decide_eq_false_iff_not, Bool.not_eq_true', Bool.not_eq_false', Bool.not_eq_true, Bool.not_eq_false, Bool.and_eq_true, Bool.or_eq_false_iff, beq_iff_eq, bne_iff_ne, Int.not_lt, Int.not_le, ne_eq] at hc43
                        refine wp_skip ?_
                        refine Sx.then_normal (hK39 _ _ ?_)
                        clear hK39
                        refine wp_seq_k fun K44 hK44 => ?_
                        refine wp_seq_k fun K45 hK45 => ?_
                        -- region 26 (law.go:75)
                        refine Sx.wp_text [(0, .take)] rfl ?_
                        refine Sx.st_take hT rfl rfl rfl rfl (Sx.x_assign hT rfl rfl) ?_
                        clear hT; intro a hT
                        replace hT := hT.keep [22, 139, 21, 20, 19, 18, 79, 13, 73, 12, 68, 66, 11, 10, 9, 8, 7, 36, 27, 0, 1, 2] rfl
                        refine Sx.ser_nil ?_
                        refine Sx.then_normal (hK45 _ _ ?_)
                        clear hK45
                        refine wp_block ?_
                        -- loop 2
                        refine Sx.wp_loopH (G := Nat × List Gr) (fun ⟨q, L3⟩ => [(22, .int .i64 (q : Int))]) (fun ⟨q, L3⟩ => [cR 66 5 ag L.length cg (L3.flatMap Gr.cells), cF 9 1 Gr.rw L3]) (fun ⟨q, L3⟩ => q ≤ L.length ∧ L3.length = L.length ∧ ∀ g ∈ L3, g.ks.length ≤ ks.length) (fun ⟨q, L3⟩ => L.length - q) (0, L) (hT.keep [22, 139, 21, 20, 19, 18, 79, 13, 73, 12, 68, 66, 11, 10, 9, 8, 7, 36, 27, 0, 1, 2] rfl) (H.keep [3, 4, 0, 1, 2, 5, 6, 7, 8, 9] rfl rfl) (⟨Nat.zero_le _, rfl, hLb2⟩) ?_
                        clear hT H
                        rintro ⟨q, L3⟩ a w24 hJ hT H
                        replace hT := hT.keep [22, 139, 21, 20, 19, 18, 79, 13, 73, 12, 68, 66, 11, 10, 9, 8, 7, 36, 27, 0, 1, 2] rfl
                        replace H := H.keep [0, 1, 2, 3, 4, 5, 6, 7, 8, 9] rfl rfl
                        obtain ⟨hq, hLl3, hLb3⟩ := hJ
                        refine wp_seq_k fun K46 hK46 => ?_
                        refine wp_seq_k fun K47 hK47 => ?_
                        -- region 27 (law.go:75)
                        refine Sx.wp_text [(0, .take), (1, .take), (2, .take), (3, .take)] rfl ?_
                        refine Sx.st_take hT rfl rfl rfl rfl (Sx.x_move hT rfl rfl) ?_
                        clear hT; intro a hT
                        refine Sx.st_take hT rfl rfl rfl rfl (Sx.x_move hT rfl rfl) ?_
                        clear hT; intro a hT
                        refine Sx.st_take hT rfl rfl rfl rfl (Sx.x_len_slice hT rfl rfl Try.underlying56 rfl) ?_
                        clear hT; intro a hT
                        refine Sx.st_take hT rfl rfl rfl rfl ((fun w => Sx.x_lt w hT rfl rfl rfl)) ?_
                        clear hT; intro a hT
                        replace hT := hT.keep [143, 22, 139, 21, 20, 19, 18, 79, 13, 73, 12, 68, 66, 11, 10, 9, 8, 7, 36, 27, 0, 1, 2] rfl
                        refine Sx.ser_nil ?_
                        refine Sx.then_normal (hK47 _ _ ?_)
                        clear hK47
                        -- cond 8
                        refine Sx.wp_if hT rfl (fun hc48 => ?_) (fun hc48 => ?_)
                        · try simp only [decide_eq_true_eq, decide_eq_false_iff_not, Bool.not_eq_true', Bool.not_eq_false', Bool.not_eq_true, Bool.not_eq_false, Bool.and_eq_true, Bool.or_eq_false_iff, beq_iff_eq, bne_iff_ne, Int.not_lt, Int.not_le, ne_eq] at hc48
                          refine wp_skip ?_
                          refine Sx.then_normal (hK46 _ _ ?_)
                          clear hK46
                          refine wp_seq_k fun K49 hK49 => ?_
                          refine wp_block ?_
                          refine wp_seq_k fun K50 hK50 => ?_
                          -- region 29 (law.go:76)
                          refine Sx.wp_text [(0, .take)] rfl ?_
                          refine Sx.st_take hT rfl rfl rfl rfl (Sx.x_assign hT rfl rfl) ?_
                          clear hT; intro a hT
                          replace hT := hT.keep [23, 143, 22, 139, 21, 20, 19, 18, 79, 13, 73, 12, 68, 66, 11, 10, 9, 8, 7, 36, 27, 0, 1, 2] rfl
                          refine Sx.ser_nil ?_
                          refine Sx.then_normal (hK50 _ _ ?_)
                          clear hK50
                          refine wp_block ?_
                          -- loop 3
                          refine Sx.wp_loopH (G := Nat × List Gr) (fun ⟨j, L3⟩ => [(23, .int .i64 (j : Int))]) (fun ⟨j, L3⟩ => [cR 66 5 ag L.length cg (L3.flatMap Gr.cells), cF 9 1 Gr.rw L3]) (fun ⟨j, L3⟩ => j ≤ ks.length ∧ L3.length = L.length ∧ ∀ g ∈ L3, g.ks.length ≤ ks.length) (fun ⟨j, L3⟩ => ks.length - j) (0, L3) (hT.keep [23, 143, 22, 139, 21, 20, 19, 18, 79, 13, 73, 12, 68, 66, 11, 10, 9, 8, 7, 36, 27, 0, 1, 2] rfl) (H.keep [0, 1, 2, 3, 4, 5, 6, 7, 8, 9] rfl rfl) (⟨Nat.zero_le _, hLl3, hLb3⟩) ?_
                          clear hT H
                          rintro ⟨j, L3⟩ a w25 hJ hT H
                          replace hT := hT.keep [23, 143, 22, 139, 21, 20, 19, 18, 79, 13, 73, 12, 68, 66, 11, 10, 9, 8, 7, 36, 27, 0, 1, 2] rfl
                          replace H := H.keep [0, 1, 2, 3, 4, 5, 6, 7, 8, 9] rfl rfl
                          obtain ⟨hj, hLl3, hLb3⟩ := hJ
                          obtain ⟨g, hg⟩ : ∃ o, L3[q]? = some o := ⟨_, List.getElem?_eq_getElem (by omega)⟩
                          have hgk := hLb3 g (List.mem_of_getElem? hg)
                          refine wp_seq_k fun K51 hK51 => ?_
                          refine wp_seq_k fun K52 hK52 => ?_
                          -- region 30 (law.go:76)
                          refine Sx.wp_text [(0, .take), (1, .take), (2, .take), (3, .take), (4, .take), (5, .run), (6, .take), (7, .take)] rfl ?_
                          refine Sx.st_take hT rfl rfl rfl rfl (Sx.x_move hT rfl rfl) ?_
                          clear hT; intro a hT
                          refine Sx.st_take hT rfl rfl rfl rfl (Sx.x_move hT rfl rfl) ?_
                          clear hT; intro a hT
                          refine Sx.st_take hT rfl rfl rfl rfl (Sx.x_move hT rfl rfl) ?_
                          clear hT; intro a hT
                          refine Sx.st_take hT rfl rfl rfl rfl (Sx.x_index (k := q) hT rfl Try.underlying56 Try.ti66 (H.row 0 rfl).sv rfl rfl (by first | rfl | omega) (by omega)) ?_
                          clear hT; intro a hT
                          refine Sx.st_take hT rfl rfl rfl rfl (Sx.x_fieldAddr hT rfl Try.fa66_1 rfl) ?_
                          clear hT; intro a hT
                          refine Sx.st_run hT rfl rfl rfl rfl (Sx.x_load1 hT rfl Try.fl25 rfl (((H.row 0 rfl).ssn hLl3.symm).cell (j := 4) Gr.len hg rfl)) ?_
                          clear hT; intro a hT
                          refine Sx.st_take hT rfl rfl rfl rfl (Sx.x_len_slice hT rfl rfl Try.underlying25 rfl) ?_
                          clear hT; intro a hT
                          refine Sx.st_take hT rfl rfl rfl rfl ((fun w => Sx.x_lt w hT rfl rfl rfl)) ?_
                          clear hT; intro a hT
                          replace hT := hT.keep [153, 23, 143, 22, 139, 21, 20, 19, 18, 79, 13, 73, 12, 68, 66, 11, 10, 9, 8, 7, 36, 27, 0, 1, 2] rfl
                          refine Sx.ser_nil ?_
                          refine Sx.then_normal (hK52 _ _ ?_)
                          clear hK52
                          -- cond 9
                          refine Sx.wp_if hT rfl (fun hc53 => ?_) (fun hc53 => ?_)
                          · try simp only [decide_eq_true_eq, decide_eq_false_iff_not, Bool.not_eq_true', Bool.not_eq_false', Bool.not_eq_true, Bool.not_eq_false, Bool.and_eq_true, Bool.or_eq_false_iff, beq_iff_eq, bne_iff_ne, Int.not_lt, Int.not_le, ne_eq] at hc53
                            skip
                            refine wp_skip ?_
                            refine Sx.then_normal (hK51 _ _ ?_)
                            clear hK51
                            refine wp_seq_k fun K54 hK54 => ?_
                            refine wp_block ?_
                            -- region 32 (law.go:77)
                            refine Sx.wp_text [(0, .take), (1, .take), (2, .take), (3, .take), (4, .run), (5, .take), (6, .take), (7, .run)] rfl ?_
                            refine Sx.st_take hT rfl rfl rfl rfl (Sx.x_move hT rfl rfl) ?_
                            clear hT; intro a hT
                            refine Sx.st_take hT rfl rfl rfl rfl (Sx.x_move hT rfl rfl) ?_
                            clear hT; intro a hT
                            refine Sx.st_take hT rfl rfl rfl rfl (Sx.x_index (k := q) hT rfl Try.underlying56 Try.ti66 (H.row 0 rfl).sv rfl rfl (by first | rfl | omega) (by omega)) ?_
                            clear hT; intro a hT
                            refine Sx.st_take hT rfl rfl rfl rfl (Sx.x_fieldAddr hT rfl Try.fa66_1 rfl) ?_
                            clear hT; intro a hT
                            refine Sx.st_run hT rfl rfl rfl rfl (Sx.x_load1 hT rfl Try.fl25 rfl (((H.row 0 rfl).ssn hLl3.symm).cell (j := 4) Gr.len hg rfl)) ?_
                            clear hT; intro a hT
                            refine Sx.st_take hT rfl rfl rfl rfl (Sx.x_move hT rfl rfl) ?_
                            clear hT; intro a hT
                            refine Sx.st_take hT rfl rfl rfl rfl (Sx.x_index hT rfl Try.underlying25 Try.ti9 (fam_r (H.at 1 rfl) hg).sv rfl rfl rfl (by omega)) ?_
                            clear hT; intro a hT
                            refine Sx.st_act hT rfl rfl rfl (Sx.x_storeRow (k := j) hT rfl Try.ti9 rfl rfl rfl (Fam.get (H.fam 1 rfl) hg) (by show j < g.ks.length; omega)) ?_
                            rintro w26 ⟨hr, E, _⟩
                            replace H := H.famSet (y := spoilG g j) 1 rfl hg (spoil_row (by omega) hr) E (fun _ hk => .inl hk) rfl
                            clear hr E
                            rw [← spoil_cells (j := j) hg] at H
                            replace hT := hT.keep [153, 23, 143, 22, 139, 21, 20, 19, 18, 79, 13, 73, 12, 68, 66, 11, 10, 9, 8, 7, 36, 27, 0, 1, 2] rfl
                            refine Sx.ser_nil ?_
                            refine Sx.block_normal ?_
                            refine Sx.then_normal (hK54 _ _ ?_)
                            clear hK54
                            -- region 31 (law.go:76)
                            refine Sx.wp_text [(0, .take), (1, .take), (2, .take)] rfl ?_
                            refine Sx.st_take hT rfl rfl rfl rfl (Sx.x_move hT rfl rfl) ?_
                            clear hT; intro a hT
                            refine Sx.st_take hT rfl rfl rfl rfl ((fun w => Sx.x_add w hT rfl rfl rfl (Sx.wrap64 (by omega)))) ?_
                            clear hT; intro a hT
                            refine Sx.st_take hT rfl rfl rfl rfl (Sx.x_assign hT rfl rfl) ?_
                            clear hT; intro a hT
                            replace hT := hT.keep [23, 153, 143, 22, 139, 21, 20, 19, 18, 79, 13, 73, 12, 68, 66, 11, 10, 9, 8, 7, 36, 27, 0, 1, 2] rfl
                            refine Sx.ser_nil ?_
                            refine Sx.then_normal ?_
                            exact ⟨(j + 1, L3.set q (spoilG g j)), ⟨by show j + 1 ≤ _; omega, by show List.length (L3.set _ _) = _; rw [List.length_set, hLl3], spoil_bound hLb3 hg⟩, (hT.keep [23, 143, 22, 139, 21, 20, 19, 18, 79, 13, 73, 12, 68, 66, 11, 10, 9, 8, 7, 36, 27, 0, 1, 2] rfl), (H.keep [0, 1, 2, 3, 4, 5, 6, 7, 8, 9] rfl rfl), by show _ - (j + 1) < _ - j; omega⟩
                          · try simp only [decide_eq_true_eq, decide_eq_false_iff_not, Bool.not_eq_true', Bool.not_eq_false', Bool.not_eq_true, Bool.not_eq_false, Bool.and_eq_true, Bool.or_eq_false_iff, beq_iff_eq, bne_iff_ne, Int.not_lt, Int.not_le, ne_eq] at hc53
                            refine wp_exit ?_
                            refine Sx.then_exit ?_
                            refine Sx.then_exit ?_
                            refine Sx.block_exit ?_
                            refine Sx.block_normal ?_
                            refine Sx.then_normal (hK49 _ _ ?_)
                            clear hK49
                            -- region 28 (law.go:75)
                            refine Sx.wp_text [(0, .take), (1, .take), (2, .take)] rfl ?_
                            refine Sx.st_take hT rfl rfl rfl rfl (Sx.x_move hT rfl rfl) ?_
                            clear hT; intro a hT
                            refine Sx.st_take hT rfl rfl rfl rfl ((fun w => Sx.x_add w hT rfl rfl rfl (Sx.wrap64 (by omega)))) ?_
                            clear hT; intro a hT
                            refine Sx.st_take hT rfl rfl rfl rfl (Sx.x_assign hT rfl rfl) ?_
                            clear hT; intro a hT
                            replace hT := hT.keep [22, 153, 23, 143, 139, 21, 20, 19, 18, 79, 13, 73, 12, 68, 66, 11, 10, 9, 8, 7, 36, 27, 0, 1, 2] rfl
                            refine Sx.ser_nil ?_
                            refine Sx.then_normal ?_
                            exact ⟨(q + 1, L3), ⟨by show q + 1 ≤ _; omega, hLl3, hLb3⟩, (hT.keep [22, 139, 21, 20, 19, 18, 79, 13, 73, 12, 68, 66, 11, 10, 9, 8, 7, 36, 27, 0, 1, 2] rfl), (H.keep [0, 1, 2, 3, 4, 5, 6, 7, 8, 9] rfl rfl), by show _ - (q + 1) < _ - q; omega⟩
                        · try simp only [decide_eq_true_eq, decide_eq_false_iff_not, Bool.not_eq_true', Bool.not_eq_false', Bool.not_eq_true, Bool.not_eq_false, Bool.and_eq_true, Bool.or_eq_false_iff, beq_iff_eq, bne_iff_ne, Int.not_lt, Int.not_le, ne_eq] at hc48
                          refine wp_exit ?_
                          refine Sx.then_exit ?_
                          refine Sx.then_exit ?_
                          refine Sx.block_exit ?_
                          refine Sx.then_normal (hK44 _ _ ?_)
                          clear hK44
                          refine wp_seq_k fun K55 hK55 => ?_
                          -- region 33 (law.go:80)
                          refine Sx.wp_text [(0, .take), (1, .run), (2, .take)] rfl ?_
                          refine Sx.st_take hT rfl rfl rfl rfl (Sx.x_move hT rfl rfl) ?_
                          clear hT; intro a hT
                          refine Sx.st_call hT rfl rfl rfl rfl rfl Try.can17 rfl (List_calls (H.blk 8 rfl) (H.mp 5 rfl) hs9 (by omega) hw9) ?_
                          rintro _ w27 ⟨adx33, cx33, rfl, K⟩
                          refine ⟨_, rfl, ?_⟩
                          clear hT; intro a hT
                          replace H := H.more K rfl; clear K
                          refine Sx.st_take hT rfl rfl rfl rfl (Sx.x_assign hT rfl rfl) ?_
                          clear hT; intro a hT
                          replace hT := hT.keep [24, 143, 22, 139, 21, 20, 19, 18, 79, 13, 73, 12, 68, 66, 11, 10, 9, 8, 7, 36, 27, 0, 1, 2] rfl
                          refine Sx.ser_nil ?_
                          refine Sx.then_normal (hK55 _ _ ?_)
                          clear hK55
                          refine wp_seq_k fun K56 hK56 => ?_
                          refine wp_seq_k fun K57 hK57 => ?_
                          -- region 34 (law.go:81)
                          refine Sx.wp_text [(0, .take)] rfl ?_
                          refine Sx.st_take hT rfl rfl rfl rfl (Sx.x_assign hT rfl rfl) ?_
                          clear hT; intro a hT
                          replace hT := hT.keep [25, 24, 143, 22, 139, 21, 20, 19, 18, 79, 13, 73, 12, 68, 66, 11, 10, 9, 8, 7, 36, 27, 0, 1, 2] rfl
                          refine Sx.ser_nil ?_
                          refine Sx.then_normal (hK57 _ _ ?_)
                          clear hK57
                          refine wp_block ?_
                          -- loop 4
                          refine Sx.wp_loopH (G := Nat × List Rg) (fun ⟨k, T9⟩ => [(25, .int .i64 (k : Int))]) (fun ⟨k, T9⟩ => [cR 37 4 adx33 D.length cx33 (T9.flatMap Rg.cells)]) (fun ⟨k, T9⟩ => k ≤ D.length ∧ T9.length = D.length) (fun ⟨k, T9⟩ => D.length - k) (0, D) (hT.keep [25, 24, 143, 22, 139, 21, 20, 19, 18, 79, 13, 73, 12, 68, 66, 11, 10, 9, 8, 7, 36, 27, 0, 1, 2] rfl) (H.keep [0, 1, 2, 3, 4, 5, 6, 7, 8, 9, 10] rfl rfl) (⟨Nat.zero_le _, rfl⟩) ?_
                          clear hT H
                          rintro ⟨k, T9⟩ a w28 hJ hT H
                          replace hT := hT.keep [25, 24, 143, 22, 139, 21, 20, 19, 18, 79, 13, 73, 12, 68, 66, 11, 10, 9, 8, 7, 36, 27, 0, 1, 2] rfl
                          replace H := H.keep [0, 1, 2, 3, 4, 5, 6, 7, 8, 9, 10] rfl rfl
                          obtain ⟨hk, hTl⟩ := hJ
                          refine wp_seq_k fun K58 hK58 => ?_
                          refine wp_seq_k fun K59 hK59 => ?_
                          -- region 35 (law.go:81)
                          refine Sx.wp_text [(0, .take), (1, .take), (2, .take), (3, .take)] rfl ?_
                          refine Sx.st_take hT rfl rfl rfl rfl (Sx.x_move hT rfl rfl) ?_
                          clear hT; intro a hT
                          refine Sx.st_take hT rfl rfl rfl rfl (Sx.x_move hT rfl rfl) ?_
                          clear hT; intro a hT
                          refine Sx.st_take hT rfl rfl rfl rfl (Sx.x_len_slice hT rfl rfl Try.underlying28 rfl) ?_
                          clear hT; intro a hT
                          refine Sx.st_take hT rfl rfl rfl rfl ((fun w => Sx.x_lt w hT rfl rfl rfl)) ?_
                          clear hT; intro a hT
                          replace hT := hT.keep [168, 25, 24, 143, 22, 139, 21, 20, 19, 18, 79, 13, 73, 12, 68, 66, 11, 10, 9, 8, 7, 36, 27, 0, 1, 2] rfl
                          refine Sx.ser_nil ?_
                          refine Sx.then_normal (hK59 _ _ ?_)
                          clear hK59
                          -- cond 10
                          refine Sx.wp_if hT rfl (fun hc60 => ?_) (fun hc60 => ?_)
                          · try simp only [decide_eq_true_eq, decide_eq_false_iff_not, Bool.not_eq_true', Bool.not_eq_false', Bool.not_eq_true, Bool.not_eq_false, Bool.and_eq_true, Bool.or_eq_false_iff, beq_iff_eq, bne_iff_ne, Int.not_lt, Int.not_le, ne_eq] at hc60
                            refine wp_skip ?_
                            refine Sx.then_normal (hK58 _ _ ?_)
                            clear hK58
                            refine wp_seq_k fun K61 hK61 => ?_
                            refine wp_block ?_
                            -- region 37 (law.go:82)
                            refine Sx.wp_text [(0, .take), (1, .take), (2, .take), (3, .take), (4, .run)] rfl ?_
                            refine Sx.st_take hT rfl rfl rfl rfl (Sx.x_move hT rfl rfl) ?_
                            clear hT; intro a hT
                            refine Sx.st_take hT rfl rfl rfl rfl (Sx.x_move hT rfl rfl) ?_
                            clear hT; intro a hT
                            refine Sx.st_take hT rfl rfl rfl rfl (Sx.x_bld hT rfl Try.bld37 rfl rfl) ?_
                            clear hT; intro a hT
                            refine Sx.st_take hT rfl rfl rfl rfl (Sx.x_index (k := k) hT rfl Try.underlying28 Try.ti37 (H.row 0 rfl).sv rfl rfl (by first | rfl | omega) (by omega)) ?_
                            clear hT; intro a hT
                            refine Sx.st_act hT rfl rfl rfl (Sx.x_storeRowS (k := k) (r := rz) hT rfl Try.ti37 rfl rfl Rg.len Rg.one rfl (H.row 0 rfl) hTl.symm (by omega)) ?_
                            rintro w29 ⟨hr, E, _⟩
                            replace H := H.setR 0 rfl hr E (fun _ hk => .inl hk) rfl; clear hr E
                            replace hT := hT.keep [168, 25, 24, 143, 22, 139, 21, 20, 19, 18, 79, 13, 73, 12, 68, 66, 11, 10, 9, 8, 7, 36, 27, 0, 1, 2] rfl
                            refine Sx.ser_nil ?_
                            refine Sx.block_normal ?_
                            refine Sx.then_normal (hK61 _ _ ?_)
                            clear hK61
                            -- region 36 (law.go:81)
                            refine Sx.wp_text [(0, .take), (1, .take), (2, .take)] rfl ?_
                            refine Sx.st_take hT rfl rfl rfl rfl (Sx.x_move hT rfl rfl) ?_
                            clear hT; intro a hT
                            refine Sx.st_take hT rfl rfl rfl rfl ((fun w => Sx.x_add w hT rfl rfl rfl (Sx.wrap64 (by omega)))) ?_
                            clear hT; intro a hT
                            refine Sx.st_take hT rfl rfl rfl rfl (Sx.x_assign hT rfl rfl) ?_
                            clear hT; intro a hT
                            replace hT := hT.keep [25, 168, 24, 143, 22, 139, 21, 20, 19, 18, 79, 13, 73, 12, 68, 66, 11, 10, 9, 8, 7, 36, 27, 0, 1, 2] rfl
                            refine Sx.ser_nil ?_
                            refine Sx.then_normal ?_
                            exact ⟨(k + 1, T9.set k rz), ⟨by show k + 1 ≤ _; omega, by show List.length (T9.set _ _) = _; rw [List.length_set, hTl]⟩, (hT.keep [25, 24, 143, 22, 139, 21, 20, 19, 18, 79, 13, 73, 12, 68, 66, 11, 10, 9, 8, 7, 36, 27, 0, 1, 2] rfl), (H.keep [0, 1, 2, 3, 4, 5, 6, 7, 8, 9, 10] rfl rfl), by show _ - (k + 1) < _ - k; omega⟩
                          · try simp only [decide_eq_true_eq, decide_eq_false_iff_not, Bool.not_eq_true', Bool.not_eq_false', Bool.not_eq_true, Bool.not_eq_false, Bool.and_eq_true, Bool.or_eq_false_iff, beq_iff_eq, bne_iff_ne, Int.not_lt, Int.not_le, ne_eq] at hc60
                            refine wp_exit ?_
                            refine Sx.then_exit ?_
                            refine Sx.then_exit ?_
                            refine Sx.block_exit ?_
                            refine Sx.then_normal (hK56 _ _ ?_)
                            clear hK56
                            refine wp_seq_k fun K62 hK62 => ?_
                            -- region 38 (law.go:84)
                            refine Sx.wp_draws (fun u => Sx.Ext (fun k => ¬ Sx.Rest w (Sx.No) k) u) [(0, .take), (1, .take), (2, .take), (3, .take), (4, .take), (5, .take), (6, .take), (7, .take), (8, .held), (9, .take), (10, .take), (11, .take), (12, .take), (13, .take), (14, .take), (15, .take), (16, .take), (17, .held), (19, .take), (20, .take), (21, .take), (22, .take), (23, .held), (18, .keep), (24, .run), (25, .take), (26, .take)] (by kernel_rfl) (by kernel_rfl) (fun u E _ => ?_)
                            replace H := H.pure E; clear E
                            have hH : Sx.Ext (fun k => ¬ Sx.Rest w (Sx.No) k) u u := Sx.Ext.refl _ _
                            have Hu := H
                            refine Sx.st_take hT rfl rfl rfl rfl (Sx.x_move hT rfl rfl) ?_
                            clear hT; intro a hT
                            refine Sx.st_take hT rfl rfl rfl rfl (Sx.x_move hT rfl rfl) ?_
                            clear hT; intro a hT
                            refine Sx.st_take hT rfl rfl rfl rfl (Sx.x_len_slice hT rfl rfl Try.underlying52 rfl) ?_
                            clear hT; intro a hT
                            refine Sx.st_take hT rfl rfl rfl rfl ((fun w => Sx.x_lt w hT rfl rfl rfl)) ?_
                            clear hT; intro a hT
                            refine Sx.st_take hT rfl rfl rfl rfl (Sx.x_move hT rfl rfl) ?_
                            clear hT; intro a hT
                            -- guard (38, 4)
                            refine Sx.Sl.two hT 179 rfl (fun hc63 hT => ?_) (fun hc63 hT => ?_)
                            · try simp only [decide_eq_true_eq, decide_eq_false_iff_not, Bool.not_eq_true', Bool.not_eq_false', Bool.not_eq_true, Bool.not_eq_false, Bool.and_eq_true, Bool.or_eq_false_iff, beq_iff_eq, bne_iff_ne, Int.not_lt, Int.not_le, ne_eq] at hc63
                              obtain ⟨x, hx⟩ : ∃ o, ms[i]? = some o := ⟨_, List.getElem?_eq_getElem (by omega)⟩
                              have RMx : Ro w No (fun u => Ss u x.ad Rg.cells 4 x.l) := RM.mono fun u h => h x (List.mem_of_getElem? hx)
                              have hwx := (hmm x (List.mem_of_getElem? hx)).2
                              refine Sx.st_take hT rfl rfl rfl rfl (Sx.x_move hT rfl rfl) ?_
                              clear hT; intro a hT
                              refine Sx.st_take hT rfl rfl rfl rfl (Sx.x_move hT rfl rfl) ?_
                              clear hT; intro a hT
                              refine Sx.st_take hT rfl rfl rfl rfl (Sx.x_index (k := i) hT rfl Try.underlying52 Try.ti28 (by first | exact (R4.at H.ext).sv | exact (RMs.at H.ext).sv) rfl rfl (by first | rfl | omega) (by omega)) ?_
                              clear hT; intro a hT
                              refine Sx.st_held hT rfl rfl rfl rfl hH (fun w' h' => Sx.x_load1 hT rfl Try.fl28 rfl (by first | exact ((R4.at (Hu.extR h')).cell (j := 0) kc_len hkey rfl) | exact ((RMs.at (Hu.extR h')).cell (j := 0) Ml.len hx rfl))) ?_
                              clear hT; intro a hT
                              refine Sx.st_take hT rfl rfl rfl rfl (Sx.x_len_slice hT rfl rfl Try.underlying28 rfl) ?_
                              clear hT; intro a hT
                              refine Sx.st_take hT rfl rfl rfl rfl ((fun w => Sx.x_le w hT rfl rfl rfl)) ?_
                              clear hT; intro a hT
                              refine Sx.st_take hT rfl rfl rfl rfl (Sx.x_pick_t hT rfl rfl rfl) ?_
                              clear hT; intro a hT
                              refine Sx.st_take hT rfl rfl rfl rfl (Sx.x_move hT rfl rfl) ?_
                              clear hT; intro a hT
                              -- guard (38, 12)
                              refine Sx.Sl.two hT 187 rfl (fun hc64 hT => ?_) (fun hc64 hT => ?_)
                              · try simp only [decide_eq_true_eq, decide_eq_false_iff_not, Bool.not_eq_true', Bool.not_eq_false', Bool.not_eq_true, Bool.not_eq_false, Bool.and_eq_true, Bool.or_eq_false_iff, beq_iff_eq, bne_iff_ne, Int.not_lt, Int.not_le, ne_eq] at hc64
                                refine Sx.st_take hT rfl rfl rfl rfl (Sx.x_move hT rfl rfl) ?_
                                clear hT; intro a hT
                                refine Sx.st_take hT rfl rfl rfl rfl (Sx.x_move hT rfl rfl) ?_
                                clear hT; intro a hT
                                refine Sx.st_take hT rfl rfl rfl rfl (Sx.x_move hT rfl rfl) ?_
                                clear hT; intro a hT
                                refine Sx.st_take hT rfl rfl rfl rfl (Sx.x_index (k := i) hT rfl Try.underlying52 Try.ti28 (by first | exact (R4.at H.ext).sv | exact (RMs.at H.ext).sv) rfl rfl (by first | rfl | omega) (by omega)) ?_
                                clear hT; intro a hT
                                refine Sx.st_held hT rfl rfl rfl rfl hH (fun w' h' => Sx.x_load1 hT rfl Try.fl28 rfl (by first | exact ((R4.at (Hu.extR h')).cell (j := 0) kc_len hkey rfl) | exact ((RMs.at (Hu.extR h')).cell (j := 0) Ml.len hx rfl))) ?_
                                clear hT; intro a hT
                                refine Sx.st_take hT rfl rfl rfl rfl (Sx.x_move hT rfl rfl) ?_
                                clear hT; intro a hT
                                refine Sx.st_take hT rfl rfl rfl rfl (Sx.x_move hT rfl rfl) ?_
                                clear hT; intro a hT
                                refine Sx.st_take hT rfl rfl rfl rfl (Sx.x_move hT rfl rfl) ?_
                                clear hT; intro a hT
                                refine Sx.st_take hT rfl rfl rfl rfl (Sx.x_index (k := i) hT rfl Try.underlying52 Try.ti28 (by first | exact (R4.at H.ext).sv | exact (RMs.at H.ext).sv) rfl rfl (by first | rfl | omega) (by omega)) ?_
                                clear hT; intro a hT
                                refine Sx.st_held hT rfl rfl rfl rfl hH (fun w' h' => Sx.x_load1 hT rfl Try.fl28 rfl (by first | exact ((R4.at (Hu.extR h')).cell (j := 0) kc_len hkey rfl) | exact ((RMs.at (Hu.extR h')).cell (j := 0) Ml.len hx rfl))) ?_
                                clear hT; intro a hT
                                refine Sx.st_callkeep hT rfl rfl rfl rfl rfl Try.can12 rfl (Learn_calls x.l (H.pre [9, 6] rfl rfl) (H.ro RMx [9, 6] rfl) (by omega) (by omega) hwx) ?_
                                rintro _ w30 ⟨rfl, K⟩
                                refine ⟨_, rfl, hH.same (H.toRest [9, 6] rfl K.ext), ?_⟩
                                replace hH := hH.same (H.toRest [9, 6] rfl K.ext)
                                clear hT; intro a hT
                                replace H := H.back [9, 6] [0, 1, 2, 3, 4, 5, 7, 8, 10] rfl rfl rfl K rfl; clear K
                                refine Sx.st_call hT rfl rfl rfl rfl rfl Try.can26 rfl (Learn14_calls D x.l (H.pre [8, 9] rfl rfl) (H.ro RMx [8, 9] rfl) hs9 (by omega) (by omega) hwx) ?_
                                rintro _ w31 ⟨ad8, c8, rfl, K⟩
                                refine ⟨_, rfl, ?_⟩
                                clear hT; intro a hT
                                replace H := H.back [8, 9] [0, 1, 2, 3, 4, 5, 6, 7, 10] rfl rfl rfl K rfl; clear K
                                refine Sx.st_take hT rfl rfl rfl rfl ((fun w => Sx.x_ne w hT rfl rfl rfl)) ?_
                                clear hT; intro a hT
                                refine Sx.st_take hT rfl rfl rfl rfl (Sx.x_pick_t hT rfl rfl rfl) ?_
                                clear hT; intro a hT
                                replace hT := hT.keep [201, 168, 25, 24, 143, 22, 139, 21, 20, 19, 18, 79, 13, 73, 12, 68, 66, 11, 10, 9, 8, 7, 36, 27, 0, 1, 2] rfl
                                clear Hu hH
                                refine Sx.ser_calm ?_
                                refine Sx.then_normal (hK62 _ _ ?_)
                                clear hK62
                                -- cond 11
                                refine Sx.wp_if hT rfl (fun hc65 => ?_) (fun hc65 => ?_)
                                · exfalso
                                  try simp only [decide_eq_true_eq, decide_eq_false_iff_not, Bool.not_eq_true', Bool.not_eq_false', Bool.not_eq_true, Bool.not_eq_false, Bool.and_eq_true, Bool.or_eq_false_iff, beq_iff_eq, bne_iff_ne, Int.not_lt, Int.not_le, ne_eq] at hc65
                                  simp at hc65
                                · try simp only [decide_eq_true_eq, decide_eq_false_iff_not, Bool.not_eq_true', Bool.not_eq_false', Bool.not_eq_true, Bool.not_eq_false, Bool.and_eq_true, Bool.or_eq_false_iff, beq_iff_eq, bne_iff_ne, Int.not_lt, Int.not_le, ne_eq] at hc65
                                  refine wp_skip ?_
                                  refine Sx.block_normal ?_
                                  refine Sx.then_normal (hK25 _ _ ?_)
                                  clear hK25
                                  -- region 14 (law.go:62)
                                  refine Sx.wp_text [(0, .take), (1, .take), (2, .take)] rfl ?_
                                  refine Sx.st_take hT rfl rfl rfl rfl (Sx.x_move hT rfl rfl) ?_
                                  clear hT; intro a hT
                                  refine Sx.st_take hT rfl rfl rfl rfl ((fun w => Sx.x_add w hT rfl rfl rfl (Sx.wrap64 (by omega)))) ?_
                                  clear hT; intro a hT
                                  refine Sx.st_take hT rfl rfl rfl rfl (Sx.x_assign hT rfl rfl) ?_
                                  clear hT; intro a hT
                                  replace hT := hT.keep [12, 201, 168, 25, 24, 143, 22, 139, 21, 20, 19, 18, 79, 13, 73, 68, 66, 11, 10, 9, 8, 7, 36, 27, 0, 1, 2] rfl
                                  refine Sx.ser_nil ?_
                                  refine Sx.then_normal ?_
                                  exact ⟨(i + 1, (learnR D x.l).1, ad8, c8), ⟨by show i + 1 ≤ _; omega, learn_srt x.l hs9, learn_bd x.l hb9, learn_wf hw9 hwx⟩, (hT.keep [12, 68, 66, 11, 10, 9, 8, 7, 36, 27, 0, 1, 2] rfl), (H.keep [3, 0, 1, 2, 10] rfl rfl), by show _ - (i + 1) < _ - i; omega⟩
                              · try simp only [decide_eq_true_eq, decide_eq_false_iff_not, Bool.not_eq_true', Bool.not_eq_false', Bool.not_eq_true, Bool.not_eq_false, Bool.and_eq_true, Bool.or_eq_false_iff, beq_iff_eq, bne_iff_ne, Int.not_lt, Int.not_le, ne_eq] at hc64
                                refine Sx.st_skip hT rfl rfl rfl rfl ?_
                                clear hT; intro a hT
                                refine Sx.st_skip hT rfl rfl rfl rfl ?_
                                clear hT; intro a hT
                                refine Sx.st_skip hT rfl rfl rfl rfl ?_
                                clear hT; intro a hT
                                refine Sx.st_skip hT rfl rfl rfl rfl ?_
                                clear hT; intro a hT
                                refine Sx.st_heldskip hT rfl rfl rfl rfl hH ?_
                                clear hT; intro a hT
                                refine Sx.st_skip hT rfl rfl rfl rfl ?_
                                clear hT; intro a hT
                                refine Sx.st_skip hT rfl rfl rfl rfl ?_
                                clear hT; intro a hT
                                refine Sx.st_skip hT rfl rfl rfl rfl ?_
                                clear hT; intro a hT
                                refine Sx.st_skip hT rfl rfl rfl rfl ?_
                                clear hT; intro a hT
                                refine Sx.st_heldskip hT rfl rfl rfl rfl hH ?_
                                clear hT; intro a hT
                                refine Sx.st_keepskip hT rfl rfl rfl rfl hH ?_
                                clear hT; intro a hT
                                refine Sx.st_runskip hT rfl rfl rfl rfl ?_
                                clear hT; intro a hT
                                refine Sx.st_skip hT rfl rfl rfl rfl ?_
                                clear hT; intro a hT
                                refine Sx.st_take hT rfl rfl rfl rfl (Sx.x_pick_f hT rfl rfl rfl) ?_
                                clear hT; intro a hT
                                replace hT := hT.keep [201, 168, 25, 24, 143, 22, 139, 21, 20, 19, 18, 79, 13, 73, 12, 68, 66, 11, 10, 9, 8, 7, 36, 27, 0, 1, 2] rfl
                                clear Hu hH
                                refine Sx.ser_calm ?_
                                refine Sx.then_normal (hK62 _ _ ?_)
                                clear hK62
                                refine Sx.wp_if hT rfl (fun h => by cases h) (fun _ => ?_)
                                refine wp_skip ?_
                                refine Sx.block_normal ?_
                                refine Sx.then_normal (hK25 _ _ ?_)
                                clear hK25
                                -- region 14 (law.go:62)
                                refine Sx.wp_text [(0, .take), (1, .take), (2, .take)] rfl ?_
                                refine Sx.st_take hT rfl rfl rfl rfl (Sx.x_move hT rfl rfl) ?_
                                clear hT; intro a hT
                                refine Sx.st_take hT rfl rfl rfl rfl ((fun w => Sx.x_add w hT rfl rfl rfl (Sx.wrap64 (by omega)))) ?_
                                clear hT; intro a hT
                                refine Sx.st_take hT rfl rfl rfl rfl (Sx.x_assign hT rfl rfl) ?_
                                clear hT; intro a hT
                                replace hT := hT.keep [12, 201, 168, 25, 24, 143, 22, 139, 21, 20, 19, 18, 79, 13, 73, 68, 66, 11, 10, 9, 8, 7, 36, 27, 0, 1, 2] rfl
                                refine Sx.ser_nil ?_
                                refine Sx.then_normal ?_
                                exact ⟨(i + 1, D, ad9, c9), ⟨by show i + 1 ≤ _; omega, hs9, hb9, hw9⟩, (hT.keep [12, 68, 66, 11, 10, 9, 8, 7, 36, 27, 0, 1, 2] rfl), (H.keep [6, 7, 8, 9, 10] rfl rfl), by show _ - (i + 1) < _ - i; omega⟩
                            · try simp only [decide_eq_true_eq, decide_eq_false_iff_not, Bool.not_eq_true', Bool.not_eq_false', Bool.not_eq_true, Bool.not_eq_false, Bool.and_eq_true, Bool.or_eq_false_iff, beq_iff_eq, bne_iff_ne, Int.not_lt, Int.not_le, ne_eq] at hc63
                              refine Sx.st_skip hT rfl rfl rfl rfl ?_
                              clear hT; intro a hT
                              refine Sx.st_skip hT rfl rfl rfl rfl ?_
                              clear hT; intro a hT
                              refine Sx.st_skip hT rfl rfl rfl rfl ?_
                              clear hT; intro a hT
                              refine Sx.st_heldskip hT rfl rfl rfl rfl hH ?_
                              clear hT; intro a hT
                              refine Sx.st_skip hT rfl rfl rfl rfl ?_
                              clear hT; intro a hT
                              refine Sx.st_skip hT rfl rfl rfl rfl ?_
                              clear hT; intro a hT
                              refine Sx.st_take hT rfl rfl rfl rfl (Sx.x_pick_f hT rfl rfl rfl) ?_
                              clear hT; intro a hT
                              refine Sx.st_take hT rfl rfl rfl rfl (Sx.x_move hT rfl rfl) ?_
                              clear hT; intro a hT
                              refine Sx.st_skip hT rfl rfl rfl rfl ?_
                              clear hT; intro a hT
                              refine Sx.st_skip hT rfl rfl rfl rfl ?_
                              clear hT; intro a hT
                              refine Sx.st_skip hT rfl rfl rfl rfl ?_
                              clear hT; intro a hT
                              refine Sx.st_skip hT rfl rfl rfl rfl ?_
                              clear hT; intro a hT
                              refine Sx.st_heldskip hT rfl rfl rfl rfl hH ?_
                              clear hT; intro a hT
                              refine Sx.st_skip hT rfl rfl rfl rfl ?_
                              clear hT; intro a hT
                              refine Sx.st_skip hT rfl rfl rfl rfl ?_
                              clear hT; intro a hT
                              refine Sx.st_skip hT rfl rfl rfl rfl ?_
                              clear hT; intro a hT
                              refine Sx.st_skip hT rfl rfl rfl rfl ?_
                              clear hT; intro a hT
                              refine Sx.st_heldskip hT rfl rfl rfl rfl hH ?_
                              clear hT; intro a hT
                              refine Sx.st_keepskip hT rfl rfl rfl rfl hH ?_
                              clear hT; intro a hT
                              refine Sx.st_runskip hT rfl rfl rfl rfl ?_
                              clear hT; intro a hT
                              refine Sx.st_skip hT rfl rfl rfl rfl ?_
                              clear hT; intro a hT
                              refine Sx.st_take hT rfl rfl rfl rfl (Sx.x_pick_f hT rfl rfl rfl) ?_
                              clear hT; intro a hT
                              replace hT := hT.keep [201, 168, 25, 24, 143, 22, 139, 21, 20, 19, 18, 79, 13, 73, 12, 68, 66, 11, 10, 9, 8, 7, 36, 27, 0, 1, 2] rfl
                              clear Hu hH
                              refine Sx.ser_calm ?_
                              refine Sx.then_normal (hK62 _ _ ?_)
                              clear hK62
                              refine Sx.wp_if hT rfl (fun h => by cases h) (fun _ => ?_)
                              refine wp_skip ?_
                              refine Sx.block_normal ?_
                              refine Sx.then_normal (hK25 _ _ ?_)
                              clear hK25
                              -- region 14 (law.go:62)
                              refine Sx.wp_text [(0, .take), (1, .take), (2, .take)] rfl ?_
                              refine Sx.st_take hT rfl rfl rfl rfl (Sx.x_move hT rfl rfl) ?_
                              clear hT; intro a hT
                              refine Sx.st_take hT rfl rfl rfl rfl ((fun w => Sx.x_add w hT rfl rfl rfl (Sx.wrap64 (by omega)))) ?_
                              clear hT; intro a hT
                              refine Sx.st_take hT rfl rfl rfl rfl (Sx.x_assign hT rfl rfl) ?_
                              clear hT; intro a hT
                              replace hT := hT.keep [12, 201, 168, 25, 24, 143, 22, 139, 21, 20, 19, 18, 79, 13, 73, 68, 66, 11, 10, 9, 8, 7, 36, 27, 0, 1, 2] rfl
                              refine Sx.ser_nil ?_
                              refine Sx.then_normal ?_
                              exact ⟨(i + 1, D, ad9, c9), ⟨by show i + 1 ≤ _; omega, hs9, hb9, hw9⟩, (hT.keep [12, 68, 66, 11, 10, 9, 8, 7, 36, 27, 0, 1, 2] rfl), (H.keep [6, 7, 8, 9, 10] rfl rfl), by show _ - (i + 1) < _ - i; omega⟩
              · try simp only [decide_eq_true_eq, decide_eq_false_iff_not, Bool.not_eq_true', Bool.not_eq_false', Bool.not_eq_true, Bool.not_eq_false, Bool.and_eq_true, Bool.or_eq_false_iff, beq_iff_eq, bne_iff_ne, Int.not_lt, Int.not_le, ne_eq] at hc24
                refine wp_exit ?_
                refine Sx.then_exit ?_
                refine Sx.then_exit ?_
                refine Sx.block_exit ?_
                refine Sx.then_normal (hK20 _ _ ?_)
                clear hK20
                refine wp_seq_k fun K66 hK66 => ?_
                -- region 40 (law.go:88)
                refine Sx.wp_draws (fun u => Sx.Ext (Sx.No) u) [(0, .keep), (1, .take), (2, .take), (4, .take), (5, .take), (6, .take), (7, .held), (3, .keep), (8, .run), (9, .take), (10, .take)] (by kernel_rfl) (by kernel_rfl) (fun u E _ => ?_)
                replace H := H.pure E; clear E
                have hH : Sx.Ext (Sx.No) u u := Sx.Ext.refl _ _
                have Hu := H
                refine Sx.st_callkeep hT rfl rfl rfl rfl rfl Try.can7 rfl (first_calls _) ?_
                rintro _ w32 ⟨rfl, E⟩
                refine ⟨_, rfl, hH.step E, ?_⟩
                replace hH := hH.step E
                clear hT; intro a hT
                replace H := H.pure E; clear E
                refine Sx.st_take hT rfl rfl rfl rfl (Sx.x_move hT rfl rfl) ?_
                clear hT; intro a hT
                refine Sx.st_take hT rfl rfl rfl rfl (Sx.x_move hT rfl rfl) ?_
                clear hT; intro a hT
                refine Sx.st_take hT rfl rfl rfl rfl (Sx.x_move hT rfl rfl) ?_
                clear hT; intro a hT
                refine Sx.st_take hT rfl rfl rfl rfl (Sx.x_nilCheck hT rfl rfl) ?_
                clear hT; intro a hT
                refine Sx.st_take hT rfl rfl rfl rfl (Sx.x_fieldAddr hT rfl Try.fa64_0 rfl) ?_
                clear hT; intro a hT
                refine Sx.st_held hT rfl rfl rfl rfl hH (fun w' h' => Sx.x_load1 hT rfl Try.fl28 rfl ((Hu.heldB 1 rfl h' Sx.off_No).nth rfl)) ?_
                clear hT; intro a hT
                refine Sx.st_callkeep hT rfl rfl rfl rfl rfl Try.can17 rfl (List_calls (H.blk 3 rfl) (H.mp 0 rfl) hs9 (by omega) hw9) ?_
                rintro _ w33 ⟨adx40, cx40, rfl, K⟩
                refine ⟨_, rfl, hH.step K.ext, ?_⟩
                replace hH := hH.step K.ext
                clear hT; intro a hT
                replace H := H.more K rfl; clear K
                refine Sx.st_call hT rfl rfl rfl rfl rfl Try.can20 rfl (Ranges_calls D D ((H.row 0 rfl).ssn rfl) ((H.row 3 rfl).ssn rfl) (by omega)) ?_
                rintro _ w34 ⟨rfl, E⟩
                refine ⟨_, rfl, ?_⟩
                clear hT; intro a hT
                replace H := H.pure E; clear E
                refine Sx.st_take hT rfl rfl rfl rfl (Sx.x_pick_t hT rfl rfl rfl) ?_
                clear hT; intro a hT
                refine Sx.st_take hT rfl rfl rfl rfl (Sx.x_assign hT rfl rfl) ?_
                clear hT; intro a hT
                replace hT := hT.keep [6, 73, 12, 68, 66, 11, 10, 9, 8, 7, 36, 27, 0, 1, 2] rfl
                clear Hu hH
                refine Sx.ser_calm ?_
                refine Sx.then_normal (hK66 _ _ ?_)
                clear hK66
                refine wp_ret ?_
                refine Sx.done1 (fn := Try.f5) hT rfl (.tmp (hT.get 6 _ rfl)) ?_
                exact ⟨ret_b (by simp), H.ext⟩
      · skip
        -- region 6 (law.go:54)
        refine Sx.wp_text [(0, .take), (1, .run), (2, .take), (3, .take), (4, .take), (5, .take), (6, .take)] rfl ?_
        refine Sx.st_take hT rfl rfl rfl rfl (Sx.x_move hT rfl rfl) ?_
        clear hT; intro a hT
        refine Sx.st_call hT rfl rfl rfl rfl rfl Try.can10 rfl (New_no l ((H.row 0 rfl).ssn rfl) (by omega) ((H.row 0 rfl).le.1) hw hck) ?_
        rintro _ w35 ⟨rfl, E⟩
        refine ⟨_, rfl, ?_⟩
        clear hT; intro a hT
        replace H := H.pure E; clear E
        refine Sx.st_take hT rfl rfl rfl rfl (Sx.x_move hT rfl rfl) ?_
        clear hT; intro a hT
        refine Sx.st_take hT rfl rfl rfl rfl (Sx.x_extractL hT rfl rfl rfl) ?_
        clear hT; intro a hT
        refine Sx.st_take hT rfl rfl rfl rfl (Sx.x_extractL hT rfl rfl rfl) ?_
        clear hT; intro a hT
        refine Sx.st_take hT rfl rfl rfl rfl (Sx.x_assign hT rfl rfl) ?_
        clear hT; intro a hT
        refine Sx.st_take hT rfl rfl rfl rfl (Sx.x_assign hT rfl rfl) ?_
        clear hT; intro a hT
        replace hT := hT.keep [9, 8, 7, 36, 27, 6, 0, 1, 2] rfl
        refine Sx.ser_nil ?_
        refine Sx.then_normal (hK11 _ _ ?_)
        clear hK11
        refine wp_seq_k fun K67 hK67 => ?_
        -- region 7 (law.go:55)
        refine Sx.wp_text [(0, .take), (1, .run), (2, .take), (3, .take), (4, .take), (5, .take), (6, .take)] rfl ?_
        refine Sx.st_take hT rfl rfl rfl rfl (Sx.x_move hT rfl rfl) ?_
        clear hT; intro a hT
        refine Sx.st_call hT rfl rfl rfl rfl rfl Try.can21 rfl (New14_no l (R.at H.ext) (by omega) hlc hw hck) ?_
        rintro _ w36 ⟨rfl, E⟩
        refine ⟨_, rfl, ?_⟩
        clear hT; intro a hT
        replace H := H.pure E; clear E
        refine Sx.st_take hT rfl rfl rfl rfl (Sx.x_move hT rfl rfl) ?_
        clear hT; intro a hT
        refine Sx.st_take hT rfl rfl rfl rfl (Sx.x_extractL hT rfl rfl rfl) ?_
        clear hT; intro a hT
        refine Sx.st_take hT rfl rfl rfl rfl (Sx.x_extractL hT rfl rfl rfl) ?_
        clear hT; intro a hT
        refine Sx.st_take hT rfl rfl rfl rfl (Sx.x_assign hT rfl rfl) ?_
        clear hT; intro a hT
        refine Sx.st_take hT rfl rfl rfl rfl (Sx.x_assign hT rfl rfl) ?_
        clear hT; intro a hT
        replace hT := hT.keep [11, 10, 9, 8, 7, 36, 27, 6, 0, 1, 2] rfl
        refine Sx.ser_nil ?_
        refine Sx.then_normal (hK67 _ _ ?_)
        clear hK67
        refine wp_seq_k fun K68 hK68 => ?_
        refine wp_seq_k fun K69 hK69 => ?_
        -- region 8 (law.go:56)
        refine Sx.wp_text [(0, .take), (1, .take), (2, .take), (3, .take), (4, .take), (5, .take), (6, .take), (7, .take), (8, .take), (9, .take), (10, .take), (11, .take), (12, .take), (13, .run), (14, .take), (15, .take)] rfl ?_
        refine Sx.st_take hT rfl rfl rfl rfl (Sx.x_move hT rfl rfl) ?_
        clear hT; intro a hT
        refine Sx.st_take hT rfl rfl rfl rfl (Sx.x_move hT rfl rfl) ?_
        clear hT; intro a hT
        refine Sx.st_take hT rfl rfl rfl rfl ((fun w => Sx.x_ne w hT rfl rfl rfl)) ?_
        clear hT; intro a hT
        refine Sx.st_take hT rfl rfl rfl rfl (Sx.x_move hT rfl rfl) ?_
        clear hT; intro a hT
        -- guard (8, 3)
        refine Sx.Sl.two hT 54 rfl (fun hc70 hT => ?_) (fun hc70 hT => ?_)
        · exfalso
          try simp only [decide_eq_true_eq, decide_eq_false_iff_not, Bool.not_eq_true', Bool.not_eq_false', Bool.not_eq_true, Bool.not_eq_false, Bool.and_eq_true, Bool.or_eq_false_iff, beq_iff_eq, bne_iff_ne, Int.not_lt, Int.not_le, ne_eq] at hc70
          simp at hc70
        · try simp only [decide_eq_true_eq, decide_eq_false_iff_not, Bool.not_eq_true', Bool.not_eq_false', Bool.not_eq_true, Bool.not_eq_false, Bool.and_eq_true, Bool.or_eq_false_iff, beq_iff_eq, bne_iff_ne, Int.not_lt, Int.not_le, ne_eq] at hc70
          refine Sx.st_take hT rfl rfl rfl rfl (Sx.x_move hT rfl rfl) ?_
          clear hT; intro a hT
          refine Sx.st_take hT rfl rfl rfl rfl (Sx.x_eqnil_none hT rfl Try.underlying32 rfl rfl) ?_
          clear hT; intro a hT
          refine Sx.st_take hT rfl rfl rfl rfl (Sx.x_move hT rfl rfl) ?_
          clear hT; intro a hT
          refine Sx.st_take hT rfl rfl rfl rfl (Sx.x_eqnil_none hT rfl Try.underlying53 rfl rfl) ?_
          clear hT; intro a hT
          refine Sx.st_take hT rfl rfl rfl rfl (Sx.x_neb hT rfl Try.underlying4 rfl rfl) ?_
          clear hT; intro a hT
          refine Sx.st_take hT rfl rfl rfl rfl (Sx.x_pick_f hT rfl rfl rfl) ?_
          clear hT; intro a hT
          refine Sx.st_take hT rfl rfl rfl rfl (Sx.x_move hT rfl rfl) ?_
          clear hT; intro a hT
          -- guard (8, 10)
          refine Sx.Sl.two hT 61 rfl (fun hc71 hT => ?_) (fun hc71 hT => ?_)
          · exfalso
            try simp only [decide_eq_true_eq, decide_eq_false_iff_not, Bool.not_eq_true', Bool.not_eq_false', Bool.not_eq_true, Bool.not_eq_false, Bool.and_eq_true, Bool.or_eq_false_iff, beq_iff_eq, bne_iff_ne, Int.not_lt, Int.not_le, ne_eq] at hc71
            simp at hc71
          · try simp only [decide_eq_true_eq, decide_eq_false_iff_not, Bool.not_eq_true', Bool.not_eq_false', Bool.not_eq_true, Bool.not_eq_false, Bool.and_eq_true, Bool.or_eq_false_iff, beq_iff_eq, bne_iff_ne, Int.not_lt, Int.not_le, ne_eq] at hc71
            refine Sx.st_take hT rfl rfl rfl rfl (Sx.x_move hT rfl rfl) ?_
            clear hT; intro a hT
            refine Sx.st_take hT rfl rfl rfl rfl (Sx.x_move hT rfl rfl) ?_
            clear hT; intro a hT
            refine Sx.st_call hT rfl rfl rfl rfl rfl Try.can20 rfl (Ranges_calls l l ((H.row 0 rfl).ssn rfl) (R.at H.ext) (by omega)) ?_
            rintro _ w37 ⟨rfl, E⟩
            refine ⟨_, rfl, ?_⟩
            clear hT; intro a hT
            replace H := H.pure E; clear E
            refine Sx.st_take hT rfl rfl rfl rfl (Sx.x_not hT rfl rfl) ?_
            clear hT; intro a hT
            refine Sx.st_take hT rfl rfl rfl rfl (Sx.x_pick_f hT rfl rfl rfl) ?_
            clear hT; intro a hT
            replace hT := hT.keep [66, 11, 10, 9, 8, 7, 36, 27, 6, 0, 1, 2] rfl
            refine Sx.ser_nil ?_
            refine Sx.then_normal (hK69 _ _ ?_)
            clear hK69
            -- cond 2
            refine Sx.wp_if hT rfl (fun hc72 => ?_) (fun hc72 => ?_)
            · exfalso
              try simp only [decide_eq_true_eq, decide_eq_false_iff_not, Bool.not_eq_true', Bool.not_eq_false', Bool.not_eq_true, Bool.not_eq_false, Bool.and_eq_true, Bool.or_eq_false_iff, beq_iff_eq, bne_iff_ne, Int.not_lt, Int.not_le, ne_eq] at hc72
              simp at hc72
            · try simp only [decide_eq_true_eq, decide_eq_false_iff_not, Bool.not_eq_true', Bool.not_eq_false', Bool.not_eq_true, Bool.not_eq_false, Bool.and_eq_true, Bool.or_eq_false_iff, beq_iff_eq, bne_iff_ne, Int.not_lt, Int.not_le, ne_eq] at hc72
              refine wp_skip ?_
              refine Sx.then_normal (hK68 _ _ ?_)
              clear hK68
              refine wp_seq_k fun K73 hK73 => ?_
              refine wp_seq_k fun K74 hK74 => ?_
              -- region 10 (law.go:59)
              refine Sx.wp_text [(0, .take), (1, .take)] rfl ?_
              refine Sx.st_take hT rfl rfl rfl rfl (Sx.x_move hT rfl rfl) ?_
              clear hT; intro a hT
              refine Sx.st_take hT rfl rfl rfl rfl (Sx.x_eqnil_none hT rfl Try.underlying53 rfl rfl) ?_
              clear hT; intro a hT
              replace hT := hT.keep [68, 66, 11, 10, 9, 8, 7, 36, 27, 6, 0, 1, 2] rfl
              refine Sx.ser_nil ?_
              refine Sx.then_normal (hK74 _ _ ?_)
              clear hK74
              refine Sx.wp_if hT rfl (fun _ => ?_) (fun h => by cases h)
              refine wp_seq_k fun K75 hK75 => ?_
              -- region 11 (law.go:60)
              refine Sx.wp_text [(0, .run), (1, .take)] rfl ?_
              refine Sx.st_call hT rfl rfl rfl rfl rfl Try.can7 rfl (first_calls _) ?_
              rintro _ w38 ⟨rfl, E⟩
              refine ⟨_, rfl, ?_⟩
              clear hT; intro a hT
              replace H := H.pure E; clear E
              refine Sx.st_take hT rfl rfl rfl rfl (Sx.x_assign hT rfl rfl) ?_
              clear hT; intro a hT
              replace hT := hT.keep [6, 68, 66, 11, 10, 9, 8, 7, 36, 27, 0, 1, 2] rfl
              refine Sx.ser_nil ?_
              refine Sx.then_normal (hK75 _ _ ?_)
              clear hK75
              refine wp_ret ?_
              refine Sx.then_ret ?_
              refine Sx.done1 (fn := Try.f5) hT rfl (.tmp (hT.get 6 _ rfl)) ?_
              exact ⟨ret_b (by simp), H.ext⟩

end Go.Proofs.Ytakohabmcgponaa
