/- Walks: maps. -/
import Derived.Test.YtakohabmcgponaaW1
set_option linter.unusedSimpArgs false
set_option linter.unusedVariables false
namespace Go.Proofs.Ytakohabmcgponaa
open Sx
theorem Try.ti70 : Sx.TI Try.prog 70 (.map none) 1 8 := .mk' (by kernel_rfl)
theorem Try.fl70 : Sx.Flat Try.prog 70 := ⟨_, Try.underlying70, trivial⟩
theorem Try.fa72_0 : Sx.FA Try.prog 72 0 0 := ⟨_, _, _, _, _, Try.underlying72, rfl, rfl, Try.ti70, by decide⟩
theorem Try.can12 : Sx.Can Try.prog 12 := ⟨_, Try.func12, by kernel_rfl, rfl⟩
theorem Learn_calls {S : Nat → Prop} {p b : Nat} {L0 : List Rg} {ad : Option Addr} {c : Nat} (l : List Rg) {w : World} (H : Hp w S w [cB p [.map (some b)] 72, cM Try.prog 3 b (tb L0)]) (R : Ro w S fun u => Ss u ad Rg.cells 4 l) (hl : l.length ≤ 1000000) (hL : L0.length ≤ 1000000) (hw : ∀ r ∈ l, r.wf) : Calls Try.prog 12 #[.pointer (some ⟨p, 0, none⟩), .slice ad l.length c] w fun e w' => e = .returned (.int .i64 (learnR L0 l).2) ∧ Hp w S w' [cB p [.map (some b)] 72, cM Try.prog 3 b (tb (learnR L0 l).1)] := by
  refine Sx.calls_into Try.func12 rfl Try.ntmps12 rfl fun a hT => ?_
  replace hT := hT.keep [0, 1] rfl
  refine wp_seq_k fun K1 hK1 => ?_
  -- region 0 (dir.go:33)
  refine Sx.wp_text [(0, .take)] rfl ?_
  refine Sx.st_take hT rfl rfl rfl rfl (Sx.x_assign hT rfl rfl) ?_
  clear hT; intro a hT
  replace hT := hT.keep [4, 0, 1] rfl
  refine Sx.ser_nil ?_
  refine Sx.then_normal (hK1 _ _ ?_)
  clear hK1
  refine wp_seq_k fun K2 hK2 => ?_
  -- region 1 (dir.go:34)
  refine Sx.wp_text [(0, .take)] rfl ?_
  refine Sx.st_take hT rfl rfl rfl rfl (Sx.x_assign hT rfl rfl) ?_
  clear hT; intro a hT
  replace hT := hT.keep [5, 4, 0, 1] rfl
  refine Sx.ser_nil ?_
  refine Sx.then_normal (hK2 _ _ ?_)
  clear hK2
  refine wp_seq_k fun K3 hK3 => ?_
  refine wp_seq_k fun K4 hK4 => ?_
  -- region 2 (dir.go:35)
  refine Sx.wp_text [(0, .take), (1, .take), (2, .take)] rfl ?_
  refine Sx.st_take hT rfl rfl rfl rfl (Sx.x_move hT rfl rfl) ?_
  clear hT; intro a hT
  refine Sx.st_take hT rfl rfl rfl rfl (Sx.x_len_slice hT rfl rfl Try.underlying28 rfl) ?_
  clear hT; intro a hT
  refine Sx.st_take hT rfl rfl rfl rfl (Sx.x_move hT rfl rfl) ?_
  clear hT; intro a hT
  replace hT := hT.keep [12, 11, 10, 5, 4, 0, 1] rfl
  refine Sx.ser_nil ?_
  refine Sx.then_normal (hK4 _ _ ?_)
  clear hK4
  refine wp_block ?_
  -- loop 0
  refine Sx.wp_loopH (G := Nat × List Rg × Nat) (fun ⟨k, L, c9⟩ => [(12, .int .i64 (k : Int)), (5, .int .i64 (c9 : Int))]) (fun ⟨k, L, c9⟩ => [cB p [.map (some b)] 72, cM Try.prog 3 b (tb L)]) (fun ⟨k, L, c9⟩ => k ≤ l.length ∧ (l.take k).foldl learn1 (L0, 0) = (L, c9) ∧ c9 ≤ k ∧ L.length ≤ L0.length + k) (fun ⟨k, L, c9⟩ => l.length - k) (0, L0, 0) (hT.keep [12, 5, 11, 10, 4, 0, 1] rfl) (H.keep [0, 1] rfl rfl) (⟨Nat.zero_le _, rfl, Nat.zero_le _, Nat.le_refl _⟩) ?_
  clear hT H
  rintro ⟨k, L, c9⟩ a w1 hJ hT H
  replace hT := hT.keep [12, 5, 11, 10, 4, 0, 1] rfl
  replace H := H.keep [0, 1] rfl rfl
  obtain ⟨hk, hf, hc9, hLk⟩ := hJ
  refine wp_seq_k fun K5 hK5 => ?_
  -- region 3 (dir.go:35)
  refine Sx.wp_text [(0, .take)] rfl ?_
  refine Sx.st_take hT rfl rfl rfl rfl ((fun w => Sx.x_lt w hT rfl rfl rfl)) ?_
  clear hT; intro a hT
  replace hT := hT.keep [13, 12, 5, 11, 10, 4, 0, 1] rfl
  refine Sx.ser_nil ?_
  refine Sx.then_normal (hK5 _ _ ?_)
  clear hK5
  refine wp_seq_k fun K6 hK6 => ?_
  -- cond 0
  refine Sx.wp_if hT rfl (fun hc7 => ?_) (fun hc7 => ?_)
  · try simp only [decide_eq_true_eq, decide_eq_false_iff_not, Bool.not_eq_true', Bool.not_eq_false', Bool.not_eq_true, Bool.not_eq_false, Bool.and_eq_true, Bool.or_eq_false_iff, beq_iff_eq, bne_iff_ne, Int.not_lt, Int.not_le, ne_eq] at hc7
    obtain ⟨o, ho⟩ : ∃ o, l[k]? = some o := ⟨_, List.getElem?_eq_getElem (by omega)⟩
    have hwo := hw o (List.mem_of_getElem? ho)
    obtain ⟨hw1, hw2, hw3, hw4, hw5, hw6⟩ := hwo
    refine wp_skip ?_
    refine Sx.then_normal (hK6 _ _ ?_)
    clear hK6
    refine wp_seq_k fun K8 hK8 => ?_
    refine wp_block ?_
    refine wp_seq_k fun K9 hK9 => ?_
    -- region 4 (dir.go:35)
    refine Sx.wp_text [(0, .take), (1, .run), (2, .run), (3, .run)] rfl ?_
    refine Sx.st_take hT rfl rfl rfl rfl (Sx.x_index hT rfl Try.underlying28 Try.ti37 (R.at H.ext).sv rfl rfl rfl (by omega)) ?_
    clear hT; intro a hT
    refine Sx.st_run hT rfl rfl rfl rfl (Sx.y_loadS hT rfl Try.underlying37 Try.ti37 rfl (by first | exact ((H.blk 0 rfl).seg (k := 4) rfl) | exact ((R.at H.ext).cs Rg.len ho)) (by rfl)) ?_
    clear hT; intro a hT
    refine Sx.st_eff hT rfl rfl rfl rfl (Sx.y_alloc hT rfl Try.ti37 rfl _) ?_
    clear hT; rintro _ w2 ⟨b1, rfl, N⟩ a hT
    replace H := H.new N; clear N
    refine Sx.st_act hT rfl rfl rfl (Sx.y_storeS hT rfl Try.ti37 rfl rfl rfl rfl rfl (H.blk 0 rfl) rfl) ?_
    rintro w3 ⟨hb, E, _⟩
    replace H := H.setB 0 rfl hb E rfl; clear hb E
    replace hT := hT.keep [7, 13, 12, 5, 11, 10, 4, 0, 1] rfl
    refine Sx.ser_nil ?_
    refine Sx.then_normal (hK9 _ _ ?_)
    clear hK9
    refine wp_seq_k fun K10 hK10 => ?_
    by_cases hgo : ∃ o9, gt L o.id = some o9
    · skip
      obtain ⟨old, hg⟩ := hgo
      -- region 5 (dir.go:36)
      refine Sx.wp_drawsT (fun u => Sx.Ext (Sx.No) u) (.node [(0, .take), (1, .take), (2, .take), (3, .held), (4, .take), (5, .held)] (.leaf [(6, .run), (7, .take), (8, .take), (9, .take), (10, .keep), (11, .run), (12, .take)]) (.leaf [(10, .keep), (6, .run), (7, .take), (8, .take), (9, .take), (11, .run), (12, .take)])) (by kernel_rfl) (by kernel_rfl) (fun u E _ => ?_)
      refine Sx.tser_node ?_
      replace H := H.pure E; clear E
      have hH : Sx.Ext (Sx.No) u u := Sx.Ext.refl _ _
      have Hu := H
      refine Sx.st_take hT rfl rfl rfl rfl (Sx.x_move hT rfl rfl) ?_
      clear hT; intro a hT
      refine Sx.st_take hT rfl rfl rfl rfl (Sx.x_nilCheck hT rfl rfl) ?_
      clear hT; intro a hT
      refine Sx.st_take hT rfl rfl rfl rfl (Sx.x_fieldAddr hT rfl Try.fa72_0 rfl) ?_
      clear hT; intro a hT
      refine Sx.st_held hT rfl rfl rfl rfl hH (fun w' h' => Sx.x_load1 hT rfl Try.fl70 rfl ((Hu.heldB 1 rfl h' Sx.off_No).nth rfl)) ?_
      clear hT; intro a hT
      refine Sx.st_take hT rfl rfl rfl rfl (Sx.x_fieldAddr hT rfl Try.fa37_0 rfl) ?_
      clear hT; intro a hT
      refine Sx.st_held hT rfl rfl rfl rfl hH (fun w' h' => Sx.x_load1 hT rfl Try.fl3 rfl ((Hu.heldB 0 rfl h' Sx.off_No).nth rfl)) ?_
      clear hT; intro a hT
      refine Sx.ser_forkT ?_ ?_
      · skip
        refine Sx.tser_leaf ?_
        refine Sx.st_run hT rfl rfl rfl rfl (Sx.x_lookupOk hT rfl Try.underlying70 (Go.Maps.int_keyed Try.underlying3) Try.ti37 rfl rfl (Go.Maps.keyOf_int_mk Try.underlying3 (Sx.wf64 (by omega) (by omega))) (H.mp 2 rfl)) ?_
        clear hT; intro a hT
        rw [(look_yes hg _).1, (look_yes hg (.int .i64 0)).2] at hT
        refine Sx.st_take hT rfl rfl rfl rfl (Sx.x_move hT rfl rfl) ?_
        clear hT; intro a hT
        refine Sx.st_take hT rfl rfl rfl rfl (Sx.x_extractL hT rfl rfl rfl) ?_
        clear hT; intro a hT
        refine Sx.st_take hT rfl rfl rfl rfl (Sx.x_extractL hT rfl rfl rfl) ?_
        clear hT; intro a hT
        refine Sx.st_effkeepif hT rfl rfl rfl rfl (Sx.y_alloc hT rfl Try.ti37 rfl _) ?_
        rintro _ w4 ⟨b2, rfl, N⟩
        refine ⟨fun h9 => h9.step N.ext, ?_⟩
        clear hT; intro a hT
        replace H := H.new N; clear N
        refine Sx.st_act hT rfl rfl rfl (Sx.y_storeS hT rfl Try.ti37 rfl rfl rfl rfl rfl (H.blk 0 rfl) rfl) ?_
        rintro w5 ⟨hb, E, _⟩
        replace H := H.setB 0 rfl hb E rfl; clear hb E
        refine Sx.st_take hT rfl rfl rfl rfl (Sx.x_assign hT rfl rfl) ?_
        clear hT; intro a hT
        replace hT := hT.keep [9, 8, 7, 13, 12, 5, 11, 10, 4, 0, 1] rfl
        clear Hu hH
        refine Sx.ser_calm ?_
        refine Sx.then_normal (hK10 _ _ ?_)
        clear hK10
        refine wp_seq_k fun K11 hK11 => ?_
        refine wp_seq_k fun K12 hK12 => ?_
        -- region 6 (dir.go:37)
        refine Sx.wp_text [(0, .run), (1, .run), (2, .take), (3, .take), (4, .take), (5, .take), (6, .take), (7, .run), (8, .take), (9, .run), (10, .take), (11, .take), (12, .take)] rfl ?_
        refine Sx.st_run hT rfl rfl rfl rfl (Sx.y_loadS hT rfl Try.underlying37 Try.ti37 rfl ((H.blk 1 rfl).seg (k := 4) rfl) (by rfl)) ?_
        clear hT; intro a hT
        refine Sx.st_call hT rfl rfl rfl rfl rfl Try.can31 rfl (May_calls _ _) ?_
        rintro _ w6 ⟨rfl, E⟩
        refine ⟨_, rfl, ?_⟩
        clear hT; intro a hT
        replace H := H.pure E; clear E
        refine Sx.st_take hT rfl rfl rfl rfl (Sx.x_not hT rfl rfl) ?_
        clear hT; intro a hT
        refine Sx.st_take hT rfl rfl rfl rfl (Sx.x_move hT rfl rfl) ?_
        clear hT; intro a hT
        -- guard (6, 3)
        refine Sx.Sl.two hT 29 rfl (fun hc13 hT => ?_) (fun hc13 hT => ?_)
        · try simp only [decide_eq_true_eq, decide_eq_false_iff_not, Bool.not_eq_true', Bool.not_eq_false', Bool.not_eq_true, Bool.not_eq_false, Bool.and_eq_true, Bool.or_eq_false_iff, beq_iff_eq, bne_iff_ne, Int.not_lt, Int.not_le, ne_eq] at hc13
          refine Sx.st_skip hT rfl rfl rfl rfl ?_
          clear hT; intro a hT
          refine Sx.st_skip hT rfl rfl rfl rfl ?_
          clear hT; intro a hT
          refine Sx.st_skip hT rfl rfl rfl rfl ?_
          clear hT; intro a hT
          refine Sx.st_runskip hT rfl rfl rfl rfl ?_
          clear hT; intro a hT
          refine Sx.st_skip hT rfl rfl rfl rfl ?_
          clear hT; intro a hT
          refine Sx.st_runskip hT rfl rfl rfl rfl ?_
          clear hT; intro a hT
          refine Sx.st_skip hT rfl rfl rfl rfl ?_
          clear hT; intro a hT
          refine Sx.st_skip hT rfl rfl rfl rfl ?_
          clear hT; intro a hT
          refine Sx.st_take hT rfl rfl rfl rfl (Sx.x_pick_t hT rfl rfl rfl) ?_
          clear hT; intro a hT
          replace hT := hT.keep [38, 9, 8, 7, 13, 12, 5, 11, 10, 4, 0, 1] rfl
          refine Sx.ser_nil ?_
          refine Sx.then_normal (hK12 _ _ ?_)
          clear hK12
          refine Sx.wp_if hT rfl (fun _ => ?_) (fun h => by cases h)
          refine wp_exit ?_
          refine Sx.then_exit ?_
          refine Sx.block_exit ?_
          refine Sx.then_normal (hK8 _ _ ?_)
          clear hK8
          -- region 9 (dir.go:35)
          refine Sx.wp_text [(0, .take), (1, .take)] rfl ?_
          refine Sx.st_take hT rfl rfl rfl rfl ((fun w => Sx.x_add w hT rfl rfl rfl (Sx.wrap64 (by omega)))) ?_
          clear hT; intro a hT
          refine Sx.st_take hT rfl rfl rfl rfl (Sx.x_move hT rfl rfl) ?_
          clear hT; intro a hT
          replace hT := hT.keep [12, 38, 9, 8, 7, 13, 5, 11, 10, 4, 0, 1] rfl
          refine Sx.ser_nil ?_
          refine Sx.then_normal ?_
          have hst : (l.take (k + 1)).foldl learn1 (L0, 0) = (L, c9) := by
            rw [learn_snoc ho, hf]
            unfold learn1
            simp_all
          exact ⟨(k + 1, L, c9), ⟨by show k + 1 ≤ _; omega, hst, by show _ ≤ k + 1; omega, by show List.length _ ≤ _ + (k + 1); have := pt_len o L; omega⟩, (hT.keep [12, 5, 11, 10, 4, 0, 1] rfl), (H.keep [2, 3] rfl rfl), by show _ - (k + 1) < _ - k; omega⟩
        · try simp only [decide_eq_true_eq, decide_eq_false_iff_not, Bool.not_eq_true', Bool.not_eq_false', Bool.not_eq_true, Bool.not_eq_false, Bool.and_eq_true, Bool.or_eq_false_iff, beq_iff_eq, bne_iff_ne, Int.not_lt, Int.not_le, ne_eq] at hc13
          refine Sx.st_take hT rfl rfl rfl rfl (Sx.x_move hT rfl rfl) ?_
          clear hT; intro a hT
          refine Sx.st_take hT rfl rfl rfl rfl (Sx.x_move hT rfl rfl) ?_
          clear hT; intro a hT
          refine Sx.st_take hT rfl rfl rfl rfl (Sx.x_fieldAddr hT rfl Try.fa37_1 rfl) ?_
          clear hT; intro a hT
          refine Sx.st_run hT rfl rfl rfl rfl (Sx.x_load1 hT rfl Try.fl3 rfl ((H.blk 0 rfl).nth rfl)) ?_
          clear hT; intro a hT
          refine Sx.st_take hT rfl rfl rfl rfl (Sx.x_fieldAddr hT rfl Try.fa37_1 rfl) ?_
          clear hT; intro a hT
          refine Sx.st_run hT rfl rfl rfl rfl (Sx.x_load1 hT rfl Try.fl3 rfl ((H.blk 1 rfl).nth rfl)) ?_
          clear hT; intro a hT
          refine Sx.st_take hT rfl rfl rfl rfl ((fun w => Sx.x_ge w hT rfl rfl rfl)) ?_
          clear hT; intro a hT
          refine Sx.st_take hT rfl rfl rfl rfl (Sx.x_pick_t hT rfl rfl rfl) ?_
          clear hT; intro a hT
          refine Sx.st_take hT rfl rfl rfl rfl (Sx.x_pick_f hT rfl rfl rfl) ?_
          clear hT; intro a hT
          replace hT := hT.keep [38, 9, 8, 7, 13, 12, 5, 11, 10, 4, 0, 1] rfl
          refine Sx.ser_nil ?_
          refine Sx.then_normal (hK12 _ _ ?_)
          clear hK12
          -- cond 1
          refine Sx.wp_if hT rfl (fun hc14 => ?_) (fun hc14 => ?_)
          · try simp only [decide_eq_true_eq, decide_eq_false_iff_not, Bool.not_eq_true', Bool.not_eq_false', Bool.not_eq_true, Bool.not_eq_false, Bool.and_eq_true, Bool.or_eq_false_iff, beq_iff_eq, bne_iff_ne, Int.not_lt, Int.not_le, ne_eq] at hc14
            refine wp_exit ?_
            refine Sx.then_exit ?_
            refine Sx.block_exit ?_
            refine Sx.then_normal (hK8 _ _ ?_)
            clear hK8
            -- region 9 (dir.go:35)
            refine Sx.wp_text [(0, .take), (1, .take)] rfl ?_
            refine Sx.st_take hT rfl rfl rfl rfl ((fun w => Sx.x_add w hT rfl rfl rfl (Sx.wrap64 (by omega)))) ?_
            clear hT; intro a hT
            refine Sx.st_take hT rfl rfl rfl rfl (Sx.x_move hT rfl rfl) ?_
            clear hT; intro a hT
            replace hT := hT.keep [12, 38, 9, 8, 7, 13, 5, 11, 10, 4, 0, 1] rfl
            refine Sx.ser_nil ?_
            refine Sx.then_normal ?_
            have hst : (l.take (k + 1)).foldl learn1 (L0, 0) = (L, c9) := by
              rw [learn_snoc ho, hf]
              unfold learn1
              simp_all
            exact ⟨(k + 1, L, c9), ⟨by show k + 1 ≤ _; omega, hst, by show _ ≤ k + 1; omega, by show List.length _ ≤ _ + (k + 1); have := pt_len o L; omega⟩, (hT.keep [12, 5, 11, 10, 4, 0, 1] rfl), (H.keep [2, 3] rfl rfl), by show _ - (k + 1) < _ - k; omega⟩
          · try simp only [decide_eq_true_eq, decide_eq_false_iff_not, Bool.not_eq_true', Bool.not_eq_false', Bool.not_eq_true, Bool.not_eq_false, Bool.and_eq_true, Bool.or_eq_false_iff, beq_iff_eq, bne_iff_ne, Int.not_lt, Int.not_le, ne_eq] at hc14
            refine wp_skip ?_
            refine Sx.then_normal (hK11 _ _ ?_)
            clear hK11
            refine wp_seq_k fun K15 hK15 => ?_
            -- region 7 (dir.go:40)
            refine Sx.wp_draws (fun u => Sx.Ext (Sx.No) u) [(0, .take), (1, .take), (2, .take), (3, .held), (4, .take), (5, .held), (6, .held), (7, .run)] (by kernel_rfl) (by kernel_rfl) (fun u E _ => ?_)
            replace H := H.pure E; clear E
            have hH : Sx.Ext (Sx.No) u u := Sx.Ext.refl _ _
            have Hu := H
            refine Sx.st_take hT rfl rfl rfl rfl (Sx.x_move hT rfl rfl) ?_
            clear hT; intro a hT
            refine Sx.st_take hT rfl rfl rfl rfl (Sx.x_nilCheck hT rfl rfl) ?_
            clear hT; intro a hT
            refine Sx.st_take hT rfl rfl rfl rfl (Sx.x_fieldAddr hT rfl Try.fa72_0 rfl) ?_
            clear hT; intro a hT
            refine Sx.st_held hT rfl rfl rfl rfl hH (fun w' h' => Sx.x_load1 hT rfl Try.fl70 rfl ((Hu.heldB 2 rfl h' Sx.off_No).nth rfl)) ?_
            clear hT; intro a hT
            refine Sx.st_take hT rfl rfl rfl rfl (Sx.x_fieldAddr hT rfl Try.fa37_0 rfl) ?_
            clear hT; intro a hT
            refine Sx.st_held hT rfl rfl rfl rfl hH (fun w' h' => Sx.x_load1 hT rfl Try.fl3 rfl ((Hu.heldB 1 rfl h' Sx.off_No).nth rfl)) ?_
            clear hT; intro a hT
            refine Sx.st_held hT rfl rfl rfl rfl hH (fun w' h' => Sx.y_loadS hT rfl Try.underlying37 Try.ti37 rfl ((Hu.heldB 1 rfl h' Sx.off_No).seg (k := 4) rfl) (by rfl)) ?_
            clear hT; intro a hT
            refine Sx.st_act hT rfl rfl rfl (Sx.x_mapUpdate hT rfl Try.underlying70 (Go.Maps.int_keyed Try.underlying3) rfl rfl rfl (Go.Maps.keyOf_int_mk Try.underlying3 (Sx.wf64 (by omega) (by omega))) (H.mp 3 rfl) (by rw [Sx.size_tab]; unfold maxLen; omega)) ?_
            rintro w7 ⟨hm, E, _⟩
            replace H := H.setM 3 rfl hm E rfl; clear hm E
            rw [put_tb] at H
            replace hT := hT.keep [38, 9, 8, 7, 13, 12, 5, 11, 10, 4, 0, 1] rfl
            clear Hu hH
            refine Sx.ser_calm ?_
            refine Sx.then_normal (hK15 _ _ ?_)
            clear hK15
            -- region 8 (dir.go:41)
            refine Sx.wp_text [(0, .take), (1, .take), (2, .take)] rfl ?_
            refine Sx.st_take hT rfl rfl rfl rfl (Sx.x_move hT rfl rfl) ?_
            clear hT; intro a hT
            refine Sx.st_take hT rfl rfl rfl rfl ((fun w => Sx.x_add w hT rfl rfl rfl (Sx.wrap64 (by omega)))) ?_
            clear hT; intro a hT
            refine Sx.st_take hT rfl rfl rfl rfl (Sx.x_assign hT rfl rfl) ?_
            clear hT; intro a hT
            replace hT := hT.keep [5, 38, 9, 8, 7, 13, 12, 11, 10, 4, 0, 1] rfl
            refine Sx.ser_nil ?_
            refine Sx.block_normal ?_
            refine Sx.then_normal (hK8 _ _ ?_)
            clear hK8
            -- region 9 (dir.go:35)
            refine Sx.wp_text [(0, .take), (1, .take)] rfl ?_
            refine Sx.st_take hT rfl rfl rfl rfl ((fun w => Sx.x_add w hT rfl rfl rfl (Sx.wrap64 (by omega)))) ?_
            clear hT; intro a hT
            refine Sx.st_take hT rfl rfl rfl rfl (Sx.x_move hT rfl rfl) ?_
            clear hT; intro a hT
            replace hT := hT.keep [12, 5, 38, 9, 8, 7, 13, 11, 10, 4, 0, 1] rfl
            refine Sx.ser_nil ?_
            refine Sx.then_normal ?_
            have hst : (l.take (k + 1)).foldl learn1 (L0, 0) = (pt o L, c9 + 1) := by
              rw [learn_snoc ho, hf]
              unfold learn1
              simp_all
            exact ⟨(k + 1, pt o L, c9 + 1), ⟨by show k + 1 ≤ _; omega, hst, by show _ ≤ k + 1; omega, by show List.length _ ≤ _ + (k + 1); have := pt_len o L; omega⟩, (hT.keep [12, 5, 11, 10, 4, 0, 1] rfl), (H.keep [2, 3] rfl rfl), by show _ - (k + 1) < _ - k; omega⟩
      · skip
        refine Sx.tser_leaf ?_
        refine Sx.st_effkeep hT rfl rfl rfl rfl (Sx.y_alloc hT rfl Try.ti37 rfl _) ?_
        rintro _ w8 ⟨b3, rfl, N⟩
        have q_b3 : u.heap.size ≤ b3 := by have h8 := hH.size; have h9 := N.at_; omega
        refine ⟨hH.step N.ext, ?_⟩
        replace hH := hH.step N.ext
        clear hT; intro a hT
        replace H := H.new N; clear N
        refine Sx.st_run hT rfl rfl rfl rfl (Sx.x_lookupOk hT rfl Try.underlying70 (Go.Maps.int_keyed Try.underlying3) Try.ti37 rfl rfl (Go.Maps.keyOf_int_mk Try.underlying3 (Sx.wf64 (by omega) (by omega))) (H.mp 3 rfl)) ?_
        clear hT; intro a hT
        rw [(look_yes hg _).1, (look_yes hg (.int .i64 0)).2] at hT
        refine Sx.st_take hT rfl rfl rfl rfl (Sx.x_move hT rfl rfl) ?_
        clear hT; intro a hT
        refine Sx.st_take hT rfl rfl rfl rfl (Sx.x_extractL hT rfl rfl rfl) ?_
        clear hT; intro a hT
        refine Sx.st_take hT rfl rfl rfl rfl (Sx.x_extractL hT rfl rfl rfl) ?_
        clear hT; intro a hT
        refine Sx.st_act hT rfl rfl rfl (Sx.y_storeS hT rfl Try.ti37 rfl rfl rfl rfl rfl (H.blk 0 rfl) rfl) ?_
        rintro w9 ⟨hb, E, _⟩
        replace H := H.setB 0 rfl hb E rfl; clear hb E
        refine Sx.st_take hT rfl rfl rfl rfl (Sx.x_assign hT rfl rfl) ?_
        clear hT; intro a hT
        replace hT := hT.keep [9, 8, 7, 13, 12, 5, 11, 10, 4, 0, 1] rfl
        clear Hu hH
        refine Sx.ser_calm ?_
        refine Sx.then_normal (hK10 _ _ ?_)
        clear hK10
        refine wp_seq_k fun K16 hK16 => ?_
        refine wp_seq_k fun K17 hK17 => ?_
        -- region 6 (dir.go:37)
        refine Sx.wp_text [(0, .run), (1, .run), (2, .take), (3, .take), (4, .take), (5, .take), (6, .take), (7, .run), (8, .take), (9, .run), (10, .take), (11, .take), (12, .take)] rfl ?_
        refine Sx.st_run hT rfl rfl rfl rfl (Sx.y_loadS hT rfl Try.underlying37 Try.ti37 rfl ((H.blk 1 rfl).seg (k := 4) rfl) (by rfl)) ?_
        clear hT; intro a hT
        refine Sx.st_call hT rfl rfl rfl rfl rfl Try.can31 rfl (May_calls _ _) ?_
        rintro _ w10 ⟨rfl, E⟩
        refine ⟨_, rfl, ?_⟩
        clear hT; intro a hT
        replace H := H.pure E; clear E
        refine Sx.st_take hT rfl rfl rfl rfl (Sx.x_not hT rfl rfl) ?_
        clear hT; intro a hT
        refine Sx.st_take hT rfl rfl rfl rfl (Sx.x_move hT rfl rfl) ?_
        clear hT; intro a hT
        -- guard (6, 3)
        refine Sx.Sl.two hT 29 rfl (fun hc18 hT => ?_) (fun hc18 hT => ?_)
        · try simp only [decide_eq_true_eq, decide_eq_false_iff_not, Bool.not_eq_true', Bool.not_eq_false', Bool.not_eq_true, Bool.not_eq_false, Bool.and_eq_true, Bool.or_eq_false_iff, beq_iff_eq, bne_iff_ne, Int.not_lt, Int.not_le, ne_eq] at hc18
          refine Sx.st_skip hT rfl rfl rfl rfl ?_
          clear hT; intro a hT
          refine Sx.st_skip hT rfl rfl rfl rfl ?_
          clear hT; intro a hT
          refine Sx.st_skip hT rfl rfl rfl rfl ?_
          clear hT; intro a hT
          refine Sx.st_runskip hT rfl rfl rfl rfl ?_
          clear hT; intro a hT
          refine Sx.st_skip hT rfl rfl rfl rfl ?_
          clear hT; intro a hT
          refine Sx.st_runskip hT rfl rfl rfl rfl ?_
          clear hT; intro a hT
          refine Sx.st_skip hT rfl rfl rfl rfl ?_
          clear hT; intro a hT
          refine Sx.st_skip hT rfl rfl rfl rfl ?_
          clear hT; intro a hT
          refine Sx.st_take hT rfl rfl rfl rfl (Sx.x_pick_t hT rfl rfl rfl) ?_
          clear hT; intro a hT
          replace hT := hT.keep [38, 9, 8, 7, 13, 12, 5, 11, 10, 4, 0, 1] rfl
          refine Sx.ser_nil ?_
          refine Sx.then_normal (hK17 _ _ ?_)
          clear hK17
          refine Sx.wp_if hT rfl (fun _ => ?_) (fun h => by cases h)
          refine wp_exit ?_
          refine Sx.then_exit ?_
          refine Sx.block_exit ?_
          refine Sx.then_normal (hK8 _ _ ?_)
          clear hK8
          -- region 9 (dir.go:35)
          refine Sx.wp_text [(0, .take), (1, .take)] rfl ?_
          refine Sx.st_take hT rfl rfl rfl rfl ((fun w => Sx.x_add w hT rfl rfl rfl (Sx.wrap64 (by omega)))) ?_
          clear hT; intro a hT
          refine Sx.st_take hT rfl rfl rfl rfl (Sx.x_move hT rfl rfl) ?_
          clear hT; intro a hT
          replace hT := hT.keep [12, 38, 9, 8, 7, 13, 5, 11, 10, 4, 0, 1] rfl
          refine Sx.ser_nil ?_
          refine Sx.then_normal ?_
          have hst : (l.take (k + 1)).foldl learn1 (L0, 0) = (L, c9) := by
            rw [learn_snoc ho, hf]
            unfold learn1
            simp_all
          exact ⟨(k + 1, L, c9), ⟨by show k + 1 ≤ _; omega, hst, by show _ ≤ k + 1; omega, by show List.length _ ≤ _ + (k + 1); have := pt_len o L; omega⟩, (hT.keep [12, 5, 11, 10, 4, 0, 1] rfl), (H.keep [2, 3] rfl rfl), by show _ - (k + 1) < _ - k; omega⟩
        · try simp only [decide_eq_true_eq, decide_eq_false_iff_not, Bool.not_eq_true', Bool.not_eq_false', Bool.not_eq_true, Bool.not_eq_false, Bool.and_eq_true, Bool.or_eq_false_iff, beq_iff_eq, bne_iff_ne, Int.not_lt, Int.not_le, ne_eq] at hc18
          refine Sx.st_take hT rfl rfl rfl rfl (Sx.x_move hT rfl rfl) ?_
          clear hT; intro a hT
          refine Sx.st_take hT rfl rfl rfl rfl (Sx.x_move hT rfl rfl) ?_
          clear hT; intro a hT
          refine Sx.st_take hT rfl rfl rfl rfl (Sx.x_fieldAddr hT rfl Try.fa37_1 rfl) ?_
          clear hT; intro a hT
          refine Sx.st_run hT rfl rfl rfl rfl (Sx.x_load1 hT rfl Try.fl3 rfl ((H.blk 0 rfl).nth rfl)) ?_
          clear hT; intro a hT
          refine Sx.st_take hT rfl rfl rfl rfl (Sx.x_fieldAddr hT rfl Try.fa37_1 rfl) ?_
          clear hT; intro a hT
          refine Sx.st_run hT rfl rfl rfl rfl (Sx.x_load1 hT rfl Try.fl3 rfl ((H.blk 1 rfl).nth rfl)) ?_
          clear hT; intro a hT
          refine Sx.st_take hT rfl rfl rfl rfl ((fun w => Sx.x_ge w hT rfl rfl rfl)) ?_
          clear hT; intro a hT
          refine Sx.st_take hT rfl rfl rfl rfl (Sx.x_pick_t hT rfl rfl rfl) ?_
          clear hT; intro a hT
          refine Sx.st_take hT rfl rfl rfl rfl (Sx.x_pick_f hT rfl rfl rfl) ?_
          clear hT; intro a hT
          replace hT := hT.keep [38, 9, 8, 7, 13, 12, 5, 11, 10, 4, 0, 1] rfl
          refine Sx.ser_nil ?_
          refine Sx.then_normal (hK17 _ _ ?_)
          clear hK17
          -- cond 1
          refine Sx.wp_if hT rfl (fun hc19 => ?_) (fun hc19 => ?_)
          · try simp only [decide_eq_true_eq, decide_eq_false_iff_not, Bool.not_eq_true', Bool.not_eq_false', Bool.not_eq_true, Bool.not_eq_false, Bool.and_eq_true, Bool.or_eq_false_iff, beq_iff_eq, bne_iff_ne, Int.not_lt, Int.not_le, ne_eq] at hc19
            refine wp_exit ?_
            refine Sx.then_exit ?_
            refine Sx.block_exit ?_
            refine Sx.then_normal (hK8 _ _ ?_)
            clear hK8
            -- region 9 (dir.go:35)
            refine Sx.wp_text [(0, .take), (1, .take)] rfl ?_
            refine Sx.st_take hT rfl rfl rfl rfl ((fun w => Sx.x_add w hT rfl rfl rfl (Sx.wrap64 (by omega)))) ?_
            clear hT; intro a hT
            refine Sx.st_take hT rfl rfl rfl rfl (Sx.x_move hT rfl rfl) ?_
            clear hT; intro a hT
            replace hT := hT.keep [12, 38, 9, 8, 7, 13, 5, 11, 10, 4, 0, 1] rfl
            refine Sx.ser_nil ?_
            refine Sx.then_normal ?_
            have hst : (l.take (k + 1)).foldl learn1 (L0, 0) = (L, c9) := by
              rw [learn_snoc ho, hf]
              unfold learn1
              simp_all
            exact ⟨(k + 1, L, c9), ⟨by show k + 1 ≤ _; omega, hst, by show _ ≤ k + 1; omega, by show List.length _ ≤ _ + (k + 1); have := pt_len o L; omega⟩, (hT.keep [12, 5, 11, 10, 4, 0, 1] rfl), (H.keep [2, 3] rfl rfl), by show _ - (k + 1) < _ - k; omega⟩
          · try simp only [decide_eq_true_eq, decide_eq_false_iff_not, Bool.not_eq_true', Bool.not_eq_false', Bool.not_eq_true, Bool.not_eq_false, Bool.and_eq_true, Bool.or_eq_false_iff, beq_iff_eq, bne_iff_ne, Int.not_lt, Int.not_le, ne_eq] at hc19
            refine wp_skip ?_
            refine Sx.then_normal (hK16 _ _ ?_)
            clear hK16
            refine wp_seq_k fun K20 hK20 => ?_
            -- region 7 (dir.go:40)
            refine Sx.wp_draws (fun u => Sx.Ext (Sx.No) u) [(0, .take), (1, .take), (2, .take), (3, .held), (4, .take), (5, .held), (6, .held), (7, .run)] (by kernel_rfl) (by kernel_rfl) (fun u E _ => ?_)
            replace H := H.pure E; clear E
            have hH : Sx.Ext (Sx.No) u u := Sx.Ext.refl _ _
            have Hu := H
            refine Sx.st_take hT rfl rfl rfl rfl (Sx.x_move hT rfl rfl) ?_
            clear hT; intro a hT
            refine Sx.st_take hT rfl rfl rfl rfl (Sx.x_nilCheck hT rfl rfl) ?_
            clear hT; intro a hT
            refine Sx.st_take hT rfl rfl rfl rfl (Sx.x_fieldAddr hT rfl Try.fa72_0 rfl) ?_
            clear hT; intro a hT
            refine Sx.st_held hT rfl rfl rfl rfl hH (fun w' h' => Sx.x_load1 hT rfl Try.fl70 rfl ((Hu.heldB 2 rfl h' Sx.off_No).nth rfl)) ?_
            clear hT; intro a hT
            refine Sx.st_take hT rfl rfl rfl rfl (Sx.x_fieldAddr hT rfl Try.fa37_0 rfl) ?_
            clear hT; intro a hT
            refine Sx.st_held hT rfl rfl rfl rfl hH (fun w' h' => Sx.x_load1 hT rfl Try.fl3 rfl ((Hu.heldB 1 rfl h' Sx.off_No).nth rfl)) ?_
            clear hT; intro a hT
            refine Sx.st_held hT rfl rfl rfl rfl hH (fun w' h' => Sx.y_loadS hT rfl Try.underlying37 Try.ti37 rfl ((Hu.heldB 1 rfl h' Sx.off_No).seg (k := 4) rfl) (by rfl)) ?_
            clear hT; intro a hT
            refine Sx.st_act hT rfl rfl rfl (Sx.x_mapUpdate hT rfl Try.underlying70 (Go.Maps.int_keyed Try.underlying3) rfl rfl rfl (Go.Maps.keyOf_int_mk Try.underlying3 (Sx.wf64 (by omega) (by omega))) (H.mp 3 rfl) (by rw [Sx.size_tab]; unfold maxLen; omega)) ?_
            rintro w11 ⟨hm, E, _⟩
            replace H := H.setM 3 rfl hm E rfl; clear hm E
            rw [put_tb] at H
            replace hT := hT.keep [38, 9, 8, 7, 13, 12, 5, 11, 10, 4, 0, 1] rfl
            clear Hu hH
            refine Sx.ser_calm ?_
            refine Sx.then_normal (hK20 _ _ ?_)
            clear hK20
            -- region 8 (dir.go:41)
            refine Sx.wp_text [(0, .take), (1, .take), (2, .take)] rfl ?_
            refine Sx.st_take hT rfl rfl rfl rfl (Sx.x_move hT rfl rfl) ?_
            clear hT; intro a hT
            refine Sx.st_take hT rfl rfl rfl rfl ((fun w => Sx.x_add w hT rfl rfl rfl (Sx.wrap64 (by omega)))) ?_
            clear hT; intro a hT
            refine Sx.st_take hT rfl rfl rfl rfl (Sx.x_assign hT rfl rfl) ?_
            clear hT; intro a hT
            replace hT := hT.keep [5, 38, 9, 8, 7, 13, 12, 11, 10, 4, 0, 1] rfl
            refine Sx.ser_nil ?_
            refine Sx.block_normal ?_
            refine Sx.then_normal (hK8 _ _ ?_)
            clear hK8
            -- region 9 (dir.go:35)
            refine Sx.wp_text [(0, .take), (1, .take)] rfl ?_
            refine Sx.st_take hT rfl rfl rfl rfl ((fun w => Sx.x_add w hT rfl rfl rfl (Sx.wrap64 (by omega)))) ?_
            clear hT; intro a hT
            refine Sx.st_take hT rfl rfl rfl rfl (Sx.x_move hT rfl rfl) ?_
            clear hT; intro a hT
            replace hT := hT.keep [12, 5, 38, 9, 8, 7, 13, 11, 10, 4, 0, 1] rfl
            refine Sx.ser_nil ?_
            refine Sx.then_normal ?_
            have hst : (l.take (k + 1)).foldl learn1 (L0, 0) = (pt o L, c9 + 1) := by
              rw [learn_snoc ho, hf]
              unfold learn1
              simp_all
            exact ⟨(k + 1, pt o L, c9 + 1), ⟨by show k + 1 ≤ _; omega, hst, by show _ ≤ k + 1; omega, by show List.length _ ≤ _ + (k + 1); have := pt_len o L; omega⟩, (hT.keep [12, 5, 11, 10, 4, 0, 1] rfl), (H.keep [2, 3] rfl rfl), by show _ - (k + 1) < _ - k; omega⟩
    · skip
      have hg : gt L o.id = none := by
        cases h9 : gt L o.id with
        | none => rfl
        | some y => exact absurd ⟨y, h9⟩ hgo
      -- region 5 (dir.go:36)
      refine Sx.wp_drawsT (fun u => Sx.Ext (Sx.No) u) (.node [(0, .take), (1, .take), (2, .take), (3, .held), (4, .take), (5, .held)] (.leaf [(6, .run), (7, .take), (8, .take), (9, .take), (10, .keep), (11, .run), (12, .take)]) (.leaf [(10, .keep), (6, .run), (7, .take), (8, .take), (9, .take), (11, .run), (12, .take)])) (by kernel_rfl) (by kernel_rfl) (fun u E _ => ?_)
      refine Sx.tser_node ?_
      replace H := H.pure E; clear E
      have hH : Sx.Ext (Sx.No) u u := Sx.Ext.refl _ _
      have Hu := H
      refine Sx.st_take hT rfl rfl rfl rfl (Sx.x_move hT rfl rfl) ?_
      clear hT; intro a hT
      refine Sx.st_take hT rfl rfl rfl rfl (Sx.x_nilCheck hT rfl rfl) ?_
      clear hT; intro a hT
      refine Sx.st_take hT rfl rfl rfl rfl (Sx.x_fieldAddr hT rfl Try.fa72_0 rfl) ?_
      clear hT; intro a hT
      refine Sx.st_held hT rfl rfl rfl rfl hH (fun w' h' => Sx.x_load1 hT rfl Try.fl70 rfl ((Hu.heldB 1 rfl h' Sx.off_No).nth rfl)) ?_
      clear hT; intro a hT
      refine Sx.st_take hT rfl rfl rfl rfl (Sx.x_fieldAddr hT rfl Try.fa37_0 rfl) ?_
      clear hT; intro a hT
      refine Sx.st_held hT rfl rfl rfl rfl hH (fun w' h' => Sx.x_load1 hT rfl Try.fl3 rfl ((Hu.heldB 0 rfl h' Sx.off_No).nth rfl)) ?_
      clear hT; intro a hT
      refine Sx.ser_forkT ?_ ?_
      · skip
        refine Sx.tser_leaf ?_
        refine Sx.st_run hT rfl rfl rfl rfl (Sx.x_lookupOk hT rfl Try.underlying70 (Go.Maps.int_keyed Try.underlying3) Try.ti37 rfl rfl (Go.Maps.keyOf_int_mk Try.underlying3 (Sx.wf64 (by omega) (by omega))) (H.mp 2 rfl)) ?_
        clear hT; intro a hT
        rw [(look_no hg _).1, (look_no hg (.int .i64 0)).2] at hT
        refine Sx.st_take hT rfl rfl rfl rfl (Sx.x_move hT rfl rfl) ?_
        clear hT; intro a hT
        refine Sx.st_take hT rfl rfl rfl rfl (Sx.x_extractL hT rfl rfl rfl) ?_
        clear hT; intro a hT
        refine Sx.st_take hT rfl rfl rfl rfl (Sx.x_extractL hT rfl rfl rfl) ?_
        clear hT; intro a hT
        refine Sx.st_effkeepif hT rfl rfl rfl rfl (Sx.y_alloc hT rfl Try.ti37 rfl _) ?_
        rintro _ w12 ⟨b4, rfl, N⟩
        refine ⟨fun h9 => h9.step N.ext, ?_⟩
        clear hT; intro a hT
        replace H := H.new N; clear N
        refine Sx.st_act hT rfl rfl rfl (Sx.y_storeS hT rfl Try.ti37 rfl rfl rfl rfl rfl (H.blk 0 rfl) rfl) ?_
        rintro w13 ⟨hb, E, _⟩
        replace H := H.setB 0 rfl hb E rfl; clear hb E
        refine Sx.st_take hT rfl rfl rfl rfl (Sx.x_assign hT rfl rfl) ?_
        clear hT; intro a hT
        replace hT := hT.keep [9, 8, 7, 13, 12, 5, 11, 10, 4, 0, 1] rfl
        clear Hu hH
        refine Sx.ser_calm ?_
        refine Sx.then_normal (hK10 _ _ ?_)
        clear hK10
        refine wp_seq_k fun K21 hK21 => ?_
        refine wp_seq_k fun K22 hK22 => ?_
        -- region 6 (dir.go:37)
        refine Sx.wp_text [(0, .run), (1, .run), (2, .take), (3, .take), (4, .take), (5, .take), (6, .take), (7, .run), (8, .take), (9, .run), (10, .take), (11, .take), (12, .take)] rfl ?_
        refine Sx.st_run hT rfl rfl rfl rfl (Sx.y_loadS hT rfl Try.underlying37 Try.ti37 rfl ((H.blk 1 rfl).seg (k := 4) rfl) (by rfl)) ?_
        clear hT; intro a hT
        refine Sx.st_call hT rfl rfl rfl rfl rfl Try.can31 rfl (May_calls _ _) ?_
        rintro _ w14 ⟨rfl, E⟩
        refine ⟨_, rfl, ?_⟩
        clear hT; intro a hT
        replace H := H.pure E; clear E
        refine Sx.st_take hT rfl rfl rfl rfl (Sx.x_not hT rfl rfl) ?_
        clear hT; intro a hT
        refine Sx.st_take hT rfl rfl rfl rfl (Sx.x_move hT rfl rfl) ?_
        clear hT; intro a hT
        -- guard (6, 3)
        refine Sx.Sl.two hT 29 rfl (fun hc23 hT => ?_) (fun hc23 hT => ?_)
        · try simp only [decide_eq_true_eq, decide_eq_false_iff_not, Bool.not_eq_true', Bool.not_eq_false', Bool.not_eq_true, Bool.not_eq_false, Bool.and_eq_true, Bool.or_eq_false_iff, beq_iff_eq, bne_iff_ne, Int.not_lt, Int.not_le, ne_eq] at hc23
          refine Sx.st_skip hT rfl rfl rfl rfl ?_
          clear hT; intro a hT
          refine Sx.st_skip hT rfl rfl rfl rfl ?_
          clear hT; intro a hT
          refine Sx.st_skip hT rfl rfl rfl rfl ?_
          clear hT; intro a hT
          refine Sx.st_runskip hT rfl rfl rfl rfl ?_
          clear hT; intro a hT
          refine Sx.st_skip hT rfl rfl rfl rfl ?_
          clear hT; intro a hT
          refine Sx.st_runskip hT rfl rfl rfl rfl ?_
          clear hT; intro a hT
          refine Sx.st_skip hT rfl rfl rfl rfl ?_
          clear hT; intro a hT
          refine Sx.st_skip hT rfl rfl rfl rfl ?_
          clear hT; intro a hT
          refine Sx.st_take hT rfl rfl rfl rfl (Sx.x_pick_t hT rfl rfl rfl) ?_
          clear hT; intro a hT
          replace hT := hT.keep [38, 9, 8, 7, 13, 12, 5, 11, 10, 4, 0, 1] rfl
          refine Sx.ser_nil ?_
          refine Sx.then_normal (hK22 _ _ ?_)
          clear hK22
          refine Sx.wp_if hT rfl (fun _ => ?_) (fun h => by cases h)
          refine wp_exit ?_
          refine Sx.then_exit ?_
          refine Sx.block_exit ?_
          refine Sx.then_normal (hK8 _ _ ?_)
          clear hK8
          -- region 9 (dir.go:35)
          refine Sx.wp_text [(0, .take), (1, .take)] rfl ?_
          refine Sx.st_take hT rfl rfl rfl rfl ((fun w => Sx.x_add w hT rfl rfl rfl (Sx.wrap64 (by omega)))) ?_
          clear hT; intro a hT
          refine Sx.st_take hT rfl rfl rfl rfl (Sx.x_move hT rfl rfl) ?_
          clear hT; intro a hT
          replace hT := hT.keep [12, 38, 9, 8, 7, 13, 5, 11, 10, 4, 0, 1] rfl
          refine Sx.ser_nil ?_
          refine Sx.then_normal ?_
          have hst : (l.take (k + 1)).foldl learn1 (L0, 0) = (L, c9) := by
            rw [learn_snoc ho, hf]
            unfold learn1
            simp_all
          exact ⟨(k + 1, L, c9), ⟨by show k + 1 ≤ _; omega, hst, by show _ ≤ k + 1; omega, by show List.length _ ≤ _ + (k + 1); have := pt_len o L; omega⟩, (hT.keep [12, 5, 11, 10, 4, 0, 1] rfl), (H.keep [2, 3] rfl rfl), by show _ - (k + 1) < _ - k; omega⟩
        · try simp only [decide_eq_true_eq, decide_eq_false_iff_not, Bool.not_eq_true', Bool.not_eq_false', Bool.not_eq_true, Bool.not_eq_false, Bool.and_eq_true, Bool.or_eq_false_iff, beq_iff_eq, bne_iff_ne, Int.not_lt, Int.not_le, ne_eq] at hc23
          refine Sx.st_take hT rfl rfl rfl rfl (Sx.x_move hT rfl rfl) ?_
          clear hT; intro a hT
          refine Sx.st_take hT rfl rfl rfl rfl (Sx.x_move hT rfl rfl) ?_
          clear hT; intro a hT
          refine Sx.st_skip hT rfl rfl rfl rfl ?_
          clear hT; intro a hT
          refine Sx.st_runskip hT rfl rfl rfl rfl ?_
          clear hT; intro a hT
          refine Sx.st_skip hT rfl rfl rfl rfl ?_
          clear hT; intro a hT
          refine Sx.st_runskip hT rfl rfl rfl rfl ?_
          clear hT; intro a hT
          refine Sx.st_skip hT rfl rfl rfl rfl ?_
          clear hT; intro a hT
          refine Sx.st_take hT rfl rfl rfl rfl (Sx.x_pick_f hT rfl rfl rfl) ?_
          clear hT; intro a hT
          refine Sx.st_take hT rfl rfl rfl rfl (Sx.x_pick_f hT rfl rfl rfl) ?_
          clear hT; intro a hT
          replace hT := hT.keep [38, 9, 8, 7, 13, 12, 5, 11, 10, 4, 0, 1] rfl
          refine Sx.ser_nil ?_
          refine Sx.then_normal (hK22 _ _ ?_)
          clear hK22
          refine Sx.wp_if hT rfl (fun h => by cases h) (fun _ => ?_)
          refine wp_skip ?_
          refine Sx.then_normal (hK21 _ _ ?_)
          clear hK21
          refine wp_seq_k fun K24 hK24 => ?_
          -- region 7 (dir.go:40)
          refine Sx.wp_draws (fun u => Sx.Ext (Sx.No) u) [(0, .take), (1, .take), (2, .take), (3, .held), (4, .take), (5, .held), (6, .held), (7, .run)] (by kernel_rfl) (by kernel_rfl) (fun u E _ => ?_)
          replace H := H.pure E; clear E
          have hH : Sx.Ext (Sx.No) u u := Sx.Ext.refl _ _
          have Hu := H
          refine Sx.st_take hT rfl rfl rfl rfl (Sx.x_move hT rfl rfl) ?_
          clear hT; intro a hT
          refine Sx.st_take hT rfl rfl rfl rfl (Sx.x_nilCheck hT rfl rfl) ?_
          clear hT; intro a hT
          refine Sx.st_take hT rfl rfl rfl rfl (Sx.x_fieldAddr hT rfl Try.fa72_0 rfl) ?_
          clear hT; intro a hT
          refine Sx.st_held hT rfl rfl rfl rfl hH (fun w' h' => Sx.x_load1 hT rfl Try.fl70 rfl ((Hu.heldB 2 rfl h' Sx.off_No).nth rfl)) ?_
          clear hT; intro a hT
          refine Sx.st_take hT rfl rfl rfl rfl (Sx.x_fieldAddr hT rfl Try.fa37_0 rfl) ?_
          clear hT; intro a hT
          refine Sx.st_held hT rfl rfl rfl rfl hH (fun w' h' => Sx.x_load1 hT rfl Try.fl3 rfl ((Hu.heldB 1 rfl h' Sx.off_No).nth rfl)) ?_
          clear hT; intro a hT
          refine Sx.st_held hT rfl rfl rfl rfl hH (fun w' h' => Sx.y_loadS hT rfl Try.underlying37 Try.ti37 rfl ((Hu.heldB 1 rfl h' Sx.off_No).seg (k := 4) rfl) (by rfl)) ?_
          clear hT; intro a hT
          refine Sx.st_act hT rfl rfl rfl (Sx.x_mapUpdate hT rfl Try.underlying70 (Go.Maps.int_keyed Try.underlying3) rfl rfl rfl (Go.Maps.keyOf_int_mk Try.underlying3 (Sx.wf64 (by omega) (by omega))) (H.mp 3 rfl) (by rw [Sx.size_tab]; unfold maxLen; omega)) ?_
          rintro w15 ⟨hm, E, _⟩
          replace H := H.setM 3 rfl hm E rfl; clear hm E
          rw [put_tb] at H
          replace hT := hT.keep [38, 9, 8, 7, 13, 12, 5, 11, 10, 4, 0, 1] rfl
          clear Hu hH
          refine Sx.ser_calm ?_
          refine Sx.then_normal (hK24 _ _ ?_)
          clear hK24
          -- region 8 (dir.go:41)
          refine Sx.wp_text [(0, .take), (1, .take), (2, .take)] rfl ?_
          refine Sx.st_take hT rfl rfl rfl rfl (Sx.x_move hT rfl rfl) ?_
          clear hT; intro a hT
          refine Sx.st_take hT rfl rfl rfl rfl ((fun w => Sx.x_add w hT rfl rfl rfl (Sx.wrap64 (by omega)))) ?_
          clear hT; intro a hT
          refine Sx.st_take hT rfl rfl rfl rfl (Sx.x_assign hT rfl rfl) ?_
          clear hT; intro a hT
          replace hT := hT.keep [5, 38, 9, 8, 7, 13, 12, 11, 10, 4, 0, 1] rfl
          refine Sx.ser_nil ?_
          refine Sx.block_normal ?_
          refine Sx.then_normal (hK8 _ _ ?_)
          clear hK8
          -- region 9 (dir.go:35)
          refine Sx.wp_text [(0, .take), (1, .take)] rfl ?_
          refine Sx.st_take hT rfl rfl rfl rfl ((fun w => Sx.x_add w hT rfl rfl rfl (Sx.wrap64 (by omega)))) ?_
          clear hT; intro a hT
          refine Sx.st_take hT rfl rfl rfl rfl (Sx.x_move hT rfl rfl) ?_
          clear hT; intro a hT
          replace hT := hT.keep [12, 5, 38, 9, 8, 7, 13, 11, 10, 4, 0, 1] rfl
          refine Sx.ser_nil ?_
          refine Sx.then_normal ?_
          have hst : (l.take (k + 1)).foldl learn1 (L0, 0) = (pt o L, c9 + 1) := by
            rw [learn_snoc ho, hf]
            unfold learn1
            simp_all
          exact ⟨(k + 1, pt o L, c9 + 1), ⟨by show k + 1 ≤ _; omega, hst, by show _ ≤ k + 1; omega, by show List.length _ ≤ _ + (k + 1); have := pt_len o L; omega⟩, (hT.keep [12, 5, 11, 10, 4, 0, 1] rfl), (H.keep [2, 3] rfl rfl), by show _ - (k + 1) < _ - k; omega⟩
      · skip
        refine Sx.tser_leaf ?_
        refine Sx.st_effkeep hT rfl rfl rfl rfl (Sx.y_alloc hT rfl Try.ti37 rfl _) ?_
        rintro _ w16 ⟨b5, rfl, N⟩
        have q_b5 : u.heap.size ≤ b5 := by have h8 := hH.size; have h9 := N.at_; omega
        refine ⟨hH.step N.ext, ?_⟩
        replace hH := hH.step N.ext
        clear hT; intro a hT
        replace H := H.new N; clear N
        refine Sx.st_run hT rfl rfl rfl rfl (Sx.x_lookupOk hT rfl Try.underlying70 (Go.Maps.int_keyed Try.underlying3) Try.ti37 rfl rfl (Go.Maps.keyOf_int_mk Try.underlying3 (Sx.wf64 (by omega) (by omega))) (H.mp 3 rfl)) ?_
        clear hT; intro a hT
        rw [(look_no hg _).1, (look_no hg (.int .i64 0)).2] at hT
        refine Sx.st_take hT rfl rfl rfl rfl (Sx.x_move hT rfl rfl) ?_
        clear hT; intro a hT
        refine Sx.st_take hT rfl rfl rfl rfl (Sx.x_extractL hT rfl rfl rfl) ?_
        clear hT; intro a hT
        refine Sx.st_take hT rfl rfl rfl rfl (Sx.x_extractL hT rfl rfl rfl) ?_
        clear hT; intro a hT
        refine Sx.st_act hT rfl rfl rfl (Sx.y_storeS hT rfl Try.ti37 rfl rfl rfl rfl rfl (H.blk 0 rfl) rfl) ?_
        rintro w17 ⟨hb, E, _⟩
        replace H := H.setB 0 rfl hb E rfl; clear hb E
        refine Sx.st_take hT rfl rfl rfl rfl (Sx.x_assign hT rfl rfl) ?_
        clear hT; intro a hT
        replace hT := hT.keep [9, 8, 7, 13, 12, 5, 11, 10, 4, 0, 1] rfl
        clear Hu hH
        refine Sx.ser_calm ?_
        refine Sx.then_normal (hK10 _ _ ?_)
        clear hK10
        refine wp_seq_k fun K25 hK25 => ?_
        refine wp_seq_k fun K26 hK26 => ?_
        -- region 6 (dir.go:37)
        refine Sx.wp_text [(0, .run), (1, .run), (2, .take), (3, .take), (4, .take), (5, .take), (6, .take), (7, .run), (8, .take), (9, .run), (10, .take), (11, .take), (12, .take)] rfl ?_
        refine Sx.st_run hT rfl rfl rfl rfl (Sx.y_loadS hT rfl Try.underlying37 Try.ti37 rfl ((H.blk 1 rfl).seg (k := 4) rfl) (by rfl)) ?_
        clear hT; intro a hT
        refine Sx.st_call hT rfl rfl rfl rfl rfl Try.can31 rfl (May_calls _ _) ?_
        rintro _ w18 ⟨rfl, E⟩
        refine ⟨_, rfl, ?_⟩
        clear hT; intro a hT
        replace H := H.pure E; clear E
        refine Sx.st_take hT rfl rfl rfl rfl (Sx.x_not hT rfl rfl) ?_
        clear hT; intro a hT
        refine Sx.st_take hT rfl rfl rfl rfl (Sx.x_move hT rfl rfl) ?_
        clear hT; intro a hT
        -- guard (6, 3)
        refine Sx.Sl.two hT 29 rfl (fun hc27 hT => ?_) (fun hc27 hT => ?_)
        · try simp only [decide_eq_true_eq, decide_eq_false_iff_not, Bool.not_eq_true', Bool.not_eq_false', Bool.not_eq_true, Bool.not_eq_false, Bool.and_eq_true, Bool.or_eq_false_iff, beq_iff_eq, bne_iff_ne, Int.not_lt, Int.not_le, ne_eq] at hc27
          refine Sx.st_skip hT rfl rfl rfl rfl ?_
          clear hT; intro a hT
          refine Sx.st_skip hT rfl rfl rfl rfl ?_
          clear hT; intro a hT
          refine Sx.st_skip hT rfl rfl rfl rfl ?_
          clear hT; intro a hT
          refine Sx.st_runskip hT rfl rfl rfl rfl ?_
          clear hT; intro a hT
          refine Sx.st_skip hT rfl rfl rfl rfl ?_
          clear hT; intro a hT
          refine Sx.st_runskip hT rfl rfl rfl rfl ?_
          clear hT; intro a hT
          refine Sx.st_skip hT rfl rfl rfl rfl ?_
          clear hT; intro a hT
          refine Sx.st_skip hT rfl rfl rfl rfl ?_
          clear hT; intro a hT
          refine Sx.st_take hT rfl rfl rfl rfl (Sx.x_pick_t hT rfl rfl rfl) ?_
          clear hT; intro a hT
          replace hT := hT.keep [38, 9, 8, 7, 13, 12, 5, 11, 10, 4, 0, 1] rfl
          refine Sx.ser_nil ?_
          refine Sx.then_normal (hK26 _ _ ?_)
          clear hK26
          refine Sx.wp_if hT rfl (fun _ => ?_) (fun h => by cases h)
          refine wp_exit ?_
          refine Sx.then_exit ?_
          refine Sx.block_exit ?_
          refine Sx.then_normal (hK8 _ _ ?_)
          clear hK8
          -- region 9 (dir.go:35)
          refine Sx.wp_text [(0, .take), (1, .take)] rfl ?_
          refine Sx.st_take hT rfl rfl rfl rfl ((fun w => Sx.x_add w hT rfl rfl rfl (Sx.wrap64 (by omega)))) ?_
          clear hT; intro a hT
          refine Sx.st_take hT rfl rfl rfl rfl (Sx.x_move hT rfl rfl) ?_
          clear hT; intro a hT
          replace hT := hT.keep [12, 38, 9, 8, 7, 13, 5, 11, 10, 4, 0, 1] rfl
          refine Sx.ser_nil ?_
          refine Sx.then_normal ?_
          have hst : (l.take (k + 1)).foldl learn1 (L0, 0) = (L, c9) := by
            rw [learn_snoc ho, hf]
            unfold learn1
            simp_all
          exact ⟨(k + 1, L, c9), ⟨by show k + 1 ≤ _; omega, hst, by show _ ≤ k + 1; omega, by show List.length _ ≤ _ + (k + 1); have := pt_len o L; omega⟩, (hT.keep [12, 5, 11, 10, 4, 0, 1] rfl), (H.keep [2, 3] rfl rfl), by show _ - (k + 1) < _ - k; omega⟩
        · try simp only [decide_eq_true_eq, decide_eq_false_iff_not, Bool.not_eq_true', Bool.not_eq_false', Bool.not_eq_true, Bool.not_eq_false, Bool.and_eq_true, Bool.or_eq_false_iff, beq_iff_eq, bne_iff_ne, Int.not_lt, Int.not_le, ne_eq] at hc27
          refine Sx.st_take hT rfl rfl rfl rfl (Sx.x_move hT rfl rfl) ?_
          clear hT; intro a hT
          refine Sx.st_take hT rfl rfl rfl rfl (Sx.x_move hT rfl rfl) ?_
          clear hT; intro a hT
          refine Sx.st_skip hT rfl rfl rfl rfl ?_
          clear hT; intro a hT
          refine Sx.st_runskip hT rfl rfl rfl rfl ?_
          clear hT; intro a hT
          refine Sx.st_skip hT rfl rfl rfl rfl ?_
          clear hT; intro a hT
          refine Sx.st_runskip hT rfl rfl rfl rfl ?_
          clear hT; intro a hT
          refine Sx.st_skip hT rfl rfl rfl rfl ?_
          clear hT; intro a hT
          refine Sx.st_take hT rfl rfl rfl rfl (Sx.x_pick_f hT rfl rfl rfl) ?_
          clear hT; intro a hT
          refine Sx.st_take hT rfl rfl rfl rfl (Sx.x_pick_f hT rfl rfl rfl) ?_
          clear hT; intro a hT
          replace hT := hT.keep [38, 9, 8, 7, 13, 12, 5, 11, 10, 4, 0, 1] rfl
          refine Sx.ser_nil ?_
          refine Sx.then_normal (hK26 _ _ ?_)
          clear hK26
          refine Sx.wp_if hT rfl (fun h => by cases h) (fun _ => ?_)
          refine wp_skip ?_
          refine Sx.then_normal (hK25 _ _ ?_)
          clear hK25
          refine wp_seq_k fun K28 hK28 => ?_
          -- region 7 (dir.go:40)
          refine Sx.wp_draws (fun u => Sx.Ext (Sx.No) u) [(0, .take), (1, .take), (2, .take), (3, .held), (4, .take), (5, .held), (6, .held), (7, .run)] (by kernel_rfl) (by kernel_rfl) (fun u E _ => ?_)
          replace H := H.pure E; clear E
          have hH : Sx.Ext (Sx.No) u u := Sx.Ext.refl _ _
          have Hu := H
          refine Sx.st_take hT rfl rfl rfl rfl (Sx.x_move hT rfl rfl) ?_
          clear hT; intro a hT
          refine Sx.st_take hT rfl rfl rfl rfl (Sx.x_nilCheck hT rfl rfl) ?_
          clear hT; intro a hT
          refine Sx.st_take hT rfl rfl rfl rfl (Sx.x_fieldAddr hT rfl Try.fa72_0 rfl) ?_
          clear hT; intro a hT
          refine Sx.st_held hT rfl rfl rfl rfl hH (fun w' h' => Sx.x_load1 hT rfl Try.fl70 rfl ((Hu.heldB 2 rfl h' Sx.off_No).nth rfl)) ?_
          clear hT; intro a hT
          refine Sx.st_take hT rfl rfl rfl rfl (Sx.x_fieldAddr hT rfl Try.fa37_0 rfl) ?_
          clear hT; intro a hT
          refine Sx.st_held hT rfl rfl rfl rfl hH (fun w' h' => Sx.x_load1 hT rfl Try.fl3 rfl ((Hu.heldB 1 rfl h' Sx.off_No).nth rfl)) ?_
          clear hT; intro a hT
          refine Sx.st_held hT rfl rfl rfl rfl hH (fun w' h' => Sx.y_loadS hT rfl Try.underlying37 Try.ti37 rfl ((Hu.heldB 1 rfl h' Sx.off_No).seg (k := 4) rfl) (by rfl)) ?_
          clear hT; intro a hT
          refine Sx.st_act hT rfl rfl rfl (Sx.x_mapUpdate hT rfl Try.underlying70 (Go.Maps.int_keyed Try.underlying3) rfl rfl rfl (Go.Maps.keyOf_int_mk Try.underlying3 (Sx.wf64 (by omega) (by omega))) (H.mp 3 rfl) (by rw [Sx.size_tab]; unfold maxLen; omega)) ?_
          rintro w19 ⟨hm, E, _⟩
          replace H := H.setM 3 rfl hm E rfl; clear hm E
          rw [put_tb] at H
          replace hT := hT.keep [38, 9, 8, 7, 13, 12, 5, 11, 10, 4, 0, 1] rfl
          clear Hu hH
          refine Sx.ser_calm ?_
          refine Sx.then_normal (hK28 _ _ ?_)
          clear hK28
          -- region 8 (dir.go:41)
          refine Sx.wp_text [(0, .take), (1, .take), (2, .take)] rfl ?_
          refine Sx.st_take hT rfl rfl rfl rfl (Sx.x_move hT rfl rfl) ?_
          clear hT; intro a hT
          refine Sx.st_take hT rfl rfl rfl rfl ((fun w => Sx.x_add w hT rfl rfl rfl (Sx.wrap64 (by omega)))) ?_
          clear hT; intro a hT
          refine Sx.st_take hT rfl rfl rfl rfl (Sx.x_assign hT rfl rfl) ?_
          clear hT; intro a hT
          replace hT := hT.keep [5, 38, 9, 8, 7, 13, 12, 11, 10, 4, 0, 1] rfl
          refine Sx.ser_nil ?_
          refine Sx.block_normal ?_
          refine Sx.then_normal (hK8 _ _ ?_)
          clear hK8
          -- region 9 (dir.go:35)
          refine Sx.wp_text [(0, .take), (1, .take)] rfl ?_
          refine Sx.st_take hT rfl rfl rfl rfl ((fun w => Sx.x_add w hT rfl rfl rfl (Sx.wrap64 (by omega)))) ?_
          clear hT; intro a hT
          refine Sx.st_take hT rfl rfl rfl rfl (Sx.x_move hT rfl rfl) ?_
          clear hT; intro a hT
          replace hT := hT.keep [12, 5, 38, 9, 8, 7, 13, 11, 10, 4, 0, 1] rfl
          refine Sx.ser_nil ?_
          refine Sx.then_normal ?_
          have hst : (l.take (k + 1)).foldl learn1 (L0, 0) = (pt o L, c9 + 1) := by
            rw [learn_snoc ho, hf]
            unfold learn1
            simp_all
          exact ⟨(k + 1, pt o L, c9 + 1), ⟨by show k + 1 ≤ _; omega, hst, by show _ ≤ k + 1; omega, by show List.length _ ≤ _ + (k + 1); have := pt_len o L; omega⟩, (hT.keep [12, 5, 11, 10, 4, 0, 1] rfl), (H.keep [2, 3] rfl rfl), by show _ - (k + 1) < _ - k; omega⟩
  · try simp only [decide_eq_true_eq, decide_eq_false_iff_not, Bool.not_eq_true', Bool.not_eq_false', Bool.not_eq_true, Bool.not_eq_false, Bool.and_eq_true, Bool.or_eq_false_iff, beq_iff_eq, bne_iff_ne, Int.not_lt, Int.not_le, ne_eq] at hc7
    obtain rfl : k = l.length := by omega
    rw [List.take_length] at hf
    refine wp_exit ?_
    refine Sx.then_exit ?_
    refine Sx.then_exit ?_
    refine Sx.block_exit ?_
    refine Sx.then_normal (hK3 _ _ ?_)
    clear hK3
    refine wp_seq_k fun K29 hK29 => ?_
    -- region 10 (dir.go:43)
    refine Sx.wp_text [(0, .take), (1, .take)] rfl ?_
    refine Sx.st_take hT rfl rfl rfl rfl (Sx.x_move hT rfl rfl) ?_
    clear hT; intro a hT
    refine Sx.st_take hT rfl rfl rfl rfl (Sx.x_assign hT rfl rfl) ?_
    clear hT; intro a hT
    replace hT := hT.keep [4, 13, 12, 5, 11, 10, 0, 1] rfl
    refine Sx.ser_nil ?_
    refine Sx.then_normal (hK29 _ _ ?_)
    clear hK29
    refine wp_ret ?_
    refine Sx.done1 (fn := Try.f12) hT rfl (.tmp (hT.get 4 _ rfl)) ?_
    have e9 : learnR L0 l = (L, c9) := hf
    rw [e9]
    exact ⟨rfl, H⟩

end Go.Proofs.Ytakohabmcgponaa
