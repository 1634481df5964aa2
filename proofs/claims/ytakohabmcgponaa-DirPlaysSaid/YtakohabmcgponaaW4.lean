/- Walks: the check. -/
import Derived.Test.YtakohabmcgponaaW2
import Derived.Test.YtakohabmcgponaaN2
set_option linter.unusedSimpArgs false
set_option linter.unusedVariables false
namespace Go.Proofs.Ytakohabmcgponaa
open Sx
theorem Try.can28 : Sx.Can Try.prog 28 := ⟨_, Try.func28, by kernel_rfl, rfl⟩
theorem Check_calls {ad : Option Addr} {c : Nat} (l : List Rg) {w : World} (hs : Ss w ad Rg.cells 4 l) (hl : l.length ≤ 1000000) (hcap : l.length ≤ c) (hw : ∀ r ∈ l, r.wf) : Calls Try.prog 28 #[.slice ad l.length c] w fun e w' => e = .returned (.int .i64 (checkF l)) ∧ Ext No w w' := by
  have R : Ro w No _ := Ro.of fun w' x => hs.ext_no x
  refine Sx.calls_into Try.func28 rfl Try.ntmps28 rfl fun a hT => ?_
  replace hT := hT.keep [0] rfl
  have H : Sx.Hp w (Sx.No) w [] := Sx.Hp.start _ _
  refine wp_seq_k fun K1 hK1 => ?_
  -- region 0 (place.go:64)
  refine Sx.wp_text [(0, .take)] rfl ?_
  refine Sx.st_take hT rfl rfl rfl rfl (Sx.x_assign hT rfl rfl) ?_
  clear hT; intro a hT
  replace hT := hT.keep [2, 0] rfl
  refine Sx.ser_nil ?_
  refine Sx.then_normal (hK1 _ _ ?_)
  clear hK1
  refine wp_seq_k fun K2 hK2 => ?_
  refine wp_block ?_
  refine wp_seq_k fun K3 hK3 => ?_
  -- region 1 (place.go:66)
  refine Sx.wp_text [(0, .take), (1, .take), (2, .take), (3, .take)] rfl ?_
  refine Sx.st_take hT rfl rfl rfl rfl (Sx.x_move hT rfl rfl) ?_
  clear hT; intro a hT
  refine Sx.st_take hT rfl rfl rfl rfl (Sx.x_len_slice hT rfl rfl Try.underlying28 rfl) ?_
  clear hT; intro a hT
  refine Sx.st_take hT rfl rfl rfl rfl ((fun w => Sx.x_eq w hT rfl rfl rfl)) ?_
  clear hT; intro a hT
  refine Sx.st_take hT rfl rfl rfl rfl (Sx.x_assign hT rfl rfl) ?_
  clear hT; intro a hT
  replace hT := hT.keep [13, 2, 0] rfl
  refine Sx.ser_nil ?_
  refine Sx.then_normal (hK3 _ _ ?_)
  clear hK3
  -- cond 0
  refine Sx.wp_if hT rfl (fun hc4 => ?_) (fun hc4 => ?_)
  · try simp only [decide_eq_true_eq, decide_eq_false_iff_not, Bool.not_eq_true', Bool.not_eq_false', Bool.not_eq_true, Bool.not_eq_false, Bool.and_eq_true, Bool.or_eq_false_iff, beq_iff_eq, bne_iff_ne, Int.not_lt, Int.not_le, ne_eq] at hc4
    refine wp_seq_k fun K5 hK5 => ?_
    -- region 2 (place.go:67)
    refine Sx.wp_text [(0, .take)] rfl ?_
    refine Sx.st_take hT rfl rfl rfl rfl (Sx.x_assign hT rfl rfl) ?_
    clear hT; intro a hT
    replace hT := hT.keep [2, 13, 0] rfl
    refine Sx.ser_nil ?_
    refine Sx.then_normal (hK5 _ _ ?_)
    clear hK5
    refine wp_ret ?_
    refine Sx.block_ret ?_
    refine Sx.then_ret ?_
    refine Sx.done1 (fn := Try.f28) hT rfl (.tmp (hT.get 2 _ rfl)) ?_
    refine ⟨ret_i ?_, H.ext⟩
    clear hT H
    unfold checkF
    rw [if_pos (by omega)]
  · try simp only [decide_eq_true_eq, decide_eq_false_iff_not, Bool.not_eq_true', Bool.not_eq_false', Bool.not_eq_true, Bool.not_eq_false, Bool.and_eq_true, Bool.or_eq_false_iff, beq_iff_eq, bne_iff_ne, Int.not_lt, Int.not_le, ne_eq] at hc4
    refine wp_seq_k fun K6 hK6 => ?_
    -- region 3 (place.go:68)
    refine Sx.wp_text [(0, .take), (1, .take), (2, .take), (3, .take)] rfl ?_
    refine Sx.st_take hT rfl rfl rfl rfl (Sx.x_move hT rfl rfl) ?_
    clear hT; intro a hT
    refine Sx.st_take hT rfl rfl rfl rfl (Sx.x_len_slice hT rfl rfl Try.underlying28 rfl) ?_
    clear hT; intro a hT
    refine Sx.st_take hT rfl rfl rfl rfl ((fun w => Sx.x_gt w hT rfl rfl rfl)) ?_
    clear hT; intro a hT
    refine Sx.st_take hT rfl rfl rfl rfl (Sx.x_assign hT rfl rfl) ?_
    clear hT; intro a hT
    replace hT := hT.keep [17, 13, 2, 0] rfl
    refine Sx.ser_nil ?_
    refine Sx.then_normal (hK6 _ _ ?_)
    clear hK6
    -- cond 1
    refine Sx.wp_if hT rfl (fun hc7 => ?_) (fun hc7 => ?_)
    · try simp only [decide_eq_true_eq, decide_eq_false_iff_not, Bool.not_eq_true', Bool.not_eq_false', Bool.not_eq_true, Bool.not_eq_false, Bool.and_eq_true, Bool.or_eq_false_iff, beq_iff_eq, bne_iff_ne, Int.not_lt, Int.not_le, ne_eq] at hc7
      refine wp_seq_k fun K8 hK8 => ?_
      -- region 4 (place.go:69)
      refine Sx.wp_text [(0, .take)] rfl ?_
      refine Sx.st_take hT rfl rfl rfl rfl (Sx.x_assign hT rfl rfl) ?_
      clear hT; intro a hT
      replace hT := hT.keep [2, 17, 13, 0] rfl
      refine Sx.ser_nil ?_
      refine Sx.then_normal (hK8 _ _ ?_)
      clear hK8
      refine wp_ret ?_
      refine Sx.block_ret ?_
      refine Sx.then_ret ?_
      refine Sx.done1 (fn := Try.f28) hT rfl (.tmp (hT.get 2 _ rfl)) ?_
      refine ⟨ret_i ?_, H.ext⟩
      clear hT H
      unfold checkF
      rw [if_neg (by omega), if_pos (by omega)]
    · try simp only [decide_eq_true_eq, decide_eq_false_iff_not, Bool.not_eq_true', Bool.not_eq_false', Bool.not_eq_true, Bool.not_eq_false, Bool.and_eq_true, Bool.or_eq_false_iff, beq_iff_eq, bne_iff_ne, Int.not_lt, Int.not_le, ne_eq] at hc7
      refine wp_skip ?_
      refine Sx.block_normal ?_
      refine Sx.then_normal (hK2 _ _ ?_)
      clear hK2
      refine wp_seq_k fun K9 hK9 => ?_
      refine wp_seq_k fun K10 hK10 => ?_
      -- region 5 (place.go:71)
      refine Sx.wp_text [(0, .take), (1, .take), (2, .take)] rfl ?_
      refine Sx.st_take hT rfl rfl rfl rfl (Sx.x_move hT rfl rfl) ?_
      clear hT; intro a hT
      refine Sx.st_take hT rfl rfl rfl rfl (Sx.x_len_slice hT rfl rfl Try.underlying28 rfl) ?_
      clear hT; intro a hT
      refine Sx.st_take hT rfl rfl rfl rfl (Sx.x_move hT rfl rfl) ?_
      clear hT; intro a hT
      replace hT := hT.keep [23, 22, 21, 17, 13, 2, 0] rfl
      refine Sx.ser_nil ?_
      refine Sx.then_normal (hK10 _ _ ?_)
      clear hK10
      refine wp_block ?_
      -- loop 0
      refine Sx.wp_loopH (G := Nat) (fun i => [(23, .int .i64 (i : Int))]) (fun i => []) (fun i => i ≤ l.length ∧ badA l i = 0) (fun i => l.length - i) 0 (hT.keep [23, 22, 21, 17, 13, 0] rfl) (H.keep [] rfl rfl) (⟨Nat.zero_le _, rfl⟩) ?_
      clear hT H
      rintro i a w1 hJ hT H
      replace hT := hT.keep [23, 22, 21, 17, 13, 0] rfl
      replace H := H.keep [] rfl rfl
      obtain ⟨hi, hba⟩ := hJ
      refine wp_seq_k fun K11 hK11 => ?_
      -- region 6 (place.go:71)
      refine Sx.wp_text [(0, .take)] rfl ?_
      refine Sx.st_take hT rfl rfl rfl rfl ((fun w => Sx.x_lt w hT rfl rfl rfl)) ?_
      clear hT; intro a hT
      replace hT := hT.keep [24, 23, 22, 21, 17, 13, 0] rfl
      refine Sx.ser_nil ?_
      refine Sx.then_normal (hK11 _ _ ?_)
      clear hK11
      refine wp_seq_k fun K12 hK12 => ?_
      -- cond 2
      refine Sx.wp_if hT rfl (fun hc13 => ?_) (fun hc13 => ?_)
      · try simp only [decide_eq_true_eq, decide_eq_false_iff_not, Bool.not_eq_true', Bool.not_eq_false', Bool.not_eq_true, Bool.not_eq_false, Bool.and_eq_true, Bool.or_eq_false_iff, beq_iff_eq, bne_iff_ne, Int.not_lt, Int.not_le, ne_eq] at hc13
        obtain ⟨o, ho⟩ : ∃ o, l[i]? = some o := ⟨_, List.getElem?_eq_getElem (by omega)⟩
        refine wp_skip ?_
        refine Sx.then_normal (hK12 _ _ ?_)
        clear hK12
        refine wp_seq_k fun K14 hK14 => ?_
        refine wp_block ?_
        refine wp_seq_k fun K15 hK15 => ?_
        -- region 7 (place.go:71)
        refine Sx.wp_text [(0, .take), (1, .take), (2, .run), (3, .run), (4, .take), (5, .run)] rfl ?_
        refine Sx.st_take hT rfl rfl rfl rfl (Sx.x_move hT rfl rfl) ?_
        clear hT; intro a hT
        refine Sx.st_take hT rfl rfl rfl rfl (Sx.x_index (k := i) hT rfl Try.underlying28 Try.ti37 (by first | exact (R.at H.ext).sv | exact ss_to (R.at H.ext) (by omega)) rfl rfl (by first | rfl | omega) (by omega)) ?_
        clear hT; intro a hT
        refine Sx.st_run hT rfl rfl rfl rfl (Sx.y_loadS hT rfl Try.underlying37 Try.ti37 rfl ((R.at H.ext).cs Rg.len ho) (by rfl)) ?_
        clear hT; intro a hT
        refine Sx.st_eff hT rfl rfl rfl rfl (Sx.y_alloc hT rfl Try.ti37 rfl _) ?_
        clear hT; rintro _ w2 ⟨b1, rfl, N⟩ a hT
        replace H := H.new N; clear N
        refine Sx.st_take hT rfl rfl rfl rfl (Sx.x_assign hT rfl rfl) ?_
        clear hT; intro a hT
        refine Sx.st_act hT rfl rfl rfl (Sx.y_storeS hT rfl Try.ti37 rfl rfl rfl rfl rfl (H.blk 0 rfl) rfl) ?_
        rintro w3 ⟨hb, E, _⟩
        replace H := H.setB 0 rfl hb E rfl; clear hb E
        replace hT := hT.keep [3, 4, 24, 23, 22, 21, 17, 13, 0] rfl
        refine Sx.ser_nil ?_
        refine Sx.then_normal (hK15 _ _ ?_)
        clear hK15
        refine wp_seq_k fun K16 hK16 => ?_
        refine wp_seq_k fun K17 hK17 => ?_
        -- region 8 (place.go:72)
        refine Sx.wp_text [(0, .run), (1, .run), (2, .take)] rfl ?_
        refine Sx.st_run hT rfl rfl rfl rfl (Sx.y_loadS hT rfl Try.underlying37 Try.ti37 rfl ((H.blk 0 rfl).seg (k := 4) rfl) (by rfl)) ?_
        clear hT; intro a hT
        refine Sx.st_call hT rfl rfl rfl rfl rfl Try.can31 rfl (May_calls _ _) ?_
        rintro _ w4 ⟨rfl, E⟩
        refine ⟨_, rfl, ?_⟩
        clear hT; intro a hT
        replace H := H.pure E; clear E
        refine Sx.st_take hT rfl rfl rfl rfl (Sx.x_not hT rfl rfl) ?_
        clear hT; intro a hT
        replace hT := hT.keep [30, 3, 4, 24, 23, 22, 21, 17, 13, 0] rfl
        refine Sx.ser_nil ?_
        refine Sx.then_normal (hK17 _ _ ?_)
        clear hK17
        -- cond 3
        refine Sx.wp_if hT rfl (fun hc18 => ?_) (fun hc18 => ?_)
        · try simp only [decide_eq_true_eq, decide_eq_false_iff_not, Bool.not_eq_true', Bool.not_eq_false', Bool.not_eq_true, Bool.not_eq_false, Bool.and_eq_true, Bool.or_eq_false_iff, beq_iff_eq, bne_iff_ne, Int.not_lt, Int.not_le, ne_eq] at hc18
          have hbad9 : badA l l.length = 1 := badA_at hba (badR_may ho hc18) (by decide) (by omega)
          refine wp_seq_k fun K19 hK19 => ?_
          -- region 9 (place.go:73)
          refine Sx.wp_text [(0, .take)] rfl ?_
          refine Sx.st_take hT rfl rfl rfl rfl (Sx.x_assign hT rfl rfl) ?_
          clear hT; intro a hT
          replace hT := hT.keep [2, 30, 3, 4, 24, 23, 22, 21, 17, 13, 0] rfl
          refine Sx.ser_nil ?_
          refine Sx.then_normal (hK19 _ _ ?_)
          clear hK19
          refine wp_ret ?_
          refine Sx.then_ret ?_
          refine Sx.block_ret ?_
          refine Sx.then_ret ?_
          refine Sx.then_ret ?_
          refine Sx.block_ret ?_
          refine Sx.then_ret ?_
          refine Sx.done1 (fn := Try.f28) hT rfl (.tmp (hT.get 2 _ rfl)) ?_
          refine ⟨ret_i ?_, H.ext⟩
          clear hT H
          unfold checkF
          rw [if_neg (by omega), if_neg (by omega)]
          rw [hbad9, if_pos (by decide)]
        · try simp only [decide_eq_true_eq, decide_eq_false_iff_not, Bool.not_eq_true', Bool.not_eq_false', Bool.not_eq_true, Bool.not_eq_false, Bool.and_eq_true, Bool.or_eq_false_iff, beq_iff_eq, bne_iff_ne, Int.not_lt, Int.not_le, ne_eq] at hc18
          have hm : mayR o = true := hc18
          refine wp_skip ?_
          refine Sx.then_normal (hK16 _ _ ?_)
          clear hK16
          refine wp_seq_k fun K20 hK20 => ?_
          -- region 10 (place.go:75)
          refine Sx.wp_text [(0, .take), (1, .take), (2, .take), (3, .take), (4, .take)] rfl ?_
          refine Sx.st_take hT rfl rfl rfl rfl (Sx.x_move hT rfl rfl) ?_
          clear hT; intro a hT
          refine Sx.st_take hT rfl rfl rfl rfl (Sx.x_move hT rfl rfl) ?_
          clear hT; intro a hT
          refine Sx.st_take hT rfl rfl rfl rfl (Sx.x_slice_h hT rfl Try.underlying28 Try.ti37 rfl rfl rfl (by omega)) ?_
          clear hT; intro a hT
          refine Sx.st_take hT rfl rfl rfl rfl (Sx.x_len_slice hT rfl rfl Try.underlying28 rfl) ?_
          clear hT; intro a hT
          refine Sx.st_take hT rfl rfl rfl rfl (Sx.x_move hT rfl rfl) ?_
          clear hT; intro a hT
          replace hT := hT.keep [35, 34, 33, 30, 3, 4, 24, 23, 22, 21, 17, 13, 0] rfl
          refine Sx.ser_nil ?_
          refine Sx.then_normal (hK20 _ _ ?_)
          clear hK20
          refine wp_block ?_
          -- loop 1
          refine Sx.wp_loopH (G := Nat) (fun j => [(35, .int .i64 (j : Int))]) (fun j => []) (fun j => j ≤ i ∧ ∀ (t : Nat) (q : Rg), t < j → l[t]? = some q → q.id ≠ o.id) (fun j => i - j) 0 (hT.keep [35, 34, 33, 30, 3, 4, 24, 23, 22, 21, 17, 13, 0] rfl) (H.keep [0] rfl rfl) (⟨Nat.zero_le _, fun t q h => by omega⟩) ?_
          clear hT H
          rintro j a w5 hJ hT H
          replace hT := hT.keep [35, 34, 33, 30, 3, 4, 24, 23, 22, 21, 17, 13, 0] rfl
          replace H := H.keep [0] rfl rfl
          obtain ⟨hj, hnd⟩ := hJ
          refine wp_seq_k fun K21 hK21 => ?_
          -- region 11 (place.go:75)
          refine Sx.wp_text [(0, .take)] rfl ?_
          refine Sx.st_take hT rfl rfl rfl rfl ((fun w => Sx.x_lt w hT rfl rfl rfl)) ?_
          clear hT; intro a hT
          replace hT := hT.keep [36, 35, 34, 33, 30, 3, 4, 24, 23, 22, 21, 17, 13, 0] rfl
          refine Sx.ser_nil ?_
          refine Sx.then_normal (hK21 _ _ ?_)
          clear hK21
          refine wp_seq_k fun K22 hK22 => ?_
          -- cond 4
          refine Sx.wp_if hT rfl (fun hc23 => ?_) (fun hc23 => ?_)
          · try simp only [decide_eq_true_eq, decide_eq_false_iff_not, Bool.not_eq_true', Bool.not_eq_false', Bool.not_eq_true, Bool.not_eq_false, Bool.and_eq_true, Bool.or_eq_false_iff, beq_iff_eq, bne_iff_ne, Int.not_lt, Int.not_le, ne_eq] at hc23
            obtain ⟨o2, ho2⟩ : ∃ o, l[j]? = some o := ⟨_, List.getElem?_eq_getElem (by omega)⟩
            refine wp_skip ?_
            refine Sx.then_normal (hK22 _ _ ?_)
            clear hK22
            refine wp_seq_k fun K24 hK24 => ?_
            refine wp_block ?_
            refine wp_seq_k fun K25 hK25 => ?_
            -- region 12 (place.go:75)
            refine Sx.wp_text [(0, .take), (1, .run), (2, .run), (3, .run)] rfl ?_
            refine Sx.st_take hT rfl rfl rfl rfl (Sx.x_index (k := j) hT rfl Try.underlying28 Try.ti37 (by first | exact (R.at H.ext).sv | exact ss_to (R.at H.ext) (by omega)) rfl rfl (by first | rfl | omega) (by omega)) ?_
            clear hT; intro a hT
            refine Sx.st_run hT rfl rfl rfl rfl (Sx.y_loadS hT rfl Try.underlying37 Try.ti37 rfl (by first | exact ((H.blk 0 rfl).seg (k := 4) rfl) | exact ((R.at H.ext).cs Rg.len ho2)) (by rfl)) ?_
            clear hT; intro a hT
            refine Sx.st_eff hT rfl rfl rfl rfl (Sx.y_alloc hT rfl Try.ti37 rfl _) ?_
            clear hT; rintro _ w6 ⟨b2, rfl, N⟩ a hT
            replace H := H.new N; clear N
            refine Sx.st_act hT rfl rfl rfl (Sx.y_storeS hT rfl Try.ti37 rfl rfl rfl rfl rfl (H.blk 0 rfl) rfl) ?_
            rintro w7 ⟨hb, E, _⟩
            replace H := H.setB 0 rfl hb E rfl; clear hb E
            replace hT := hT.keep [6, 36, 35, 34, 33, 30, 3, 4, 24, 23, 22, 21, 17, 13, 0] rfl
            refine Sx.ser_nil ?_
            refine Sx.then_normal (hK25 _ _ ?_)
            clear hK25
            refine wp_seq_k fun K26 hK26 => ?_
            -- region 13 (place.go:76)
            refine Sx.wp_text [(0, .take), (1, .run), (2, .take), (3, .run), (4, .take)] rfl ?_
            refine Sx.st_take hT rfl rfl rfl rfl (Sx.x_fieldAddr hT rfl Try.fa37_0 rfl) ?_
            clear hT; intro a hT
            refine Sx.st_run hT rfl rfl rfl rfl (Sx.x_load1 hT rfl Try.fl3 rfl ((H.blk 0 rfl).nth rfl)) ?_
            clear hT; intro a hT
            refine Sx.st_take hT rfl rfl rfl rfl (Sx.x_fieldAddr hT rfl Try.fa37_0 rfl) ?_
            clear hT; intro a hT
            refine Sx.st_run hT rfl rfl rfl rfl (Sx.x_load1 hT rfl Try.fl3 rfl ((H.blk 1 rfl).nth rfl)) ?_
            clear hT; intro a hT
            refine Sx.st_take hT rfl rfl rfl rfl ((fun w => Sx.x_eq w hT rfl rfl rfl)) ?_
            clear hT; intro a hT
            replace hT := hT.keep [43, 6, 36, 35, 34, 33, 30, 3, 4, 24, 23, 22, 21, 17, 13, 0] rfl
            refine Sx.ser_nil ?_
            refine Sx.then_normal (hK26 _ _ ?_)
            clear hK26
            -- cond 5
            refine Sx.wp_if hT rfl (fun hc27 => ?_) (fun hc27 => ?_)
            · try simp only [decide_eq_true_eq, decide_eq_false_iff_not, Bool.not_eq_true', Bool.not_eq_false', Bool.not_eq_true, Bool.not_eq_false, Bool.and_eq_true, Bool.or_eq_false_iff, beq_iff_eq, bne_iff_ne, Int.not_lt, Int.not_le, ne_eq] at hc27
              have hbad9 : badA l l.length = 9 := badA_at hba (badR_dup ho hm ho2 (by omega) hc27) (by decide) (by omega)
              refine wp_seq_k fun K28 hK28 => ?_
              -- region 14 (place.go:77)
              refine Sx.wp_text [(0, .take)] rfl ?_
              refine Sx.st_take hT rfl rfl rfl rfl (Sx.x_assign hT rfl rfl) ?_
              clear hT; intro a hT
              replace hT := hT.keep [2, 43, 6, 36, 35, 34, 33, 30, 3, 4, 24, 23, 22, 21, 17, 13, 0] rfl
              refine Sx.ser_nil ?_
              refine Sx.then_normal (hK28 _ _ ?_)
              clear hK28
              refine wp_ret ?_
              refine Sx.block_ret ?_
              refine Sx.then_ret ?_
              refine Sx.then_ret ?_
              refine Sx.block_ret ?_
              refine Sx.block_ret ?_
              refine Sx.then_ret ?_
              refine Sx.then_ret ?_
              refine Sx.block_ret ?_
              refine Sx.then_ret ?_
              refine Sx.done1 (fn := Try.f28) hT rfl (.tmp (hT.get 2 _ rfl)) ?_
              refine ⟨ret_i ?_, H.ext⟩
              clear hT H
              unfold checkF
              rw [if_neg (by omega), if_neg (by omega)]
              rw [hbad9, if_pos (by decide)]
            · try simp only [decide_eq_true_eq, decide_eq_false_iff_not, Bool.not_eq_true', Bool.not_eq_false', Bool.not_eq_true, Bool.not_eq_false, Bool.and_eq_true, Bool.or_eq_false_iff, beq_iff_eq, bne_iff_ne, Int.not_lt, Int.not_le, ne_eq] at hc27
              have hne : o2.id ≠ o.id := hc27
              refine wp_skip ?_
              refine Sx.block_normal ?_
              refine Sx.then_normal (hK24 _ _ ?_)
              clear hK24
              -- region 15 (place.go:75)
              refine Sx.wp_text [(0, .take), (1, .take)] rfl ?_
              refine Sx.st_take hT rfl rfl rfl rfl ((fun w => Sx.x_add w hT rfl rfl rfl (Sx.wrap64 (by omega)))) ?_
              clear hT; intro a hT
              refine Sx.st_take hT rfl rfl rfl rfl (Sx.x_move hT rfl rfl) ?_
              clear hT; intro a hT
              replace hT := hT.keep [35, 43, 6, 36, 34, 33, 30, 3, 4, 24, 23, 22, 21, 17, 13, 0] rfl
              refine Sx.ser_nil ?_
              refine Sx.then_normal ?_
              exact ⟨j + 1, ⟨by omega, nd_snoc hnd ho2 hne⟩, (hT.keep [35, 34, 33, 30, 3, 4, 24, 23, 22, 21, 17, 13, 0] rfl), (H.keep [1] rfl rfl), by omega⟩
          · try simp only [decide_eq_true_eq, decide_eq_false_iff_not, Bool.not_eq_true', Bool.not_eq_false', Bool.not_eq_true, Bool.not_eq_false, Bool.and_eq_true, Bool.or_eq_false_iff, beq_iff_eq, bne_iff_ne, Int.not_lt, Int.not_le, ne_eq] at hc23
            have hji : j = i := by omega
            rw [hji] at hnd
            refine wp_exit ?_
            refine Sx.then_exit ?_
            refine Sx.then_exit ?_
            refine Sx.block_exit ?_
            refine Sx.block_normal ?_
            refine Sx.then_normal (hK14 _ _ ?_)
            clear hK14
            -- region 16 (place.go:71)
            refine Sx.wp_text [(0, .take), (1, .take)] rfl ?_
            refine Sx.st_take hT rfl rfl rfl rfl ((fun w => Sx.x_add w hT rfl rfl rfl (Sx.wrap64 (by omega)))) ?_
            clear hT; intro a hT
            refine Sx.st_take hT rfl rfl rfl rfl (Sx.x_move hT rfl rfl) ?_
            clear hT; intro a hT
            replace hT := hT.keep [23, 36, 35, 34, 33, 30, 3, 4, 24, 22, 21, 17, 13, 0] rfl
            refine Sx.ser_nil ?_
            refine Sx.then_normal ?_
            exact ⟨i + 1, ⟨by omega, badA_ok hba (badR_ok ho hm hnd)⟩, (hT.keep [23, 22, 21, 17, 13, 0] rfl), (H.keep [] rfl rfl), by omega⟩
      · try simp only [decide_eq_true_eq, decide_eq_false_iff_not, Bool.not_eq_true', Bool.not_eq_false', Bool.not_eq_true, Bool.not_eq_false, Bool.and_eq_true, Bool.or_eq_false_iff, beq_iff_eq, bne_iff_ne, Int.not_lt, Int.not_le, ne_eq] at hc13
        have hil : i = l.length := by omega
        rw [hil] at hba
        refine wp_exit ?_
        refine Sx.then_exit ?_
        refine Sx.then_exit ?_
        refine Sx.block_exit ?_
        refine Sx.then_normal (hK9 _ _ ?_)
        clear hK9
        refine wp_seq_k fun K29 hK29 => ?_
        -- region 17 (place.go:81)
        refine Sx.wp_text [(0, .take), (1, .take)] rfl ?_
        refine Sx.st_take hT rfl rfl rfl rfl (Sx.x_assign hT rfl rfl) ?_
        clear hT; intro a hT
        refine Sx.st_take hT rfl rfl rfl rfl (Sx.x_assign hT rfl rfl) ?_
        clear hT; intro a hT
        replace hT := hT.keep [8, 7, 24, 23, 22, 21, 17, 13, 0] rfl
        refine Sx.ser_nil ?_
        refine Sx.then_normal (hK29 _ _ ?_)
        clear hK29
        refine wp_seq_k fun K30 hK30 => ?_
        refine wp_block ?_
        have hmay := bad_all hba
        -- loop 2
        refine Sx.wp_loopH (G := Nat × Nat × Nat) (fun ⟨f, a9, u9⟩ => [(7, .float .f64 a9), (8, .int .i64 (u9 : Int))]) (fun ⟨f, a9, u9⟩ => []) (fun ⟨f, a9, u9⟩ => runF l f a9 u9 = runF l (l.length + 1) 0 0 ∧ cntF l a9 < f ∧ a9 ≤ fone ∧ u9 + f = l.length + 1) (fun ⟨f, a9, u9⟩ => f) (l.length + 1, 0, 0) (hT.keep [7, 8, 24, 23, 22, 21, 17, 13, 0] rfl) (H.keep [] rfl rfl) (⟨rfl, by have := cnt_le l 0; omega, Nat.zero_le _, by omega⟩) ?_
        clear hT H
        rintro ⟨f, a9, u9⟩ a w8 hJ hT H
        replace hT := hT.keep [7, 8, 24, 23, 22, 21, 17, 13, 0] rfl
        replace H := H.keep [] rfl rfl
        obtain ⟨hrun, hcnt, ha9, hu9⟩ := hJ
        refine wp_seq_k fun K31 hK31 => ?_
        refine wp_seq_k fun K32 hK32 => ?_
        -- region 18 (place.go:82)
        refine Sx.wp_text [(0, .take), (1, .take)] rfl ?_
        refine Sx.st_take hT rfl rfl rfl rfl (Sx.x_move hT rfl rfl) ?_
        clear hT; intro a hT
        refine Sx.st_take hT rfl rfl rfl rfl (Sx.x_flt hT rfl rfl rfl) ?_
        clear hT; intro a hT
        replace hT := hT.keep [47, 7, 8, 24, 23, 22, 21, 17, 13, 0] rfl
        refine Sx.ser_nil ?_
        refine Sx.then_normal (hK32 _ _ ?_)
        clear hK32
        -- cond 6
        refine Sx.wp_if hT rfl (fun hc33 => ?_) (fun hc33 => ?_)
        · try simp only [decide_eq_true_eq, decide_eq_false_iff_not, Bool.not_eq_true', Bool.not_eq_false', Bool.not_eq_true, Bool.not_eq_false, Bool.and_eq_true, Bool.or_eq_false_iff, beq_iff_eq, bne_iff_ne, Int.not_lt, Int.not_le, ne_eq] at hc33
          have hlt : flt a9 fone = true := hc33
          refine wp_skip ?_
          refine Sx.then_normal (hK31 _ _ ?_)
          clear hK31
          refine wp_block ?_
          refine wp_seq_k fun K34 hK34 => ?_
          -- region 19 (place.go:83)
          refine Sx.wp_text [(0, .take), (1, .take)] rfl ?_
          refine Sx.st_take hT rfl rfl rfl rfl (Sx.x_assign hT rfl rfl) ?_
          clear hT; intro a hT
          refine Sx.st_take hT rfl rfl rfl rfl (Sx.x_assign hT rfl rfl) ?_
          clear hT; intro a hT
          replace hT := hT.keep [10, 9, 47, 7, 8, 24, 23, 22, 21, 17, 13, 0] rfl
          refine Sx.ser_nil ?_
          refine Sx.then_normal (hK34 _ _ ?_)
          clear hK34
          refine wp_seq_k fun K35 hK35 => ?_
          refine wp_seq_k fun K36 hK36 => ?_
          -- region 20 (place.go:84)
          refine Sx.wp_text [(0, .take), (1, .take), (2, .take)] rfl ?_
          refine Sx.st_take hT rfl rfl rfl rfl (Sx.x_move hT rfl rfl) ?_
          clear hT; intro a hT
          refine Sx.st_take hT rfl rfl rfl rfl (Sx.x_len_slice hT rfl rfl Try.underlying28 rfl) ?_
          clear hT; intro a hT
          refine Sx.st_take hT rfl rfl rfl rfl (Sx.x_move hT rfl rfl) ?_
          clear hT; intro a hT
          replace hT := hT.keep [50, 49, 48, 10, 9, 47, 7, 8, 24, 23, 22, 21, 17, 13, 0] rfl
          refine Sx.ser_nil ?_
          refine Sx.then_normal (hK36 _ _ ?_)
          clear hK36
          refine wp_block ?_
          -- loop 3
          refine Sx.wp_loopH (G := Nat) (fun k => [(50, .int .i64 (k : Int)), (9, .float .f64 (scanF a9 (l.take k)).1), (10, .int .i64 ((scanF a9 (l.take k)).2 : Int))]) (fun k => []) (fun k => k ≤ l.length) (fun k => l.length - k) 0 (hT.keep [50, 9, 10, 49, 48, 47, 7, 8, 24, 23, 22, 21, 17, 13, 0] rfl) (H.keep [] rfl rfl) (Nat.zero_le _) ?_
          clear hT H
          rintro k a w9 hJ hT H
          replace hT := hT.keep [50, 9, 10, 49, 48, 47, 7, 8, 24, 23, 22, 21, 17, 13, 0] rfl
          replace H := H.keep [] rfl rfl
          have hk : k ≤ l.length := hJ
          have hsl := scan_le a9 (l.take k)
          have hsl2 := List.length_take_le k l
          refine wp_seq_k fun K37 hK37 => ?_
          -- region 21 (place.go:84)
          refine Sx.wp_text [(0, .take)] rfl ?_
          refine Sx.st_take hT rfl rfl rfl rfl ((fun w => Sx.x_lt w hT rfl rfl rfl)) ?_
          clear hT; intro a hT
          replace hT := hT.keep [51, 50, 9, 10, 49, 48, 47, 7, 8, 24, 23, 22, 21, 17, 13, 0] rfl
          refine Sx.ser_nil ?_
          refine Sx.then_normal (hK37 _ _ ?_)
          clear hK37
          refine wp_seq_k fun K38 hK38 => ?_
          -- cond 7
          refine Sx.wp_if hT rfl (fun hc39 => ?_) (fun hc39 => ?_)
          · try simp only [decide_eq_true_eq, decide_eq_false_iff_not, Bool.not_eq_true', Bool.not_eq_false', Bool.not_eq_true, Bool.not_eq_false, Bool.and_eq_true, Bool.or_eq_false_iff, beq_iff_eq, bne_iff_ne, Int.not_lt, Int.not_le, ne_eq] at hc39
            obtain ⟨o3, ho3⟩ : ∃ o, l[k]? = some o := ⟨_, List.getElem?_eq_getElem (by omega)⟩
            refine wp_skip ?_
            refine Sx.then_normal (hK38 _ _ ?_)
            clear hK38
            refine wp_seq_k fun K40 hK40 => ?_
            refine wp_block ?_
            refine wp_seq_k fun K41 hK41 => ?_
            -- region 22 (place.go:84)
            refine Sx.wp_text [(0, .take), (1, .run), (2, .run), (3, .run)] rfl ?_
            refine Sx.st_take hT rfl rfl rfl rfl (Sx.x_index (k := k) hT rfl Try.underlying28 Try.ti37 (by first | exact (R.at H.ext).sv | exact ss_to (R.at H.ext) (by omega)) rfl rfl (by first | rfl | omega) (by omega)) ?_
            clear hT; intro a hT
            refine Sx.st_run hT rfl rfl rfl rfl (Sx.y_loadS hT rfl Try.underlying37 Try.ti37 rfl ((R.at H.ext).cs Rg.len ho3) (by rfl)) ?_
            clear hT; intro a hT
            refine Sx.st_eff hT rfl rfl rfl rfl (Sx.y_alloc hT rfl Try.ti37 rfl _) ?_
            clear hT; rintro _ w10 ⟨b3, rfl, N⟩ a hT
            replace H := H.new N; clear N
            refine Sx.st_act hT rfl rfl rfl (Sx.y_storeS hT rfl Try.ti37 rfl rfl rfl rfl rfl (H.blk 0 rfl) rfl) ?_
            rintro w11 ⟨hb, E, _⟩
            replace H := H.setB 0 rfl hb E rfl; clear hb E
            replace hT := hT.keep [12, 51, 50, 9, 10, 49, 48, 47, 7, 8, 24, 23, 22, 21, 17, 13, 0] rfl
            refine Sx.ser_nil ?_
            refine Sx.then_normal (hK41 _ _ ?_)
            clear hK41
            refine wp_seq_k fun K42 hK42 => ?_
            -- region 23 (place.go:85)
            refine Sx.wp_text [(0, .take), (1, .run), (2, .take), (3, .take)] rfl ?_
            refine Sx.st_take hT rfl rfl rfl rfl (Sx.x_fieldAddr hT rfl Try.fa37_2 rfl) ?_
            clear hT; intro a hT
            refine Sx.st_run hT rfl rfl rfl rfl (Sx.x_load1 hT rfl Try.fl35 rfl ((H.blk 0 rfl).nth rfl)) ?_
            clear hT; intro a hT
            refine Sx.st_take hT rfl rfl rfl rfl (Sx.x_move hT rfl rfl) ?_
            clear hT; intro a hT
            refine Sx.st_take hT rfl rfl rfl rfl (Sx.x_feq hT rfl rfl rfl) ?_
            clear hT; intro a hT
            replace hT := hT.keep [57, 12, 51, 50, 9, 10, 49, 48, 47, 7, 8, 24, 23, 22, 21, 17, 13, 0] rfl
            refine Sx.ser_nil ?_
            refine Sx.then_normal (hK42 _ _ ?_)
            clear hK42
            -- cond 8
            refine Sx.wp_if hT rfl (fun hc43 => ?_) (fun hc43 => ?_)
            · try simp only [decide_eq_true_eq, decide_eq_false_iff_not, Bool.not_eq_true', Bool.not_eq_false', Bool.not_eq_true, Bool.not_eq_false, Bool.and_eq_true, Bool.or_eq_false_iff, beq_iff_eq, bne_iff_ne, Int.not_lt, Int.not_le, ne_eq] at hc43
              have hq : Op.floatEq .f64 o3.lo a9 = true := hc43
              refine wp_seq_k fun K44 hK44 => ?_
              -- region 24 (place.go:86)
              refine Sx.wp_text [(0, .take), (1, .run), (2, .take)] rfl ?_
              refine Sx.st_take hT rfl rfl rfl rfl (Sx.x_fieldAddr hT rfl Try.fa37_3 rfl) ?_
              clear hT; intro a hT
              refine Sx.st_run hT rfl rfl rfl rfl (Sx.x_load1 hT rfl Try.fl35 rfl ((H.blk 0 rfl).nth rfl)) ?_
              clear hT; intro a hT
              refine Sx.st_take hT rfl rfl rfl rfl (Sx.x_assign hT rfl rfl) ?_
              clear hT; intro a hT
              replace hT := hT.keep [9, 57, 12, 51, 50, 10, 49, 48, 47, 7, 8, 24, 23, 22, 21, 17, 13, 0] rfl
              refine Sx.ser_nil ?_
              refine Sx.then_normal (hK44 _ _ ?_)
              clear hK44
              -- region 25 (place.go:87)
              refine Sx.wp_text [(0, .take), (1, .take), (2, .take)] rfl ?_
              refine Sx.st_take hT rfl rfl rfl rfl (Sx.x_move hT rfl rfl) ?_
              clear hT; intro a hT
              refine Sx.st_take hT rfl rfl rfl rfl ((fun w => Sx.x_add w hT rfl rfl rfl (Sx.wrap64 (by omega)))) ?_
              clear hT; intro a hT
              refine Sx.st_take hT rfl rfl rfl rfl (Sx.x_assign hT rfl rfl) ?_
              clear hT; intro a hT
              replace hT := hT.keep [10, 9, 57, 12, 51, 50, 49, 48, 47, 7, 8, 24, 23, 22, 21, 17, 13, 0] rfl
              refine Sx.ser_nil ?_
              refine Sx.block_normal ?_
              refine Sx.then_normal (hK40 _ _ ?_)
              clear hK40
              -- region 26 (place.go:84)
              refine Sx.wp_text [(0, .take), (1, .take)] rfl ?_
              refine Sx.st_take hT rfl rfl rfl rfl ((fun w => Sx.x_add w hT rfl rfl rfl (Sx.wrap64 (by omega)))) ?_
              clear hT; intro a hT
              refine Sx.st_take hT rfl rfl rfl rfl (Sx.x_move hT rfl rfl) ?_
              clear hT; intro a hT
              replace hT := hT.keep [50, 10, 9, 57, 12, 51, 49, 48, 47, 7, 8, 24, 23, 22, 21, 17, 13, 0] rfl
              refine Sx.ser_nil ?_
              refine Sx.then_normal ?_
              exact ⟨k + 1, (by omega), ((hT.keep [50, 9, 10, 49, 48, 47, 7, 8, 24, 23, 22, 21, 17, 13, 0] rfl).conv (by rw [scan_yes ho3 hq]; rfl)), (H.keep [] rfl rfl), by omega⟩
            · try simp only [decide_eq_true_eq, decide_eq_false_iff_not, Bool.not_eq_true', Bool.not_eq_false', Bool.not_eq_true, Bool.not_eq_false, Bool.and_eq_true, Bool.or_eq_false_iff, beq_iff_eq, bne_iff_ne, Int.not_lt, Int.not_le, ne_eq] at hc43
              have hq : Op.floatEq .f64 o3.lo a9 = false := hc43
              refine wp_skip ?_
              refine Sx.block_normal ?_
              refine Sx.then_normal (hK40 _ _ ?_)
              clear hK40
              -- region 26 (place.go:84)
              refine Sx.wp_text [(0, .take), (1, .take)] rfl ?_
              refine Sx.st_take hT rfl rfl rfl rfl ((fun w => Sx.x_add w hT rfl rfl rfl (Sx.wrap64 (by omega)))) ?_
              clear hT; intro a hT
              refine Sx.st_take hT rfl rfl rfl rfl (Sx.x_move hT rfl rfl) ?_
              clear hT; intro a hT
              replace hT := hT.keep [50, 57, 12, 51, 9, 10, 49, 48, 47, 7, 8, 24, 23, 22, 21, 17, 13, 0] rfl
              refine Sx.ser_nil ?_
              refine Sx.then_normal ?_
              exact ⟨k + 1, (by omega), ((hT.keep [50, 9, 10, 49, 48, 47, 7, 8, 24, 23, 22, 21, 17, 13, 0] rfl).conv (by rw [scan_no ho3 hq]; rfl)), (H.keep [] rfl rfl), by omega⟩
          · try simp only [decide_eq_true_eq, decide_eq_false_iff_not, Bool.not_eq_true', Bool.not_eq_false', Bool.not_eq_true, Bool.not_eq_false, Bool.and_eq_true, Bool.or_eq_false_iff, beq_iff_eq, bne_iff_ne, Int.not_lt, Int.not_le, ne_eq] at hc39
            have hkl : k = l.length := by omega
            rw [hkl, List.take_length] at hT
            refine wp_exit ?_
            refine Sx.then_exit ?_
            refine Sx.then_exit ?_
            refine Sx.block_exit ?_
            refine Sx.then_normal (hK35 _ _ ?_)
            clear hK35
            refine wp_seq_k fun K45 hK45 => ?_
            refine wp_seq_k fun K46 hK46 => ?_
            -- region 27 (place.go:90)
            refine Sx.wp_text [(0, .take), (1, .take)] rfl ?_
            refine Sx.st_take hT rfl rfl rfl rfl (Sx.x_move hT rfl rfl) ?_
            clear hT; intro a hT
            refine Sx.st_take hT rfl rfl rfl rfl ((fun w => Sx.x_ne w hT rfl rfl rfl)) ?_
            clear hT; intro a hT
            replace hT := hT.keep [64, 51, 50, 9, 10, 49, 48, 47, 7, 8, 24, 23, 22, 21, 17, 13, 0] rfl
            refine Sx.ser_nil ?_
            refine Sx.then_normal (hK46 _ _ ?_)
            clear hK46
            -- cond 9
            refine Sx.wp_if hT rfl (fun hc47 => ?_) (fun hc47 => ?_)
            · try simp only [decide_eq_true_eq, decide_eq_false_iff_not, Bool.not_eq_true', Bool.not_eq_false', Bool.not_eq_true, Bool.not_eq_false, Bool.and_eq_true, Bool.or_eq_false_iff, beq_iff_eq, bne_iff_ne, Int.not_lt, Int.not_le, ne_eq] at hc47
              have hr14 : runF l f a9 u9 = 14 := run_bad hlt (by omega) (by omega)
              refine wp_seq_k fun K48 hK48 => ?_
              -- region 28 (place.go:91)
              refine Sx.wp_text [(0, .take)] rfl ?_
              refine Sx.st_take hT rfl rfl rfl rfl (Sx.x_assign hT rfl rfl) ?_
              clear hT; intro a hT
              replace hT := hT.keep [2, 64, 51, 50, 9, 10, 49, 48, 47, 7, 8, 24, 23, 22, 21, 17, 13, 0] rfl
              refine Sx.ser_nil ?_
              refine Sx.then_normal (hK48 _ _ ?_)
              clear hK48
              refine wp_ret ?_
              refine Sx.then_ret ?_
              refine Sx.block_ret ?_
              refine Sx.then_ret ?_
              refine Sx.block_ret ?_
              refine Sx.then_ret ?_
              refine Sx.done1 (fn := Try.f28) hT rfl (.tmp (hT.get 2 _ rfl)) ?_
              refine ⟨ret_i ?_, H.ext⟩
              clear hT H
              unfold checkF
              rw [if_neg (by omega), if_neg (by omega)]
              rw [hba, if_neg (by decide), ← hrun]
              rw [hr14]
            · try simp only [decide_eq_true_eq, decide_eq_false_iff_not, Bool.not_eq_true', Bool.not_eq_false', Bool.not_eq_true, Bool.not_eq_false, Bool.and_eq_true, Bool.or_eq_false_iff, beq_iff_eq, bne_iff_ne, Int.not_lt, Int.not_le, ne_eq] at hc47
              have h1m : (scanF a9 l).2 = 1 := by omega
              refine wp_skip ?_
              refine Sx.then_normal (hK45 _ _ ?_)
              clear hK45
              refine wp_seq_k fun K49 hK49 => ?_
              -- region 29 (place.go:93)
              refine Sx.wp_text [(0, .take), (1, .take)] rfl ?_
              refine Sx.st_take hT rfl rfl rfl rfl (Sx.x_move hT rfl rfl) ?_
              clear hT; intro a hT
              refine Sx.st_take hT rfl rfl rfl rfl (Sx.x_assign hT rfl rfl) ?_
              clear hT; intro a hT
              replace hT := hT.keep [7, 64, 51, 50, 9, 10, 49, 48, 47, 8, 24, 23, 22, 21, 17, 13, 0] rfl
              refine Sx.ser_nil ?_
              refine Sx.then_normal (hK49 _ _ ?_)
              clear hK49
              -- region 30 (place.go:94)
              refine Sx.wp_text [(0, .take), (1, .take), (2, .take)] rfl ?_
              refine Sx.st_take hT rfl rfl rfl rfl (Sx.x_move hT rfl rfl) ?_
              clear hT; intro a hT
              refine Sx.st_take hT rfl rfl rfl rfl ((fun w => Sx.x_add w hT rfl rfl rfl (Sx.wrap64 (by omega)))) ?_
              clear hT; intro a hT
              refine Sx.st_take hT rfl rfl rfl rfl (Sx.x_assign hT rfl rfl) ?_
              clear hT; intro a hT
              replace hT := hT.keep [8, 7, 64, 51, 50, 9, 10, 49, 48, 47, 24, 23, 22, 21, 17, 13, 0] rfl
              refine Sx.ser_nil ?_
              refine Sx.block_normal ?_
              refine Sx.then_normal ?_
              have hst := run_step ha9 hmay hw h1m
              exact ⟨(f - 1, (scanF a9 l).1, u9 + 1), ⟨(run_eq hlt h1m (by omega)).symm.trans hrun, by show cntF l _ < f - 1; omega, hst.1, by show u9 + 1 + (f - 1) = _; omega⟩, (hT.keep [7, 8, 24, 23, 22, 21, 17, 13, 0] rfl), (H.keep [] rfl rfl), by show f - 1 < f; omega⟩
        · try simp only [decide_eq_true_eq, decide_eq_false_iff_not, Bool.not_eq_true', Bool.not_eq_false', Bool.not_eq_true, Bool.not_eq_false, Bool.and_eq_true, Bool.or_eq_false_iff, beq_iff_eq, bne_iff_ne, Int.not_lt, Int.not_le, ne_eq] at hc33
          have hlt : flt a9 fone = false := hc33
          refine wp_exit ?_
          refine Sx.then_exit ?_
          refine Sx.then_exit ?_
          refine Sx.block_exit ?_
          refine Sx.then_normal (hK30 _ _ ?_)
          clear hK30
          refine wp_seq_k fun K50 hK50 => ?_
          refine wp_seq_k fun K51 hK51 => ?_
          -- region 31 (place.go:96)
          refine Sx.wp_text [(0, .take), (1, .take), (2, .take), (3, .take)] rfl ?_
          refine Sx.st_take hT rfl rfl rfl rfl (Sx.x_move hT rfl rfl) ?_
          clear hT; intro a hT
          refine Sx.st_take hT rfl rfl rfl rfl (Sx.x_move hT rfl rfl) ?_
          clear hT; intro a hT
          refine Sx.st_take hT rfl rfl rfl rfl (Sx.x_len_slice hT rfl rfl Try.underlying28 rfl) ?_
          clear hT; intro a hT
          refine Sx.st_take hT rfl rfl rfl rfl ((fun w => Sx.x_ne w hT rfl rfl rfl)) ?_
          clear hT; intro a hT
          replace hT := hT.keep [71, 47, 7, 8, 24, 23, 22, 21, 17, 13, 0] rfl
          refine Sx.ser_nil ?_
          refine Sx.then_normal (hK51 _ _ ?_)
          clear hK51
          -- cond 10
          refine Sx.wp_if hT rfl (fun hc52 => ?_) (fun hc52 => ?_)
          · try simp only [decide_eq_true_eq, decide_eq_false_iff_not, Bool.not_eq_true', Bool.not_eq_false', Bool.not_eq_true, Bool.not_eq_false, Bool.and_eq_true, Bool.or_eq_false_iff, beq_iff_eq, bne_iff_ne, Int.not_lt, Int.not_le, ne_eq] at hc52
            refine wp_seq_k fun K53 hK53 => ?_
            -- region 32 (place.go:97)
            refine Sx.wp_text [(0, .take)] rfl ?_
            refine Sx.st_take hT rfl rfl rfl rfl (Sx.x_assign hT rfl rfl) ?_
            clear hT; intro a hT
            replace hT := hT.keep [2, 71, 47, 7, 8, 24, 23, 22, 21, 17, 13, 0] rfl
            refine Sx.ser_nil ?_
            refine Sx.then_normal (hK53 _ _ ?_)
            clear hK53
            refine wp_ret ?_
            refine Sx.then_ret ?_
            refine Sx.done1 (fn := Try.f28) hT rfl (.tmp (hT.get 2 _ rfl)) ?_
            refine ⟨ret_i ?_, H.ext⟩
            clear hT H
            unfold checkF
            rw [if_neg (by omega), if_neg (by omega)]
            rw [hba, if_neg (by decide), ← hrun]
            rw [run_end hlt (by omega), if_neg (by omega)]
          · try simp only [decide_eq_true_eq, decide_eq_false_iff_not, Bool.not_eq_true', Bool.not_eq_false', Bool.not_eq_true, Bool.not_eq_false, Bool.and_eq_true, Bool.or_eq_false_iff, beq_iff_eq, bne_iff_ne, Int.not_lt, Int.not_le, ne_eq] at hc52
            refine wp_skip ?_
            refine Sx.then_normal (hK50 _ _ ?_)
            clear hK50
            refine wp_seq_k fun K54 hK54 => ?_
            -- region 33 (place.go:99)
            refine Sx.wp_text [(0, .take)] rfl ?_
            refine Sx.st_take hT rfl rfl rfl rfl (Sx.x_assign hT rfl rfl) ?_
            clear hT; intro a hT
            replace hT := hT.keep [2, 71, 47, 7, 8, 24, 23, 22, 21, 17, 13, 0] rfl
            refine Sx.ser_nil ?_
            refine Sx.then_normal (hK54 _ _ ?_)
            clear hK54
            refine wp_ret ?_
            refine Sx.done1 (fn := Try.f28) hT rfl (.tmp (hT.get 2 _ rfl)) ?_
            refine ⟨ret_i ?_, H.ext⟩
            clear hT H
            unfold checkF
            rw [if_neg (by omega), if_neg (by omega)]
            rw [hba, if_neg (by decide), ← hrun]
            rw [run_end hlt (by omega), if_pos (by omega)]

end Go.Proofs.Ytakohabmcgponaa
