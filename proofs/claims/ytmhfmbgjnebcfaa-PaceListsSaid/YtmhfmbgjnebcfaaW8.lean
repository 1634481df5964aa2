/- Walks: PaceLists, PaceSorts. -/
import Derived.Test.YtmhfmbgjnebcfaaW5
import Derived.Test.YtmhfmbgjnebcfaaN4
set_option linter.unusedSimpArgs false
set_option linter.unusedVariables false
namespace Go.Proofs.Ytmhfmbgjnebcfaa
open Sx
theorem Try.can5 : Sx.Can Try.prog 5 := ⟨_, Try.func5, by kernel_rfl, rfl⟩
theorem Try.can8 : Sx.Can Try.prog 8 := ⟨_, Try.func8, by kernel_rfl, rfl⟩
theorem Lists_calls (q : Nat) (hq : q < 2 ^ 64) (ad : Option Addr) (c : Nat) (l : List Nat) (w : World) (hs : Ss w ad fcell 1 l) (hl : l.length ≤ 9223372036854775807) (hnil : ad = none → l.length = 0 ∧ c = 0) (hb : ∀ b ∈ l, b < 2 ^ 64) : Calls Try.prog 8 #[.slice ad l.length c, .float .f64 q] w fun e w' => e = .returned (.bool true) ∧ Ext No w w' := by
  have R : Ro w No _ := Ro.of fun w' x => hs.ext_no x
  refine Sx.calls_into Try.func8 rfl Try.ntmps8 rfl fun a hT => ?_
  replace hT := hT.keep [0, 1] rfl
  have H : Sx.Hp w (Sx.No) w [] := Sx.Hp.start _ _
  refine wp_seq_k fun K1 hK1 => ?_
  -- region 0 (law.go:32)
  refine Sx.wp_text [(0, .take)] rfl ?_
  refine Sx.st_take hT rfl rfl rfl rfl (Sx.x_assign hT rfl rfl) ?_
  clear hT; intro a hT
  replace hT := hT.keep [4, 0, 1] rfl
  refine Sx.ser_nil ?_
  refine Sx.then_normal (hK1 _ _ ?_)
  clear hK1
  refine wp_seq_k fun K2 hK2 => ?_
  refine wp_seq_k fun K3 hK3 => ?_
  -- region 1 (law.go:33)
  refine Sx.wp_text [(0, .run), (1, .take)] rfl ?_
  refine Sx.st_call hT rfl rfl rfl rfl rfl Try.can10 rfl (first_calls _) ?_
  rintro _ w1 ⟨rfl, E⟩
  refine ⟨_, rfl, ?_⟩
  clear hT; intro a hT
  replace H := H.pure E; clear E
  refine Sx.st_take hT rfl rfl rfl rfl (Sx.x_not hT rfl rfl) ?_
  clear hT; intro a hT
  replace hT := hT.keep [14, 4, 0, 1] rfl
  refine Sx.ser_nil ?_
  refine Sx.then_normal (hK3 _ _ ?_)
  clear hK3
  refine Sx.wp_if hT rfl (fun h => by cases h) (fun _ => ?_)
  refine wp_skip ?_
  refine Sx.then_normal (hK2 _ _ ?_)
  clear hK2
  refine wp_seq_k fun K4 hK4 => ?_
  refine wp_seq_k fun K5 hK5 => ?_
  -- region 3 (law.go:36)
  refine Sx.wp_text [(0, .take), (1, .take), (2, .take)] rfl ?_
  refine Sx.st_take hT rfl rfl rfl rfl (Sx.x_move hT rfl rfl) ?_
  clear hT; intro a hT
  refine Sx.st_take hT rfl rfl rfl rfl (Sx.x_len_slice hT rfl rfl Try.underlying30 rfl) ?_
  clear hT; intro a hT
  refine Sx.st_take hT rfl rfl rfl rfl ((fun w => Sx.x_gt w hT rfl rfl rfl)) ?_
  clear hT; intro a hT
  replace hT := hT.keep [17, 14, 4, 0, 1] rfl
  refine Sx.ser_nil ?_
  refine Sx.then_normal (hK5 _ _ ?_)
  clear hK5
  -- cond 1
  refine Sx.wp_if hT rfl (fun hc6 => ?_) (fun hc6 => ?_)
  · try simp only [decide_eq_true_eq, decide_eq_false_iff_not, Bool.not_eq_true', Bool.not_eq_false', Bool.not_eq_true, Bool.not_eq_false, Bool.and_eq_true, Bool.or_eq_false_iff, beq_iff_eq, bne_iff_ne, Int.not_lt, Int.not_le, ne_eq] at hc6
    refine wp_seq_k fun K7 hK7 => ?_
    -- region 4 (law.go:37)
    refine Sx.wp_text [(0, .run), (1, .take)] rfl ?_
    refine Sx.st_call hT rfl rfl rfl rfl rfl Try.can10 rfl (first_calls _) ?_
    rintro _ w2 ⟨rfl, E⟩
    refine ⟨_, rfl, ?_⟩
    clear hT; intro a hT
    replace H := H.pure E; clear E
    refine Sx.st_take hT rfl rfl rfl rfl (Sx.x_assign hT rfl rfl) ?_
    clear hT; intro a hT
    replace hT := hT.keep [4, 17, 14, 0, 1] rfl
    refine Sx.ser_nil ?_
    refine Sx.then_normal (hK7 _ _ ?_)
    clear hK7
    refine wp_ret ?_
    refine Sx.then_ret ?_
    refine Sx.done1 (fn := Try.f8) hT rfl (.tmp (hT.get 4 _ rfl)) ?_
    exact ⟨rfl, H.ext⟩
  · try simp only [decide_eq_true_eq, decide_eq_false_iff_not, Bool.not_eq_true', Bool.not_eq_false', Bool.not_eq_true, Bool.not_eq_false, Bool.and_eq_true, Bool.or_eq_false_iff, beq_iff_eq, bne_iff_ne, Int.not_lt, Int.not_le, ne_eq] at hc6
    have hl2 : l.length ≤ 1000000 := by omega
    refine wp_skip ?_
    refine Sx.then_normal (hK4 _ _ ?_)
    clear hK4
    refine wp_seq_k fun K8 hK8 => ?_
    -- region 5 (law.go:39)
    refine Sx.wp_text [(0, .run), (1, .take), (2, .run), (3, .take)] rfl ?_
    refine Sx.st_eff hT rfl rfl rfl rfl (Sx.y_slice0 hT rfl Try.underlying30 Try.ti22 _) ?_
    clear hT; rintro _ w3 ⟨b1, rfl, N⟩ a hT
    replace H := H.new N; clear N
    replace H := H.rowB 1 0 rfl rfl
    refine Sx.st_take hT rfl rfl rfl rfl (Sx.x_move hT rfl rfl) ?_
    clear hT; intro a hT
    refine Sx.st_eff hT rfl rfl rfl rfl (Sx.x_append hT rfl rfl Try.underlying30 Try.ti22 rfl (by decide) rfl rfl (H.row 0 rfl) ((R.at H.ext).sv) (flat_one fcell_one l) hnil (by unfold maxLen; omega) (by omega)) ?_
    rintro _ w4 ⟨ad4, c4, rfl, hr, E, hown, -⟩
    clear hT; intro a hT
    replace H := H.setR 0 rfl hr E hown rfl; clear hr E hown
    rw [Nat.zero_add, List.nil_append] at H
    rw [Nat.zero_add] at hT
    refine Sx.st_take hT rfl rfl rfl rfl (Sx.x_assign hT rfl rfl) ?_
    clear hT; intro a hT
    replace hT := hT.keep [5, 17, 14, 4, 0, 1] rfl
    refine Sx.ser_nil ?_
    refine Sx.then_normal (hK8 _ _ ?_)
    clear hK8
    refine wp_seq_k fun K9 hK9 => ?_
    -- region 6 (law.go:40)
    refine Sx.wp_text [(0, .take), (1, .take), (2, .run), (3, .take), (4, .take), (5, .take), (6, .take), (7, .take)] rfl ?_
    refine Sx.st_take hT rfl rfl rfl rfl (Sx.x_move hT rfl rfl) ?_
    clear hT; intro a hT
    refine Sx.st_take hT rfl rfl rfl rfl (Sx.x_move hT rfl rfl) ?_
    clear hT; intro a hT
    refine Sx.st_call hT rfl rfl rfl rfl rfl Try.can16 rfl (Quant_calls _ _ l _ ((H.row 0 rfl).ssn rfl) hl2 q hq hb) ?_
    rintro _ w5 ⟨x1, r1, rfl, hQ1, E⟩
    refine ⟨_, rfl, ?_⟩
    clear hT; intro a hT
    replace H := H.pure E; clear E
    refine Sx.st_take hT rfl rfl rfl rfl (Sx.x_move hT rfl rfl) ?_
    clear hT; intro a hT
    refine Sx.st_take hT rfl rfl rfl rfl (Sx.x_extractL hT rfl rfl rfl) ?_
    clear hT; intro a hT
    refine Sx.st_take hT rfl rfl rfl rfl (Sx.x_extractL hT rfl rfl rfl) ?_
    clear hT; intro a hT
    refine Sx.st_take hT rfl rfl rfl rfl (Sx.x_assign hT rfl rfl) ?_
    clear hT; intro a hT
    refine Sx.st_take hT rfl rfl rfl rfl (Sx.x_assign hT rfl rfl) ?_
    clear hT; intro a hT
    replace hT := hT.keep [7, 6, 5, 17, 14, 4, 0, 1] rfl
    refine Sx.ser_nil ?_
    refine Sx.then_normal (hK9 _ _ ?_)
    clear hK9
    refine wp_seq_k fun K10 hK10 => ?_
    -- region 7 (law.go:41)
    refine Sx.wp_text [(0, .take), (1, .take), (2, .run), (3, .take), (4, .take), (5, .take), (6, .take), (7, .take)] rfl ?_
    refine Sx.st_take hT rfl rfl rfl rfl (Sx.x_move hT rfl rfl) ?_
    clear hT; intro a hT
    refine Sx.st_take hT rfl rfl rfl rfl (Sx.x_move hT rfl rfl) ?_
    clear hT; intro a hT
    refine Sx.st_call hT rfl rfl rfl rfl rfl Try.can25 rfl (xQuant_calls _ _ l _ (R.at H.ext) hl2 q hq hb) ?_
    rintro _ w6 ⟨x2, r2, rfl, hQ2, E⟩
    refine ⟨_, rfl, ?_⟩
    clear hT; intro a hT
    replace H := H.pure E; clear E
    obtain ⟨rfl, rfl⟩ := hQ1.one hb hQ2
    refine Sx.st_take hT rfl rfl rfl rfl (Sx.x_move hT rfl rfl) ?_
    clear hT; intro a hT
    refine Sx.st_take hT rfl rfl rfl rfl (Sx.x_extractL hT rfl rfl rfl) ?_
    clear hT; intro a hT
    refine Sx.st_take hT rfl rfl rfl rfl (Sx.x_extractL hT rfl rfl rfl) ?_
    clear hT; intro a hT
    refine Sx.st_take hT rfl rfl rfl rfl (Sx.x_assign hT rfl rfl) ?_
    clear hT; intro a hT
    refine Sx.st_take hT rfl rfl rfl rfl (Sx.x_assign hT rfl rfl) ?_
    clear hT; intro a hT
    replace hT := hT.keep [9, 8, 7, 6, 5, 17, 14, 4, 0, 1] rfl
    refine Sx.ser_nil ?_
    refine Sx.then_normal (hK10 _ _ ?_)
    clear hK10
    refine wp_seq_k fun K11 hK11 => ?_
    -- region 8 (law.go:42)
    refine Sx.wp_text [(0, .take), (1, .run), (2, .take), (3, .run), (4, .take), (5, .take)] rfl ?_
    refine Sx.st_take hT rfl rfl rfl rfl (Sx.x_move hT rfl rfl) ?_
    clear hT; intro a hT
    refine Sx.st_call hT rfl rfl rfl rfl rfl Try.can18 rfl (Sorted_calls _ _ l _ ((H.row 0 rfl).ssn rfl) hl2 hb) ?_
    rintro _ w7 ⟨ad71, c71, s71, rfl, hso71, K⟩
    refine ⟨_, rfl, ?_⟩
    clear hT; intro a hT
    replace H := H.more K rfl; clear K
    refine Sx.st_take hT rfl rfl rfl rfl (Sx.x_move hT rfl rfl) ?_
    clear hT; intro a hT
    refine Sx.st_call hT rfl rfl rfl rfl rfl Try.can26 rfl (xSorted_calls _ _ l _ (R.at H.ext) hl2 hb) ?_
    rintro _ w8 ⟨ad73, c73, s73, rfl, hso73, K⟩
    refine ⟨_, rfl, ?_⟩
    clear hT; intro a hT
    replace H := H.more K rfl; clear K
    obtain rfl := sort_one hb hso71 hso73
    have hsl := sort_len hso71
    refine Sx.st_take hT rfl rfl rfl rfl (Sx.x_assign hT rfl rfl) ?_
    clear hT; intro a hT
    refine Sx.st_take hT rfl rfl rfl rfl (Sx.x_assign hT rfl rfl) ?_
    clear hT; intro a hT
    replace hT := hT.keep [11, 10, 9, 8, 7, 6, 5, 17, 14, 4, 0, 1] rfl
    refine Sx.ser_nil ?_
    refine Sx.then_normal (hK11 _ _ ?_)
    clear hK11
    refine wp_seq_k fun K12 hK12 => ?_
    refine wp_seq_k fun K13 hK13 => ?_
    -- region 9 (law.go:43)
    refine Sx.wp_text [(0, .take), (1, .take), (2, .run), (3, .take), (4, .take), (5, .take), (6, .take), (7, .take), (8, .take), (9, .take), (10, .take), (11, .take), (12, .take), (13, .take), (14, .take), (15, .take), (16, .take), (17, .take), (18, .run), (19, .take), (20, .run), (21, .run), (22, .take), (23, .take)] rfl ?_
    refine Sx.st_take hT rfl rfl rfl rfl (Sx.x_move hT rfl rfl) ?_
    clear hT; intro a hT
    refine Sx.st_take hT rfl rfl rfl rfl (Sx.x_move hT rfl rfl) ?_
    clear hT; intro a hT
    refine Sx.st_call hT rfl rfl rfl rfl rfl Try.can15 rfl (same_calls _ _ _) ?_
    rintro _ w9 ⟨rfl, E⟩
    refine ⟨_, rfl, ?_⟩
    clear hT; intro a hT
    replace H := H.pure E; clear E
    refine Sx.st_take hT rfl rfl rfl rfl (Sx.x_not hT rfl rfl) ?_
    clear hT; intro a hT
    refine Sx.st_take hT rfl rfl rfl rfl (Sx.x_move hT rfl rfl) ?_
    clear hT; intro a hT
    -- guard (9, 4)
    refine Sx.Sl.two hT 42 rfl (fun hc14 hT => ?_) (fun hc14 hT => ?_)
    · exfalso
      try simp only [decide_eq_true_eq, decide_eq_false_iff_not, Bool.not_eq_true', Bool.not_eq_false', Bool.not_eq_true, Bool.not_eq_false, Bool.and_eq_true, Bool.or_eq_false_iff, beq_iff_eq, bne_iff_ne, Int.not_lt, Int.not_le, ne_eq] at hc14
      first | (simp at hc14; done) | (simp at hc14; omega)
    · try simp only [decide_eq_true_eq, decide_eq_false_iff_not, Bool.not_eq_true', Bool.not_eq_false', Bool.not_eq_true, Bool.not_eq_false, Bool.and_eq_true, Bool.or_eq_false_iff, beq_iff_eq, bne_iff_ne, Int.not_lt, Int.not_le, ne_eq] at hc14
      refine Sx.st_take hT rfl rfl rfl rfl (Sx.x_move hT rfl rfl) ?_
      clear hT; intro a hT
      refine Sx.st_take hT rfl rfl rfl rfl (Sx.x_move hT rfl rfl) ?_
      clear hT; intro a hT
      refine Sx.st_take hT rfl rfl rfl rfl ((fun w => Sx.x_ne w hT rfl rfl rfl)) ?_
      clear hT; intro a hT
      refine Sx.st_take hT rfl rfl rfl rfl (Sx.x_pick_f hT rfl rfl rfl) ?_
      clear hT; intro a hT
      refine Sx.st_take hT rfl rfl rfl rfl (Sx.x_move hT rfl rfl) ?_
      clear hT; intro a hT
      -- guard (9, 9)
      refine Sx.Sl.two hT 47 rfl (fun hc15 hT => ?_) (fun hc15 hT => ?_)
      · exfalso
        try simp only [decide_eq_true_eq, decide_eq_false_iff_not, Bool.not_eq_true', Bool.not_eq_false', Bool.not_eq_true, Bool.not_eq_false, Bool.and_eq_true, Bool.or_eq_false_iff, beq_iff_eq, bne_iff_ne, Int.not_lt, Int.not_le, ne_eq] at hc15
        first | (simp at hc15; done) | (simp at hc15; omega)
      · try simp only [decide_eq_true_eq, decide_eq_false_iff_not, Bool.not_eq_true', Bool.not_eq_false', Bool.not_eq_true, Bool.not_eq_false, Bool.and_eq_true, Bool.or_eq_false_iff, beq_iff_eq, bne_iff_ne, Int.not_lt, Int.not_le, ne_eq] at hc15
        refine Sx.st_take hT rfl rfl rfl rfl (Sx.x_move hT rfl rfl) ?_
        clear hT; intro a hT
        refine Sx.st_take hT rfl rfl rfl rfl (Sx.x_len_slice hT rfl rfl Try.underlying30 rfl) ?_
        clear hT; intro a hT
        refine Sx.st_take hT rfl rfl rfl rfl (Sx.x_move hT rfl rfl) ?_
        clear hT; intro a hT
        refine Sx.st_take hT rfl rfl rfl rfl (Sx.x_len_slice hT rfl rfl Try.underlying30 rfl) ?_
        clear hT; intro a hT
        refine Sx.st_take hT rfl rfl rfl rfl ((fun w => Sx.x_ne w hT rfl rfl rfl)) ?_
        clear hT; intro a hT
        refine Sx.st_take hT rfl rfl rfl rfl (Sx.x_pick_f hT rfl rfl rfl) ?_
        clear hT; intro a hT
        refine Sx.st_take hT rfl rfl rfl rfl (Sx.x_move hT rfl rfl) ?_
        clear hT; intro a hT
        -- guard (9, 16)
        refine Sx.Sl.two hT 54 rfl (fun hc16 hT => ?_) (fun hc16 hT => ?_)
        · exfalso
          try simp only [decide_eq_true_eq, decide_eq_false_iff_not, Bool.not_eq_true', Bool.not_eq_false', Bool.not_eq_true, Bool.not_eq_false, Bool.and_eq_true, Bool.or_eq_false_iff, beq_iff_eq, bne_iff_ne, Int.not_lt, Int.not_le, ne_eq] at hc16
          first | (simp at hc16; done) | (simp at hc16; omega)
        · try simp only [decide_eq_true_eq, decide_eq_false_iff_not, Bool.not_eq_true', Bool.not_eq_false', Bool.not_eq_true, Bool.not_eq_false, Bool.and_eq_true, Bool.or_eq_false_iff, beq_iff_eq, bne_iff_ne, Int.not_lt, Int.not_le, ne_eq] at hc16
          refine Sx.st_take hT rfl rfl rfl rfl (Sx.x_move hT rfl rfl) ?_
          clear hT; intro a hT
          refine Sx.st_call hT rfl rfl rfl rfl rfl Try.can27 rfl (Mean_calls _ _ l _ ((H.row 2 rfl).ssn rfl) hl2) ?_
          rintro _ w10 ⟨rfl, E⟩
          refine ⟨_, rfl, ?_⟩
          clear hT; intro a hT
          replace H := H.pure E; clear E
          refine Sx.st_take hT rfl rfl rfl rfl (Sx.x_move hT rfl rfl) ?_
          clear hT; intro a hT
          refine Sx.st_call hT rfl rfl rfl rfl rfl Try.can28 rfl (xMean_calls _ _ l _ (R.at H.ext) hl2) ?_
          rintro _ w11 ⟨rfl, E⟩
          refine ⟨_, rfl, ?_⟩
          clear hT; intro a hT
          replace H := H.pure E; clear E
          refine Sx.st_call hT rfl rfl rfl rfl rfl Try.can15 rfl (same_calls _ _ _) ?_
          rintro _ w12 ⟨rfl, E⟩
          refine ⟨_, rfl, ?_⟩
          clear hT; intro a hT
          replace H := H.pure E; clear E
          refine Sx.st_take hT rfl rfl rfl rfl (Sx.x_not hT rfl rfl) ?_
          clear hT; intro a hT
          refine Sx.st_take hT rfl rfl rfl rfl (Sx.x_pick_f hT rfl rfl rfl) ?_
          clear hT; intro a hT
          replace hT := hT.keep [61, 11, 10, 9, 8, 7, 6, 5, 17, 14, 4, 0, 1] rfl
          refine Sx.ser_nil ?_
          refine Sx.then_normal (hK13 _ _ ?_)
          clear hK13
          -- cond 2
          refine Sx.wp_if hT rfl (fun hc17 => ?_) (fun hc17 => ?_)
          · exfalso
            try simp only [decide_eq_true_eq, decide_eq_false_iff_not, Bool.not_eq_true', Bool.not_eq_false', Bool.not_eq_true, Bool.not_eq_false, Bool.and_eq_true, Bool.or_eq_false_iff, beq_iff_eq, bne_iff_ne, Int.not_lt, Int.not_le, ne_eq] at hc17
            first | (simp at hc17; done) | (simp at hc17; omega)
          · try simp only [decide_eq_true_eq, decide_eq_false_iff_not, Bool.not_eq_true', Bool.not_eq_false', Bool.not_eq_true, Bool.not_eq_false, Bool.and_eq_true, Bool.or_eq_false_iff, beq_iff_eq, bne_iff_ne, Int.not_lt, Int.not_le, ne_eq] at hc17
            refine wp_skip ?_
            refine Sx.then_normal (hK12 _ _ ?_)
            clear hK12
            refine wp_seq_k fun K18 hK18 => ?_
            refine wp_seq_k fun K19 hK19 => ?_
            -- region 11 (law.go:46)
            refine Sx.wp_text [(0, .take)] rfl ?_
            refine Sx.st_take hT rfl rfl rfl rfl (Sx.x_assign hT rfl rfl) ?_
            clear hT; intro a hT
            replace hT := hT.keep [12, 61, 11, 10, 9, 8, 7, 6, 5, 17, 14, 4, 0, 1] rfl
            refine Sx.ser_nil ?_
            refine Sx.then_normal (hK19 _ _ ?_)
            clear hK19
            refine wp_block ?_
            -- loop 0
            refine Sx.wp_loopH (G := Nat) (fun k => [(12, .int .i64 (k : Int))]) (fun k => []) (fun k => k ≤ l.length) (fun k => l.length - k) 0 (hT.keep [12, 61, 11, 10, 9, 8, 7, 6, 5, 17, 14, 0, 1] rfl) (H.keep [0, 1, 2] rfl rfl) (Nat.zero_le _) ?_
            clear hT H
            rintro k a w13 hJ hT H
            replace hT := hT.keep [12, 61, 11, 10, 9, 8, 7, 6, 5, 17, 14, 0, 1] rfl
            replace H := H.keep [0, 1, 2] rfl rfl
            have hk : k ≤ l.length := hJ
            refine wp_seq_k fun K20 hK20 => ?_
            refine wp_seq_k fun K21 hK21 => ?_
            -- region 12 (law.go:46)
            refine Sx.wp_text [(0, .take), (1, .take), (2, .take), (3, .take)] rfl ?_
            refine Sx.st_take hT rfl rfl rfl rfl (Sx.x_move hT rfl rfl) ?_
            clear hT; intro a hT
            refine Sx.st_take hT rfl rfl rfl rfl (Sx.x_move hT rfl rfl) ?_
            clear hT; intro a hT
            refine Sx.st_take hT rfl rfl rfl rfl (Sx.x_len_slice hT rfl rfl Try.underlying30 rfl) ?_
            clear hT; intro a hT
            refine Sx.st_take hT rfl rfl rfl rfl ((fun w => Sx.x_lt w hT rfl rfl rfl)) ?_
            clear hT; intro a hT
            replace hT := hT.keep [65, 12, 61, 11, 10, 9, 8, 7, 6, 5, 17, 14, 0, 1] rfl
            refine Sx.ser_nil ?_
            refine Sx.then_normal (hK21 _ _ ?_)
            clear hK21
            -- cond 3
            refine Sx.wp_if hT rfl (fun hc22 => ?_) (fun hc22 => ?_)
            · try simp only [decide_eq_true_eq, decide_eq_false_iff_not, Bool.not_eq_true', Bool.not_eq_false', Bool.not_eq_true, Bool.not_eq_false, Bool.and_eq_true, Bool.or_eq_false_iff, beq_iff_eq, bne_iff_ne, Int.not_lt, Int.not_le, ne_eq] at hc22
              obtain ⟨o, ho⟩ : ∃ o, s71[k]? = some o := ⟨_, List.getElem?_eq_getElem (by omega)⟩
              obtain ⟨o2, ho2⟩ : ∃ o, l[k]? = some o := ⟨_, List.getElem?_eq_getElem (by omega)⟩
              refine wp_skip ?_
              refine Sx.then_normal (hK20 _ _ ?_)
              clear hK20
              refine wp_seq_k fun K23 hK23 => ?_
              refine wp_block ?_
              refine wp_seq_k fun K24 hK24 => ?_
              -- region 14 (law.go:47)
              refine Sx.wp_draws (fun u => Sx.Ext (Sx.No) u) [(0, .take), (1, .take), (2, .take), (3, .held), (4, .take), (5, .take), (6, .take), (7, .held), (8, .keep), (9, .take), (10, .take), (11, .take), (12, .take), (13, .take), (14, .held), (15, .take), (16, .take), (17, .take), (18, .held), (19, .run), (20, .take), (21, .take)] (by kernel_rfl) (by kernel_rfl) (fun u E _ => ?_)
              replace H := H.pure E; clear E
              have hH : Sx.Ext (Sx.No) u u := Sx.Ext.refl _ _
              have Hu := H
              refine Sx.st_take hT rfl rfl rfl rfl (Sx.x_move hT rfl rfl) ?_
              clear hT; intro a hT
              refine Sx.st_take hT rfl rfl rfl rfl (Sx.x_move hT rfl rfl) ?_
              clear hT; intro a hT
              refine Sx.st_take hT rfl rfl rfl rfl (Sx.x_index (k := k) hT rfl Try.underlying30 Try.ti22 (H.row 1 rfl).sv rfl rfl (by first | rfl | omega) (by omega)) ?_
              clear hT; intro a hT
              refine Sx.st_held hT rfl rfl rfl rfl hH (fun w' h' => Sx.x_load1 hT rfl Try.fl22 rfl (by first | exact (((Hu.heldR 1 rfl h' Sx.off_No).ssn hsl.symm).cell (j := 0) fcell_len ho rfl) | exact (((Hu.heldR 0 rfl h' Sx.off_No).ssn hsl.symm).cell (j := 0) fcell_len ho rfl) | exact (((Hu.heldR 2 rfl h' Sx.off_No).ssn rfl).cell (j := 0) fcell_len ho2 rfl) | exact ((R.at (Hu.ext.step h')).cell (j := 0) fcell_len ho2 rfl))) ?_
              clear hT; intro a hT
              refine Sx.st_take hT rfl rfl rfl rfl (Sx.x_move hT rfl rfl) ?_
              clear hT; intro a hT
              refine Sx.st_take hT rfl rfl rfl rfl (Sx.x_move hT rfl rfl) ?_
              clear hT; intro a hT
              refine Sx.st_take hT rfl rfl rfl rfl (Sx.x_index (k := k) hT rfl Try.underlying30 Try.ti22 (H.row 0 rfl).sv rfl rfl (by first | rfl | omega) (by omega)) ?_
              clear hT; intro a hT
              refine Sx.st_held hT rfl rfl rfl rfl hH (fun w' h' => Sx.x_load1 hT rfl Try.fl22 rfl (by first | exact (((Hu.heldR 1 rfl h' Sx.off_No).ssn hsl.symm).cell (j := 0) fcell_len ho rfl) | exact (((Hu.heldR 0 rfl h' Sx.off_No).ssn hsl.symm).cell (j := 0) fcell_len ho rfl) | exact (((Hu.heldR 2 rfl h' Sx.off_No).ssn rfl).cell (j := 0) fcell_len ho2 rfl) | exact ((R.at (Hu.ext.step h')).cell (j := 0) fcell_len ho2 rfl))) ?_
              clear hT; intro a hT
              refine Sx.st_callkeep hT rfl rfl rfl rfl rfl Try.can15 rfl (same_calls _ _ _) ?_
              rintro _ w14 ⟨rfl, E⟩
              refine ⟨_, rfl, hH.step E, ?_⟩
              replace hH := hH.step E
              clear hT; intro a hT
              replace H := H.pure E; clear E
              refine Sx.st_take hT rfl rfl rfl rfl (Sx.x_not hT rfl rfl) ?_
              clear hT; intro a hT
              refine Sx.st_take hT rfl rfl rfl rfl (Sx.x_move hT rfl rfl) ?_
              clear hT; intro a hT
              -- guard (14, 10)
              refine Sx.Sl.two hT 78 rfl (fun hc25 hT => ?_) (fun hc25 hT => ?_)
              · exfalso
                try simp only [decide_eq_true_eq, decide_eq_false_iff_not, Bool.not_eq_true', Bool.not_eq_false', Bool.not_eq_true, Bool.not_eq_false, Bool.and_eq_true, Bool.or_eq_false_iff, beq_iff_eq, bne_iff_ne, Int.not_lt, Int.not_le, ne_eq] at hc25
                first | (simp at hc25; done) | (simp at hc25; omega)
              · try simp only [decide_eq_true_eq, decide_eq_false_iff_not, Bool.not_eq_true', Bool.not_eq_false', Bool.not_eq_true, Bool.not_eq_false, Bool.and_eq_true, Bool.or_eq_false_iff, beq_iff_eq, bne_iff_ne, Int.not_lt, Int.not_le, ne_eq] at hc25
                refine Sx.st_take hT rfl rfl rfl rfl (Sx.x_move hT rfl rfl) ?_
                clear hT; intro a hT
                refine Sx.st_take hT rfl rfl rfl rfl (Sx.x_move hT rfl rfl) ?_
                clear hT; intro a hT
                refine Sx.st_take hT rfl rfl rfl rfl (Sx.x_index (k := k) hT rfl Try.underlying30 Try.ti22 (H.row 2 rfl).sv rfl rfl (by first | rfl | omega) (by omega)) ?_
                clear hT; intro a hT
                refine Sx.st_held hT rfl rfl rfl rfl hH (fun w' h' => Sx.x_load1 hT rfl Try.fl22 rfl (by first | exact (((Hu.heldR 1 rfl h' Sx.off_No).ssn hsl.symm).cell (j := 0) fcell_len ho rfl) | exact (((Hu.heldR 0 rfl h' Sx.off_No).ssn hsl.symm).cell (j := 0) fcell_len ho rfl) | exact (((Hu.heldR 2 rfl h' Sx.off_No).ssn rfl).cell (j := 0) fcell_len ho2 rfl) | exact ((R.at (Hu.ext.step h')).cell (j := 0) fcell_len ho2 rfl))) ?_
                clear hT; intro a hT
                refine Sx.st_take hT rfl rfl rfl rfl (Sx.x_move hT rfl rfl) ?_
                clear hT; intro a hT
                refine Sx.st_take hT rfl rfl rfl rfl (Sx.x_move hT rfl rfl) ?_
                clear hT; intro a hT
                refine Sx.st_take hT rfl rfl rfl rfl (Sx.x_index (k := k) hT rfl Try.underlying30 Try.ti22 (R.at H.ext).sv rfl rfl (by first | rfl | omega) (by omega)) ?_
                clear hT; intro a hT
                refine Sx.st_held hT rfl rfl rfl rfl hH (fun w' h' => Sx.x_load1 hT rfl Try.fl22 rfl (by first | exact (((Hu.heldR 1 rfl h' Sx.off_No).ssn hsl.symm).cell (j := 0) fcell_len ho rfl) | exact (((Hu.heldR 0 rfl h' Sx.off_No).ssn hsl.symm).cell (j := 0) fcell_len ho rfl) | exact (((Hu.heldR 2 rfl h' Sx.off_No).ssn rfl).cell (j := 0) fcell_len ho2 rfl) | exact ((R.at (Hu.ext.step h')).cell (j := 0) fcell_len ho2 rfl))) ?_
                clear hT; intro a hT
                refine Sx.st_call hT rfl rfl rfl rfl rfl Try.can15 rfl (same_calls _ _ _) ?_
                rintro _ w15 ⟨rfl, E⟩
                refine ⟨_, rfl, ?_⟩
                clear hT; intro a hT
                replace H := H.pure E; clear E
                refine Sx.st_take hT rfl rfl rfl rfl (Sx.x_not hT rfl rfl) ?_
                clear hT; intro a hT
                refine Sx.st_take hT rfl rfl rfl rfl (Sx.x_pick_f hT rfl rfl rfl) ?_
                clear hT; intro a hT
                replace hT := hT.keep [89, 65, 12, 61, 11, 10, 9, 8, 7, 6, 5, 17, 14, 0, 1] rfl
                clear Hu hH
                refine Sx.ser_calm ?_
                refine Sx.then_normal (hK24 _ _ ?_)
                clear hK24
                -- cond 4
                refine Sx.wp_if hT rfl (fun hc26 => ?_) (fun hc26 => ?_)
                · exfalso
                  try simp only [decide_eq_true_eq, decide_eq_false_iff_not, Bool.not_eq_true', Bool.not_eq_false', Bool.not_eq_true, Bool.not_eq_false, Bool.and_eq_true, Bool.or_eq_false_iff, beq_iff_eq, bne_iff_ne, Int.not_lt, Int.not_le, ne_eq] at hc26
                  first | (simp at hc26; done) | (simp at hc26; omega)
                · try simp only [decide_eq_true_eq, decide_eq_false_iff_not, Bool.not_eq_true', Bool.not_eq_false', Bool.not_eq_true, Bool.not_eq_false, Bool.and_eq_true, Bool.or_eq_false_iff, beq_iff_eq, bne_iff_ne, Int.not_lt, Int.not_le, ne_eq] at hc26
                  refine wp_skip ?_
                  refine Sx.block_normal ?_
                  refine Sx.then_normal (hK23 _ _ ?_)
                  clear hK23
                  -- region 13 (law.go:46)
                  refine Sx.wp_text [(0, .take), (1, .take), (2, .take)] rfl ?_
                  refine Sx.st_take hT rfl rfl rfl rfl (Sx.x_move hT rfl rfl) ?_
                  clear hT; intro a hT
                  refine Sx.st_take hT rfl rfl rfl rfl ((fun w => Sx.x_add w hT rfl rfl rfl (Sx.wrap64 (by omega)))) ?_
                  clear hT; intro a hT
                  refine Sx.st_take hT rfl rfl rfl rfl (Sx.x_assign hT rfl rfl) ?_
                  clear hT; intro a hT
                  replace hT := hT.keep [12, 89, 65, 61, 11, 10, 9, 8, 7, 6, 5, 17, 14, 0, 1] rfl
                  refine Sx.ser_nil ?_
                  refine Sx.then_normal ?_
                  exact ⟨k + 1, (by omega), (hT.keep [12, 61, 11, 10, 9, 8, 7, 6, 5, 17, 14, 0, 1] rfl), (H.keep [0, 1, 2] rfl rfl), by omega⟩
            · try simp only [decide_eq_true_eq, decide_eq_false_iff_not, Bool.not_eq_true', Bool.not_eq_false', Bool.not_eq_true, Bool.not_eq_false, Bool.and_eq_true, Bool.or_eq_false_iff, beq_iff_eq, bne_iff_ne, Int.not_lt, Int.not_le, ne_eq] at hc22
              refine wp_exit ?_
              refine Sx.then_exit ?_
              refine Sx.then_exit ?_
              refine Sx.block_exit ?_
              refine Sx.then_normal (hK18 _ _ ?_)
              clear hK18
              refine wp_seq_k fun K27 hK27 => ?_
              -- region 16 (law.go:51)
              refine Sx.wp_text [(0, .run), (1, .take)] rfl ?_
              refine Sx.st_call hT rfl rfl rfl rfl rfl Try.can10 rfl (first_calls _) ?_
              rintro _ w16 ⟨rfl, E⟩
              refine ⟨_, rfl, ?_⟩
              clear hT; intro a hT
              replace H := H.pure E; clear E
              refine Sx.st_take hT rfl rfl rfl rfl (Sx.x_assign hT rfl rfl) ?_
              clear hT; intro a hT
              replace hT := hT.keep [4, 65, 12, 61, 11, 10, 9, 8, 7, 6, 5, 17, 14, 0, 1] rfl
              refine Sx.ser_nil ?_
              refine Sx.then_normal (hK27 _ _ ?_)
              clear hK27
              refine wp_ret ?_
              refine Sx.done1 (fn := Try.f8) hT rfl (.tmp (hT.get 4 _ rfl)) ?_
              exact ⟨rfl, H.ext⟩

set_option maxHeartbeats 800000 in
theorem Sorts_calls (ad : Option Addr) (c : Nat) (l : List Nat) (w : World) (hs : Ss w ad fcell 1 l) (hl : l.length ≤ 9223372036854775807) (hnil : ad = none → l.length = 0 ∧ c = 0) (hb : ∀ b ∈ l, b < 2 ^ 64) : Calls Try.prog 5 #[.slice ad l.length c] w fun e w' => e = .returned (.bool true) ∧ Ext No w w' := by
  have R : Ro w No _ := Ro.of fun w' x => hs.ext_no x
  refine Sx.calls_into Try.func5 rfl Try.ntmps5 rfl fun a hT => ?_
  replace hT := hT.keep [0] rfl
  have H : Sx.Hp w (Sx.No) w [] := Sx.Hp.start _ _
  refine wp_seq_k fun K1 hK1 => ?_
  -- region 0 (law.go:122)
  refine Sx.wp_text [(0, .take)] rfl ?_
  refine Sx.st_take hT rfl rfl rfl rfl (Sx.x_assign hT rfl rfl) ?_
  clear hT; intro a hT
  replace hT := hT.keep [2, 0] rfl
  refine Sx.ser_nil ?_
  refine Sx.then_normal (hK1 _ _ ?_)
  clear hK1
  refine wp_seq_k fun K2 hK2 => ?_
  refine wp_seq_k fun K3 hK3 => ?_
  -- region 1 (law.go:123)
  refine Sx.wp_text [(0, .run), (1, .take)] rfl ?_
  refine Sx.st_call hT rfl rfl rfl rfl rfl Try.can10 rfl (first_calls _) ?_
  rintro _ w1 ⟨rfl, E⟩
  refine ⟨_, rfl, ?_⟩
  clear hT; intro a hT
  replace H := H.pure E; clear E
  refine Sx.st_take hT rfl rfl rfl rfl (Sx.x_not hT rfl rfl) ?_
  clear hT; intro a hT
  replace hT := hT.keep [9, 2, 0] rfl
  refine Sx.ser_nil ?_
  refine Sx.then_normal (hK3 _ _ ?_)
  clear hK3
  refine Sx.wp_if hT rfl (fun h => by cases h) (fun _ => ?_)
  refine wp_skip ?_
  refine Sx.then_normal (hK2 _ _ ?_)
  clear hK2
  refine wp_seq_k fun K4 hK4 => ?_
  refine wp_seq_k fun K5 hK5 => ?_
  -- region 3 (law.go:126)
  refine Sx.wp_text [(0, .take), (1, .take), (2, .take)] rfl ?_
  refine Sx.st_take hT rfl rfl rfl rfl (Sx.x_move hT rfl rfl) ?_
  clear hT; intro a hT
  refine Sx.st_take hT rfl rfl rfl rfl (Sx.x_len_slice hT rfl rfl Try.underlying30 rfl) ?_
  clear hT; intro a hT
  refine Sx.st_take hT rfl rfl rfl rfl ((fun w => Sx.x_gt w hT rfl rfl rfl)) ?_
  clear hT; intro a hT
  replace hT := hT.keep [12, 9, 2, 0] rfl
  refine Sx.ser_nil ?_
  refine Sx.then_normal (hK5 _ _ ?_)
  clear hK5
  -- cond 1
  refine Sx.wp_if hT rfl (fun hc6 => ?_) (fun hc6 => ?_)
  · try simp only [decide_eq_true_eq, decide_eq_false_iff_not, Bool.not_eq_true', Bool.not_eq_false', Bool.not_eq_true, Bool.not_eq_false, Bool.and_eq_true, Bool.or_eq_false_iff, beq_iff_eq, bne_iff_ne, Int.not_lt, Int.not_le, ne_eq] at hc6
    refine wp_seq_k fun K7 hK7 => ?_
    -- region 4 (law.go:127)
    refine Sx.wp_text [(0, .run), (1, .take)] rfl ?_
    refine Sx.st_call hT rfl rfl rfl rfl rfl Try.can10 rfl (first_calls _) ?_
    rintro _ w2 ⟨rfl, E⟩
    refine ⟨_, rfl, ?_⟩
    clear hT; intro a hT
    replace H := H.pure E; clear E
    refine Sx.st_take hT rfl rfl rfl rfl (Sx.x_assign hT rfl rfl) ?_
    clear hT; intro a hT
    replace hT := hT.keep [2, 12, 9, 0] rfl
    refine Sx.ser_nil ?_
    refine Sx.then_normal (hK7 _ _ ?_)
    clear hK7
    refine wp_ret ?_
    refine Sx.then_ret ?_
    refine Sx.done1 (fn := Try.f5) hT rfl (.tmp (hT.get 2 _ rfl)) ?_
    exact ⟨rfl, H.ext⟩
  · try simp only [decide_eq_true_eq, decide_eq_false_iff_not, Bool.not_eq_true', Bool.not_eq_false', Bool.not_eq_true, Bool.not_eq_false, Bool.and_eq_true, Bool.or_eq_false_iff, beq_iff_eq, bne_iff_ne, Int.not_lt, Int.not_le, ne_eq] at hc6
    have hl2 : l.length ≤ 1000000 := by omega
    refine wp_skip ?_
    refine Sx.then_normal (hK4 _ _ ?_)
    clear hK4
    refine wp_seq_k fun K8 hK8 => ?_
    -- region 5 (law.go:129)
    refine Sx.wp_text [(0, .take), (1, .run), (2, .take)] rfl ?_
    refine Sx.st_take hT rfl rfl rfl rfl (Sx.x_move hT rfl rfl) ?_
    clear hT; intro a hT
    refine Sx.st_call hT rfl rfl rfl rfl rfl Try.can18 rfl (Sorted_calls _ _ l _ (R.at H.ext) hl2 hb) ?_
    rintro _ w3 ⟨ad1, c1, s, rfl, hso, K⟩
    refine ⟨_, rfl, ?_⟩
    clear hT; intro a hT
    replace H := H.more K rfl; clear K
    have hsl := sort_len hso
    refine Sx.st_take hT rfl rfl rfl rfl (Sx.x_assign hT rfl rfl) ?_
    clear hT; intro a hT
    replace hT := hT.keep [3, 12, 9, 2, 0] rfl
    refine Sx.ser_nil ?_
    refine Sx.then_normal (hK8 _ _ ?_)
    clear hK8
    refine wp_seq_k fun K9 hK9 => ?_
    refine wp_seq_k fun K10 hK10 => ?_
    -- region 6 (law.go:130)
    refine Sx.wp_text [(0, .take), (1, .take), (2, .take), (3, .take), (4, .take)] rfl ?_
    refine Sx.st_take hT rfl rfl rfl rfl (Sx.x_move hT rfl rfl) ?_
    clear hT; intro a hT
    refine Sx.st_take hT rfl rfl rfl rfl (Sx.x_len_slice hT rfl rfl Try.underlying30 rfl) ?_
    clear hT; intro a hT
    refine Sx.st_take hT rfl rfl rfl rfl (Sx.x_move hT rfl rfl) ?_
    clear hT; intro a hT
    refine Sx.st_take hT rfl rfl rfl rfl (Sx.x_len_slice hT rfl rfl Try.underlying30 rfl) ?_
    clear hT; intro a hT
    refine Sx.st_take hT rfl rfl rfl rfl ((fun w => Sx.x_ne w hT rfl rfl rfl)) ?_
    clear hT; intro a hT
    replace hT := hT.keep [20, 3, 12, 9, 2, 0] rfl
    refine Sx.ser_nil ?_
    refine Sx.then_normal (hK10 _ _ ?_)
    clear hK10
    -- cond 2
    refine Sx.wp_if hT rfl (fun hc11 => ?_) (fun hc11 => ?_)
    · exfalso
      try simp only [decide_eq_true_eq, decide_eq_false_iff_not, Bool.not_eq_true', Bool.not_eq_false', Bool.not_eq_true, Bool.not_eq_false, Bool.and_eq_true, Bool.or_eq_false_iff, beq_iff_eq, bne_iff_ne, Int.not_lt, Int.not_le, ne_eq] at hc11
      first | (simp at hc11; done) | (simp at hc11; omega)
    · try simp only [decide_eq_true_eq, decide_eq_false_iff_not, Bool.not_eq_true', Bool.not_eq_false', Bool.not_eq_true, Bool.not_eq_false, Bool.and_eq_true, Bool.or_eq_false_iff, beq_iff_eq, bne_iff_ne, Int.not_lt, Int.not_le, ne_eq] at hc11
      refine wp_skip ?_
      refine Sx.then_normal (hK9 _ _ ?_)
      clear hK9
      refine wp_seq_k fun K12 hK12 => ?_
      refine wp_seq_k fun K13 hK13 => ?_
      -- region 8 (law.go:133)
      refine Sx.wp_text [(0, .take)] rfl ?_
      refine Sx.st_take hT rfl rfl rfl rfl (Sx.x_assign hT rfl rfl) ?_
      clear hT; intro a hT
      replace hT := hT.keep [4, 20, 3, 12, 9, 2, 0] rfl
      refine Sx.ser_nil ?_
      refine Sx.then_normal (hK13 _ _ ?_)
      clear hK13
      refine wp_block ?_
      -- loop 0
      refine Sx.wp_loopH (G := Nat) (fun k => [(4, .int .i64 (k : Int))]) (fun k => []) (fun k => k ≤ l.length) (fun k => l.length - k) 0 (hT.keep [4, 20, 3, 12, 9, 0] rfl) (H.keep [0] rfl rfl) (Nat.zero_le _) ?_
      clear hT H
      rintro k a w4 hJ hT H
      replace hT := hT.keep [4, 20, 3, 12, 9, 0] rfl
      replace H := H.keep [0] rfl rfl
      have hk : k ≤ l.length := hJ
      refine wp_seq_k fun K14 hK14 => ?_
      refine wp_seq_k fun K15 hK15 => ?_
      -- region 9 (law.go:133)
      refine Sx.wp_text [(0, .take), (1, .take), (2, .take), (3, .take)] rfl ?_
      refine Sx.st_take hT rfl rfl rfl rfl (Sx.x_move hT rfl rfl) ?_
      clear hT; intro a hT
      refine Sx.st_take hT rfl rfl rfl rfl (Sx.x_move hT rfl rfl) ?_
      clear hT; intro a hT
      refine Sx.st_take hT rfl rfl rfl rfl (Sx.x_len_slice hT rfl rfl Try.underlying30 rfl) ?_
      clear hT; intro a hT
      refine Sx.st_take hT rfl rfl rfl rfl ((fun w => Sx.x_lt w hT rfl rfl rfl)) ?_
      clear hT; intro a hT
      replace hT := hT.keep [24, 4, 20, 3, 12, 9, 0] rfl
      refine Sx.ser_nil ?_
      refine Sx.then_normal (hK15 _ _ ?_)
      clear hK15
      -- cond 3
      refine Sx.wp_if hT rfl (fun hc16 => ?_) (fun hc16 => ?_)
      · try simp only [decide_eq_true_eq, decide_eq_false_iff_not, Bool.not_eq_true', Bool.not_eq_false', Bool.not_eq_true, Bool.not_eq_false, Bool.and_eq_true, Bool.or_eq_false_iff, beq_iff_eq, bne_iff_ne, Int.not_lt, Int.not_le, ne_eq] at hc16
        obtain ⟨oi, hoi⟩ : ∃ o, s[k]? = some o := ⟨_, List.getElem?_eq_getElem (by omega)⟩
        refine wp_skip ?_
        refine Sx.then_normal (hK14 _ _ ?_)
        clear hK14
        refine wp_seq_k fun K17 hK17 => ?_
        refine wp_block ?_
        refine wp_seq_k fun K18 hK18 => ?_
        -- region 11 (law.go:134)
        refine Sx.wp_text [(0, .take), (1, .take)] rfl ?_
        refine Sx.st_take hT rfl rfl rfl rfl (Sx.x_assign hT rfl rfl) ?_
        clear hT; intro a hT
        refine Sx.st_take hT rfl rfl rfl rfl (Sx.x_assign hT rfl rfl) ?_
        clear hT; intro a hT
        replace hT := hT.keep [6, 5, 24, 4, 20, 3, 12, 9, 0] rfl
        refine Sx.ser_nil ?_
        refine Sx.then_normal (hK18 _ _ ?_)
        clear hK18
        refine wp_seq_k fun K19 hK19 => ?_
        refine wp_seq_k fun K20 hK20 => ?_
        -- region 12 (law.go:135)
        refine Sx.wp_text [(0, .take)] rfl ?_
        refine Sx.st_take hT rfl rfl rfl rfl (Sx.x_assign hT rfl rfl) ?_
        clear hT; intro a hT
        replace hT := hT.keep [7, 6, 5, 24, 4, 20, 3, 12, 9, 0] rfl
        refine Sx.ser_nil ?_
        refine Sx.then_normal (hK20 _ _ ?_)
        clear hK20
        refine wp_block ?_
        -- loop 1
        refine Sx.wp_loopH (G := Nat) (fun j => [(7, .int .i64 (j : Int)), (5, .int .i64 ((fil (likeF (fcan oi)) s j).length : Int)), (6, .int .i64 ((fil (likeF (fcan oi)) l j).length : Int))]) (fun j => []) (fun j => j ≤ l.length) (fun j => l.length - j) 0 (hT.keep [7, 5, 6, 24, 4, 20, 3, 12, 9, 0] rfl) (H.keep [0] rfl rfl) (Nat.zero_le _) ?_
        clear hT H
        rintro j a w5 hJ hT H
        replace hT := hT.keep [7, 5, 6, 24, 4, 20, 3, 12, 9, 0] rfl
        replace H := H.keep [0] rfl rfl
        have hj : j ≤ l.length := hJ
        have hf1 := fil_len (likeF (fcan oi)) s j
        have hf2 := fil_len (likeF (fcan oi)) l j
        refine wp_seq_k fun K21 hK21 => ?_
        refine wp_seq_k fun K22 hK22 => ?_
        -- region 13 (law.go:135)
        refine Sx.wp_text [(0, .take), (1, .take), (2, .take), (3, .take)] rfl ?_
        refine Sx.st_take hT rfl rfl rfl rfl (Sx.x_move hT rfl rfl) ?_
        clear hT; intro a hT
        refine Sx.st_take hT rfl rfl rfl rfl (Sx.x_move hT rfl rfl) ?_
        clear hT; intro a hT
        refine Sx.st_take hT rfl rfl rfl rfl (Sx.x_len_slice hT rfl rfl Try.underlying30 rfl) ?_
        clear hT; intro a hT
        refine Sx.st_take hT rfl rfl rfl rfl ((fun w => Sx.x_lt w hT rfl rfl rfl)) ?_
        clear hT; intro a hT
        replace hT := hT.keep [30, 7, 5, 6, 24, 4, 20, 3, 12, 9, 0] rfl
        refine Sx.ser_nil ?_
        refine Sx.then_normal (hK22 _ _ ?_)
        clear hK22
        -- cond 4
        refine Sx.wp_if hT rfl (fun hc23 => ?_) (fun hc23 => ?_)
        · try simp only [decide_eq_true_eq, decide_eq_false_iff_not, Bool.not_eq_true', Bool.not_eq_false', Bool.not_eq_true, Bool.not_eq_false, Bool.and_eq_true, Bool.or_eq_false_iff, beq_iff_eq, bne_iff_ne, Int.not_lt, Int.not_le, ne_eq] at hc23
          obtain ⟨ok, hok⟩ : ∃ o, s[j]? = some o := ⟨_, List.getElem?_eq_getElem (by omega)⟩
          obtain ⟨lk, hlk⟩ : ∃ o, l[j]? = some o := ⟨_, List.getElem?_eq_getElem (by omega)⟩
          refine wp_skip ?_
          refine Sx.then_normal (hK21 _ _ ?_)
          clear hK21
          refine wp_seq_k fun K24 hK24 => ?_
          refine wp_block ?_
          refine wp_seq_k fun K25 hK25 => ?_
          refine wp_seq_k fun K26 hK26 => ?_
          -- region 15 (law.go:136)
          refine Sx.wp_draws (fun u => Sx.Ext (Sx.No) u) [(0, .take), (1, .take), (2, .take), (3, .held), (5, .take), (6, .take), (7, .take), (8, .held), (4, .keep), (9, .run), (10, .take)] (by kernel_rfl) (by kernel_rfl) (fun u E _ => ?_)
          replace H := H.pure E; clear E
          have hH : Sx.Ext (Sx.No) u u := Sx.Ext.refl _ _
          have Hu := H
          refine Sx.st_take hT rfl rfl rfl rfl (Sx.x_move hT rfl rfl) ?_
          clear hT; intro a hT
          refine Sx.st_take hT rfl rfl rfl rfl (Sx.x_move hT rfl rfl) ?_
          clear hT; intro a hT
          refine Sx.st_take hT rfl rfl rfl rfl (Sx.x_index (k := j) hT rfl Try.underlying30 Try.ti22 (H.row 0 rfl).sv rfl rfl (by first | rfl | omega) (by omega)) ?_
          clear hT; intro a hT
          refine Sx.st_held hT rfl rfl rfl rfl hH (fun w' h' => Sx.x_load1 hT rfl Try.fl22 rfl (by first | exact (((Hu.heldR 0 rfl h' Sx.off_No).ssn hsl.symm).cell (j := 0) fcell_len hok rfl) | exact (((Hu.heldR 0 rfl h' Sx.off_No).ssn hsl.symm).cell (j := 0) fcell_len hoi rfl) | exact (((Hu.heldR 0 rfl h' Sx.off_No).ssn hsl.symm).cell (j := 0) fcell_len hoz rfl) | exact ((R.at (Hu.ext.step h')).cell (j := 0) fcell_len hlk rfl))) ?_
          clear hT; intro a hT
          refine Sx.st_take hT rfl rfl rfl rfl (Sx.x_move hT rfl rfl) ?_
          clear hT; intro a hT
          refine Sx.st_take hT rfl rfl rfl rfl (Sx.x_move hT rfl rfl) ?_
          clear hT; intro a hT
          refine Sx.st_take hT rfl rfl rfl rfl (Sx.x_index (k := k) hT rfl Try.underlying30 Try.ti22 (H.row 0 rfl).sv rfl rfl (by first | rfl | omega) (by omega)) ?_
          clear hT; intro a hT
          refine Sx.st_held hT rfl rfl rfl rfl hH (fun w' h' => Sx.x_load1 hT rfl Try.fl22 rfl (by first | exact (((Hu.heldR 0 rfl h' Sx.off_No).ssn hsl.symm).cell (j := 0) fcell_len hok rfl) | exact (((Hu.heldR 0 rfl h' Sx.off_No).ssn hsl.symm).cell (j := 0) fcell_len hoi rfl) | exact (((Hu.heldR 0 rfl h' Sx.off_No).ssn hsl.symm).cell (j := 0) fcell_len hoz rfl) | exact ((R.at (Hu.ext.step h')).cell (j := 0) fcell_len hlk rfl))) ?_
          clear hT; intro a hT
          refine Sx.st_callkeep hT rfl rfl rfl rfl rfl Try.can19 rfl (xBits_calls _ _) ?_
          rintro _ w6 ⟨rfl, E⟩
          refine ⟨_, rfl, hH.step E, ?_⟩
          replace hH := hH.step E
          clear hT; intro a hT
          replace H := H.pure E; clear E
          refine Sx.st_call hT rfl rfl rfl rfl rfl Try.can19 rfl (xBits_calls _ _) ?_
          rintro _ w7 ⟨rfl, E⟩
          refine ⟨_, rfl, ?_⟩
          clear hT; intro a hT
          replace H := H.pure E; clear E
          refine Sx.st_take hT rfl rfl rfl rfl ((fun w => Sx.x_eq w hT rfl rfl rfl)) ?_
          clear hT; intro a hT
          replace hT := hT.keep [43, 30, 7, 5, 6, 24, 4, 20, 3, 12, 9, 0] rfl
          clear Hu hH
          refine Sx.ser_calm ?_
          refine Sx.then_normal (hK26 _ _ ?_)
          clear hK26
          -- cond 5
          refine Sx.wp_if hT rfl (fun hc27 => ?_) (fun hc27 => ?_)
          · try simp only [decide_eq_true_eq, decide_eq_false_iff_not, Bool.not_eq_true', Bool.not_eq_false', Bool.not_eq_true, Bool.not_eq_false, Bool.and_eq_true, Bool.or_eq_false_iff, beq_iff_eq, bne_iff_ne, Int.not_lt, Int.not_le, ne_eq] at hc27
            have hm1 : (likeF (fcan oi)) ok = true := decide_eq_true (Int.ofNat.inj hc27)
            -- region 16 (law.go:137)
            refine Sx.wp_text [(0, .take), (1, .take), (2, .take)] rfl ?_
            refine Sx.st_take hT rfl rfl rfl rfl (Sx.x_move hT rfl rfl) ?_
            clear hT; intro a hT
            refine Sx.st_take hT rfl rfl rfl rfl ((fun w => Sx.x_add w hT rfl rfl rfl (Sx.wrap64 (by omega)))) ?_
            clear hT; intro a hT
            refine Sx.st_take hT rfl rfl rfl rfl (Sx.x_assign hT rfl rfl) ?_
            clear hT; intro a hT
            replace hT := hT.keep [5, 43, 30, 7, 6, 24, 4, 20, 3, 12, 9, 0] rfl
            refine Sx.ser_nil ?_
            refine Sx.then_normal (hK25 _ _ ?_)
            clear hK25
            refine wp_seq_k fun K28 hK28 => ?_
            -- region 17 (law.go:139)
            refine Sx.wp_draws (fun u => Sx.Ext (Sx.No) u) [(0, .take), (1, .take), (2, .take), (3, .held), (5, .take), (6, .take), (7, .take), (8, .held), (4, .keep), (9, .run), (10, .take)] (by kernel_rfl) (by kernel_rfl) (fun u E _ => ?_)
            replace H := H.pure E; clear E
            have hH : Sx.Ext (Sx.No) u u := Sx.Ext.refl _ _
            have Hu := H
            refine Sx.st_take hT rfl rfl rfl rfl (Sx.x_move hT rfl rfl) ?_
            clear hT; intro a hT
            refine Sx.st_take hT rfl rfl rfl rfl (Sx.x_move hT rfl rfl) ?_
            clear hT; intro a hT
            refine Sx.st_take hT rfl rfl rfl rfl (Sx.x_index (k := j) hT rfl Try.underlying30 Try.ti22 (R.at H.ext).sv rfl rfl (by first | rfl | omega) (by omega)) ?_
            clear hT; intro a hT
            refine Sx.st_held hT rfl rfl rfl rfl hH (fun w' h' => Sx.x_load1 hT rfl Try.fl22 rfl (by first | exact (((Hu.heldR 0 rfl h' Sx.off_No).ssn hsl.symm).cell (j := 0) fcell_len hok rfl) | exact (((Hu.heldR 0 rfl h' Sx.off_No).ssn hsl.symm).cell (j := 0) fcell_len hoi rfl) | exact (((Hu.heldR 0 rfl h' Sx.off_No).ssn hsl.symm).cell (j := 0) fcell_len hoz rfl) | exact ((R.at (Hu.ext.step h')).cell (j := 0) fcell_len hlk rfl))) ?_
            clear hT; intro a hT
            refine Sx.st_take hT rfl rfl rfl rfl (Sx.x_move hT rfl rfl) ?_
            clear hT; intro a hT
            refine Sx.st_take hT rfl rfl rfl rfl (Sx.x_move hT rfl rfl) ?_
            clear hT; intro a hT
            refine Sx.st_take hT rfl rfl rfl rfl (Sx.x_index (k := k) hT rfl Try.underlying30 Try.ti22 (H.row 0 rfl).sv rfl rfl (by first | rfl | omega) (by omega)) ?_
            clear hT; intro a hT
            refine Sx.st_held hT rfl rfl rfl rfl hH (fun w' h' => Sx.x_load1 hT rfl Try.fl22 rfl (by first | exact (((Hu.heldR 0 rfl h' Sx.off_No).ssn hsl.symm).cell (j := 0) fcell_len hok rfl) | exact (((Hu.heldR 0 rfl h' Sx.off_No).ssn hsl.symm).cell (j := 0) fcell_len hoi rfl) | exact (((Hu.heldR 0 rfl h' Sx.off_No).ssn hsl.symm).cell (j := 0) fcell_len hoz rfl) | exact ((R.at (Hu.ext.step h')).cell (j := 0) fcell_len hlk rfl))) ?_
            clear hT; intro a hT
            refine Sx.st_callkeep hT rfl rfl rfl rfl rfl Try.can19 rfl (xBits_calls _ _) ?_
            rintro _ w8 ⟨rfl, E⟩
            refine ⟨_, rfl, hH.step E, ?_⟩
            replace hH := hH.step E
            clear hT; intro a hT
            replace H := H.pure E; clear E
            refine Sx.st_call hT rfl rfl rfl rfl rfl Try.can19 rfl (xBits_calls _ _) ?_
            rintro _ w9 ⟨rfl, E⟩
            refine ⟨_, rfl, ?_⟩
            clear hT; intro a hT
            replace H := H.pure E; clear E
            refine Sx.st_take hT rfl rfl rfl rfl ((fun w => Sx.x_eq w hT rfl rfl rfl)) ?_
            clear hT; intro a hT
            replace hT := hT.keep [56, 5, 43, 30, 7, 6, 24, 4, 20, 3, 12, 9, 0] rfl
            clear Hu hH
            refine Sx.ser_calm ?_
            refine Sx.then_normal (hK28 _ _ ?_)
            clear hK28
            -- cond 6
            refine Sx.wp_if hT rfl (fun hc29 => ?_) (fun hc29 => ?_)
            · try simp only [decide_eq_true_eq, decide_eq_false_iff_not, Bool.not_eq_true', Bool.not_eq_false', Bool.not_eq_true, Bool.not_eq_false, Bool.and_eq_true, Bool.or_eq_false_iff, beq_iff_eq, bne_iff_ne, Int.not_lt, Int.not_le, ne_eq] at hc29
              have hm2 : (likeF (fcan oi)) lk = true := decide_eq_true (Int.ofNat.inj hc29)
              -- region 18 (law.go:140)
              refine Sx.wp_text [(0, .take), (1, .take), (2, .take)] rfl ?_
              refine Sx.st_take hT rfl rfl rfl rfl (Sx.x_move hT rfl rfl) ?_
              clear hT; intro a hT
              refine Sx.st_take hT rfl rfl rfl rfl ((fun w => Sx.x_add w hT rfl rfl rfl (Sx.wrap64 (by omega)))) ?_
              clear hT; intro a hT
              refine Sx.st_take hT rfl rfl rfl rfl (Sx.x_assign hT rfl rfl) ?_
              clear hT; intro a hT
              replace hT := hT.keep [6, 56, 5, 43, 30, 7, 24, 4, 20, 3, 12, 9, 0] rfl
              refine Sx.ser_nil ?_
              refine Sx.block_normal ?_
              refine Sx.then_normal (hK24 _ _ ?_)
              clear hK24
              -- region 14 (law.go:135)
              refine Sx.wp_text [(0, .take), (1, .take), (2, .take)] rfl ?_
              refine Sx.st_take hT rfl rfl rfl rfl (Sx.x_move hT rfl rfl) ?_
              clear hT; intro a hT
              refine Sx.st_take hT rfl rfl rfl rfl ((fun w => Sx.x_add w hT rfl rfl rfl (Sx.wrap64 (by omega)))) ?_
              clear hT; intro a hT
              refine Sx.st_take hT rfl rfl rfl rfl (Sx.x_assign hT rfl rfl) ?_
              clear hT; intro a hT
              replace hT := hT.keep [7, 6, 56, 5, 43, 30, 24, 4, 20, 3, 12, 9, 0] rfl
              refine Sx.ser_nil ?_
              refine Sx.then_normal ?_
              exact ⟨j + 1, (by omega), ((hT.keep [7, 5, 6, 24, 4, 20, 3, 12, 9, 0] rfl).conv (by rw [fil_yes (f := (likeF (fcan oi))) hok hm1]; rw [fil_yes (f := (likeF (fcan oi))) hlk hm2]; rfl)), (H.keep [0] rfl rfl), by omega⟩
            · try simp only [decide_eq_true_eq, decide_eq_false_iff_not, Bool.not_eq_true', Bool.not_eq_false', Bool.not_eq_true, Bool.not_eq_false, Bool.and_eq_true, Bool.or_eq_false_iff, beq_iff_eq, bne_iff_ne, Int.not_lt, Int.not_le, ne_eq] at hc29
              have hm2 : (likeF (fcan oi)) lk = false := decide_eq_false fun h9 => hc29 (congrArg Int.ofNat h9)
              refine wp_skip ?_
              refine Sx.block_normal ?_
              refine Sx.then_normal (hK24 _ _ ?_)
              clear hK24
              -- region 14 (law.go:135)
              refine Sx.wp_text [(0, .take), (1, .take), (2, .take)] rfl ?_
              refine Sx.st_take hT rfl rfl rfl rfl (Sx.x_move hT rfl rfl) ?_
              clear hT; intro a hT
              refine Sx.st_take hT rfl rfl rfl rfl ((fun w => Sx.x_add w hT rfl rfl rfl (Sx.wrap64 (by omega)))) ?_
              clear hT; intro a hT
              refine Sx.st_take hT rfl rfl rfl rfl (Sx.x_assign hT rfl rfl) ?_
              clear hT; intro a hT
              replace hT := hT.keep [7, 56, 5, 43, 30, 6, 24, 4, 20, 3, 12, 9, 0] rfl
              refine Sx.ser_nil ?_
              refine Sx.then_normal ?_
              exact ⟨j + 1, (by omega), ((hT.keep [7, 5, 6, 24, 4, 20, 3, 12, 9, 0] rfl).conv (by rw [fil_yes (f := (likeF (fcan oi))) hok hm1]; rw [fil_no (f := (likeF (fcan oi))) hlk hm2]; rfl)), (H.keep [0] rfl rfl), by omega⟩
          · try simp only [decide_eq_true_eq, decide_eq_false_iff_not, Bool.not_eq_true', Bool.not_eq_false', Bool.not_eq_true, Bool.not_eq_false, Bool.and_eq_true, Bool.or_eq_false_iff, beq_iff_eq, bne_iff_ne, Int.not_lt, Int.not_le, ne_eq] at hc27
            have hm1 : (likeF (fcan oi)) ok = false := decide_eq_false fun h9 => hc27 (congrArg Int.ofNat h9)
            refine wp_skip ?_
            refine Sx.then_normal (hK25 _ _ ?_)
            clear hK25
            refine wp_seq_k fun K30 hK30 => ?_
            -- region 17 (law.go:139)
            refine Sx.wp_draws (fun u => Sx.Ext (Sx.No) u) [(0, .take), (1, .take), (2, .take), (3, .held), (5, .take), (6, .take), (7, .take), (8, .held), (4, .keep), (9, .run), (10, .take)] (by kernel_rfl) (by kernel_rfl) (fun u E _ => ?_)
            replace H := H.pure E; clear E
            have hH : Sx.Ext (Sx.No) u u := Sx.Ext.refl _ _
            have Hu := H
            refine Sx.st_take hT rfl rfl rfl rfl (Sx.x_move hT rfl rfl) ?_
            clear hT; intro a hT
            refine Sx.st_take hT rfl rfl rfl rfl (Sx.x_move hT rfl rfl) ?_
            clear hT; intro a hT
            refine Sx.st_take hT rfl rfl rfl rfl (Sx.x_index (k := j) hT rfl Try.underlying30 Try.ti22 (R.at H.ext).sv rfl rfl (by first | rfl | omega) (by omega)) ?_
            clear hT; intro a hT
            refine Sx.st_held hT rfl rfl rfl rfl hH (fun w' h' => Sx.x_load1 hT rfl Try.fl22 rfl (by first | exact (((Hu.heldR 0 rfl h' Sx.off_No).ssn hsl.symm).cell (j := 0) fcell_len hok rfl) | exact (((Hu.heldR 0 rfl h' Sx.off_No).ssn hsl.symm).cell (j := 0) fcell_len hoi rfl) | exact (((Hu.heldR 0 rfl h' Sx.off_No).ssn hsl.symm).cell (j := 0) fcell_len hoz rfl) | exact ((R.at (Hu.ext.step h')).cell (j := 0) fcell_len hlk rfl))) ?_
            clear hT; intro a hT
            refine Sx.st_take hT rfl rfl rfl rfl (Sx.x_move hT rfl rfl) ?_
            clear hT; intro a hT
            refine Sx.st_take hT rfl rfl rfl rfl (Sx.x_move hT rfl rfl) ?_
            clear hT; intro a hT
            refine Sx.st_take hT rfl rfl rfl rfl (Sx.x_index (k := k) hT rfl Try.underlying30 Try.ti22 (H.row 0 rfl).sv rfl rfl (by first | rfl | omega) (by omega)) ?_
            clear hT; intro a hT
            refine Sx.st_held hT rfl rfl rfl rfl hH (fun w' h' => Sx.x_load1 hT rfl Try.fl22 rfl (by first | exact (((Hu.heldR 0 rfl h' Sx.off_No).ssn hsl.symm).cell (j := 0) fcell_len hok rfl) | exact (((Hu.heldR 0 rfl h' Sx.off_No).ssn hsl.symm).cell (j := 0) fcell_len hoi rfl) | exact (((Hu.heldR 0 rfl h' Sx.off_No).ssn hsl.symm).cell (j := 0) fcell_len hoz rfl) | exact ((R.at (Hu.ext.step h')).cell (j := 0) fcell_len hlk rfl))) ?_
            clear hT; intro a hT
            refine Sx.st_callkeep hT rfl rfl rfl rfl rfl Try.can19 rfl (xBits_calls _ _) ?_
            rintro _ w10 ⟨rfl, E⟩
            refine ⟨_, rfl, hH.step E, ?_⟩
            replace hH := hH.step E
            clear hT; intro a hT
            replace H := H.pure E; clear E
            refine Sx.st_call hT rfl rfl rfl rfl rfl Try.can19 rfl (xBits_calls _ _) ?_
            rintro _ w11 ⟨rfl, E⟩
            refine ⟨_, rfl, ?_⟩
            clear hT; intro a hT
            replace H := H.pure E; clear E
            refine Sx.st_take hT rfl rfl rfl rfl ((fun w => Sx.x_eq w hT rfl rfl rfl)) ?_
            clear hT; intro a hT
            replace hT := hT.keep [56, 43, 30, 7, 5, 6, 24, 4, 20, 3, 12, 9, 0] rfl
            clear Hu hH
            refine Sx.ser_calm ?_
            refine Sx.then_normal (hK30 _ _ ?_)
            clear hK30
            -- cond 6
            refine Sx.wp_if hT rfl (fun hc31 => ?_) (fun hc31 => ?_)
            · try simp only [decide_eq_true_eq, decide_eq_false_iff_not, Bool.not_eq_true', Bool.not_eq_false', Bool.not_eq_true, Bool.not_eq_false, Bool.and_eq_true, Bool.or_eq_false_iff, beq_iff_eq, bne_iff_ne, Int.not_lt, Int.not_le, ne_eq] at hc31
              have hm2 : (likeF (fcan oi)) lk = true := decide_eq_true (Int.ofNat.inj hc31)
              -- region 18 (law.go:140)
              refine Sx.wp_text [(0, .take), (1, .take), (2, .take)] rfl ?_
              refine Sx.st_take hT rfl rfl rfl rfl (Sx.x_move hT rfl rfl) ?_
              clear hT; intro a hT
              refine Sx.st_take hT rfl rfl rfl rfl ((fun w => Sx.x_add w hT rfl rfl rfl (Sx.wrap64 (by omega)))) ?_
              clear hT; intro a hT
              refine Sx.st_take hT rfl rfl rfl rfl (Sx.x_assign hT rfl rfl) ?_
              clear hT; intro a hT
              replace hT := hT.keep [6, 56, 43, 30, 7, 5, 24, 4, 20, 3, 12, 9, 0] rfl
              refine Sx.ser_nil ?_
              refine Sx.block_normal ?_
              refine Sx.then_normal (hK24 _ _ ?_)
              clear hK24
              -- region 14 (law.go:135)
              refine Sx.wp_text [(0, .take), (1, .take), (2, .take)] rfl ?_
              refine Sx.st_take hT rfl rfl rfl rfl (Sx.x_move hT rfl rfl) ?_
              clear hT; intro a hT
              refine Sx.st_take hT rfl rfl rfl rfl ((fun w => Sx.x_add w hT rfl rfl rfl (Sx.wrap64 (by omega)))) ?_
              clear hT; intro a hT
              refine Sx.st_take hT rfl rfl rfl rfl (Sx.x_assign hT rfl rfl) ?_
              clear hT; intro a hT
              replace hT := hT.keep [7, 6, 56, 43, 30, 5, 24, 4, 20, 3, 12, 9, 0] rfl
              refine Sx.ser_nil ?_
              refine Sx.then_normal ?_
              exact ⟨j + 1, (by omega), ((hT.keep [7, 5, 6, 24, 4, 20, 3, 12, 9, 0] rfl).conv (by rw [fil_no (f := (likeF (fcan oi))) hok hm1]; rw [fil_yes (f := (likeF (fcan oi))) hlk hm2]; rfl)), (H.keep [0] rfl rfl), by omega⟩
            · try simp only [decide_eq_true_eq, decide_eq_false_iff_not, Bool.not_eq_true', Bool.not_eq_false', Bool.not_eq_true, Bool.not_eq_false, Bool.and_eq_true, Bool.or_eq_false_iff, beq_iff_eq, bne_iff_ne, Int.not_lt, Int.not_le, ne_eq] at hc31
              have hm2 : (likeF (fcan oi)) lk = false := decide_eq_false fun h9 => hc31 (congrArg Int.ofNat h9)
              refine wp_skip ?_
              refine Sx.block_normal ?_
              refine Sx.then_normal (hK24 _ _ ?_)
              clear hK24
              -- region 14 (law.go:135)
              refine Sx.wp_text [(0, .take), (1, .take), (2, .take)] rfl ?_
              refine Sx.st_take hT rfl rfl rfl rfl (Sx.x_move hT rfl rfl) ?_
              clear hT; intro a hT
              refine Sx.st_take hT rfl rfl rfl rfl ((fun w => Sx.x_add w hT rfl rfl rfl (Sx.wrap64 (by omega)))) ?_
              clear hT; intro a hT
              refine Sx.st_take hT rfl rfl rfl rfl (Sx.x_assign hT rfl rfl) ?_
              clear hT; intro a hT
              replace hT := hT.keep [7, 56, 43, 30, 5, 6, 24, 4, 20, 3, 12, 9, 0] rfl
              refine Sx.ser_nil ?_
              refine Sx.then_normal ?_
              exact ⟨j + 1, (by omega), ((hT.keep [7, 5, 6, 24, 4, 20, 3, 12, 9, 0] rfl).conv (by rw [fil_no (f := (likeF (fcan oi))) hok hm1]; rw [fil_no (f := (likeF (fcan oi))) hlk hm2]; rfl)), (H.keep [0] rfl rfl), by omega⟩
        · try simp only [decide_eq_true_eq, decide_eq_false_iff_not, Bool.not_eq_true', Bool.not_eq_false', Bool.not_eq_true, Bool.not_eq_false, Bool.and_eq_true, Bool.or_eq_false_iff, beq_iff_eq, bne_iff_ne, Int.not_lt, Int.not_le, ne_eq] at hc23
          obtain rfl : j = l.length := by omega
          have hct := sort_count hso (fcan oi)
          rw [hsl] at hct
          rw [hct] at hT
          have hca := sort_can hso hoi
          refine wp_exit ?_
          refine Sx.then_exit ?_
          refine Sx.then_exit ?_
          refine Sx.block_exit ?_
          refine Sx.then_normal (hK19 _ _ ?_)
          clear hK19
          refine wp_seq_k fun K32 hK32 => ?_
          -- region 19 (law.go:143)
          refine Sx.wp_draws (fun u => Sx.Ext (Sx.No) u) [(0, .take), (1, .take), (2, .take), (3, .take), (4, .take), (5, .take), (6, .take), (7, .take), (8, .take), (9, .take), (10, .take), (11, .held), (12, .take), (13, .take), (14, .take), (15, .held), (16, .keep), (17, .take), (18, .take), (19, .take), (20, .take), (21, .take), (22, .take), (23, .take), (24, .held), (25, .take), (26, .take), (27, .take), (28, .held), (29, .keep), (30, .run), (31, .take), (32, .take)] (by kernel_rfl) (by kernel_rfl) (fun u E _ => ?_)
          replace H := H.pure E; clear E
          have hH : Sx.Ext (Sx.No) u u := Sx.Ext.refl _ _
          have Hu := H
          refine Sx.st_take hT rfl rfl rfl rfl (Sx.x_move hT rfl rfl) ?_
          clear hT; intro a hT
          refine Sx.st_take hT rfl rfl rfl rfl (Sx.x_move hT rfl rfl) ?_
          clear hT; intro a hT
          refine Sx.st_take hT rfl rfl rfl rfl ((fun w => Sx.x_ne w hT rfl rfl rfl)) ?_
          clear hT; intro a hT
          refine Sx.st_take hT rfl rfl rfl rfl (Sx.x_move hT rfl rfl) ?_
          clear hT; intro a hT
          -- guard (19, 3)
          refine Sx.Sl.two hT 62 rfl (fun hc33 hT => ?_) (fun hc33 hT => ?_)
          · exfalso
            try simp only [decide_eq_true_eq, decide_eq_false_iff_not, Bool.not_eq_true', Bool.not_eq_false', Bool.not_eq_true, Bool.not_eq_false, Bool.and_eq_true, Bool.or_eq_false_iff, beq_iff_eq, bne_iff_ne, Int.not_lt, Int.not_le, ne_eq] at hc33
            first | (rw [order_gt] at hc33; omega) | exact hc33 hca | exact hc33 hca.symm | (simp at hc33; done) | (simp at hc33; omega)
          · try simp only [decide_eq_true_eq, decide_eq_false_iff_not, Bool.not_eq_true', Bool.not_eq_false', Bool.not_eq_true, Bool.not_eq_false, Bool.and_eq_true, Bool.or_eq_false_iff, beq_iff_eq, bne_iff_ne, Int.not_lt, Int.not_le, ne_eq] at hc33
            refine Sx.st_take hT rfl rfl rfl rfl (Sx.x_move hT rfl rfl) ?_
            clear hT; intro a hT
            refine Sx.st_take hT rfl rfl rfl rfl ((fun w => Sx.x_gt w hT rfl rfl rfl)) ?_
            clear hT; intro a hT
            refine Sx.st_take hT rfl rfl rfl rfl (Sx.x_move hT rfl rfl) ?_
            clear hT; intro a hT
            -- guard (19, 6)
            refine Sx.Sl.two hT 65 rfl (fun hc34 hT => ?_) (fun hc34 hT => ?_)
            · try simp only [decide_eq_true_eq, decide_eq_false_iff_not, Bool.not_eq_true', Bool.not_eq_false', Bool.not_eq_true, Bool.not_eq_false, Bool.and_eq_true, Bool.or_eq_false_iff, beq_iff_eq, bne_iff_ne, Int.not_lt, Int.not_le, ne_eq] at hc34
              obtain ⟨oz, hoz⟩ : ∃ o, s[k - 1]? = some o := ⟨_, List.getElem?_eq_getElem (by omega)⟩
              have hle := sort_le hso hoz hoi (by omega)
              refine Sx.st_take hT rfl rfl rfl rfl (Sx.x_move hT rfl rfl) ?_
              clear hT; intro a hT
              refine Sx.st_take hT rfl rfl rfl rfl (Sx.x_move hT rfl rfl) ?_
              clear hT; intro a hT
              refine Sx.st_take hT rfl rfl rfl rfl ((fun w => Sx.x_sub w hT rfl rfl rfl (Sx.wrap64 (by omega)))) ?_
              clear hT; intro a hT
              refine Sx.st_take hT rfl rfl rfl rfl (Sx.x_index (k := k - 1) hT rfl Try.underlying30 Try.ti22 (H.row 0 rfl).sv rfl rfl (by first | rfl | omega) (by omega)) ?_
              clear hT; intro a hT
              refine Sx.st_held hT rfl rfl rfl rfl hH (fun w' h' => Sx.x_load1 hT rfl Try.fl22 rfl (by first | exact (((Hu.heldR 0 rfl h' Sx.off_No).ssn hsl.symm).cell (j := 0) fcell_len hok rfl) | exact (((Hu.heldR 0 rfl h' Sx.off_No).ssn hsl.symm).cell (j := 0) fcell_len hoi rfl) | exact (((Hu.heldR 0 rfl h' Sx.off_No).ssn hsl.symm).cell (j := 0) fcell_len hoz rfl) | exact ((R.at (Hu.ext.step h')).cell (j := 0) fcell_len hlk rfl))) ?_
              clear hT; intro a hT
              refine Sx.st_take hT rfl rfl rfl rfl (Sx.x_move hT rfl rfl) ?_
              clear hT; intro a hT
              refine Sx.st_take hT rfl rfl rfl rfl (Sx.x_move hT rfl rfl) ?_
              clear hT; intro a hT
              refine Sx.st_take hT rfl rfl rfl rfl (Sx.x_index (k := k) hT rfl Try.underlying30 Try.ti22 (H.row 0 rfl).sv rfl rfl (by first | rfl | omega) (by omega)) ?_
              clear hT; intro a hT
              refine Sx.st_held hT rfl rfl rfl rfl hH (fun w' h' => Sx.x_load1 hT rfl Try.fl22 rfl (by first | exact (((Hu.heldR 0 rfl h' Sx.off_No).ssn hsl.symm).cell (j := 0) fcell_len hok rfl) | exact (((Hu.heldR 0 rfl h' Sx.off_No).ssn hsl.symm).cell (j := 0) fcell_len hoi rfl) | exact (((Hu.heldR 0 rfl h' Sx.off_No).ssn hsl.symm).cell (j := 0) fcell_len hoz rfl) | exact ((R.at (Hu.ext.step h')).cell (j := 0) fcell_len hlk rfl))) ?_
              clear hT; intro a hT
              refine Sx.st_callkeep hT rfl rfl rfl rfl rfl Try.can17 rfl (xCmp_calls _ _ _) ?_
              rintro _ w12 ⟨rfl, E⟩
              refine ⟨_, rfl, hH.step E, ?_⟩
              replace hH := hH.step E
              clear hT; intro a hT
              replace H := H.pure E; clear E
              refine Sx.st_take hT rfl rfl rfl rfl ((fun w => Sx.x_gt w hT rfl rfl rfl)) ?_
              clear hT; intro a hT
              refine Sx.st_take hT rfl rfl rfl rfl (Sx.x_pick_t hT rfl rfl rfl) ?_
              clear hT; intro a hT
              refine Sx.st_take hT rfl rfl rfl rfl (Sx.x_pick_f hT rfl rfl rfl) ?_
              clear hT; intro a hT
              refine Sx.st_take hT rfl rfl rfl rfl (Sx.x_move hT rfl rfl) ?_
              clear hT; intro a hT
              -- guard (19, 20)
              refine Sx.Sl.two hT 79 rfl (fun hc35 hT => ?_) (fun hc35 hT => ?_)
              · exfalso
                try simp only [decide_eq_true_eq, decide_eq_false_iff_not, Bool.not_eq_true', Bool.not_eq_false', Bool.not_eq_true, Bool.not_eq_false, Bool.and_eq_true, Bool.or_eq_false_iff, beq_iff_eq, bne_iff_ne, Int.not_lt, Int.not_le, ne_eq] at hc35
                first | (rw [order_gt] at hc35; omega) | exact hc35 hca | exact hc35 hca.symm | (simp at hc35; done) | (simp at hc35; omega)
              · try simp only [decide_eq_true_eq, decide_eq_false_iff_not, Bool.not_eq_true', Bool.not_eq_false', Bool.not_eq_true, Bool.not_eq_false, Bool.and_eq_true, Bool.or_eq_false_iff, beq_iff_eq, bne_iff_ne, Int.not_lt, Int.not_le, ne_eq] at hc35
                refine Sx.st_take hT rfl rfl rfl rfl (Sx.x_move hT rfl rfl) ?_
                clear hT; intro a hT
                refine Sx.st_take hT rfl rfl rfl rfl (Sx.x_move hT rfl rfl) ?_
                clear hT; intro a hT
                refine Sx.st_take hT rfl rfl rfl rfl (Sx.x_index (k := k) hT rfl Try.underlying30 Try.ti22 (H.row 0 rfl).sv rfl rfl (by first | rfl | omega) (by omega)) ?_
                clear hT; intro a hT
                refine Sx.st_held hT rfl rfl rfl rfl hH (fun w' h' => Sx.x_load1 hT rfl Try.fl22 rfl (by first | exact (((Hu.heldR 0 rfl h' Sx.off_No).ssn hsl.symm).cell (j := 0) fcell_len hok rfl) | exact (((Hu.heldR 0 rfl h' Sx.off_No).ssn hsl.symm).cell (j := 0) fcell_len hoi rfl) | exact (((Hu.heldR 0 rfl h' Sx.off_No).ssn hsl.symm).cell (j := 0) fcell_len hoz rfl) | exact ((R.at (Hu.ext.step h')).cell (j := 0) fcell_len hlk rfl))) ?_
                clear hT; intro a hT
                refine Sx.st_take hT rfl rfl rfl rfl (Sx.x_move hT rfl rfl) ?_
                clear hT; intro a hT
                refine Sx.st_take hT rfl rfl rfl rfl (Sx.x_move hT rfl rfl) ?_
                clear hT; intro a hT
                refine Sx.st_take hT rfl rfl rfl rfl (Sx.x_index (k := k) hT rfl Try.underlying30 Try.ti22 (H.row 0 rfl).sv rfl rfl (by first | rfl | omega) (by omega)) ?_
                clear hT; intro a hT
                refine Sx.st_held hT rfl rfl rfl rfl hH (fun w' h' => Sx.x_load1 hT rfl Try.fl22 rfl (by first | exact (((Hu.heldR 0 rfl h' Sx.off_No).ssn hsl.symm).cell (j := 0) fcell_len hok rfl) | exact (((Hu.heldR 0 rfl h' Sx.off_No).ssn hsl.symm).cell (j := 0) fcell_len hoi rfl) | exact (((Hu.heldR 0 rfl h' Sx.off_No).ssn hsl.symm).cell (j := 0) fcell_len hoz rfl) | exact ((R.at (Hu.ext.step h')).cell (j := 0) fcell_len hlk rfl))) ?_
                clear hT; intro a hT
                refine Sx.st_callkeep hT rfl rfl rfl rfl rfl Try.can20 rfl (xCanon_calls _ _) ?_
                rintro _ w13 ⟨rfl, E⟩
                refine ⟨_, rfl, hH.step E, ?_⟩
                replace hH := hH.step E
                clear hT; intro a hT
                replace H := H.pure E; clear E
                refine Sx.st_call hT rfl rfl rfl rfl rfl Try.can15 rfl (same_calls _ _ _) ?_
                rintro _ w14 ⟨rfl, E⟩
                refine ⟨_, rfl, ?_⟩
                clear hT; intro a hT
                replace H := H.pure E; clear E
                refine Sx.st_take hT rfl rfl rfl rfl (Sx.x_not hT rfl rfl) ?_
                clear hT; intro a hT
                refine Sx.st_take hT rfl rfl rfl rfl (Sx.x_pick_f hT rfl rfl rfl) ?_
                clear hT; intro a hT
                replace hT := hT.keep [91, 30, 7, 5, 6, 24, 4, 20, 3, 12, 9, 0] rfl
                clear Hu hH
                refine Sx.ser_calm ?_
                refine Sx.then_normal (hK32 _ _ ?_)
                clear hK32
                -- cond 7
                refine Sx.wp_if hT rfl (fun hc36 => ?_) (fun hc36 => ?_)
                · exfalso
                  try simp only [decide_eq_true_eq, decide_eq_false_iff_not, Bool.not_eq_true', Bool.not_eq_false', Bool.not_eq_true, Bool.not_eq_false, Bool.and_eq_true, Bool.or_eq_false_iff, beq_iff_eq, bne_iff_ne, Int.not_lt, Int.not_le, ne_eq] at hc36
                  first | (rw [order_gt] at hc36; omega) | exact hc36 hca | exact hc36 hca.symm | (simp at hc36; done) | (simp at hc36; omega)
                · try simp only [decide_eq_true_eq, decide_eq_false_iff_not, Bool.not_eq_true', Bool.not_eq_false', Bool.not_eq_true, Bool.not_eq_false, Bool.and_eq_true, Bool.or_eq_false_iff, beq_iff_eq, bne_iff_ne, Int.not_lt, Int.not_le, ne_eq] at hc36
                  refine wp_skip ?_
                  refine Sx.block_normal ?_
                  refine Sx.then_normal (hK17 _ _ ?_)
                  clear hK17
                  -- region 10 (law.go:133)
                  refine Sx.wp_text [(0, .take), (1, .take), (2, .take)] rfl ?_
                  refine Sx.st_take hT rfl rfl rfl rfl (Sx.x_move hT rfl rfl) ?_
                  clear hT; intro a hT
                  refine Sx.st_take hT rfl rfl rfl rfl ((fun w => Sx.x_add w hT rfl rfl rfl (Sx.wrap64 (by omega)))) ?_
                  clear hT; intro a hT
                  refine Sx.st_take hT rfl rfl rfl rfl (Sx.x_assign hT rfl rfl) ?_
                  clear hT; intro a hT
                  replace hT := hT.keep [4, 91, 30, 7, 5, 6, 24, 20, 3, 12, 9, 0] rfl
                  refine Sx.ser_nil ?_
                  refine Sx.then_normal ?_
                  exact ⟨k + 1, (by omega), (hT.keep [4, 20, 3, 12, 9, 0] rfl), (H.keep [0] rfl rfl), by omega⟩
            · try simp only [decide_eq_true_eq, decide_eq_false_iff_not, Bool.not_eq_true', Bool.not_eq_false', Bool.not_eq_true, Bool.not_eq_false, Bool.and_eq_true, Bool.or_eq_false_iff, beq_iff_eq, bne_iff_ne, Int.not_lt, Int.not_le, ne_eq] at hc34
              refine Sx.st_skip hT rfl rfl rfl rfl ?_
              clear hT; intro a hT
              refine Sx.st_skip hT rfl rfl rfl rfl ?_
              clear hT; intro a hT
              refine Sx.st_skip hT rfl rfl rfl rfl ?_
              clear hT; intro a hT
              refine Sx.st_skip hT rfl rfl rfl rfl ?_
              clear hT; intro a hT
              refine Sx.st_heldskip hT rfl rfl rfl rfl hH ?_
              clear hT; intro a hT
              refine Sx.st_skip hT rfl rfl rfl rfl ?_
              clear hT; intro a hT
              refine Sx.st_skip hT rfl rfl rfl rfl ?_
              clear hT; intro a hT
              refine Sx.st_skip hT rfl rfl rfl rfl ?_
              clear hT; intro a hT
              refine Sx.st_heldskip hT rfl rfl rfl rfl hH ?_
              clear hT; intro a hT
              refine Sx.st_keepskip hT rfl rfl rfl rfl hH ?_
              clear hT; intro a hT
              refine Sx.st_skip hT rfl rfl rfl rfl ?_
              clear hT; intro a hT
              refine Sx.st_take hT rfl rfl rfl rfl (Sx.x_pick_f hT rfl rfl rfl) ?_
              clear hT; intro a hT
              refine Sx.st_take hT rfl rfl rfl rfl (Sx.x_pick_f hT rfl rfl rfl) ?_
              clear hT; intro a hT
              refine Sx.st_take hT rfl rfl rfl rfl (Sx.x_move hT rfl rfl) ?_
              clear hT; intro a hT
              refine Sx.st_take hT rfl rfl rfl rfl (Sx.x_move hT rfl rfl) ?_
              clear hT; intro a hT
              refine Sx.st_take hT rfl rfl rfl rfl (Sx.x_move hT rfl rfl) ?_
              clear hT; intro a hT
              refine Sx.st_take hT rfl rfl rfl rfl (Sx.x_index (k := k) hT rfl Try.underlying30 Try.ti22 (H.row 0 rfl).sv rfl rfl (by first | rfl | omega) (by omega)) ?_
              clear hT; intro a hT
              refine Sx.st_held hT rfl rfl rfl rfl hH (fun w' h' => Sx.x_load1 hT rfl Try.fl22 rfl (by first | exact (((Hu.heldR 0 rfl h' Sx.off_No).ssn hsl.symm).cell (j := 0) fcell_len hok rfl) | exact (((Hu.heldR 0 rfl h' Sx.off_No).ssn hsl.symm).cell (j := 0) fcell_len hoi rfl) | exact (((Hu.heldR 0 rfl h' Sx.off_No).ssn hsl.symm).cell (j := 0) fcell_len hoz rfl) | exact ((R.at (Hu.ext.step h')).cell (j := 0) fcell_len hlk rfl))) ?_
              clear hT; intro a hT
              refine Sx.st_take hT rfl rfl rfl rfl (Sx.x_move hT rfl rfl) ?_
              clear hT; intro a hT
              refine Sx.st_take hT rfl rfl rfl rfl (Sx.x_move hT rfl rfl) ?_
              clear hT; intro a hT
              refine Sx.st_take hT rfl rfl rfl rfl (Sx.x_index (k := k) hT rfl Try.underlying30 Try.ti22 (H.row 0 rfl).sv rfl rfl (by first | rfl | omega) (by omega)) ?_
              clear hT; intro a hT
              refine Sx.st_held hT rfl rfl rfl rfl hH (fun w' h' => Sx.x_load1 hT rfl Try.fl22 rfl (by first | exact (((Hu.heldR 0 rfl h' Sx.off_No).ssn hsl.symm).cell (j := 0) fcell_len hok rfl) | exact (((Hu.heldR 0 rfl h' Sx.off_No).ssn hsl.symm).cell (j := 0) fcell_len hoi rfl) | exact (((Hu.heldR 0 rfl h' Sx.off_No).ssn hsl.symm).cell (j := 0) fcell_len hoz rfl) | exact ((R.at (Hu.ext.step h')).cell (j := 0) fcell_len hlk rfl))) ?_
              clear hT; intro a hT
              refine Sx.st_callkeep hT rfl rfl rfl rfl rfl Try.can20 rfl (xCanon_calls _ _) ?_
              rintro _ w15 ⟨rfl, E⟩
              refine ⟨_, rfl, hH.step E, ?_⟩
              replace hH := hH.step E
              clear hT; intro a hT
              replace H := H.pure E; clear E
              refine Sx.st_call hT rfl rfl rfl rfl rfl Try.can15 rfl (same_calls _ _ _) ?_
              rintro _ w16 ⟨rfl, E⟩
              refine ⟨_, rfl, ?_⟩
              clear hT; intro a hT
              replace H := H.pure E; clear E
              refine Sx.st_take hT rfl rfl rfl rfl (Sx.x_not hT rfl rfl) ?_
              clear hT; intro a hT
              refine Sx.st_take hT rfl rfl rfl rfl (Sx.x_pick_f hT rfl rfl rfl) ?_
              clear hT; intro a hT
              replace hT := hT.keep [91, 30, 7, 5, 6, 24, 4, 20, 3, 12, 9, 0] rfl
              clear Hu hH
              refine Sx.ser_calm ?_
              refine Sx.then_normal (hK32 _ _ ?_)
              clear hK32
              -- cond 7
              refine Sx.wp_if hT rfl (fun hc37 => ?_) (fun hc37 => ?_)
              · exfalso
                try simp only [decide_eq_true_eq, decide_eq_false_iff_not, Bool.not_eq_true', Bool.not_eq_false', Bool.not_eq_true, Bool.not_eq_false, Bool.and_eq_true, Bool.or_eq_false_iff, beq_iff_eq, bne_iff_ne, Int.not_lt, Int.not_le, ne_eq] at hc37
                first | (rw [order_gt] at hc37; omega) | exact hc37 hca | exact hc37 hca.symm | (simp at hc37; done) | (simp at hc37; omega)
              · try simp only [decide_eq_true_eq, decide_eq_false_iff_not, Bool.not_eq_true', Bool.not_eq_false', Bool.not_eq_true, Bool.not_eq_false, Bool.and_eq_true, Bool.or_eq_false_iff, beq_iff_eq, bne_iff_ne, Int.not_lt, Int.not_le, ne_eq] at hc37
                refine wp_skip ?_
                refine Sx.block_normal ?_
                refine Sx.then_normal (hK17 _ _ ?_)
                clear hK17
                -- region 10 (law.go:133)
                refine Sx.wp_text [(0, .take), (1, .take), (2, .take)] rfl ?_
                refine Sx.st_take hT rfl rfl rfl rfl (Sx.x_move hT rfl rfl) ?_
                clear hT; intro a hT
                refine Sx.st_take hT rfl rfl rfl rfl ((fun w => Sx.x_add w hT rfl rfl rfl (Sx.wrap64 (by omega)))) ?_
                clear hT; intro a hT
                refine Sx.st_take hT rfl rfl rfl rfl (Sx.x_assign hT rfl rfl) ?_
                clear hT; intro a hT
                replace hT := hT.keep [4, 91, 30, 7, 5, 6, 24, 20, 3, 12, 9, 0] rfl
                refine Sx.ser_nil ?_
                refine Sx.then_normal ?_
                exact ⟨k + 1, (by omega), (hT.keep [4, 20, 3, 12, 9, 0] rfl), (H.keep [0] rfl rfl), by omega⟩
      · try simp only [decide_eq_true_eq, decide_eq_false_iff_not, Bool.not_eq_true', Bool.not_eq_false', Bool.not_eq_true, Bool.not_eq_false, Bool.and_eq_true, Bool.or_eq_false_iff, beq_iff_eq, bne_iff_ne, Int.not_lt, Int.not_le, ne_eq] at hc16
        refine wp_exit ?_
        refine Sx.then_exit ?_
        refine Sx.then_exit ?_
        refine Sx.block_exit ?_
        refine Sx.then_normal (hK12 _ _ ?_)
        clear hK12
        refine wp_seq_k fun K38 hK38 => ?_
        -- region 21 (law.go:147)
        refine Sx.wp_text [(0, .run), (1, .take)] rfl ?_
        refine Sx.st_call hT rfl rfl rfl rfl rfl Try.can10 rfl (first_calls _) ?_
        rintro _ w17 ⟨rfl, E⟩
        refine ⟨_, rfl, ?_⟩
        clear hT; intro a hT
        replace H := H.pure E; clear E
        refine Sx.st_take hT rfl rfl rfl rfl (Sx.x_assign hT rfl rfl) ?_
        clear hT; intro a hT
        replace hT := hT.keep [2, 24, 4, 20, 3, 12, 9, 0] rfl
        refine Sx.ser_nil ?_
        refine Sx.then_normal (hK38 _ _ ?_)
        clear hK38
        refine wp_ret ?_
        refine Sx.done1 (fn := Try.f5) hT rfl (.tmp (hT.get 2 _ rfl)) ?_
        exact ⟨rfl, H.ext⟩

end Go.Proofs.Ytmhfmbgjnebcfaa
