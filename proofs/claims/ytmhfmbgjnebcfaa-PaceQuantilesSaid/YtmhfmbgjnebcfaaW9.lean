/- Walks: PaceQuantiles. -/
import Derived.Test.YtmhfmbgjnebcfaaW5
import Derived.Test.YtmhfmbgjnebcfaaN5
set_option linter.unusedSimpArgs false
set_option linter.unusedVariables false
namespace Go.Proofs.Ytmhfmbgjnebcfaa
open Sx
theorem Try.can4 : Sx.Can Try.prog 4 := ⟨_, Try.func4, by kernel_rfl, rfl⟩
set_option maxHeartbeats 800000 in
theorem Quantiles_calls (p q : Nat) (hp : p < 2 ^ 64) (hq : q < 2 ^ 64) (ad : Option Addr) (c : Nat) (l : List Nat) (w : World) (hs : Ss w ad fcell 1 l) (hl : l.length ≤ 9223372036854775807) (hb : ∀ b ∈ l, b < 2 ^ 64) : Calls Try.prog 4 #[.slice ad l.length c, .float .f64 p, .float .f64 q] w fun e w' => e = .returned (.bool true) ∧ Ext No w w' := by
  have R : Ro w No _ := Ro.of fun w' x => hs.ext_no x
  refine Sx.calls_into Try.func4 rfl Try.ntmps4 rfl fun a hT => ?_
  replace hT := hT.keep [0, 1, 2] rfl
  have H : Sx.Hp w (Sx.No) w [] := Sx.Hp.start _ _
  refine wp_seq_k fun K1 hK1 => ?_
  -- region 0 (law.go:93)
  refine Sx.wp_text [(0, .take)] rfl ?_
  refine Sx.st_take hT rfl rfl rfl rfl (Sx.x_assign hT rfl rfl) ?_
  clear hT; intro a hT
  replace hT := hT.keep [6, 0, 1, 2] rfl
  refine Sx.ser_nil ?_
  refine Sx.then_normal (hK1 _ _ ?_)
  clear hK1
  refine wp_seq_k fun K2 hK2 => ?_
  refine wp_seq_k fun K3 hK3 => ?_
  -- region 1 (law.go:94)
  refine Sx.wp_text [(0, .run), (1, .take)] rfl ?_
  refine Sx.st_call hT rfl rfl rfl rfl rfl Try.can10 rfl (first_calls _) ?_
  rintro _ w1 ⟨rfl, E⟩
  refine ⟨_, rfl, ?_⟩
  clear hT; intro a hT
  replace H := H.pure E; clear E
  refine Sx.st_take hT rfl rfl rfl rfl (Sx.x_not hT rfl rfl) ?_
  clear hT; intro a hT
  replace hT := hT.keep [19, 6, 0, 1, 2] rfl
  refine Sx.ser_nil ?_
  refine Sx.then_normal (hK3 _ _ ?_)
  clear hK3
  refine Sx.wp_if hT rfl (fun h => by cases h) (fun _ => ?_)
  refine wp_skip ?_
  refine Sx.then_normal (hK2 _ _ ?_)
  clear hK2
  refine wp_seq_k fun K4 hK4 => ?_
  refine wp_seq_k fun K5 hK5 => ?_
  -- region 3 (law.go:97)
  refine Sx.wp_text [(0, .take), (1, .take), (2, .take), (3, .take), (4, .take), (5, .take), (6, .take), (7, .take), (8, .take), (9, .take), (10, .take), (11, .take), (12, .take), (13, .take), (14, .take), (15, .take), (16, .take), (17, .take), (18, .take), (19, .take), (20, .take), (21, .take)] rfl ?_
  refine Sx.st_take hT rfl rfl rfl rfl (Sx.x_move hT rfl rfl) ?_
  clear hT; intro a hT
  refine Sx.st_take hT rfl rfl rfl rfl (Sx.x_len_slice hT rfl rfl Try.underlying30 rfl) ?_
  clear hT; intro a hT
  refine Sx.st_take hT rfl rfl rfl rfl ((fun w => Sx.x_gt w hT rfl rfl rfl)) ?_
  clear hT; intro a hT
  refine Sx.st_take hT rfl rfl rfl rfl (Sx.x_move hT rfl rfl) ?_
  clear hT; intro a hT
  -- guard (3, 3)
  refine Sx.Sl.two hT 23 rfl (fun hc6 hT => ?_) (fun hc6 hT => ?_)
  · try simp only [decide_eq_true_eq, decide_eq_false_iff_not, Bool.not_eq_true', Bool.not_eq_false', Bool.not_eq_true, Bool.not_eq_false, Bool.and_eq_true, Bool.or_eq_false_iff, beq_iff_eq, bne_iff_ne, Int.not_lt, Int.not_le, ne_eq] at hc6
    refine Sx.st_skip hT rfl rfl rfl rfl ?_
    clear hT; intro a hT
    refine Sx.st_skip hT rfl rfl rfl rfl ?_
    clear hT; intro a hT
    refine Sx.st_skip hT rfl rfl rfl rfl ?_
    clear hT; intro a hT
    refine Sx.st_take hT rfl rfl rfl rfl (Sx.x_pick_t hT rfl rfl rfl) ?_
    clear hT; intro a hT
    refine Sx.st_take hT rfl rfl rfl rfl (Sx.x_move hT rfl rfl) ?_
    clear hT; intro a hT
    refine Sx.st_skip hT rfl rfl rfl rfl ?_
    clear hT; intro a hT
    refine Sx.st_skip hT rfl rfl rfl rfl ?_
    clear hT; intro a hT
    refine Sx.st_skip hT rfl rfl rfl rfl ?_
    clear hT; intro a hT
    refine Sx.st_skip hT rfl rfl rfl rfl ?_
    clear hT; intro a hT
    refine Sx.st_skip hT rfl rfl rfl rfl ?_
    clear hT; intro a hT
    refine Sx.st_skip hT rfl rfl rfl rfl ?_
    clear hT; intro a hT
    refine Sx.st_skip hT rfl rfl rfl rfl ?_
    clear hT; intro a hT
    refine Sx.st_skip hT rfl rfl rfl rfl ?_
    clear hT; intro a hT
    refine Sx.st_skip hT rfl rfl rfl rfl ?_
    clear hT; intro a hT
    refine Sx.st_skip hT rfl rfl rfl rfl ?_
    clear hT; intro a hT
    refine Sx.st_skip hT rfl rfl rfl rfl ?_
    clear hT; intro a hT
    refine Sx.st_skip hT rfl rfl rfl rfl ?_
    clear hT; intro a hT
    refine Sx.st_take hT rfl rfl rfl rfl (Sx.x_pick_t hT rfl rfl rfl) ?_
    clear hT; intro a hT
    replace hT := hT.keep [41, 19, 6, 0, 1, 2] rfl
    refine Sx.ser_nil ?_
    refine Sx.then_normal (hK5 _ _ ?_)
    clear hK5
    refine Sx.wp_if hT rfl (fun _ => ?_) (fun h => by cases h)
    refine wp_seq_k fun K7 hK7 => ?_
    -- region 4 (law.go:98)
    refine Sx.wp_text [(0, .run), (1, .take)] rfl ?_
    refine Sx.st_call hT rfl rfl rfl rfl rfl Try.can10 rfl (first_calls _) ?_
    rintro _ w2 ⟨rfl, E⟩
    refine ⟨_, rfl, ?_⟩
    clear hT; intro a hT
    replace H := H.pure E; clear E
    refine Sx.st_take hT rfl rfl rfl rfl (Sx.x_assign hT rfl rfl) ?_
    clear hT; intro a hT
    replace hT := hT.keep [6, 41, 19, 0, 1, 2] rfl
    refine Sx.ser_nil ?_
    refine Sx.then_normal (hK7 _ _ ?_)
    clear hK7
    refine wp_ret ?_
    refine Sx.then_ret ?_
    refine Sx.done1 (fn := Try.f4) hT rfl (.tmp (hT.get 6 _ rfl)) ?_
    exact ⟨rfl, H.ext⟩
  · try simp only [decide_eq_true_eq, decide_eq_false_iff_not, Bool.not_eq_true', Bool.not_eq_false', Bool.not_eq_true, Bool.not_eq_false, Bool.and_eq_true, Bool.or_eq_false_iff, beq_iff_eq, bne_iff_ne, Int.not_lt, Int.not_le, ne_eq] at hc6
    refine Sx.st_take hT rfl rfl rfl rfl (Sx.x_move hT rfl rfl) ?_
    clear hT; intro a hT
    refine Sx.st_take hT rfl rfl rfl rfl (Sx.x_len_slice hT rfl rfl Try.underlying30 rfl) ?_
    clear hT; intro a hT
    refine Sx.st_take hT rfl rfl rfl rfl ((fun w => Sx.x_eq w hT rfl rfl rfl)) ?_
    clear hT; intro a hT
    refine Sx.st_take hT rfl rfl rfl rfl (Sx.x_pick_f hT rfl rfl rfl) ?_
    clear hT; intro a hT
    refine Sx.st_take hT rfl rfl rfl rfl (Sx.x_move hT rfl rfl) ?_
    clear hT; intro a hT
    -- guard (3, 8)
    refine Sx.Sl.two hT 28 rfl (fun hc8 hT => ?_) (fun hc8 hT => ?_)
    · try simp only [decide_eq_true_eq, decide_eq_false_iff_not, Bool.not_eq_true', Bool.not_eq_false', Bool.not_eq_true, Bool.not_eq_false, Bool.and_eq_true, Bool.or_eq_false_iff, beq_iff_eq, bne_iff_ne, Int.not_lt, Int.not_le, ne_eq] at hc8
      refine Sx.st_skip hT rfl rfl rfl rfl ?_
      clear hT; intro a hT
      refine Sx.st_skip hT rfl rfl rfl rfl ?_
      clear hT; intro a hT
      refine Sx.st_skip hT rfl rfl rfl rfl ?_
      clear hT; intro a hT
      refine Sx.st_skip hT rfl rfl rfl rfl ?_
      clear hT; intro a hT
      refine Sx.st_skip hT rfl rfl rfl rfl ?_
      clear hT; intro a hT
      refine Sx.st_skip hT rfl rfl rfl rfl ?_
      clear hT; intro a hT
      refine Sx.st_skip hT rfl rfl rfl rfl ?_
      clear hT; intro a hT
      refine Sx.st_skip hT rfl rfl rfl rfl ?_
      clear hT; intro a hT
      refine Sx.st_skip hT rfl rfl rfl rfl ?_
      clear hT; intro a hT
      refine Sx.st_skip hT rfl rfl rfl rfl ?_
      clear hT; intro a hT
      refine Sx.st_skip hT rfl rfl rfl rfl ?_
      clear hT; intro a hT
      refine Sx.st_skip hT rfl rfl rfl rfl ?_
      clear hT; intro a hT
      refine Sx.st_take hT rfl rfl rfl rfl (Sx.x_pick_t hT rfl rfl rfl) ?_
      clear hT; intro a hT
      replace hT := hT.keep [41, 19, 6, 0, 1, 2] rfl
      refine Sx.ser_nil ?_
      refine Sx.then_normal (hK5 _ _ ?_)
      clear hK5
      refine Sx.wp_if hT rfl (fun _ => ?_) (fun h => by cases h)
      refine wp_seq_k fun K9 hK9 => ?_
      -- region 4 (law.go:98)
      refine Sx.wp_text [(0, .run), (1, .take)] rfl ?_
      refine Sx.st_call hT rfl rfl rfl rfl rfl Try.can10 rfl (first_calls _) ?_
      rintro _ w3 ⟨rfl, E⟩
      refine ⟨_, rfl, ?_⟩
      clear hT; intro a hT
      replace H := H.pure E; clear E
      refine Sx.st_take hT rfl rfl rfl rfl (Sx.x_assign hT rfl rfl) ?_
      clear hT; intro a hT
      replace hT := hT.keep [6, 41, 19, 0, 1, 2] rfl
      refine Sx.ser_nil ?_
      refine Sx.then_normal (hK9 _ _ ?_)
      clear hK9
      refine wp_ret ?_
      refine Sx.then_ret ?_
      refine Sx.done1 (fn := Try.f4) hT rfl (.tmp (hT.get 6 _ rfl)) ?_
      exact ⟨rfl, H.ext⟩
    · try simp only [decide_eq_true_eq, decide_eq_false_iff_not, Bool.not_eq_true', Bool.not_eq_false', Bool.not_eq_true, Bool.not_eq_false, Bool.and_eq_true, Bool.or_eq_false_iff, beq_iff_eq, bne_iff_ne, Int.not_lt, Int.not_le, ne_eq] at hc8
      refine Sx.st_take hT rfl rfl rfl rfl (Sx.x_move hT rfl rfl) ?_
      clear hT; intro a hT
      refine Sx.st_take hT rfl rfl rfl rfl (Sx.x_fge hT rfl rfl rfl) ?_
      clear hT; intro a hT
      refine Sx.st_take hT rfl rfl rfl rfl (Sx.x_move hT rfl rfl) ?_
      clear hT; intro a hT
      -- guard (3, 11)
      refine Sx.Sl.two hT 31 rfl (fun hc10 hT => ?_) (fun hc10 hT => ?_)
      · try simp only [decide_eq_true_eq, decide_eq_false_iff_not, Bool.not_eq_true', Bool.not_eq_false', Bool.not_eq_true, Bool.not_eq_false, Bool.and_eq_true, Bool.or_eq_false_iff, beq_iff_eq, bne_iff_ne, Int.not_lt, Int.not_le, ne_eq] at hc10
        have hp0 : fge p 0 = true := hc10
        refine Sx.st_take hT rfl rfl rfl rfl (Sx.x_move hT rfl rfl) ?_
        clear hT; intro a hT
        refine Sx.st_take hT rfl rfl rfl rfl (Sx.x_move hT rfl rfl) ?_
        clear hT; intro a hT
        refine Sx.st_take hT rfl rfl rfl rfl (Sx.x_fle hT rfl rfl rfl) ?_
        clear hT; intro a hT
        refine Sx.st_take hT rfl rfl rfl rfl (Sx.x_pick_t hT rfl rfl rfl) ?_
        clear hT; intro a hT
        refine Sx.st_take hT rfl rfl rfl rfl (Sx.x_move hT rfl rfl) ?_
        clear hT; intro a hT
        -- guard (3, 16)
        refine Sx.Sl.two hT 36 rfl (fun hc11 hT => ?_) (fun hc11 hT => ?_)
        · try simp only [decide_eq_true_eq, decide_eq_false_iff_not, Bool.not_eq_true', Bool.not_eq_false', Bool.not_eq_true, Bool.not_eq_false, Bool.and_eq_true, Bool.or_eq_false_iff, beq_iff_eq, bne_iff_ne, Int.not_lt, Int.not_le, ne_eq] at hc11
          have hpq : fle p q = true := hc11
          refine Sx.st_take hT rfl rfl rfl rfl (Sx.x_move hT rfl rfl) ?_
          clear hT; intro a hT
          refine Sx.st_take hT rfl rfl rfl rfl (Sx.x_fle hT rfl rfl rfl) ?_
          clear hT; intro a hT
          refine Sx.st_take hT rfl rfl rfl rfl (Sx.x_pick_t hT rfl rfl rfl) ?_
          clear hT; intro a hT
          refine Sx.st_take hT rfl rfl rfl rfl (Sx.x_not hT rfl rfl) ?_
          clear hT; intro a hT
          refine Sx.st_take hT rfl rfl rfl rfl (Sx.x_pick_f hT rfl rfl rfl) ?_
          clear hT; intro a hT
          replace hT := hT.keep [41, 19, 6, 0, 1, 2] rfl
          refine Sx.ser_nil ?_
          refine Sx.then_normal (hK5 _ _ ?_)
          clear hK5
          -- cond 1
          refine Sx.wp_if hT rfl (fun hc12 => ?_) (fun hc12 => ?_)
          · try simp only [decide_eq_true_eq, decide_eq_false_iff_not, Bool.not_eq_true', Bool.not_eq_false', Bool.not_eq_true, Bool.not_eq_false, Bool.and_eq_true, Bool.or_eq_false_iff, beq_iff_eq, bne_iff_ne, Int.not_lt, Int.not_le, ne_eq] at hc12
            refine wp_seq_k fun K13 hK13 => ?_
            -- region 4 (law.go:98)
            refine Sx.wp_text [(0, .run), (1, .take)] rfl ?_
            refine Sx.st_call hT rfl rfl rfl rfl rfl Try.can10 rfl (first_calls _) ?_
            rintro _ w4 ⟨rfl, E⟩
            refine ⟨_, rfl, ?_⟩
            clear hT; intro a hT
            replace H := H.pure E; clear E
            refine Sx.st_take hT rfl rfl rfl rfl (Sx.x_assign hT rfl rfl) ?_
            clear hT; intro a hT
            replace hT := hT.keep [6, 41, 19, 0, 1, 2] rfl
            refine Sx.ser_nil ?_
            refine Sx.then_normal (hK13 _ _ ?_)
            clear hK13
            refine wp_ret ?_
            refine Sx.then_ret ?_
            refine Sx.done1 (fn := Try.f4) hT rfl (.tmp (hT.get 6 _ rfl)) ?_
            exact ⟨rfl, H.ext⟩
          · try simp only [decide_eq_true_eq, decide_eq_false_iff_not, Bool.not_eq_true', Bool.not_eq_false', Bool.not_eq_true, Bool.not_eq_false, Bool.and_eq_true, Bool.or_eq_false_iff, beq_iff_eq, bne_iff_ne, Int.not_lt, Int.not_le, ne_eq] at hc12
            have hl2 : l.length ≤ 1000000 := by omega
            have hne : l ≠ [] := fun h9 => by
              have h8 : l.length = 0 := by rw [h9]; rfl
              omega
            have hq1 : fle q fone = true := hc12
            have hp1 := fle_part hp hq hp0 hpq hq1
            have hq0 := fle_nonneg hp hq hp0 hpq
            refine wp_skip ?_
            refine Sx.then_normal (hK4 _ _ ?_)
            clear hK4
            refine wp_seq_k fun K14 hK14 => ?_
            -- region 5 (law.go:100)
            refine Sx.wp_text [(0, .take), (1, .take), (2, .run), (3, .take), (4, .take), (5, .take), (6, .take), (7, .take)] rfl ?_
            refine Sx.st_take hT rfl rfl rfl rfl (Sx.x_move hT rfl rfl) ?_
            clear hT; intro a hT
            refine Sx.st_take hT rfl rfl rfl rfl (Sx.x_move hT rfl rfl) ?_
            clear hT; intro a hT
            refine Sx.st_call hT rfl rfl rfl rfl rfl Try.can16 rfl (Quant_calls _ _ l _ (R.at H.ext) hl2 _ hp hb) ?_
            rintro _ w5 ⟨xa, ra, rfl, hQa, E⟩
            refine ⟨_, rfl, ?_⟩
            clear hT; intro a hT
            replace H := H.pure E; clear E
            obtain ⟨rfl, sa, za, soa, hza, hxa⟩ := hQa.ok hne hp0 hp1
            refine Sx.st_take hT rfl rfl rfl rfl (Sx.x_move hT rfl rfl) ?_
            clear hT; intro a hT
            refine Sx.st_take hT rfl rfl rfl rfl (Sx.x_extractL hT rfl rfl rfl) ?_
            clear hT; intro a hT
            refine Sx.st_take hT rfl rfl rfl rfl (Sx.x_extractL hT rfl rfl rfl) ?_
            clear hT; intro a hT
            refine Sx.st_take hT rfl rfl rfl rfl (Sx.x_assign hT rfl rfl) ?_
            clear hT; intro a hT
            refine Sx.st_take hT rfl rfl rfl rfl (Sx.x_assign hT rfl rfl) ?_
            clear hT; intro a hT
            replace hT := hT.keep [8, 7, 41, 19, 6, 0, 1, 2] rfl
            refine Sx.ser_nil ?_
            refine Sx.then_normal (hK14 _ _ ?_)
            clear hK14
            refine wp_seq_k fun K15 hK15 => ?_
            -- region 6 (law.go:101)
            refine Sx.wp_text [(0, .take), (1, .take), (2, .run), (3, .take), (4, .take), (5, .take), (6, .take), (7, .take)] rfl ?_
            refine Sx.st_take hT rfl rfl rfl rfl (Sx.x_move hT rfl rfl) ?_
            clear hT; intro a hT
            refine Sx.st_take hT rfl rfl rfl rfl (Sx.x_move hT rfl rfl) ?_
            clear hT; intro a hT
            refine Sx.st_call hT rfl rfl rfl rfl rfl Try.can16 rfl (Quant_calls _ _ l _ (R.at H.ext) hl2 _ hq hb) ?_
            rintro _ w6 ⟨xb, rb, rfl, hQb, E⟩
            refine ⟨_, rfl, ?_⟩
            clear hT; intro a hT
            replace H := H.pure E; clear E
            obtain ⟨rfl, sb, zb, sob, hzb, hxb⟩ := hQb.ok hne hq0 hq1
            obtain rfl := sort_one hb soa sob
            have hzab := above_mono hp hq hp0 hpq hq1 hl2 hza hzb
            refine Sx.st_take hT rfl rfl rfl rfl (Sx.x_move hT rfl rfl) ?_
            clear hT; intro a hT
            refine Sx.st_take hT rfl rfl rfl rfl (Sx.x_extractL hT rfl rfl rfl) ?_
            clear hT; intro a hT
            refine Sx.st_take hT rfl rfl rfl rfl (Sx.x_extractL hT rfl rfl rfl) ?_
            clear hT; intro a hT
            refine Sx.st_take hT rfl rfl rfl rfl (Sx.x_assign hT rfl rfl) ?_
            clear hT; intro a hT
            refine Sx.st_take hT rfl rfl rfl rfl (Sx.x_assign hT rfl rfl) ?_
            clear hT; intro a hT
            replace hT := hT.keep [10, 9, 8, 7, 41, 19, 6, 0, 1, 2] rfl
            refine Sx.ser_nil ?_
            refine Sx.then_normal (hK15 _ _ ?_)
            clear hK15
            refine wp_seq_k fun K16 hK16 => ?_
            -- region 7 (law.go:102)
            refine Sx.wp_text [(0, .take), (1, .run), (2, .take), (3, .take), (4, .take), (5, .take), (6, .take)] rfl ?_
            refine Sx.st_take hT rfl rfl rfl rfl (Sx.x_move hT rfl rfl) ?_
            clear hT; intro a hT
            refine Sx.st_call hT rfl rfl rfl rfl rfl Try.can16 rfl (Quant_calls _ _ l _ (R.at H.ext) hl2 _ (by decide) hb) ?_
            rintro _ w7 ⟨xc, rc, rfl, hQc, E⟩
            refine ⟨_, rfl, ?_⟩
            clear hT; intro a hT
            replace H := H.pure E; clear E
            obtain ⟨rfl, sc, zc, soc, hzc, hxc⟩ := hQc.ok hne z_fge z_fle
            obtain rfl := sort_one hb soa soc
            obtain rfl := above_zero hl2 hzc
            have hxc : sa[0]? = some xc := by simpa using hxc
            refine Sx.st_take hT rfl rfl rfl rfl (Sx.x_move hT rfl rfl) ?_
            clear hT; intro a hT
            refine Sx.st_take hT rfl rfl rfl rfl (Sx.x_extractL hT rfl rfl rfl) ?_
            clear hT; intro a hT
            refine Sx.st_take hT rfl rfl rfl rfl (Sx.x_extractL hT rfl rfl rfl) ?_
            clear hT; intro a hT
            refine Sx.st_take hT rfl rfl rfl rfl (Sx.x_assign hT rfl rfl) ?_
            clear hT; intro a hT
            refine Sx.st_take hT rfl rfl rfl rfl (Sx.x_assign hT rfl rfl) ?_
            clear hT; intro a hT
            replace hT := hT.keep [12, 11, 10, 9, 8, 7, 41, 19, 6, 0, 1, 2] rfl
            refine Sx.ser_nil ?_
            refine Sx.then_normal (hK16 _ _ ?_)
            clear hK16
            refine wp_seq_k fun K17 hK17 => ?_
            -- region 8 (law.go:103)
            refine Sx.wp_text [(0, .take), (1, .run), (2, .take), (3, .take), (4, .take), (5, .take), (6, .take)] rfl ?_
            refine Sx.st_take hT rfl rfl rfl rfl (Sx.x_move hT rfl rfl) ?_
            clear hT; intro a hT
            refine Sx.st_call hT rfl rfl rfl rfl rfl Try.can16 rfl (Quant_calls _ _ l _ (R.at H.ext) hl2 _ (by decide) hb) ?_
            rintro _ w8 ⟨xd, rd, rfl, hQd, E⟩
            refine ⟨_, rfl, ?_⟩
            clear hT; intro a hT
            replace H := H.pure E; clear E
            obtain ⟨rfl, sd, zd, sod, hzd, hxd⟩ := hQd.ok hne one_fge one_fle
            obtain rfl := sort_one hb soa sod
            obtain rfl := above_one hl2 hzd
            rw [show max l.length 1 - 1 = l.length - 1 from by omega] at hxd
            refine Sx.st_take hT rfl rfl rfl rfl (Sx.x_move hT rfl rfl) ?_
            clear hT; intro a hT
            refine Sx.st_take hT rfl rfl rfl rfl (Sx.x_extractL hT rfl rfl rfl) ?_
            clear hT; intro a hT
            refine Sx.st_take hT rfl rfl rfl rfl (Sx.x_extractL hT rfl rfl rfl) ?_
            clear hT; intro a hT
            refine Sx.st_take hT rfl rfl rfl rfl (Sx.x_assign hT rfl rfl) ?_
            clear hT; intro a hT
            refine Sx.st_take hT rfl rfl rfl rfl (Sx.x_assign hT rfl rfl) ?_
            clear hT; intro a hT
            replace hT := hT.keep [14, 13, 12, 11, 10, 9, 8, 7, 41, 19, 6, 0, 1, 2] rfl
            refine Sx.ser_nil ?_
            refine Sx.then_normal (hK17 _ _ ?_)
            clear hK17
            refine wp_seq_k fun K18 hK18 => ?_
            refine wp_seq_k fun K19 hK19 => ?_
            -- region 9 (law.go:104)
            refine Sx.wp_text [(0, .take), (1, .take), (2, .take), (3, .take), (4, .take), (5, .take), (6, .take), (7, .take), (8, .take), (9, .take), (10, .take), (11, .take), (12, .take), (13, .take)] rfl ?_
            refine Sx.st_take hT rfl rfl rfl rfl (Sx.x_move hT rfl rfl) ?_
            clear hT; intro a hT
            refine Sx.st_take hT rfl rfl rfl rfl ((fun w => Sx.x_ne w hT rfl rfl rfl)) ?_
            clear hT; intro a hT
            refine Sx.st_take hT rfl rfl rfl rfl (Sx.x_move hT rfl rfl) ?_
            clear hT; intro a hT
            -- guard (9, 2)
            refine Sx.Sl.two hT 67 rfl (fun hc20 hT => ?_) (fun hc20 hT => ?_)
            · exfalso
              try simp only [decide_eq_true_eq, decide_eq_false_iff_not, Bool.not_eq_true', Bool.not_eq_false', Bool.not_eq_true, Bool.not_eq_false, Bool.and_eq_true, Bool.or_eq_false_iff, beq_iff_eq, bne_iff_ne, Int.not_lt, Int.not_le, ne_eq] at hc20
              simp at hc20
            · try simp only [decide_eq_true_eq, decide_eq_false_iff_not, Bool.not_eq_true', Bool.not_eq_false', Bool.not_eq_true, Bool.not_eq_false, Bool.and_eq_true, Bool.or_eq_false_iff, beq_iff_eq, bne_iff_ne, Int.not_lt, Int.not_le, ne_eq] at hc20
              refine Sx.st_take hT rfl rfl rfl rfl (Sx.x_move hT rfl rfl) ?_
              clear hT; intro a hT
              refine Sx.st_take hT rfl rfl rfl rfl ((fun w => Sx.x_ne w hT rfl rfl rfl)) ?_
              clear hT; intro a hT
              refine Sx.st_take hT rfl rfl rfl rfl (Sx.x_pick_f hT rfl rfl rfl) ?_
              clear hT; intro a hT
              refine Sx.st_take hT rfl rfl rfl rfl (Sx.x_move hT rfl rfl) ?_
              clear hT; intro a hT
              -- guard (9, 6)
              refine Sx.Sl.two hT 71 rfl (fun hc21 hT => ?_) (fun hc21 hT => ?_)
              · exfalso
                try simp only [decide_eq_true_eq, decide_eq_false_iff_not, Bool.not_eq_true', Bool.not_eq_false', Bool.not_eq_true, Bool.not_eq_false, Bool.and_eq_true, Bool.or_eq_false_iff, beq_iff_eq, bne_iff_ne, Int.not_lt, Int.not_le, ne_eq] at hc21
                simp at hc21
              · try simp only [decide_eq_true_eq, decide_eq_false_iff_not, Bool.not_eq_true', Bool.not_eq_false', Bool.not_eq_true, Bool.not_eq_false, Bool.and_eq_true, Bool.or_eq_false_iff, beq_iff_eq, bne_iff_ne, Int.not_lt, Int.not_le, ne_eq] at hc21
                refine Sx.st_take hT rfl rfl rfl rfl (Sx.x_move hT rfl rfl) ?_
                clear hT; intro a hT
                refine Sx.st_take hT rfl rfl rfl rfl ((fun w => Sx.x_ne w hT rfl rfl rfl)) ?_
                clear hT; intro a hT
                refine Sx.st_take hT rfl rfl rfl rfl (Sx.x_pick_f hT rfl rfl rfl) ?_
                clear hT; intro a hT
                refine Sx.st_take hT rfl rfl rfl rfl (Sx.x_move hT rfl rfl) ?_
                clear hT; intro a hT
                -- guard (9, 10)
                refine Sx.Sl.two hT 75 rfl (fun hc22 hT => ?_) (fun hc22 hT => ?_)
                · exfalso
                  try simp only [decide_eq_true_eq, decide_eq_false_iff_not, Bool.not_eq_true', Bool.not_eq_false', Bool.not_eq_true, Bool.not_eq_false, Bool.and_eq_true, Bool.or_eq_false_iff, beq_iff_eq, bne_iff_ne, Int.not_lt, Int.not_le, ne_eq] at hc22
                  simp at hc22
                · try simp only [decide_eq_true_eq, decide_eq_false_iff_not, Bool.not_eq_true', Bool.not_eq_false', Bool.not_eq_true, Bool.not_eq_false, Bool.and_eq_true, Bool.or_eq_false_iff, beq_iff_eq, bne_iff_ne, Int.not_lt, Int.not_le, ne_eq] at hc22
                  refine Sx.st_take hT rfl rfl rfl rfl (Sx.x_move hT rfl rfl) ?_
                  clear hT; intro a hT
                  refine Sx.st_take hT rfl rfl rfl rfl ((fun w => Sx.x_ne w hT rfl rfl rfl)) ?_
                  clear hT; intro a hT
                  refine Sx.st_take hT rfl rfl rfl rfl (Sx.x_pick_f hT rfl rfl rfl) ?_
                  clear hT; intro a hT
                  replace hT := hT.keep [78, 14, 13, 12, 11, 10, 9, 8, 7, 41, 19, 6, 0, 1, 2] rfl
                  refine Sx.ser_nil ?_
                  refine Sx.then_normal (hK19 _ _ ?_)
                  clear hK19
                  -- cond 2
                  refine Sx.wp_if hT rfl (fun hc23 => ?_) (fun hc23 => ?_)
                  · exfalso
                    try simp only [decide_eq_true_eq, decide_eq_false_iff_not, Bool.not_eq_true', Bool.not_eq_false', Bool.not_eq_true, Bool.not_eq_false, Bool.and_eq_true, Bool.or_eq_false_iff, beq_iff_eq, bne_iff_ne, Int.not_lt, Int.not_le, ne_eq] at hc23
                    simp at hc23
                  · try simp only [decide_eq_true_eq, decide_eq_false_iff_not, Bool.not_eq_true', Bool.not_eq_false', Bool.not_eq_true, Bool.not_eq_false, Bool.and_eq_true, Bool.or_eq_false_iff, beq_iff_eq, bne_iff_ne, Int.not_lt, Int.not_le, ne_eq] at hc23
                    refine wp_skip ?_
                    refine Sx.then_normal (hK18 _ _ ?_)
                    clear hK18
                    refine wp_seq_k fun K24 hK24 => ?_
                    -- region 11 (law.go:107)
                    refine Sx.wp_text [(0, .take)] rfl ?_
                    refine Sx.st_take hT rfl rfl rfl rfl (Sx.x_assign hT rfl rfl) ?_
                    clear hT; intro a hT
                    replace hT := hT.keep [15, 78, 14, 13, 12, 11, 10, 9, 8, 7, 41, 19, 6, 0, 1, 2] rfl
                    refine Sx.ser_nil ?_
                    refine Sx.then_normal (hK24 _ _ ?_)
                    clear hK24
                    refine wp_seq_k fun K25 hK25 => ?_
                    -- region 12 (law.go:108)
                    refine Sx.wp_text [(0, .take)] rfl ?_
                    refine Sx.st_take hT rfl rfl rfl rfl (Sx.x_assign hT rfl rfl) ?_
                    clear hT; intro a hT
                    replace hT := hT.keep [16, 15, 78, 14, 13, 12, 11, 10, 9, 8, 7, 41, 19, 6, 0, 1, 2] rfl
                    refine Sx.ser_nil ?_
                    refine Sx.then_normal (hK25 _ _ ?_)
                    clear hK25
                    refine wp_seq_k fun K26 hK26 => ?_
                    refine wp_seq_k fun K27 hK27 => ?_
                    -- region 13 (law.go:109)
                    refine Sx.wp_text [(0, .take)] rfl ?_
                    refine Sx.st_take hT rfl rfl rfl rfl (Sx.x_assign hT rfl rfl) ?_
                    clear hT; intro a hT
                    replace hT := hT.keep [17, 16, 15, 78, 14, 13, 12, 11, 10, 9, 8, 7, 41, 19, 6, 0, 1, 2] rfl
                    refine Sx.ser_nil ?_
                    refine Sx.then_normal (hK27 _ _ ?_)
                    clear hK27
                    refine wp_block ?_
                    -- loop 0
                    refine Sx.wp_loopH (G := Nat) (fun k => [(17, .int .i64 (k : Int)), (15, .bool (metF xb l k)), (16, .int .i64 ((fil (leF xb) l k).length : Int))]) (fun k => []) (fun k => k ≤ l.length) (fun k => l.length - k) 0 (hT.keep [17, 15, 16, 78, 14, 13, 12, 11, 10, 9, 8, 7, 41, 19, 0, 1, 2] rfl) (H.keep [] rfl rfl) (Nat.zero_le _) ?_
                    clear hT H
                    rintro k a w9 hJ hT H
                    replace hT := hT.keep [17, 15, 16, 78, 14, 13, 12, 11, 10, 9, 8, 7, 41, 19, 0, 1, 2] rfl
                    replace H := H.keep [] rfl rfl
                    have hk : k ≤ l.length := hJ
                    have hfl := fil_len (leF xb) l k
                    refine wp_seq_k fun K28 hK28 => ?_
                    refine wp_seq_k fun K29 hK29 => ?_
                    -- region 14 (law.go:109)
                    refine Sx.wp_text [(0, .take), (1, .take), (2, .take), (3, .take)] rfl ?_
                    refine Sx.st_take hT rfl rfl rfl rfl (Sx.x_move hT rfl rfl) ?_
                    clear hT; intro a hT
                    refine Sx.st_take hT rfl rfl rfl rfl (Sx.x_move hT rfl rfl) ?_
                    clear hT; intro a hT
                    refine Sx.st_take hT rfl rfl rfl rfl (Sx.x_len_slice hT rfl rfl Try.underlying30 rfl) ?_
                    clear hT; intro a hT
                    refine Sx.st_take hT rfl rfl rfl rfl ((fun w => Sx.x_lt w hT rfl rfl rfl)) ?_
                    clear hT; intro a hT
                    replace hT := hT.keep [82, 17, 15, 16, 78, 14, 13, 12, 11, 10, 9, 8, 7, 41, 19, 0, 1, 2] rfl
                    refine Sx.ser_nil ?_
                    refine Sx.then_normal (hK29 _ _ ?_)
                    clear hK29
                    -- cond 3
                    refine Sx.wp_if hT rfl (fun hc30 => ?_) (fun hc30 => ?_)
                    · try simp only [decide_eq_true_eq, decide_eq_false_iff_not, Bool.not_eq_true', Bool.not_eq_false', Bool.not_eq_true, Bool.not_eq_false, Bool.and_eq_true, Bool.or_eq_false_iff, beq_iff_eq, bne_iff_ne, Int.not_lt, Int.not_le, ne_eq] at hc30
                      obtain ⟨o, ho⟩ : ∃ o, l[k]? = some o := ⟨_, List.getElem?_eq_getElem (by omega)⟩
                      have hlh := lo_hi soa ho hxc hxd
                      refine wp_skip ?_
                      refine Sx.then_normal (hK28 _ _ ?_)
                      clear hK28
                      refine wp_seq_k fun K31 hK31 => ?_
                      refine wp_block ?_
                      refine wp_seq_k fun K32 hK32 => ?_
                      -- region 16 (law.go:110)
                      refine Sx.wp_text [(0, .take), (1, .take), (2, .take), (3, .take), (4, .take), (5, .run), (6, .take), (7, .run), (8, .take), (9, .take), (10, .take)] rfl ?_
                      refine Sx.st_take hT rfl rfl rfl rfl (Sx.x_move hT rfl rfl) ?_
                      clear hT; intro a hT
                      refine Sx.st_take hT rfl rfl rfl rfl (Sx.x_move hT rfl rfl) ?_
                      clear hT; intro a hT
                      -- guard (16, 1)
                      refine Sx.Sl.two hT 86 rfl (fun hc33 hT => ?_) (fun hc33 hT => ?_)
                      · try simp only [decide_eq_true_eq, decide_eq_false_iff_not, Bool.not_eq_true', Bool.not_eq_false', Bool.not_eq_true, Bool.not_eq_false, Bool.and_eq_true, Bool.or_eq_false_iff, beq_iff_eq, bne_iff_ne, Int.not_lt, Int.not_le, ne_eq] at hc33
                        have hm1 : metF xb l k = true := hc33
                        refine Sx.st_skip hT rfl rfl rfl rfl ?_
                        clear hT; intro a hT
                        refine Sx.st_skip hT rfl rfl rfl rfl ?_
                        clear hT; intro a hT
                        refine Sx.st_skip hT rfl rfl rfl rfl ?_
                        clear hT; intro a hT
                        refine Sx.st_runskip hT rfl rfl rfl rfl ?_
                        clear hT; intro a hT
                        refine Sx.st_skip hT rfl rfl rfl rfl ?_
                        clear hT; intro a hT
                        refine Sx.st_runskip hT rfl rfl rfl rfl ?_
                        clear hT; intro a hT
                        refine Sx.st_skip hT rfl rfl rfl rfl ?_
                        clear hT; intro a hT
                        refine Sx.st_take hT rfl rfl rfl rfl (Sx.x_pick_t hT rfl rfl rfl) ?_
                        clear hT; intro a hT
                        refine Sx.st_take hT rfl rfl rfl rfl (Sx.x_assign hT rfl rfl) ?_
                        clear hT; intro a hT
                        replace hT := hT.keep [15, 82, 17, 16, 78, 14, 13, 12, 11, 10, 9, 8, 7, 41, 19, 0, 1, 2] rfl
                        refine Sx.ser_nil ?_
                        refine Sx.then_normal (hK32 _ _ ?_)
                        clear hK32
                        refine wp_seq_k fun K34 hK34 => ?_
                        refine wp_seq_k fun K35 hK35 => ?_
                        -- region 17 (law.go:111)
                        refine Sx.wp_text [(0, .take), (1, .take), (2, .take), (3, .run), (4, .take), (5, .run), (6, .take)] rfl ?_
                        refine Sx.st_take hT rfl rfl rfl rfl (Sx.x_move hT rfl rfl) ?_
                        clear hT; intro a hT
                        refine Sx.st_take hT rfl rfl rfl rfl (Sx.x_move hT rfl rfl) ?_
                        clear hT; intro a hT
                        refine Sx.st_take hT rfl rfl rfl rfl (Sx.x_index (k := k) hT rfl Try.underlying30 Try.ti22 (R.at H.ext).sv rfl rfl (by first | rfl | omega) (by omega)) ?_
                        clear hT; intro a hT
                        refine Sx.st_run hT rfl rfl rfl rfl (Sx.x_load1 hT rfl Try.fl22 rfl ((R.at H.ext).cell (j := 0) fcell_len ho rfl)) ?_
                        clear hT; intro a hT
                        refine Sx.st_take hT rfl rfl rfl rfl (Sx.x_move hT rfl rfl) ?_
                        clear hT; intro a hT
                        refine Sx.st_call hT rfl rfl rfl rfl rfl Try.can17 rfl (xCmp_calls _ _ _) ?_
                        rintro _ w10 ⟨rfl, E⟩
                        refine ⟨_, rfl, ?_⟩
                        clear hT; intro a hT
                        replace H := H.pure E; clear E
                        refine Sx.st_take hT rfl rfl rfl rfl ((fun w => Sx.x_le w hT rfl rfl rfl)) ?_
                        clear hT; intro a hT
                        replace hT := hT.keep [101, 15, 82, 17, 16, 78, 14, 13, 12, 11, 10, 9, 8, 7, 41, 19, 0, 1, 2] rfl
                        refine Sx.ser_nil ?_
                        refine Sx.then_normal (hK35 _ _ ?_)
                        clear hK35
                        -- cond 4
                        refine Sx.wp_if hT rfl (fun hc36 => ?_) (fun hc36 => ?_)
                        · try simp only [decide_eq_true_eq, decide_eq_false_iff_not, Bool.not_eq_true', Bool.not_eq_false', Bool.not_eq_true, Bool.not_eq_false, Bool.and_eq_true, Bool.or_eq_false_iff, beq_iff_eq, bne_iff_ne, Int.not_lt, Int.not_le, ne_eq] at hc36
                          have hm2 : leF xb o = true := decide_eq_true ((order_le _ _).1 hc36)
                          -- region 18 (law.go:112)
                          refine Sx.wp_text [(0, .take), (1, .take), (2, .take)] rfl ?_
                          refine Sx.st_take hT rfl rfl rfl rfl (Sx.x_move hT rfl rfl) ?_
                          clear hT; intro a hT
                          refine Sx.st_take hT rfl rfl rfl rfl ((fun w => Sx.x_add w hT rfl rfl rfl (Sx.wrap64 (by omega)))) ?_
                          clear hT; intro a hT
                          refine Sx.st_take hT rfl rfl rfl rfl (Sx.x_assign hT rfl rfl) ?_
                          clear hT; intro a hT
                          replace hT := hT.keep [16, 101, 15, 82, 17, 78, 14, 13, 12, 11, 10, 9, 8, 7, 41, 19, 0, 1, 2] rfl
                          refine Sx.ser_nil ?_
                          refine Sx.then_normal (hK34 _ _ ?_)
                          clear hK34
                          refine wp_seq_k fun K37 hK37 => ?_
                          -- region 19 (law.go:114)
                          refine Sx.wp_text [(0, .take), (1, .take), (2, .take), (3, .take), (4, .run), (5, .run), (6, .take), (7, .take), (8, .take), (9, .take), (10, .take), (11, .run), (12, .take), (13, .run), (14, .take), (15, .take)] rfl ?_
                          refine Sx.st_take hT rfl rfl rfl rfl (Sx.x_move hT rfl rfl) ?_
                          clear hT; intro a hT
                          refine Sx.st_take hT rfl rfl rfl rfl (Sx.x_move hT rfl rfl) ?_
                          clear hT; intro a hT
                          refine Sx.st_take hT rfl rfl rfl rfl (Sx.x_move hT rfl rfl) ?_
                          clear hT; intro a hT
                          refine Sx.st_take hT rfl rfl rfl rfl (Sx.x_index (k := k) hT rfl Try.underlying30 Try.ti22 (R.at H.ext).sv rfl rfl (by first | rfl | omega) (by omega)) ?_
                          clear hT; intro a hT
                          refine Sx.st_run hT rfl rfl rfl rfl (Sx.x_load1 hT rfl Try.fl22 rfl ((R.at H.ext).cell (j := 0) fcell_len ho rfl)) ?_
                          clear hT; intro a hT
                          refine Sx.st_call hT rfl rfl rfl rfl rfl Try.can17 rfl (xCmp_calls _ _ _) ?_
                          rintro _ w11 ⟨rfl, E⟩
                          refine ⟨_, rfl, ?_⟩
                          clear hT; intro a hT
                          replace H := H.pure E; clear E
                          refine Sx.st_take hT rfl rfl rfl rfl ((fun w => Sx.x_gt w hT rfl rfl rfl)) ?_
                          clear hT; intro a hT
                          refine Sx.st_take hT rfl rfl rfl rfl (Sx.x_move hT rfl rfl) ?_
                          clear hT; intro a hT
                          -- guard (19, 7)
                          refine Sx.Sl.two hT 111 rfl (fun hc38 hT => ?_) (fun hc38 hT => ?_)
                          · exfalso
                            try simp only [decide_eq_true_eq, decide_eq_false_iff_not, Bool.not_eq_true', Bool.not_eq_false', Bool.not_eq_true, Bool.not_eq_false, Bool.and_eq_true, Bool.or_eq_false_iff, beq_iff_eq, bne_iff_ne, Int.not_lt, Int.not_le, ne_eq] at hc38
                            rw [order_gt] at hc38; omega
                          · try simp only [decide_eq_true_eq, decide_eq_false_iff_not, Bool.not_eq_true', Bool.not_eq_false', Bool.not_eq_true, Bool.not_eq_false, Bool.and_eq_true, Bool.or_eq_false_iff, beq_iff_eq, bne_iff_ne, Int.not_lt, Int.not_le, ne_eq] at hc38
                            refine Sx.st_take hT rfl rfl rfl rfl (Sx.x_move hT rfl rfl) ?_
                            clear hT; intro a hT
                            refine Sx.st_take hT rfl rfl rfl rfl (Sx.x_move hT rfl rfl) ?_
                            clear hT; intro a hT
                            refine Sx.st_take hT rfl rfl rfl rfl (Sx.x_index (k := k) hT rfl Try.underlying30 Try.ti22 (R.at H.ext).sv rfl rfl (by first | rfl | omega) (by omega)) ?_
                            clear hT; intro a hT
                            refine Sx.st_run hT rfl rfl rfl rfl (Sx.x_load1 hT rfl Try.fl22 rfl ((R.at H.ext).cell (j := 0) fcell_len ho rfl)) ?_
                            clear hT; intro a hT
                            refine Sx.st_take hT rfl rfl rfl rfl (Sx.x_move hT rfl rfl) ?_
                            clear hT; intro a hT
                            refine Sx.st_call hT rfl rfl rfl rfl rfl Try.can17 rfl (xCmp_calls _ _ _) ?_
                            rintro _ w12 ⟨rfl, E⟩
                            refine ⟨_, rfl, ?_⟩
                            clear hT; intro a hT
                            replace H := H.pure E; clear E
                            refine Sx.st_take hT rfl rfl rfl rfl ((fun w => Sx.x_gt w hT rfl rfl rfl)) ?_
                            clear hT; intro a hT
                            refine Sx.st_take hT rfl rfl rfl rfl (Sx.x_pick_f hT rfl rfl rfl) ?_
                            clear hT; intro a hT
                            replace hT := hT.keep [119, 16, 101, 15, 82, 17, 78, 14, 13, 12, 11, 10, 9, 8, 7, 41, 19, 0, 1, 2] rfl
                            refine Sx.ser_nil ?_
                            refine Sx.then_normal (hK37 _ _ ?_)
                            clear hK37
                            -- cond 5
                            refine Sx.wp_if hT rfl (fun hc39 => ?_) (fun hc39 => ?_)
                            · exfalso
                              try simp only [decide_eq_true_eq, decide_eq_false_iff_not, Bool.not_eq_true', Bool.not_eq_false', Bool.not_eq_true, Bool.not_eq_false, Bool.and_eq_true, Bool.or_eq_false_iff, beq_iff_eq, bne_iff_ne, Int.not_lt, Int.not_le, ne_eq] at hc39
                              rw [order_gt] at hc39; omega
                            · try simp only [decide_eq_true_eq, decide_eq_false_iff_not, Bool.not_eq_true', Bool.not_eq_false', Bool.not_eq_true, Bool.not_eq_false, Bool.and_eq_true, Bool.or_eq_false_iff, beq_iff_eq, bne_iff_ne, Int.not_lt, Int.not_le, ne_eq] at hc39
                              refine wp_skip ?_
                              refine Sx.block_normal ?_
                              refine Sx.then_normal (hK31 _ _ ?_)
                              clear hK31
                              -- region 15 (law.go:109)
                              refine Sx.wp_text [(0, .take), (1, .take), (2, .take)] rfl ?_
                              refine Sx.st_take hT rfl rfl rfl rfl (Sx.x_move hT rfl rfl) ?_
                              clear hT; intro a hT
                              refine Sx.st_take hT rfl rfl rfl rfl ((fun w => Sx.x_add w hT rfl rfl rfl (Sx.wrap64 (by omega)))) ?_
                              clear hT; intro a hT
                              refine Sx.st_take hT rfl rfl rfl rfl (Sx.x_assign hT rfl rfl) ?_
                              clear hT; intro a hT
                              replace hT := hT.keep [17, 119, 16, 101, 15, 82, 78, 14, 13, 12, 11, 10, 9, 8, 7, 41, 19, 0, 1, 2] rfl
                              refine Sx.ser_nil ?_
                              refine Sx.then_normal ?_
                              exact ⟨k + 1, (by omega), ((hT.keep [17, 15, 16, 78, 14, 13, 12, 11, 10, 9, 8, 7, 41, 19, 0, 1, 2] rfl).conv (by rw [met_snoc ho, hm1]; rw [fil_yes (f := leF xb) ho hm2]; try rfl)), (H.keep [] rfl rfl), by omega⟩
                        · try simp only [decide_eq_true_eq, decide_eq_false_iff_not, Bool.not_eq_true', Bool.not_eq_false', Bool.not_eq_true, Bool.not_eq_false, Bool.and_eq_true, Bool.or_eq_false_iff, beq_iff_eq, bne_iff_ne, Int.not_lt, Int.not_le, ne_eq] at hc36
                          have hm2 : leF xb o = false := decide_eq_false fun h9 => by have h8 := (order_le _ _).2 h9; omega
                          refine wp_skip ?_
                          refine Sx.then_normal (hK34 _ _ ?_)
                          clear hK34
                          refine wp_seq_k fun K40 hK40 => ?_
                          -- region 19 (law.go:114)
                          refine Sx.wp_text [(0, .take), (1, .take), (2, .take), (3, .take), (4, .run), (5, .run), (6, .take), (7, .take), (8, .take), (9, .take), (10, .take), (11, .run), (12, .take), (13, .run), (14, .take), (15, .take)] rfl ?_
                          refine Sx.st_take hT rfl rfl rfl rfl (Sx.x_move hT rfl rfl) ?_
                          clear hT; intro a hT
                          refine Sx.st_take hT rfl rfl rfl rfl (Sx.x_move hT rfl rfl) ?_
                          clear hT; intro a hT
                          refine Sx.st_take hT rfl rfl rfl rfl (Sx.x_move hT rfl rfl) ?_
                          clear hT; intro a hT
                          refine Sx.st_take hT rfl rfl rfl rfl (Sx.x_index (k := k) hT rfl Try.underlying30 Try.ti22 (R.at H.ext).sv rfl rfl (by first | rfl | omega) (by omega)) ?_
                          clear hT; intro a hT
                          refine Sx.st_run hT rfl rfl rfl rfl (Sx.x_load1 hT rfl Try.fl22 rfl ((R.at H.ext).cell (j := 0) fcell_len ho rfl)) ?_
                          clear hT; intro a hT
                          refine Sx.st_call hT rfl rfl rfl rfl rfl Try.can17 rfl (xCmp_calls _ _ _) ?_
                          rintro _ w13 ⟨rfl, E⟩
                          refine ⟨_, rfl, ?_⟩
                          clear hT; intro a hT
                          replace H := H.pure E; clear E
                          refine Sx.st_take hT rfl rfl rfl rfl ((fun w => Sx.x_gt w hT rfl rfl rfl)) ?_
                          clear hT; intro a hT
                          refine Sx.st_take hT rfl rfl rfl rfl (Sx.x_move hT rfl rfl) ?_
                          clear hT; intro a hT
                          -- guard (19, 7)
                          refine Sx.Sl.two hT 111 rfl (fun hc41 hT => ?_) (fun hc41 hT => ?_)
                          · exfalso
                            try simp only [decide_eq_true_eq, decide_eq_false_iff_not, Bool.not_eq_true', Bool.not_eq_false', Bool.not_eq_true, Bool.not_eq_false, Bool.and_eq_true, Bool.or_eq_false_iff, beq_iff_eq, bne_iff_ne, Int.not_lt, Int.not_le, ne_eq] at hc41
                            rw [order_gt] at hc41; omega
                          · try simp only [decide_eq_true_eq, decide_eq_false_iff_not, Bool.not_eq_true', Bool.not_eq_false', Bool.not_eq_true, Bool.not_eq_false, Bool.and_eq_true, Bool.or_eq_false_iff, beq_iff_eq, bne_iff_ne, Int.not_lt, Int.not_le, ne_eq] at hc41
                            refine Sx.st_take hT rfl rfl rfl rfl (Sx.x_move hT rfl rfl) ?_
                            clear hT; intro a hT
                            refine Sx.st_take hT rfl rfl rfl rfl (Sx.x_move hT rfl rfl) ?_
                            clear hT; intro a hT
                            refine Sx.st_take hT rfl rfl rfl rfl (Sx.x_index (k := k) hT rfl Try.underlying30 Try.ti22 (R.at H.ext).sv rfl rfl (by first | rfl | omega) (by omega)) ?_
                            clear hT; intro a hT
                            refine Sx.st_run hT rfl rfl rfl rfl (Sx.x_load1 hT rfl Try.fl22 rfl ((R.at H.ext).cell (j := 0) fcell_len ho rfl)) ?_
                            clear hT; intro a hT
                            refine Sx.st_take hT rfl rfl rfl rfl (Sx.x_move hT rfl rfl) ?_
                            clear hT; intro a hT
                            refine Sx.st_call hT rfl rfl rfl rfl rfl Try.can17 rfl (xCmp_calls _ _ _) ?_
                            rintro _ w14 ⟨rfl, E⟩
                            refine ⟨_, rfl, ?_⟩
                            clear hT; intro a hT
                            replace H := H.pure E; clear E
                            refine Sx.st_take hT rfl rfl rfl rfl ((fun w => Sx.x_gt w hT rfl rfl rfl)) ?_
                            clear hT; intro a hT
                            refine Sx.st_take hT rfl rfl rfl rfl (Sx.x_pick_f hT rfl rfl rfl) ?_
                            clear hT; intro a hT
                            replace hT := hT.keep [119, 101, 15, 82, 17, 16, 78, 14, 13, 12, 11, 10, 9, 8, 7, 41, 19, 0, 1, 2] rfl
                            refine Sx.ser_nil ?_
                            refine Sx.then_normal (hK40 _ _ ?_)
                            clear hK40
                            -- cond 5
                            refine Sx.wp_if hT rfl (fun hc42 => ?_) (fun hc42 => ?_)
                            · exfalso
                              try simp only [decide_eq_true_eq, decide_eq_false_iff_not, Bool.not_eq_true', Bool.not_eq_false', Bool.not_eq_true, Bool.not_eq_false, Bool.and_eq_true, Bool.or_eq_false_iff, beq_iff_eq, bne_iff_ne, Int.not_lt, Int.not_le, ne_eq] at hc42
                              rw [order_gt] at hc42; omega
                            · try simp only [decide_eq_true_eq, decide_eq_false_iff_not, Bool.not_eq_true', Bool.not_eq_false', Bool.not_eq_true, Bool.not_eq_false, Bool.and_eq_true, Bool.or_eq_false_iff, beq_iff_eq, bne_iff_ne, Int.not_lt, Int.not_le, ne_eq] at hc42
                              refine wp_skip ?_
                              refine Sx.block_normal ?_
                              refine Sx.then_normal (hK31 _ _ ?_)
                              clear hK31
                              -- region 15 (law.go:109)
                              refine Sx.wp_text [(0, .take), (1, .take), (2, .take)] rfl ?_
                              refine Sx.st_take hT rfl rfl rfl rfl (Sx.x_move hT rfl rfl) ?_
                              clear hT; intro a hT
                              refine Sx.st_take hT rfl rfl rfl rfl ((fun w => Sx.x_add w hT rfl rfl rfl (Sx.wrap64 (by omega)))) ?_
                              clear hT; intro a hT
                              refine Sx.st_take hT rfl rfl rfl rfl (Sx.x_assign hT rfl rfl) ?_
                              clear hT; intro a hT
                              replace hT := hT.keep [17, 119, 101, 15, 82, 16, 78, 14, 13, 12, 11, 10, 9, 8, 7, 41, 19, 0, 1, 2] rfl
                              refine Sx.ser_nil ?_
                              refine Sx.then_normal ?_
                              exact ⟨k + 1, (by omega), ((hT.keep [17, 15, 16, 78, 14, 13, 12, 11, 10, 9, 8, 7, 41, 19, 0, 1, 2] rfl).conv (by rw [met_snoc ho, hm1]; rw [fil_no (f := leF xb) ho hm2]; try rfl)), (H.keep [] rfl rfl), by omega⟩
                      · try simp only [decide_eq_true_eq, decide_eq_false_iff_not, Bool.not_eq_true', Bool.not_eq_false', Bool.not_eq_true, Bool.not_eq_false, Bool.and_eq_true, Bool.or_eq_false_iff, beq_iff_eq, bne_iff_ne, Int.not_lt, Int.not_le, ne_eq] at hc33
                        have hm1 : metF xb l k = false := hc33
                        refine Sx.st_take hT rfl rfl rfl rfl (Sx.x_move hT rfl rfl) ?_
                        clear hT; intro a hT
                        refine Sx.st_take hT rfl rfl rfl rfl (Sx.x_move hT rfl rfl) ?_
                        clear hT; intro a hT
                        refine Sx.st_take hT rfl rfl rfl rfl (Sx.x_index (k := k) hT rfl Try.underlying30 Try.ti22 (R.at H.ext).sv rfl rfl (by first | rfl | omega) (by omega)) ?_
                        clear hT; intro a hT
                        refine Sx.st_run hT rfl rfl rfl rfl (Sx.x_load1 hT rfl Try.fl22 rfl ((R.at H.ext).cell (j := 0) fcell_len ho rfl)) ?_
                        clear hT; intro a hT
                        refine Sx.st_take hT rfl rfl rfl rfl (Sx.x_move hT rfl rfl) ?_
                        clear hT; intro a hT
                        refine Sx.st_call hT rfl rfl rfl rfl rfl Try.can17 rfl (xCmp_calls _ _ _) ?_
                        rintro _ w15 ⟨rfl, E⟩
                        refine ⟨_, rfl, ?_⟩
                        clear hT; intro a hT
                        replace H := H.pure E; clear E
                        refine Sx.st_take hT rfl rfl rfl rfl ((fun w => Sx.x_eq w hT rfl rfl rfl)) ?_
                        clear hT; intro a hT
                        refine Sx.st_take hT rfl rfl rfl rfl (Sx.x_pick_f hT rfl rfl rfl) ?_
                        clear hT; intro a hT
                        refine Sx.st_take hT rfl rfl rfl rfl (Sx.x_assign hT rfl rfl) ?_
                        clear hT; intro a hT
                        replace hT := hT.keep [15, 82, 17, 16, 78, 14, 13, 12, 11, 10, 9, 8, 7, 41, 19, 0, 1, 2] rfl
                        refine Sx.ser_nil ?_
                        refine Sx.then_normal (hK32 _ _ ?_)
                        clear hK32
                        refine wp_seq_k fun K43 hK43 => ?_
                        refine wp_seq_k fun K44 hK44 => ?_
                        -- region 17 (law.go:111)
                        refine Sx.wp_text [(0, .take), (1, .take), (2, .take), (3, .run), (4, .take), (5, .run), (6, .take)] rfl ?_
                        refine Sx.st_take hT rfl rfl rfl rfl (Sx.x_move hT rfl rfl) ?_
                        clear hT; intro a hT
                        refine Sx.st_take hT rfl rfl rfl rfl (Sx.x_move hT rfl rfl) ?_
                        clear hT; intro a hT
                        refine Sx.st_take hT rfl rfl rfl rfl (Sx.x_index (k := k) hT rfl Try.underlying30 Try.ti22 (R.at H.ext).sv rfl rfl (by first | rfl | omega) (by omega)) ?_
                        clear hT; intro a hT
                        refine Sx.st_run hT rfl rfl rfl rfl (Sx.x_load1 hT rfl Try.fl22 rfl ((R.at H.ext).cell (j := 0) fcell_len ho rfl)) ?_
                        clear hT; intro a hT
                        refine Sx.st_take hT rfl rfl rfl rfl (Sx.x_move hT rfl rfl) ?_
                        clear hT; intro a hT
                        refine Sx.st_call hT rfl rfl rfl rfl rfl Try.can17 rfl (xCmp_calls _ _ _) ?_
                        rintro _ w16 ⟨rfl, E⟩
                        refine ⟨_, rfl, ?_⟩
                        clear hT; intro a hT
                        replace H := H.pure E; clear E
                        refine Sx.st_take hT rfl rfl rfl rfl ((fun w => Sx.x_le w hT rfl rfl rfl)) ?_
                        clear hT; intro a hT
                        replace hT := hT.keep [101, 15, 82, 17, 16, 78, 14, 13, 12, 11, 10, 9, 8, 7, 41, 19, 0, 1, 2] rfl
                        refine Sx.ser_nil ?_
                        refine Sx.then_normal (hK44 _ _ ?_)
                        clear hK44
                        -- cond 4
                        refine Sx.wp_if hT rfl (fun hc45 => ?_) (fun hc45 => ?_)
                        · try simp only [decide_eq_true_eq, decide_eq_false_iff_not, Bool.not_eq_true', Bool.not_eq_false', Bool.not_eq_true, Bool.not_eq_false, Bool.and_eq_true, Bool.or_eq_false_iff, beq_iff_eq, bne_iff_ne, Int.not_lt, Int.not_le, ne_eq] at hc45
                          have hm2 : leF xb o = true := decide_eq_true ((order_le _ _).1 hc45)
                          -- region 18 (law.go:112)
                          refine Sx.wp_text [(0, .take), (1, .take), (2, .take)] rfl ?_
                          refine Sx.st_take hT rfl rfl rfl rfl (Sx.x_move hT rfl rfl) ?_
                          clear hT; intro a hT
                          refine Sx.st_take hT rfl rfl rfl rfl ((fun w => Sx.x_add w hT rfl rfl rfl (Sx.wrap64 (by omega)))) ?_
                          clear hT; intro a hT
                          refine Sx.st_take hT rfl rfl rfl rfl (Sx.x_assign hT rfl rfl) ?_
                          clear hT; intro a hT
                          replace hT := hT.keep [16, 101, 15, 82, 17, 78, 14, 13, 12, 11, 10, 9, 8, 7, 41, 19, 0, 1, 2] rfl
                          refine Sx.ser_nil ?_
                          refine Sx.then_normal (hK43 _ _ ?_)
                          clear hK43
                          refine wp_seq_k fun K46 hK46 => ?_
                          -- region 19 (law.go:114)
                          refine Sx.wp_text [(0, .take), (1, .take), (2, .take), (3, .take), (4, .run), (5, .run), (6, .take), (7, .take), (8, .take), (9, .take), (10, .take), (11, .run), (12, .take), (13, .run), (14, .take), (15, .take)] rfl ?_
                          refine Sx.st_take hT rfl rfl rfl rfl (Sx.x_move hT rfl rfl) ?_
                          clear hT; intro a hT
                          refine Sx.st_take hT rfl rfl rfl rfl (Sx.x_move hT rfl rfl) ?_
                          clear hT; intro a hT
                          refine Sx.st_take hT rfl rfl rfl rfl (Sx.x_move hT rfl rfl) ?_
                          clear hT; intro a hT
                          refine Sx.st_take hT rfl rfl rfl rfl (Sx.x_index (k := k) hT rfl Try.underlying30 Try.ti22 (R.at H.ext).sv rfl rfl (by first | rfl | omega) (by omega)) ?_
                          clear hT; intro a hT
                          refine Sx.st_run hT rfl rfl rfl rfl (Sx.x_load1 hT rfl Try.fl22 rfl ((R.at H.ext).cell (j := 0) fcell_len ho rfl)) ?_
                          clear hT; intro a hT
                          refine Sx.st_call hT rfl rfl rfl rfl rfl Try.can17 rfl (xCmp_calls _ _ _) ?_
                          rintro _ w17 ⟨rfl, E⟩
                          refine ⟨_, rfl, ?_⟩
                          clear hT; intro a hT
                          replace H := H.pure E; clear E
                          refine Sx.st_take hT rfl rfl rfl rfl ((fun w => Sx.x_gt w hT rfl rfl rfl)) ?_
                          clear hT; intro a hT
                          refine Sx.st_take hT rfl rfl rfl rfl (Sx.x_move hT rfl rfl) ?_
                          clear hT; intro a hT
                          -- guard (19, 7)
                          refine Sx.Sl.two hT 111 rfl (fun hc47 hT => ?_) (fun hc47 hT => ?_)
                          · exfalso
                            try simp only [decide_eq_true_eq, decide_eq_false_iff_not, Bool.not_eq_true', Bool.not_eq_false', Bool.not_eq_true, Bool.not_eq_false, Bool.and_eq_true, Bool.or_eq_false_iff, beq_iff_eq, bne_iff_ne, Int.not_lt, Int.not_le, ne_eq] at hc47
                            rw [order_gt] at hc47; omega
                          · try simp only [decide_eq_true_eq, decide_eq_false_iff_not, Bool.not_eq_true', Bool.not_eq_false', Bool.not_eq_true, Bool.not_eq_false, Bool.and_eq_true, Bool.or_eq_false_iff, beq_iff_eq, bne_iff_ne, Int.not_lt, Int.not_le, ne_eq] at hc47
                            refine Sx.st_take hT rfl rfl rfl rfl (Sx.x_move hT rfl rfl) ?_
                            clear hT; intro a hT
                            refine Sx.st_take hT rfl rfl rfl rfl (Sx.x_move hT rfl rfl) ?_
                            clear hT; intro a hT
                            refine Sx.st_take hT rfl rfl rfl rfl (Sx.x_index (k := k) hT rfl Try.underlying30 Try.ti22 (R.at H.ext).sv rfl rfl (by first | rfl | omega) (by omega)) ?_
                            clear hT; intro a hT
                            refine Sx.st_run hT rfl rfl rfl rfl (Sx.x_load1 hT rfl Try.fl22 rfl ((R.at H.ext).cell (j := 0) fcell_len ho rfl)) ?_
                            clear hT; intro a hT
                            refine Sx.st_take hT rfl rfl rfl rfl (Sx.x_move hT rfl rfl) ?_
                            clear hT; intro a hT
                            refine Sx.st_call hT rfl rfl rfl rfl rfl Try.can17 rfl (xCmp_calls _ _ _) ?_
                            rintro _ w18 ⟨rfl, E⟩
                            refine ⟨_, rfl, ?_⟩
                            clear hT; intro a hT
                            replace H := H.pure E; clear E
                            refine Sx.st_take hT rfl rfl rfl rfl ((fun w => Sx.x_gt w hT rfl rfl rfl)) ?_
                            clear hT; intro a hT
                            refine Sx.st_take hT rfl rfl rfl rfl (Sx.x_pick_f hT rfl rfl rfl) ?_
                            clear hT; intro a hT
                            replace hT := hT.keep [119, 16, 101, 15, 82, 17, 78, 14, 13, 12, 11, 10, 9, 8, 7, 41, 19, 0, 1, 2] rfl
                            refine Sx.ser_nil ?_
                            refine Sx.then_normal (hK46 _ _ ?_)
                            clear hK46
                            -- cond 5
                            refine Sx.wp_if hT rfl (fun hc48 => ?_) (fun hc48 => ?_)
                            · exfalso
                              try simp only [decide_eq_true_eq, decide_eq_false_iff_not, Bool.not_eq_true', Bool.not_eq_false', Bool.not_eq_true, Bool.not_eq_false, Bool.and_eq_true, Bool.or_eq_false_iff, beq_iff_eq, bne_iff_ne, Int.not_lt, Int.not_le, ne_eq] at hc48
                              rw [order_gt] at hc48; omega
                            · try simp only [decide_eq_true_eq, decide_eq_false_iff_not, Bool.not_eq_true', Bool.not_eq_false', Bool.not_eq_true, Bool.not_eq_false, Bool.and_eq_true, Bool.or_eq_false_iff, beq_iff_eq, bne_iff_ne, Int.not_lt, Int.not_le, ne_eq] at hc48
                              refine wp_skip ?_
                              refine Sx.block_normal ?_
                              refine Sx.then_normal (hK31 _ _ ?_)
                              clear hK31
                              -- region 15 (law.go:109)
                              refine Sx.wp_text [(0, .take), (1, .take), (2, .take)] rfl ?_
                              refine Sx.st_take hT rfl rfl rfl rfl (Sx.x_move hT rfl rfl) ?_
                              clear hT; intro a hT
                              refine Sx.st_take hT rfl rfl rfl rfl ((fun w => Sx.x_add w hT rfl rfl rfl (Sx.wrap64 (by omega)))) ?_
                              clear hT; intro a hT
                              refine Sx.st_take hT rfl rfl rfl rfl (Sx.x_assign hT rfl rfl) ?_
                              clear hT; intro a hT
                              replace hT := hT.keep [17, 119, 16, 101, 15, 82, 78, 14, 13, 12, 11, 10, 9, 8, 7, 41, 19, 0, 1, 2] rfl
                              refine Sx.ser_nil ?_
                              refine Sx.then_normal ?_
                              exact ⟨k + 1, (by omega), ((hT.keep [17, 15, 16, 78, 14, 13, 12, 11, 10, 9, 8, 7, 41, 19, 0, 1, 2] rfl).conv (by rw [met_snoc ho, hm1]; rw [show decide (rank o = rank xb) = decide (order (rank o) (rank xb) = 0) from decide_eq_decide.2 (order_zero _ _).symm]; rw [fil_yes (f := leF xb) ho hm2]; try rfl)), (H.keep [] rfl rfl), by omega⟩
                        · try simp only [decide_eq_true_eq, decide_eq_false_iff_not, Bool.not_eq_true', Bool.not_eq_false', Bool.not_eq_true, Bool.not_eq_false, Bool.and_eq_true, Bool.or_eq_false_iff, beq_iff_eq, bne_iff_ne, Int.not_lt, Int.not_le, ne_eq] at hc45
                          have hm2 : leF xb o = false := decide_eq_false fun h9 => by have h8 := (order_le _ _).2 h9; omega
                          refine wp_skip ?_
                          refine Sx.then_normal (hK43 _ _ ?_)
                          clear hK43
                          refine wp_seq_k fun K49 hK49 => ?_
                          -- region 19 (law.go:114)
                          refine Sx.wp_text [(0, .take), (1, .take), (2, .take), (3, .take), (4, .run), (5, .run), (6, .take), (7, .take), (8, .take), (9, .take), (10, .take), (11, .run), (12, .take), (13, .run), (14, .take), (15, .take)] rfl ?_
                          refine Sx.st_take hT rfl rfl rfl rfl (Sx.x_move hT rfl rfl) ?_
                          clear hT; intro a hT
                          refine Sx.st_take hT rfl rfl rfl rfl (Sx.x_move hT rfl rfl) ?_
                          clear hT; intro a hT
                          refine Sx.st_take hT rfl rfl rfl rfl (Sx.x_move hT rfl rfl) ?_
                          clear hT; intro a hT
                          refine Sx.st_take hT rfl rfl rfl rfl (Sx.x_index (k := k) hT rfl Try.underlying30 Try.ti22 (R.at H.ext).sv rfl rfl (by first | rfl | omega) (by omega)) ?_
                          clear hT; intro a hT
                          refine Sx.st_run hT rfl rfl rfl rfl (Sx.x_load1 hT rfl Try.fl22 rfl ((R.at H.ext).cell (j := 0) fcell_len ho rfl)) ?_
                          clear hT; intro a hT
                          refine Sx.st_call hT rfl rfl rfl rfl rfl Try.can17 rfl (xCmp_calls _ _ _) ?_
                          rintro _ w19 ⟨rfl, E⟩
                          refine ⟨_, rfl, ?_⟩
                          clear hT; intro a hT
                          replace H := H.pure E; clear E
                          refine Sx.st_take hT rfl rfl rfl rfl ((fun w => Sx.x_gt w hT rfl rfl rfl)) ?_
                          clear hT; intro a hT
                          refine Sx.st_take hT rfl rfl rfl rfl (Sx.x_move hT rfl rfl) ?_
                          clear hT; intro a hT
                          -- guard (19, 7)
                          refine Sx.Sl.two hT 111 rfl (fun hc50 hT => ?_) (fun hc50 hT => ?_)
                          · exfalso
                            try simp only [decide_eq_true_eq, decide_eq_false_iff_not, Bool.not_eq_true', Bool.not_eq_false', Bool.not_eq_true, Bool.not_eq_false, Bool.and_eq_true, Bool.or_eq_false_iff, beq_iff_eq, bne_iff_ne, Int.not_lt, Int.not_le, ne_eq] at hc50
                            rw [order_gt] at hc50; omega
                          · try simp only [decide_eq_true_eq, decide_eq_false_iff_not, Bool.not_eq_true', Bool.not_eq_false', Bool.not_eq_true, Bool.not_eq_false, Bool.and_eq_true, Bool.or_eq_false_iff, beq_iff_eq, bne_iff_ne, Int.not_lt, Int.not_le, ne_eq] at hc50
                            refine Sx.st_take hT rfl rfl rfl rfl (Sx.x_move hT rfl rfl) ?_
                            clear hT; intro a hT
                            refine Sx.st_take hT rfl rfl rfl rfl (Sx.x_move hT rfl rfl) ?_
                            clear hT; intro a hT
                            refine Sx.st_take hT rfl rfl rfl rfl (Sx.x_index (k := k) hT rfl Try.underlying30 Try.ti22 (R.at H.ext).sv rfl rfl (by first | rfl | omega) (by omega)) ?_
                            clear hT; intro a hT
                            refine Sx.st_run hT rfl rfl rfl rfl (Sx.x_load1 hT rfl Try.fl22 rfl ((R.at H.ext).cell (j := 0) fcell_len ho rfl)) ?_
                            clear hT; intro a hT
                            refine Sx.st_take hT rfl rfl rfl rfl (Sx.x_move hT rfl rfl) ?_
                            clear hT; intro a hT
                            refine Sx.st_call hT rfl rfl rfl rfl rfl Try.can17 rfl (xCmp_calls _ _ _) ?_
                            rintro _ w20 ⟨rfl, E⟩
                            refine ⟨_, rfl, ?_⟩
                            clear hT; intro a hT
                            replace H := H.pure E; clear E
                            refine Sx.st_take hT rfl rfl rfl rfl ((fun w => Sx.x_gt w hT rfl rfl rfl)) ?_
                            clear hT; intro a hT
                            refine Sx.st_take hT rfl rfl rfl rfl (Sx.x_pick_f hT rfl rfl rfl) ?_
                            clear hT; intro a hT
                            replace hT := hT.keep [119, 101, 15, 82, 17, 16, 78, 14, 13, 12, 11, 10, 9, 8, 7, 41, 19, 0, 1, 2] rfl
                            refine Sx.ser_nil ?_
                            refine Sx.then_normal (hK49 _ _ ?_)
                            clear hK49
                            -- cond 5
                            refine Sx.wp_if hT rfl (fun hc51 => ?_) (fun hc51 => ?_)
                            · exfalso
                              try simp only [decide_eq_true_eq, decide_eq_false_iff_not, Bool.not_eq_true', Bool.not_eq_false', Bool.not_eq_true, Bool.not_eq_false, Bool.and_eq_true, Bool.or_eq_false_iff, beq_iff_eq, bne_iff_ne, Int.not_lt, Int.not_le, ne_eq] at hc51
                              rw [order_gt] at hc51; omega
                            · try simp only [decide_eq_true_eq, decide_eq_false_iff_not, Bool.not_eq_true', Bool.not_eq_false', Bool.not_eq_true, Bool.not_eq_false, Bool.and_eq_true, Bool.or_eq_false_iff, beq_iff_eq, bne_iff_ne, Int.not_lt, Int.not_le, ne_eq] at hc51
                              refine wp_skip ?_
                              refine Sx.block_normal ?_
                              refine Sx.then_normal (hK31 _ _ ?_)
                              clear hK31
                              -- region 15 (law.go:109)
                              refine Sx.wp_text [(0, .take), (1, .take), (2, .take)] rfl ?_
                              refine Sx.st_take hT rfl rfl rfl rfl (Sx.x_move hT rfl rfl) ?_
                              clear hT; intro a hT
                              refine Sx.st_take hT rfl rfl rfl rfl ((fun w => Sx.x_add w hT rfl rfl rfl (Sx.wrap64 (by omega)))) ?_
                              clear hT; intro a hT
                              refine Sx.st_take hT rfl rfl rfl rfl (Sx.x_assign hT rfl rfl) ?_
                              clear hT; intro a hT
                              replace hT := hT.keep [17, 119, 101, 15, 82, 16, 78, 14, 13, 12, 11, 10, 9, 8, 7, 41, 19, 0, 1, 2] rfl
                              refine Sx.ser_nil ?_
                              refine Sx.then_normal ?_
                              exact ⟨k + 1, (by omega), ((hT.keep [17, 15, 16, 78, 14, 13, 12, 11, 10, 9, 8, 7, 41, 19, 0, 1, 2] rfl).conv (by rw [met_snoc ho, hm1]; rw [show decide (rank o = rank xb) = decide (order (rank o) (rank xb) = 0) from decide_eq_decide.2 (order_zero _ _).symm]; rw [fil_no (f := leF xb) ho hm2]; try rfl)), (H.keep [] rfl rfl), by omega⟩
                    · try simp only [decide_eq_true_eq, decide_eq_false_iff_not, Bool.not_eq_true', Bool.not_eq_false', Bool.not_eq_true, Bool.not_eq_false, Bool.and_eq_true, Bool.or_eq_false_iff, beq_iff_eq, bne_iff_ne, Int.not_lt, Int.not_le, ne_eq] at hc30
                      obtain rfl : k = l.length := by omega
                      refine wp_exit ?_
                      refine Sx.then_exit ?_
                      refine Sx.then_exit ?_
                      refine Sx.block_exit ?_
                      refine Sx.then_normal (hK26 _ _ ?_)
                      clear hK26
                      refine wp_seq_k fun K52 hK52 => ?_
                      -- region 21 (law.go:118)
                      refine Sx.wp_text [(0, .run), (1, .take), (2, .take), (3, .take), (4, .take), (5, .take), (6, .take), (7, .run), (8, .take), (9, .take), (10, .take), (11, .take), (12, .take), (13, .take), (14, .take), (15, .take), (16, .take), (17, .run), (18, .take), (19, .take), (20, .take)] rfl ?_
                      refine Sx.st_call hT rfl rfl rfl rfl rfl Try.can10 rfl (first_calls _) ?_
                      rintro _ w21 ⟨rfl, E⟩
                      refine ⟨_, rfl, ?_⟩
                      clear hT; intro a hT
                      replace H := H.pure E; clear E
                      refine Sx.st_take hT rfl rfl rfl rfl (Sx.x_move hT rfl rfl) ?_
                      clear hT; intro a hT
                      refine Sx.st_take hT rfl rfl rfl rfl (Sx.x_move hT rfl rfl) ?_
                      clear hT; intro a hT
                      refine Sx.st_take hT rfl rfl rfl rfl (Sx.x_pick_t hT rfl rfl rfl) ?_
                      clear hT; intro a hT
                      refine Sx.st_take hT rfl rfl rfl rfl (Sx.x_move hT rfl rfl) ?_
                      clear hT; intro a hT
                      -- guard (21, 4)
                      refine Sx.Sl.two hT 124 rfl (fun hc53 hT => ?_) (fun hc53 hT => ?_)
                      · try simp only [decide_eq_true_eq, decide_eq_false_iff_not, Bool.not_eq_true', Bool.not_eq_false', Bool.not_eq_true, Bool.not_eq_false, Bool.and_eq_true, Bool.or_eq_false_iff, beq_iff_eq, bne_iff_ne, Int.not_lt, Int.not_le, ne_eq] at hc53
                        refine Sx.st_take hT rfl rfl rfl rfl (Sx.x_move hT rfl rfl) ?_
                        clear hT; intro a hT
                        refine Sx.st_take hT rfl rfl rfl rfl (Sx.x_move hT rfl rfl) ?_
                        clear hT; intro a hT
                        refine Sx.st_call hT rfl rfl rfl rfl rfl Try.can17 rfl (xCmp_calls _ _ _) ?_
                        rintro _ w22 ⟨rfl, E⟩
                        refine ⟨_, rfl, ?_⟩
                        clear hT; intro a hT
                        replace H := H.pure E; clear E
                        refine Sx.st_take hT rfl rfl rfl rfl ((fun w => Sx.x_le w hT rfl rfl rfl)) ?_
                        clear hT; intro a hT
                        refine Sx.st_take hT rfl rfl rfl rfl (Sx.x_pick_t hT rfl rfl rfl) ?_
                        clear hT; intro a hT
                        refine Sx.st_take hT rfl rfl rfl rfl (Sx.x_move hT rfl rfl) ?_
                        clear hT; intro a hT
                        -- guard (21, 10)
                        refine Sx.Sl.two hT 130 rfl (fun hc54 hT => ?_) (fun hc54 hT => ?_)
                        · try simp only [decide_eq_true_eq, decide_eq_false_iff_not, Bool.not_eq_true', Bool.not_eq_false', Bool.not_eq_true, Bool.not_eq_false, Bool.and_eq_true, Bool.or_eq_false_iff, beq_iff_eq, bne_iff_ne, Int.not_lt, Int.not_le, ne_eq] at hc54
                          refine Sx.st_take hT rfl rfl rfl rfl (Sx.x_move hT rfl rfl) ?_
                          clear hT; intro a hT
                          refine Sx.st_take hT rfl rfl rfl rfl (Sx.x_i2f hT rfl Try.underlying3 Try.underlying22 rfl) ?_
                          clear hT; intro a hT
                          refine Sx.st_take hT rfl rfl rfl rfl (Sx.x_move hT rfl rfl) ?_
                          clear hT; intro a hT
                          refine Sx.st_take hT rfl rfl rfl rfl (Sx.x_move hT rfl rfl) ?_
                          clear hT; intro a hT
                          refine Sx.st_take hT rfl rfl rfl rfl (Sx.x_len_slice hT rfl rfl Try.underlying30 rfl) ?_
                          clear hT; intro a hT
                          refine Sx.st_take hT rfl rfl rfl rfl (Sx.x_i2f hT rfl Try.underlying3 Try.underlying22 rfl) ?_
                          clear hT; intro a hT
                          refine Sx.st_eff hT rfl rfl rfl rfl (Sx.x_farith hT rfl rfl rfl (by simp) _) ?_
                          rintro _ w23 ⟨fv21_17, rfl, hf21_17, E⟩
                          clear hT; intro a hT
                          replace H := H.pure E; clear E
                          refine Sx.st_take hT rfl rfl rfl rfl (Sx.x_fge hT rfl rfl rfl) ?_
                          clear hT; intro a hT
                          refine Sx.st_take hT rfl rfl rfl rfl (Sx.x_pick_t hT rfl rfl rfl) ?_
                          clear hT; intro a hT
                          refine Sx.st_take hT rfl rfl rfl rfl (Sx.x_assign hT rfl rfl) ?_
                          clear hT; intro a hT
                          replace hT := hT.keep [6, 82, 17, 15, 16, 78, 14, 13, 12, 11, 10, 9, 8, 7, 41, 19, 0, 1, 2] rfl
                          refine Sx.ser_nil ?_
                          refine Sx.then_normal (hK52 _ _ ?_)
                          clear hK52
                          refine wp_ret ?_
                          refine Sx.done1 (fn := Try.f4) hT rfl (.tmp (hT.get 6 _ rfl)) ?_
                          have h9 := sort_below soa hxb
                          exact ⟨ret_b (quant_end hzb hf21_17 (by omega) (by omega)), H.ext⟩
                        · exfalso
                          try simp only [decide_eq_true_eq, decide_eq_false_iff_not, Bool.not_eq_true', Bool.not_eq_false', Bool.not_eq_true, Bool.not_eq_false, Bool.and_eq_true, Bool.or_eq_false_iff, beq_iff_eq, bne_iff_ne, Int.not_lt, Int.not_le, ne_eq] at hc54
                          have h9 := sort_le soa hxa hxb (by omega); rw [order_gt] at hc54; omega
                      · exfalso
                        try simp only [decide_eq_true_eq, decide_eq_false_iff_not, Bool.not_eq_true', Bool.not_eq_false', Bool.not_eq_true, Bool.not_eq_false, Bool.and_eq_true, Bool.or_eq_false_iff, beq_iff_eq, bne_iff_ne, Int.not_lt, Int.not_le, ne_eq] at hc53
                        exact absurd hc53 (by rw [met_all soa hxb]; decide)
        · try simp only [decide_eq_true_eq, decide_eq_false_iff_not, Bool.not_eq_true', Bool.not_eq_false', Bool.not_eq_true, Bool.not_eq_false, Bool.and_eq_true, Bool.or_eq_false_iff, beq_iff_eq, bne_iff_ne, Int.not_lt, Int.not_le, ne_eq] at hc11
          refine Sx.st_skip hT rfl rfl rfl rfl ?_
          clear hT; intro a hT
          refine Sx.st_skip hT rfl rfl rfl rfl ?_
          clear hT; intro a hT
          refine Sx.st_take hT rfl rfl rfl rfl (Sx.x_pick_f hT rfl rfl rfl) ?_
          clear hT; intro a hT
          refine Sx.st_take hT rfl rfl rfl rfl (Sx.x_not hT rfl rfl) ?_
          clear hT; intro a hT
          refine Sx.st_take hT rfl rfl rfl rfl (Sx.x_pick_f hT rfl rfl rfl) ?_
          clear hT; intro a hT
          replace hT := hT.keep [41, 19, 6, 0, 1, 2] rfl
          refine Sx.ser_nil ?_
          refine Sx.then_normal (hK5 _ _ ?_)
          clear hK5
          refine Sx.wp_if hT rfl (fun _ => ?_) (fun h => by cases h)
          refine wp_seq_k fun K55 hK55 => ?_
          -- region 4 (law.go:98)
          refine Sx.wp_text [(0, .run), (1, .take)] rfl ?_
          refine Sx.st_call hT rfl rfl rfl rfl rfl Try.can10 rfl (first_calls _) ?_
          rintro _ w24 ⟨rfl, E⟩
          refine ⟨_, rfl, ?_⟩
          clear hT; intro a hT
          replace H := H.pure E; clear E
          refine Sx.st_take hT rfl rfl rfl rfl (Sx.x_assign hT rfl rfl) ?_
          clear hT; intro a hT
          replace hT := hT.keep [6, 41, 19, 0, 1, 2] rfl
          refine Sx.ser_nil ?_
          refine Sx.then_normal (hK55 _ _ ?_)
          clear hK55
          refine wp_ret ?_
          refine Sx.then_ret ?_
          refine Sx.done1 (fn := Try.f4) hT rfl (.tmp (hT.get 6 _ rfl)) ?_
          exact ⟨rfl, H.ext⟩
      · try simp only [decide_eq_true_eq, decide_eq_false_iff_not, Bool.not_eq_true', Bool.not_eq_false', Bool.not_eq_true, Bool.not_eq_false, Bool.and_eq_true, Bool.or_eq_false_iff, beq_iff_eq, bne_iff_ne, Int.not_lt, Int.not_le, ne_eq] at hc10
        refine Sx.st_skip hT rfl rfl rfl rfl ?_
        clear hT; intro a hT
        refine Sx.st_skip hT rfl rfl rfl rfl ?_
        clear hT; intro a hT
        refine Sx.st_skip hT rfl rfl rfl rfl ?_
        clear hT; intro a hT
        refine Sx.st_take hT rfl rfl rfl rfl (Sx.x_pick_f hT rfl rfl rfl) ?_
        clear hT; intro a hT
        refine Sx.st_take hT rfl rfl rfl rfl (Sx.x_move hT rfl rfl) ?_
        clear hT; intro a hT
        refine Sx.st_skip hT rfl rfl rfl rfl ?_
        clear hT; intro a hT
        refine Sx.st_skip hT rfl rfl rfl rfl ?_
        clear hT; intro a hT
        refine Sx.st_take hT rfl rfl rfl rfl (Sx.x_pick_f hT rfl rfl rfl) ?_
        clear hT; intro a hT
        refine Sx.st_take hT rfl rfl rfl rfl (Sx.x_not hT rfl rfl) ?_
        clear hT; intro a hT
        refine Sx.st_take hT rfl rfl rfl rfl (Sx.x_pick_f hT rfl rfl rfl) ?_
        clear hT; intro a hT
        replace hT := hT.keep [41, 19, 6, 0, 1, 2] rfl
        refine Sx.ser_nil ?_
        refine Sx.then_normal (hK5 _ _ ?_)
        clear hK5
        refine Sx.wp_if hT rfl (fun _ => ?_) (fun h => by cases h)
        refine wp_seq_k fun K56 hK56 => ?_
        -- region 4 (law.go:98)
        refine Sx.wp_text [(0, .run), (1, .take)] rfl ?_
        refine Sx.st_call hT rfl rfl rfl rfl rfl Try.can10 rfl (first_calls _) ?_
        rintro _ w25 ⟨rfl, E⟩
        refine ⟨_, rfl, ?_⟩
        clear hT; intro a hT
        replace H := H.pure E; clear E
        refine Sx.st_take hT rfl rfl rfl rfl (Sx.x_assign hT rfl rfl) ?_
        clear hT; intro a hT
        replace hT := hT.keep [6, 41, 19, 0, 1, 2] rfl
        refine Sx.ser_nil ?_
        refine Sx.then_normal (hK56 _ _ ?_)
        clear hK56
        refine wp_ret ?_
        refine Sx.then_ret ?_
        refine Sx.done1 (fn := Try.f4) hT rfl (.tmp (hT.get 6 _ rfl)) ?_
        exact ⟨rfl, H.ext⟩

end Go.Proofs.Ytmhfmbgjnebcfaa
