/- Walks: HlcPeeks. -/
import Derived.Test.YtioebjimkainjaaDoorW4
set_option linter.unusedSimpArgs false
set_option linter.unusedVariables false
namespace Go.Proofs.YtioebjimkainjaaDoor
open Sx
theorem Tryd.can6 : Sx.Can Tryd.prog 6 := ⟨_, Tryd.func6, by kernel_rfl, rfl⟩
theorem Peeks_no (node x y z : Int) (ad : Option Addr) (c : Nat) (os : List OpV) (phys p q r : Int) (w : World) (hs : Ss w ad OpV.cells 5 os) (hl : os.length ≤ 9223372036854775807) (hn : ¬ (1 ≤ node ∧ node ≤ 63 ∧ may ⟨x, y, z⟩ = true)) : Calls Tryd.prog 6 #[.int .i64 node, .agg #[.int .i64 x, .int .i64 y, .int .i64 z], .slice ad os.length c, .int .i64 phys, .agg #[.int .i64 p, .int .i64 q, .int .i64 r]] w fun e w' => e = .returned (.bool true) ∧ Ext No w w' := by
  have R : Ro w No _ := Ro.of fun w' x => hs.ext_no x
  refine Sx.calls_into Tryd.func6 rfl Tryd.ntmps6 rfl fun a hT => ?_
  replace hT := hT.keep [0, 1, 2, 3, 4] rfl
  have H : Sx.Hp w (Sx.No) w [] := Sx.Hp.start _ _
  refine wp_seq_k fun K1 hK1 => ?_
  -- region 0 (extra.go:9)
  refine Sx.wp_text [(0, .run), (1, .run), (2, .take)] rfl ?_
  refine Sx.st_eff hT rfl rfl rfl rfl (Sx.y_box hT rfl rfl rfl _) ?_
  clear hT; rintro _ w1 ⟨b1, rfl, N⟩ a hT
  replace H := H.new N; clear N
  refine Sx.st_eff hT rfl rfl rfl rfl (Sx.y_box hT rfl rfl rfl _) ?_
  clear hT; rintro _ w2 ⟨b2, rfl, N⟩ a hT
  replace H := H.new N; clear N
  refine Sx.st_take hT rfl rfl rfl rfl (Sx.x_assign hT rfl rfl) ?_
  clear hT; intro a hT
  replace hT := hT.keep [10, 9, 6, 0, 1, 2, 3, 4] rfl
  refine Sx.ser_nil ?_
  refine Sx.then_normal (hK1 _ _ ?_)
  clear hK1
  refine wp_seq_k fun K2 hK2 => ?_
  refine wp_seq_k fun K3 hK3 => ?_
  -- region 1 (extra.go:10)
  refine Sx.wp_text [(0, .run), (1, .take)] rfl ?_
  refine Sx.st_call hT rfl rfl rfl rfl rfl Tryd.can10 rfl (first_calls _) ?_
  rintro _ w3 ⟨rfl, E⟩
  refine ⟨_, rfl, ?_⟩
  clear hT; intro a hT
  replace H := H.pure E; clear E
  refine Sx.st_take hT rfl rfl rfl rfl (Sx.x_not hT rfl rfl) ?_
  clear hT; intro a hT
  replace hT := hT.keep [23, 10, 9, 6, 0, 1, 2, 3, 4] rfl
  refine Sx.ser_nil ?_
  refine Sx.then_normal (hK3 _ _ ?_)
  clear hK3
  refine Sx.wp_if hT rfl (fun h => by cases h) (fun _ => ?_)
  refine wp_skip ?_
  refine Sx.then_normal (hK2 _ _ ?_)
  clear hK2
  refine wp_seq_k fun K4 hK4 => ?_
  -- region 3 (extra.go:13)
  refine Sx.wp_text [(0, .take), (1, .run), (2, .run), (3, .take), (4, .take), (5, .take), (6, .take), (7, .take)] rfl ?_
  refine Sx.st_take hT rfl rfl rfl rfl (Sx.x_move hT rfl rfl) ?_
  clear hT; intro a hT
  refine Sx.st_run hT rfl rfl rfl rfl (Sx.y_loadS hT rfl Tryd.underlying23 Tryd.ti23 rfl ((H.blk 1 rfl).seg (k := 3) rfl) (by rfl)) ?_
  clear hT; intro a hT
  refine Sx.st_call hT rfl rfl rfl rfl rfl Tryd.can21 rfl (New_no node x y z _ hn) ?_
  rintro _ w4 ⟨rfl, E⟩
  refine ⟨_, rfl, ?_⟩
  clear hT; intro a hT
  replace H := H.pure E; clear E
  refine Sx.st_take hT rfl rfl rfl rfl (Sx.x_move hT rfl rfl) ?_
  clear hT; intro a hT
  refine Sx.st_take hT rfl rfl rfl rfl (Sx.x_extractL hT rfl rfl rfl) ?_
  clear hT; intro a hT
  refine Sx.st_take hT rfl rfl rfl rfl (Sx.x_extractL hT rfl rfl rfl) ?_
  clear hT; intro a hT
  refine Sx.st_take hT rfl rfl rfl rfl (Sx.x_assign hT rfl rfl) ?_
  clear hT; intro a hT
  refine Sx.st_take hT rfl rfl rfl rfl (Sx.x_assign hT rfl rfl) ?_
  clear hT; intro a hT
  replace hT := hT.keep [12, 11, 23, 10, 9, 6, 0, 1, 2, 3, 4] rfl
  refine Sx.ser_nil ?_
  refine Sx.then_normal (hK4 _ _ ?_)
  clear hK4
  refine wp_seq_k fun K5 hK5 => ?_
  refine wp_seq_k fun K6 hK6 => ?_
  -- region 4 (extra.go:14)
  refine Sx.wp_text [(0, .take), (1, .take), (2, .take), (3, .take), (4, .take), (5, .take)] rfl ?_
  refine Sx.st_take hT rfl rfl rfl rfl (Sx.x_move hT rfl rfl) ?_
  clear hT; intro a hT
  refine Sx.st_take hT rfl rfl rfl rfl ((fun w => Sx.x_ne w hT rfl rfl rfl)) ?_
  clear hT; intro a hT
  refine Sx.st_take hT rfl rfl rfl rfl (Sx.x_move hT rfl rfl) ?_
  clear hT; intro a hT
  -- guard (4, 2)
  refine Sx.Sl.two hT 32 rfl (fun hc7 hT => ?_) (fun hc7 hT => ?_)
  · try simp only [decide_eq_true_eq, decide_eq_false_iff_not, Bool.not_eq_true', Bool.not_eq_false', Bool.not_eq_true, Bool.not_eq_false, Bool.and_eq_true, Bool.or_eq_false_iff, beq_iff_eq, bne_iff_ne, Int.not_lt, Int.not_le, ne_eq] at hc7
    refine Sx.st_skip hT rfl rfl rfl rfl ?_
    clear hT; intro a hT
    refine Sx.st_skip hT rfl rfl rfl rfl ?_
    clear hT; intro a hT
    refine Sx.st_take hT rfl rfl rfl rfl (Sx.x_pick_t hT rfl rfl rfl) ?_
    clear hT; intro a hT
    replace hT := hT.keep [35, 12, 11, 23, 10, 9, 6, 0, 1, 2, 3, 4] rfl
    refine Sx.ser_nil ?_
    refine Sx.then_normal (hK6 _ _ ?_)
    clear hK6
    refine Sx.wp_if hT rfl (fun _ => ?_) (fun h => by cases h)
    refine wp_seq_k fun K8 hK8 => ?_
    -- region 5 (extra.go:15)
    refine Sx.wp_text [(0, .run), (1, .take), (2, .take), (3, .take), (4, .take), (5, .take)] rfl ?_
    refine Sx.st_call hT rfl rfl rfl rfl rfl Tryd.can10 rfl (first_calls _) ?_
    rintro _ w5 ⟨rfl, E⟩
    refine ⟨_, rfl, ?_⟩
    clear hT; intro a hT
    replace H := H.pure E; clear E
    refine Sx.st_take hT rfl rfl rfl rfl (Sx.x_move hT rfl rfl) ?_
    clear hT; intro a hT
    refine Sx.st_take hT rfl rfl rfl rfl (Sx.x_move hT rfl rfl) ?_
    clear hT; intro a hT
    refine Sx.st_take hT rfl rfl rfl rfl (Sx.x_eqnil_none hT rfl Tryd.underlying33 rfl rfl) ?_
    clear hT; intro a hT
    refine Sx.st_take hT rfl rfl rfl rfl (Sx.x_pick_t hT rfl rfl rfl) ?_
    clear hT; intro a hT
    refine Sx.st_take hT rfl rfl rfl rfl (Sx.x_assign hT rfl rfl) ?_
    clear hT; intro a hT
    replace hT := hT.keep [10, 35, 12, 11, 23, 9, 6, 0, 1, 2, 3, 4] rfl
    refine Sx.ser_nil ?_
    refine Sx.then_normal (hK8 _ _ ?_)
    clear hK8
    refine wp_ret ?_
    refine Sx.then_ret ?_
    refine Sx.done1 (fn := Tryd.f6) hT rfl (.tmp (hT.get 10 _ rfl)) ?_
    first | exact ⟨rfl, H.ext⟩ | exact ⟨ret_b (by simp), H.ext⟩
  · exfalso
    try simp only [decide_eq_true_eq, decide_eq_false_iff_not, Bool.not_eq_true', Bool.not_eq_false', Bool.not_eq_true, Bool.not_eq_false, Bool.and_eq_true, Bool.or_eq_false_iff, beq_iff_eq, bne_iff_ne, Int.not_lt, Int.not_le, ne_eq] at hc7
    (split at hc7 <;> omega)

theorem Peeks_yes (node x y z : Int) (ad : Option Addr) (c : Nat) (os : List OpV) (phys p q r : Int) (w : World) (hs : Ss w ad OpV.cells 5 os) (hl : os.length ≤ 9223372036854775807) (h1 : 1 ≤ node) (h2 : node ≤ 63) (h3 : may ⟨x, y, z⟩ = true) : Calls Tryd.prog 6 #[.int .i64 node, .agg #[.int .i64 x, .int .i64 y, .int .i64 z], .slice ad os.length c, .int .i64 phys, .agg #[.int .i64 p, .int .i64 q, .int .i64 r]] w fun e w' => e = .returned (.bool true) ∧ Ext No w w' := by
  have R : Ro w No _ := Ro.of fun w' x => hs.ext_no x
  refine Sx.calls_into Tryd.func6 rfl Tryd.ntmps6 rfl fun a hT => ?_
  replace hT := hT.keep [0, 1, 2, 3, 4] rfl
  have H : Sx.Hp w (Sx.No) w [] := Sx.Hp.start _ _
  refine wp_seq_k fun K1 hK1 => ?_
  -- region 0 (extra.go:9)
  refine Sx.wp_text [(0, .run), (1, .run), (2, .take)] rfl ?_
  refine Sx.st_eff hT rfl rfl rfl rfl (Sx.y_box hT rfl rfl rfl _) ?_
  clear hT; rintro _ w1 ⟨b1, rfl, N⟩ a hT
  replace H := H.new N; clear N
  refine Sx.st_eff hT rfl rfl rfl rfl (Sx.y_box hT rfl rfl rfl _) ?_
  clear hT; rintro _ w2 ⟨b2, rfl, N⟩ a hT
  replace H := H.new N; clear N
  refine Sx.st_take hT rfl rfl rfl rfl (Sx.x_assign hT rfl rfl) ?_
  clear hT; intro a hT
  replace hT := hT.keep [10, 9, 6, 0, 1, 2, 3, 4] rfl
  refine Sx.ser_nil ?_
  refine Sx.then_normal (hK1 _ _ ?_)
  clear hK1
  refine wp_seq_k fun K2 hK2 => ?_
  refine wp_seq_k fun K3 hK3 => ?_
  -- region 1 (extra.go:10)
  refine Sx.wp_text [(0, .run), (1, .take)] rfl ?_
  refine Sx.st_call hT rfl rfl rfl rfl rfl Tryd.can10 rfl (first_calls _) ?_
  rintro _ w3 ⟨rfl, E⟩
  refine ⟨_, rfl, ?_⟩
  clear hT; intro a hT
  replace H := H.pure E; clear E
  refine Sx.st_take hT rfl rfl rfl rfl (Sx.x_not hT rfl rfl) ?_
  clear hT; intro a hT
  replace hT := hT.keep [23, 10, 9, 6, 0, 1, 2, 3, 4] rfl
  refine Sx.ser_nil ?_
  refine Sx.then_normal (hK3 _ _ ?_)
  clear hK3
  refine Sx.wp_if hT rfl (fun h => by cases h) (fun _ => ?_)
  refine wp_skip ?_
  refine Sx.then_normal (hK2 _ _ ?_)
  clear hK2
  refine wp_seq_k fun K4 hK4 => ?_
  -- region 3 (extra.go:13)
  refine Sx.wp_text [(0, .take), (1, .run), (2, .run), (3, .take), (4, .take), (5, .take), (6, .take), (7, .take)] rfl ?_
  refine Sx.st_take hT rfl rfl rfl rfl (Sx.x_move hT rfl rfl) ?_
  clear hT; intro a hT
  refine Sx.st_run hT rfl rfl rfl rfl (Sx.y_loadS hT rfl Tryd.underlying23 Tryd.ti23 rfl ((H.blk 1 rfl).seg (k := 3) rfl) (by rfl)) ?_
  clear hT; intro a hT
  refine Sx.st_call hT rfl rfl rfl rfl rfl Tryd.can21 rfl (New_yes node x y z _ h1 h2 h3) ?_
  rintro _ w4 ⟨pc, rfl, K⟩
  refine ⟨_, rfl, ?_⟩
  clear hT; intro a hT
  replace H := H.more K rfl; clear K
  refine Sx.st_take hT rfl rfl rfl rfl (Sx.x_move hT rfl rfl) ?_
  clear hT; intro a hT
  refine Sx.st_take hT rfl rfl rfl rfl (Sx.x_extractL hT rfl rfl rfl) ?_
  clear hT; intro a hT
  refine Sx.st_take hT rfl rfl rfl rfl (Sx.x_extractL hT rfl rfl rfl) ?_
  clear hT; intro a hT
  refine Sx.st_take hT rfl rfl rfl rfl (Sx.x_assign hT rfl rfl) ?_
  clear hT; intro a hT
  refine Sx.st_take hT rfl rfl rfl rfl (Sx.x_assign hT rfl rfl) ?_
  clear hT; intro a hT
  replace hT := hT.keep [12, 11, 23, 10, 9, 6, 0, 1, 2, 3, 4] rfl
  refine Sx.ser_nil ?_
  refine Sx.then_normal (hK4 _ _ ?_)
  clear hK4
  refine wp_seq_k fun K5 hK5 => ?_
  refine wp_seq_k fun K6 hK6 => ?_
  -- region 4 (extra.go:14)
  refine Sx.wp_text [(0, .take), (1, .take), (2, .take), (3, .take), (4, .take), (5, .take)] rfl ?_
  refine Sx.st_take hT rfl rfl rfl rfl (Sx.x_move hT rfl rfl) ?_
  clear hT; intro a hT
  refine Sx.st_take hT rfl rfl rfl rfl ((fun w => Sx.x_ne w hT rfl rfl rfl)) ?_
  clear hT; intro a hT
  refine Sx.st_take hT rfl rfl rfl rfl (Sx.x_move hT rfl rfl) ?_
  clear hT; intro a hT
  -- guard (4, 2)
  refine Sx.Sl.two hT 32 rfl (fun hc7 hT => ?_) (fun hc7 hT => ?_)
  · exfalso
    try simp only [decide_eq_true_eq, decide_eq_false_iff_not, Bool.not_eq_true', Bool.not_eq_false', Bool.not_eq_true, Bool.not_eq_false, Bool.and_eq_true, Bool.or_eq_false_iff, beq_iff_eq, bne_iff_ne, Int.not_lt, Int.not_le, ne_eq] at hc7
    first | (simp at hc7; done) | omega | (simp at hc7; omega) | (simp_all; done)
  · try simp only [decide_eq_true_eq, decide_eq_false_iff_not, Bool.not_eq_true', Bool.not_eq_false', Bool.not_eq_true, Bool.not_eq_false, Bool.and_eq_true, Bool.or_eq_false_iff, beq_iff_eq, bne_iff_ne, Int.not_lt, Int.not_le, ne_eq] at hc7
    refine Sx.st_take hT rfl rfl rfl rfl (Sx.x_move hT rfl rfl) ?_
    clear hT; intro a hT
    refine Sx.st_take hT rfl rfl rfl rfl (Sx.x_eqnil_some hT rfl Tryd.underlying33 rfl rfl) ?_
    clear hT; intro a hT
    refine Sx.st_take hT rfl rfl rfl rfl (Sx.x_pick_f hT rfl rfl rfl) ?_
    clear hT; intro a hT
    replace hT := hT.keep [35, 12, 11, 23, 10, 9, 6, 0, 1, 2, 3, 4] rfl
    refine Sx.ser_nil ?_
    refine Sx.then_normal (hK6 _ _ ?_)
    clear hK6
    refine Sx.wp_if hT rfl (fun h => by cases h) (fun _ => ?_)
    refine wp_skip ?_
    refine Sx.then_normal (hK5 _ _ ?_)
    clear hK5
    refine wp_seq_k fun K8 hK8 => ?_
    refine wp_seq_k fun K9 hK9 => ?_
    -- region 6 (extra.go:17)
    refine Sx.wp_text [(0, .take)] rfl ?_
    refine Sx.st_take hT rfl rfl rfl rfl (Sx.x_assign hT rfl rfl) ?_
    clear hT; intro a hT
    replace hT := hT.keep [13, 35, 12, 11, 23, 10, 9, 6, 0, 1, 2, 3, 4] rfl
    refine Sx.ser_nil ?_
    refine Sx.then_normal (hK9 _ _ ?_)
    clear hK9
    refine wp_block ?_
    -- loop 0
    refine Sx.wp_loopH (G := Nat × Stamp) (fun ⟨k, s⟩ => [(13, .int .i64 (k : Int))]) (fun ⟨k, s⟩ => [cB pc [.int .i64 s.wall, .int .i64 s.logical, .int .i64 s.node] 60]) (fun ⟨k, s⟩ => k ≤ os.length ∧ 0 ≤ s.logical ∧ s.node = node) (fun ⟨k, s⟩ => os.length - k) (0, ⟨x, y, node⟩) (hT.keep [13, 35, 12, 11, 23, 10, 9, 6, 0, 1, 2, 3, 4] rfl) (H.keep [0, 1, 2] rfl rfl) (⟨Nat.zero_le _, by unfold may at h3; simp only [decide_eq_true_eq] at h3; exact h3.2.2.1, rfl⟩) ?_
    clear hT H
    rintro ⟨k, s⟩ a w5 hJ hT H
    replace hT := hT.keep [13, 35, 12, 11, 23, 10, 9, 6, 0, 1, 2, 3, 4] rfl
    replace H := H.keep [0, 1, 2] rfl rfl
    obtain ⟨hk, hg, hnd⟩ := hJ
    refine wp_seq_k fun K10 hK10 => ?_
    refine wp_seq_k fun K11 hK11 => ?_
    -- region 7 (extra.go:17)
    refine Sx.wp_text [(0, .take), (1, .take), (2, .take), (3, .take), (4, .take), (5, .take), (6, .take), (7, .take)] rfl ?_
    refine Sx.st_take hT rfl rfl rfl rfl (Sx.x_move hT rfl rfl) ?_
    clear hT; intro a hT
    refine Sx.st_take hT rfl rfl rfl rfl (Sx.x_move hT rfl rfl) ?_
    clear hT; intro a hT
    refine Sx.st_take hT rfl rfl rfl rfl (Sx.x_len_slice hT rfl rfl Tryd.underlying32 rfl) ?_
    clear hT; intro a hT
    refine Sx.st_take hT rfl rfl rfl rfl ((fun w => Sx.x_lt w hT rfl rfl rfl)) ?_
    clear hT; intro a hT
    refine Sx.st_take hT rfl rfl rfl rfl (Sx.x_move hT rfl rfl) ?_
    clear hT; intro a hT
    -- guard (7, 4)
    refine Sx.Sl.two hT 45 rfl (fun hc12 hT => ?_) (fun hc12 hT => ?_)
    · try simp only [decide_eq_true_eq, decide_eq_false_iff_not, Bool.not_eq_true', Bool.not_eq_false', Bool.not_eq_true, Bool.not_eq_false, Bool.and_eq_true, Bool.or_eq_false_iff, beq_iff_eq, bne_iff_ne, Int.not_lt, Int.not_le, ne_eq] at hc12
      refine Sx.st_take hT rfl rfl rfl rfl (Sx.x_move hT rfl rfl) ?_
      clear hT; intro a hT
      refine Sx.st_take hT rfl rfl rfl rfl ((fun w => Sx.x_lt w hT rfl rfl rfl)) ?_
      clear hT; intro a hT
      refine Sx.st_take hT rfl rfl rfl rfl (Sx.x_pick_t hT rfl rfl rfl) ?_
      clear hT; intro a hT
      replace hT := hT.keep [48, 13, 35, 12, 11, 23, 10, 9, 6, 0, 1, 2, 3, 4] rfl
      refine Sx.ser_nil ?_
      refine Sx.then_normal (hK11 _ _ ?_)
      clear hK11
      -- cond 2
      refine Sx.wp_if hT rfl (fun hc13 => ?_) (fun hc13 => ?_)
      · try simp only [decide_eq_true_eq, decide_eq_false_iff_not, Bool.not_eq_true', Bool.not_eq_false', Bool.not_eq_true, Bool.not_eq_false, Bool.and_eq_true, Bool.or_eq_false_iff, beq_iff_eq, bne_iff_ne, Int.not_lt, Int.not_le, ne_eq] at hc13
        obtain ⟨o, ho⟩ : ∃ o, os[k]? = some o := ⟨_, List.getElem?_eq_getElem (by omega)⟩
        refine wp_skip ?_
        refine Sx.then_normal (hK10 _ _ ?_)
        clear hK10
        refine wp_seq_k fun K14 hK14 => ?_
        refine wp_block ?_
        refine wp_seq_k fun K15 hK15 => ?_
        -- region 9 (extra.go:18)
        refine Sx.wp_text [(0, .take), (1, .take), (2, .take), (3, .take), (4, .run), (5, .take)] rfl ?_
        refine Sx.st_take hT rfl rfl rfl rfl (Sx.x_move hT rfl rfl) ?_
        clear hT; intro a hT
        refine Sx.st_take hT rfl rfl rfl rfl (Sx.x_move hT rfl rfl) ?_
        clear hT; intro a hT
        refine Sx.st_take hT rfl rfl rfl rfl (Sx.x_index hT rfl Tryd.underlying32 Tryd.ti41 (R.at H.ext).sv rfl rfl rfl (by omega)) ?_
        clear hT; intro a hT
        refine Sx.st_take hT rfl rfl rfl rfl (Sx.x_fieldAddr hT rfl Tryd.fa41_0 rfl) ?_
        clear hT; intro a hT
        refine Sx.st_run hT rfl rfl rfl rfl (Sx.x_load1 hT rfl Tryd.fl3 rfl (by first | exact ((H.blk 0 rfl).nth rfl) | exact ((H.blk 1 rfl).nth rfl) | exact ((H.blk 2 rfl).nth rfl) | exact ((R.at H.ext).cell OpV.len ho rfl))) ?_
        clear hT; intro a hT
        refine Sx.st_take hT rfl rfl rfl rfl ((fun w => Sx.x_eq w hT rfl rfl rfl)) ?_
        clear hT; intro a hT
        replace hT := hT.keep [56, 48, 13, 35, 12, 11, 23, 10, 9, 6, 0, 1, 2, 3, 4] rfl
        refine Sx.ser_nil ?_
        refine Sx.then_normal (hK15 _ _ ?_)
        clear hK15
        -- cond 3
        refine Sx.wp_if hT rfl (fun hc16 => ?_) (fun hc16 => ?_)
        · try simp only [decide_eq_true_eq, decide_eq_false_iff_not, Bool.not_eq_true', Bool.not_eq_false', Bool.not_eq_true, Bool.not_eq_false, Bool.and_eq_true, Bool.or_eq_false_iff, beq_iff_eq, bne_iff_ne, Int.not_lt, Int.not_le, ne_eq] at hc16
          -- region 10 (extra.go:19)
          refine Sx.wp_text [(0, .take), (1, .take), (2, .take), (3, .take), (4, .take), (5, .run), (6, .run)] rfl ?_
          refine Sx.st_take hT rfl rfl rfl rfl (Sx.x_move hT rfl rfl) ?_
          clear hT; intro a hT
          refine Sx.st_take hT rfl rfl rfl rfl (Sx.x_move hT rfl rfl) ?_
          clear hT; intro a hT
          refine Sx.st_take hT rfl rfl rfl rfl (Sx.x_move hT rfl rfl) ?_
          clear hT; intro a hT
          refine Sx.st_take hT rfl rfl rfl rfl (Sx.x_index hT rfl Tryd.underlying32 Tryd.ti41 (R.at H.ext).sv rfl rfl rfl (by omega)) ?_
          clear hT; intro a hT
          refine Sx.st_take hT rfl rfl rfl rfl (Sx.x_fieldAddr hT rfl Tryd.fa41_1 rfl) ?_
          clear hT; intro a hT
          refine Sx.st_run hT rfl rfl rfl rfl (Sx.x_load1 hT rfl Tryd.fl3 rfl (by first | exact ((H.blk 0 rfl).nth rfl) | exact ((H.blk 1 rfl).nth rfl) | exact ((H.blk 2 rfl).nth rfl) | exact ((R.at H.ext).cell OpV.len ho rfl))) ?_
          clear hT; intro a hT
          refine Sx.st_call hT rfl rfl rfl rfl rfl Tryd.can23 rfl (Now_calls (H.pre [0] rfl rfl) hg _) ?_
          rintro _ w6 ⟨rfl, K⟩
          refine ⟨_, rfl, ?_⟩
          clear hT; intro a hT
          replace H := H.back [0] [1, 2] rfl rfl rfl K rfl; clear K
          replace hT := hT.keep [56, 48, 13, 35, 12, 11, 23, 10, 9, 6, 0, 1, 2, 3, 4] rfl
          refine Sx.ser_nil ?_
          refine Sx.block_normal ?_
          refine Sx.then_normal (hK14 _ _ ?_)
          clear hK14
          -- region 8 (extra.go:17)
          refine Sx.wp_text [(0, .take), (1, .take), (2, .take)] rfl ?_
          refine Sx.st_take hT rfl rfl rfl rfl (Sx.x_move hT rfl rfl) ?_
          clear hT; intro a hT
          refine Sx.st_take hT rfl rfl rfl rfl ((fun w => Sx.x_add w hT rfl rfl rfl (Sx.wrap64 (by omega)))) ?_
          clear hT; intro a hT
          refine Sx.st_take hT rfl rfl rfl rfl (Sx.x_assign hT rfl rfl) ?_
          clear hT; intro a hT
          replace hT := hT.keep [13, 56, 48, 35, 12, 11, 23, 10, 9, 6, 0, 1, 2, 3, 4] rfl
          refine Sx.ser_nil ?_
          refine Sx.then_normal ?_
          exact ⟨(k + 1, now s o.n), ⟨by show k + 1 ≤ _; omega, now_ge _ _ hg, (now_node _ _).trans hnd⟩, (hT.keep [13, 35, 12, 11, 23, 10, 9, 6, 0, 1, 2, 3, 4] rfl), (H.keep [0, 1, 2] rfl rfl), by show _ - (k + 1) < _ - k; omega⟩
        · try simp only [decide_eq_true_eq, decide_eq_false_iff_not, Bool.not_eq_true', Bool.not_eq_false', Bool.not_eq_true, Bool.not_eq_false, Bool.and_eq_true, Bool.or_eq_false_iff, beq_iff_eq, bne_iff_ne, Int.not_lt, Int.not_le, ne_eq] at hc16
          -- region 11 (extra.go:21)
          refine Sx.wp_text [(0, .take), (1, .take), (2, .take), (3, .take), (4, .take), (5, .run), (6, .run)] rfl ?_
          refine Sx.st_take hT rfl rfl rfl rfl (Sx.x_move hT rfl rfl) ?_
          clear hT; intro a hT
          refine Sx.st_take hT rfl rfl rfl rfl (Sx.x_move hT rfl rfl) ?_
          clear hT; intro a hT
          refine Sx.st_take hT rfl rfl rfl rfl (Sx.x_move hT rfl rfl) ?_
          clear hT; intro a hT
          refine Sx.st_take hT rfl rfl rfl rfl (Sx.x_index hT rfl Tryd.underlying32 Tryd.ti41 (R.at H.ext).sv rfl rfl rfl (by omega)) ?_
          clear hT; intro a hT
          refine Sx.st_take hT rfl rfl rfl rfl (Sx.x_fieldAddr hT rfl Tryd.fa41_2 rfl) ?_
          clear hT; intro a hT
          refine Sx.st_run hT rfl rfl rfl rfl (Sx.y_loadS hT rfl Tryd.underlying23 Tryd.ti23 rfl (by first | exact ((H.blk 0 rfl).seg (k := 3) rfl) | exact ((H.blk 1 rfl).seg (k := 3) rfl) | exact ((H.blk 2 rfl).seg (k := 3) rfl) | exact (((R.at H.ext).cs OpV.len ho).seg (k := 3) rfl)) (by rfl)) ?_
          clear hT; intro a hT
          refine Sx.st_call hT rfl rfl rfl rfl rfl Tryd.can27 rfl (Obs_calls (H.pre [0] rfl rfl) _ _ _) ?_
          rintro _ w7 ⟨rfl, K⟩
          refine ⟨_, rfl, ?_⟩
          clear hT; intro a hT
          replace H := H.back [0] [1, 2] rfl rfl rfl K rfl; clear K
          replace hT := hT.keep [56, 48, 13, 35, 12, 11, 23, 10, 9, 6, 0, 1, 2, 3, 4] rfl
          refine Sx.ser_nil ?_
          refine Sx.block_normal ?_
          refine Sx.then_normal (hK14 _ _ ?_)
          clear hK14
          -- region 8 (extra.go:17)
          refine Sx.wp_text [(0, .take), (1, .take), (2, .take)] rfl ?_
          refine Sx.st_take hT rfl rfl rfl rfl (Sx.x_move hT rfl rfl) ?_
          clear hT; intro a hT
          refine Sx.st_take hT rfl rfl rfl rfl ((fun w => Sx.x_add w hT rfl rfl rfl (Sx.wrap64 (by omega)))) ?_
          clear hT; intro a hT
          refine Sx.st_take hT rfl rfl rfl rfl (Sx.x_assign hT rfl rfl) ?_
          clear hT; intro a hT
          replace hT := hT.keep [13, 56, 48, 35, 12, 11, 23, 10, 9, 6, 0, 1, 2, 3, 4] rfl
          refine Sx.ser_nil ?_
          refine Sx.then_normal ?_
          exact ⟨(k + 1, obs s o.s), ⟨by show k + 1 ≤ _; omega, obs_ge _ _ hg, (obs_node _ _).trans hnd⟩, (hT.keep [13, 35, 12, 11, 23, 10, 9, 6, 0, 1, 2, 3, 4] rfl), (H.keep [0, 1, 2] rfl rfl), by show _ - (k + 1) < _ - k; omega⟩
      · try simp only [decide_eq_true_eq, decide_eq_false_iff_not, Bool.not_eq_true', Bool.not_eq_false', Bool.not_eq_true, Bool.not_eq_false, Bool.and_eq_true, Bool.or_eq_false_iff, beq_iff_eq, bne_iff_ne, Int.not_lt, Int.not_le, ne_eq] at hc13
        refine wp_exit ?_
        refine Sx.then_exit ?_
        refine Sx.then_exit ?_
        refine Sx.block_exit ?_
        refine Sx.then_normal (hK8 _ _ ?_)
        clear hK8
        refine wp_seq_k fun K17 hK17 => ?_
        -- region 12 (extra.go:24)
        refine Sx.wp_text [(0, .take), (1, .run), (2, .run), (3, .run)] rfl ?_
        refine Sx.st_take hT rfl rfl rfl rfl (Sx.x_move hT rfl rfl) ?_
        clear hT; intro a hT
        refine Sx.st_call hT rfl rfl rfl rfl rfl Tryd.can29 rfl (Last_calls (H.blk 0 rfl)) ?_
        rintro _ w8 ⟨rfl, E⟩
        refine ⟨_, rfl, ?_⟩
        clear hT; intro a hT
        replace H := H.pure E; clear E
        refine Sx.st_eff hT rfl rfl rfl rfl (Sx.y_alloc hT rfl Tryd.ti23 rfl _) ?_
        clear hT; rintro _ w9 ⟨b3, rfl, N⟩ a hT
        replace H := H.new N; clear N
        refine Sx.st_act hT rfl rfl rfl (Sx.y_storeS hT rfl Tryd.ti23 rfl rfl rfl rfl rfl (H.blk 0 rfl) rfl) ?_
        rintro w10 ⟨hb, E, _⟩
        replace H := H.setB 0 rfl hb E rfl; clear hb E
        replace hT := hT.keep [14, 48, 13, 35, 12, 11, 23, 10, 9, 6, 0, 1, 2, 3, 4] rfl
        refine Sx.ser_nil ?_
        refine Sx.then_normal (hK17 _ _ ?_)
        clear hK17
        refine wp_seq_k fun K18 hK18 => ?_
        -- region 13 (extra.go:25)
        refine Sx.wp_text [(0, .take), (1, .take), (2, .run), (3, .take), (4, .take), (5, .take), (6, .run), (7, .run), (8, .take)] rfl ?_
        refine Sx.st_take hT rfl rfl rfl rfl (Sx.x_move hT rfl rfl) ?_
        clear hT; intro a hT
        refine Sx.st_take hT rfl rfl rfl rfl (Sx.x_move hT rfl rfl) ?_
        clear hT; intro a hT
        refine Sx.st_call hT rfl rfl rfl rfl rfl Tryd.can25 rfl (Peek_calls (H.blk 1 rfl) hg _) ?_
        rintro _ w11 ⟨rfl, E⟩
        refine ⟨_, rfl, ?_⟩
        clear hT; intro a hT
        replace H := H.pure E; clear E
        refine Sx.st_take hT rfl rfl rfl rfl (Sx.x_move hT rfl rfl) ?_
        clear hT; intro a hT
        refine Sx.st_take hT rfl rfl rfl rfl (Sx.x_extractL hT rfl rfl rfl) ?_
        clear hT; intro a hT
        refine Sx.st_take hT rfl rfl rfl rfl (Sx.x_extractL hT rfl rfl rfl) ?_
        clear hT; intro a hT
        refine Sx.st_eff hT rfl rfl rfl rfl (Sx.y_alloc hT rfl Tryd.ti23 rfl _) ?_
        clear hT; rintro _ w12 ⟨b4, rfl, N⟩ a hT
        replace H := H.new N; clear N
        refine Sx.st_act hT rfl rfl rfl (Sx.y_storeS hT rfl Tryd.ti23 rfl rfl rfl rfl rfl (H.blk 0 rfl) rfl) ?_
        rintro w13 ⟨hb, E, _⟩
        replace H := H.setB 0 rfl hb E rfl; clear hb E
        refine Sx.st_take hT rfl rfl rfl rfl (Sx.x_assign hT rfl rfl) ?_
        clear hT; intro a hT
        replace hT := hT.keep [16, 15, 14, 48, 13, 35, 12, 11, 23, 10, 9, 6, 0, 1, 2, 3, 4] rfl
        refine Sx.ser_nil ?_
        refine Sx.then_normal (hK18 _ _ ?_)
        clear hK18
        refine wp_seq_k fun K19 hK19 => ?_
        refine wp_seq_k fun K20 hK20 => ?_
        -- region 14 (extra.go:26)
        refine Sx.wp_draws (fun u => Sx.Ext (Sx.No) u) [(0, .take), (2, .held), (1, .keep), (3, .take)] (by kernel_rfl) (by kernel_rfl) (fun u E _ => ?_)
        replace H := H.pure E; clear E
        have hH : Sx.Ext (Sx.No) u u := Sx.Ext.refl _ _
        have Hu := H
        refine Sx.st_take hT rfl rfl rfl rfl (Sx.x_move hT rfl rfl) ?_
        clear hT; intro a hT
        refine Sx.st_held hT rfl rfl rfl rfl hH (fun w' h' => Sx.y_loadS hT rfl Tryd.underlying23 Tryd.ti23 rfl ((Hu.heldB 1 rfl h' Sx.off_No).seg (k := 3) rfl) (by rfl)) ?_
        clear hT; intro a hT
        refine Sx.st_callkeep hT rfl rfl rfl rfl rfl Tryd.can29 rfl (Last_calls (H.blk 2 rfl)) ?_
        rintro _ w14 ⟨rfl, E⟩
        refine ⟨_, rfl, hH.step E, ?_⟩
        replace hH := hH.step E
        clear hT; intro a hT
        replace H := H.pure E; clear E
        refine Sx.st_take hT rfl rfl rfl rfl (Sx.x_neS hT rfl (by kernel_rfl) (Tryd.eq23 _ _ _ _ _ _) rfl rfl rfl) ?_
        clear hT; intro a hT
        replace hT := hT.keep [82, 16, 15, 14, 48, 13, 35, 12, 11, 23, 10, 9, 6, 0, 1, 2, 3, 4] rfl
        clear Hu hH
        refine Sx.ser_calm ?_
        refine Sx.then_normal (hK20 _ _ ?_)
        clear hK20
        -- cond 4
        refine Sx.wp_if hT rfl (fun hc21 => ?_) (fun hc21 => ?_)
        · exfalso
          try simp only [decide_eq_true_eq, decide_eq_false_iff_not, Bool.not_eq_true', Bool.not_eq_false', Bool.not_eq_true, Bool.not_eq_false, Bool.and_eq_true, Bool.or_eq_false_iff, beq_iff_eq, bne_iff_ne, Int.not_lt, Int.not_le, ne_eq] at hc21
          first | (simp at hc21; done) | omega | (simp at hc21; omega) | (simp_all; done)
        · try simp only [decide_eq_true_eq, decide_eq_false_iff_not, Bool.not_eq_true', Bool.not_eq_false', Bool.not_eq_true, Bool.not_eq_false, Bool.and_eq_true, Bool.or_eq_false_iff, beq_iff_eq, bne_iff_ne, Int.not_lt, Int.not_le, ne_eq] at hc21
          refine wp_skip ?_
          refine Sx.then_normal (hK19 _ _ ?_)
          clear hK19
          refine wp_seq_k fun K22 hK22 => ?_
          -- region 16 (extra.go:29)
          refine Sx.wp_text [(0, .take), (1, .take), (2, .run), (3, .take), (4, .take), (5, .take), (6, .run), (7, .run), (8, .take)] rfl ?_
          refine Sx.st_take hT rfl rfl rfl rfl (Sx.x_move hT rfl rfl) ?_
          clear hT; intro a hT
          refine Sx.st_take hT rfl rfl rfl rfl (Sx.x_move hT rfl rfl) ?_
          clear hT; intro a hT
          refine Sx.st_call hT rfl rfl rfl rfl rfl Tryd.can23 rfl (Now_calls (H.pre [2] rfl rfl) hg _) ?_
          rintro _ w15 ⟨rfl, K⟩
          refine ⟨_, rfl, ?_⟩
          clear hT; intro a hT
          replace H := H.back [2] [0, 1, 3, 4] rfl rfl rfl K rfl; clear K
          refine Sx.st_take hT rfl rfl rfl rfl (Sx.x_move hT rfl rfl) ?_
          clear hT; intro a hT
          refine Sx.st_take hT rfl rfl rfl rfl (Sx.x_extractL hT rfl rfl rfl) ?_
          clear hT; intro a hT
          refine Sx.st_take hT rfl rfl rfl rfl (Sx.x_extractL hT rfl rfl rfl) ?_
          clear hT; intro a hT
          refine Sx.st_eff hT rfl rfl rfl rfl (Sx.y_alloc hT rfl Tryd.ti23 rfl _) ?_
          clear hT; rintro _ w16 ⟨b5, rfl, N⟩ a hT
          replace H := H.new N; clear N
          refine Sx.st_act hT rfl rfl rfl (Sx.y_storeS hT rfl Tryd.ti23 rfl rfl rfl rfl rfl (H.blk 0 rfl) rfl) ?_
          rintro w17 ⟨hb, E, _⟩
          replace H := H.setB 0 rfl hb E rfl; clear hb E
          refine Sx.st_take hT rfl rfl rfl rfl (Sx.x_assign hT rfl rfl) ?_
          clear hT; intro a hT
          replace hT := hT.keep [18, 17, 82, 16, 15, 14, 48, 13, 35, 12, 11, 23, 10, 9, 6, 0, 1, 2, 3, 4] rfl
          refine Sx.ser_nil ?_
          refine Sx.then_normal (hK22 _ _ ?_)
          clear hK22
          refine wp_seq_k fun K23 hK23 => ?_
          refine wp_seq_k fun K24 hK24 => ?_
          by_cases hp : (peek s phys).2 = 0
          · skip
            rw [now_ok s phys hp] at H
            -- region 17 (extra.go:30)
            refine Sx.wp_draws (fun u => Sx.Ext (Sx.No) u) [(0, .held), (1, .held), (2, .take), (3, .take), (4, .take), (5, .take), (6, .take), (7, .take), (8, .take), (9, .take), (10, .take), (11, .take), (12, .take), (14, .held), (13, .keep), (15, .take), (16, .take), (17, .take), (18, .take), (19, .take), (20, .take), (21, .take), (22, .take), (24, .held), (23, .keep), (25, .take), (26, .take), (27, .take)] (by kernel_rfl) (by kernel_rfl) (fun u E _ => ?_)
            replace H := H.pure E; clear E
            have hH : Sx.Ext (Sx.No) u u := Sx.Ext.refl _ _
            have Hu := H
            refine Sx.st_held hT rfl rfl rfl rfl hH (fun w' h' => Sx.y_loadS hT rfl Tryd.underlying23 Tryd.ti23 rfl ((Hu.heldB 2 rfl h' Sx.off_No).seg (k := 3) rfl) (by rfl)) ?_
            clear hT; intro a hT
            refine Sx.st_held hT rfl rfl rfl rfl hH (fun w' h' => Sx.y_loadS hT rfl Tryd.underlying23 Tryd.ti23 rfl ((Hu.heldB 0 rfl h' Sx.off_No).seg (k := 3) rfl) (by rfl)) ?_
            clear hT; intro a hT
            refine Sx.st_take hT rfl rfl rfl rfl (Sx.x_neS hT rfl (by kernel_rfl) (Tryd.eq23 _ _ _ _ _ _) rfl rfl rfl) ?_
            clear hT; intro a hT
            refine Sx.st_take hT rfl rfl rfl rfl (Sx.x_move hT rfl rfl) ?_
            clear hT; intro a hT
            -- guard (17, 3)
            refine Sx.Sl.two hT 92 rfl (fun hc25 hT => ?_) (fun hc25 hT => ?_)
            · exfalso
              try simp only [decide_eq_true_eq, decide_eq_false_iff_not, Bool.not_eq_true', Bool.not_eq_false', Bool.not_eq_true, Bool.not_eq_false, Bool.and_eq_true, Bool.or_eq_false_iff, beq_iff_eq, bne_iff_ne, Int.not_lt, Int.not_le, ne_eq] at hc25
              first | (simp at hc25; done) | omega | (simp at hc25; omega) | (simp_all; done)
            · try simp only [decide_eq_true_eq, decide_eq_false_iff_not, Bool.not_eq_true', Bool.not_eq_false', Bool.not_eq_true, Bool.not_eq_false, Bool.and_eq_true, Bool.or_eq_false_iff, beq_iff_eq, bne_iff_ne, Int.not_lt, Int.not_le, ne_eq] at hc25
              refine Sx.st_take hT rfl rfl rfl rfl (Sx.x_move hT rfl rfl) ?_
              clear hT; intro a hT
              refine Sx.st_take hT rfl rfl rfl rfl (Sx.x_move hT rfl rfl) ?_
              clear hT; intro a hT
              refine Sx.st_take hT rfl rfl rfl rfl ((fun w => Sx.x_ne w hT rfl rfl rfl)) ?_
              clear hT; intro a hT
              refine Sx.st_take hT rfl rfl rfl rfl (Sx.x_pick_f hT rfl rfl rfl) ?_
              clear hT; intro a hT
              refine Sx.st_take hT rfl rfl rfl rfl (Sx.x_move hT rfl rfl) ?_
              clear hT; intro a hT
              -- guard (17, 8)
              refine Sx.Sl.two hT 97 rfl (fun hc26 hT => ?_) (fun hc26 hT => ?_)
              · exfalso
                try simp only [decide_eq_true_eq, decide_eq_false_iff_not, Bool.not_eq_true', Bool.not_eq_false', Bool.not_eq_true, Bool.not_eq_false, Bool.and_eq_true, Bool.or_eq_false_iff, beq_iff_eq, bne_iff_ne, Int.not_lt, Int.not_le, ne_eq] at hc26
                first | (simp at hc26; done) | omega | (simp at hc26; omega) | (simp_all; done)
              · try simp only [decide_eq_true_eq, decide_eq_false_iff_not, Bool.not_eq_true', Bool.not_eq_false', Bool.not_eq_true, Bool.not_eq_false, Bool.and_eq_true, Bool.or_eq_false_iff, beq_iff_eq, bne_iff_ne, Int.not_lt, Int.not_le, ne_eq] at hc26
                refine Sx.st_take hT rfl rfl rfl rfl (Sx.x_move hT rfl rfl) ?_
                clear hT; intro a hT
                refine Sx.st_take hT rfl rfl rfl rfl ((fun w => Sx.x_ne w hT rfl rfl rfl)) ?_
                clear hT; intro a hT
                refine Sx.st_take hT rfl rfl rfl rfl (Sx.x_move hT rfl rfl) ?_
                clear hT; intro a hT
                -- guard (17, 11)
                refine Sx.Sl.two hT 100 rfl (fun hc27 hT => ?_) (fun hc27 hT => ?_)
                · try simp only [decide_eq_true_eq, decide_eq_false_iff_not, Bool.not_eq_true', Bool.not_eq_false', Bool.not_eq_true, Bool.not_eq_false, Bool.and_eq_true, Bool.or_eq_false_iff, beq_iff_eq, bne_iff_ne, Int.not_lt, Int.not_le, ne_eq] at hc27
                  refine Sx.st_take hT rfl rfl rfl rfl (Sx.x_move hT rfl rfl) ?_
                  clear hT; intro a hT
                  refine Sx.st_held hT rfl rfl rfl rfl hH (fun w' h' => Sx.y_loadS hT rfl Tryd.underlying23 Tryd.ti23 rfl ((Hu.heldB 3 rfl h' Sx.off_No).seg (k := 3) rfl) (by rfl)) ?_
                  clear hT; intro a hT
                  refine Sx.st_callkeep hT rfl rfl rfl rfl rfl Tryd.can29 rfl (Last_calls (H.blk 1 rfl)) ?_
                  rintro _ w18 ⟨rfl, E⟩
                  refine ⟨_, rfl, hH.step E, ?_⟩
                  replace hH := hH.step E
                  clear hT; intro a hT
                  replace H := H.pure E; clear E
                  refine Sx.st_take hT rfl rfl rfl rfl (Sx.x_neS hT rfl (by kernel_rfl) (Tryd.eq23 _ _ _ _ _ _) rfl rfl rfl) ?_
                  clear hT; intro a hT
                  refine Sx.st_take hT rfl rfl rfl rfl (Sx.x_pick_t hT rfl rfl rfl) ?_
                  clear hT; intro a hT
                  refine Sx.st_take hT rfl rfl rfl rfl (Sx.x_pick_f hT rfl rfl rfl) ?_
                  clear hT; intro a hT
                  refine Sx.st_take hT rfl rfl rfl rfl (Sx.x_move hT rfl rfl) ?_
                  clear hT; intro a hT
                  -- guard (17, 18)
                  refine Sx.Sl.two hT 107 rfl (fun hc28 hT => ?_) (fun hc28 hT => ?_)
                  · exfalso
                    try simp only [decide_eq_true_eq, decide_eq_false_iff_not, Bool.not_eq_true', Bool.not_eq_false', Bool.not_eq_true, Bool.not_eq_false, Bool.and_eq_true, Bool.or_eq_false_iff, beq_iff_eq, bne_iff_ne, Int.not_lt, Int.not_le, ne_eq] at hc28
                    first | (simp at hc28; done) | omega | (simp at hc28; omega) | (simp_all; done)
                  · try simp only [decide_eq_true_eq, decide_eq_false_iff_not, Bool.not_eq_true', Bool.not_eq_false', Bool.not_eq_true, Bool.not_eq_false, Bool.and_eq_true, Bool.or_eq_false_iff, beq_iff_eq, bne_iff_ne, Int.not_lt, Int.not_le, ne_eq] at hc28
                    refine Sx.st_take hT rfl rfl rfl rfl (Sx.x_move hT rfl rfl) ?_
                    clear hT; intro a hT
                    refine Sx.st_take hT rfl rfl rfl rfl ((fun w => Sx.x_eq w hT rfl rfl rfl)) ?_
                    clear hT; intro a hT
                    refine Sx.st_take hT rfl rfl rfl rfl (Sx.x_move hT rfl rfl) ?_
                    clear hT; intro a hT
                    -- guard (17, 21)
                    refine Sx.Sl.two hT 110 rfl (fun hc29 hT => ?_) (fun hc29 hT => ?_)
                    · try simp only [decide_eq_true_eq, decide_eq_false_iff_not, Bool.not_eq_true', Bool.not_eq_false', Bool.not_eq_true, Bool.not_eq_false, Bool.and_eq_true, Bool.or_eq_false_iff, beq_iff_eq, bne_iff_ne, Int.not_lt, Int.not_le, ne_eq] at hc29
                      refine Sx.st_take hT rfl rfl rfl rfl (Sx.x_move hT rfl rfl) ?_
                      clear hT; intro a hT
                      refine Sx.st_held hT rfl rfl rfl rfl hH (fun w' h' => Sx.y_loadS hT rfl Tryd.underlying23 Tryd.ti23 rfl ((Hu.heldB 2 rfl h' Sx.off_No).seg (k := 3) rfl) (by rfl)) ?_
                      clear hT; intro a hT
                      refine Sx.st_callkeep hT rfl rfl rfl rfl rfl Tryd.can29 rfl (Last_calls (H.blk 1 rfl)) ?_
                      rintro _ w19 ⟨rfl, E⟩
                      refine ⟨_, rfl, hH.step E, ?_⟩
                      replace hH := hH.step E
                      clear hT; intro a hT
                      replace H := H.pure E; clear E
                      refine Sx.st_take hT rfl rfl rfl rfl (Sx.x_neS hT rfl (by kernel_rfl) (Tryd.eq23 _ _ _ _ _ _) rfl rfl rfl) ?_
                      clear hT; intro a hT
                      refine Sx.st_take hT rfl rfl rfl rfl (Sx.x_pick_t hT rfl rfl rfl) ?_
                      clear hT; intro a hT
                      refine Sx.st_take hT rfl rfl rfl rfl (Sx.x_pick_f hT rfl rfl rfl) ?_
                      clear hT; intro a hT
                      replace hT := hT.keep [116, 18, 17, 82, 16, 15, 14, 48, 13, 35, 12, 11, 23, 10, 9, 6, 0, 1, 2, 3, 4] rfl
                      clear Hu hH
                      refine Sx.ser_calm ?_
                      refine Sx.then_normal (hK24 _ _ ?_)
                      clear hK24
                      -- cond 5
                      refine Sx.wp_if hT rfl (fun hc30 => ?_) (fun hc30 => ?_)
                      · exfalso
                        try simp only [decide_eq_true_eq, decide_eq_false_iff_not, Bool.not_eq_true', Bool.not_eq_false', Bool.not_eq_true, Bool.not_eq_false, Bool.and_eq_true, Bool.or_eq_false_iff, beq_iff_eq, bne_iff_ne, Int.not_lt, Int.not_le, ne_eq] at hc30
                        first | (simp at hc30; done) | omega | (simp at hc30; omega) | (simp_all; done)
                      · try simp only [decide_eq_true_eq, decide_eq_false_iff_not, Bool.not_eq_true', Bool.not_eq_false', Bool.not_eq_true, Bool.not_eq_false, Bool.and_eq_true, Bool.or_eq_false_iff, beq_iff_eq, bne_iff_ne, Int.not_lt, Int.not_le, ne_eq] at hc30
                        refine wp_skip ?_
                        refine Sx.then_normal (hK23 _ _ ?_)
                        clear hK23
                        refine wp_seq_k fun K31 hK31 => ?_
                        -- region 19 (extra.go:33)
                        refine Sx.wp_text [(0, .take), (1, .run), (2, .run), (3, .take)] rfl ?_
                        refine Sx.st_take hT rfl rfl rfl rfl (Sx.x_move hT rfl rfl) ?_
                        clear hT; intro a hT
                        refine Sx.st_run hT rfl rfl rfl rfl (Sx.y_loadS hT rfl Tryd.underlying23 Tryd.ti23 rfl ((H.blk 4 rfl).seg (k := 3) rfl) (by rfl)) ?_
                        clear hT; intro a hT
                        refine Sx.st_call hT rfl rfl rfl rfl rfl Tryd.can27 rfl (Obs_calls (H.pre [1] rfl rfl) _ _ _) ?_
                        rintro _ w20 ⟨rfl, K⟩
                        refine ⟨_, rfl, ?_⟩
                        clear hT; intro a hT
                        replace H := H.back [1] [0, 2, 3, 4, 5] rfl rfl rfl K rfl; clear K
                        refine Sx.st_take hT rfl rfl rfl rfl (Sx.x_assign hT rfl rfl) ?_
                        clear hT; intro a hT
                        replace hT := hT.keep [19, 116, 18, 17, 82, 16, 15, 14, 48, 13, 35, 12, 11, 23, 10, 9, 6, 0, 1, 2, 3, 4] rfl
                        refine Sx.ser_nil ?_
                        refine Sx.then_normal (hK31 _ _ ?_)
                        clear hK31
                        refine wp_seq_k fun K32 hK32 => ?_
                        -- region 20 (extra.go:34)
                        refine Sx.wp_text [(0, .take), (1, .run), (2, .run), (3, .run)] rfl ?_
                        refine Sx.st_take hT rfl rfl rfl rfl (Sx.x_move hT rfl rfl) ?_
                        clear hT; intro a hT
                        refine Sx.st_call hT rfl rfl rfl rfl rfl Tryd.can29 rfl (Last_calls (H.blk 0 rfl)) ?_
                        rintro _ w21 ⟨rfl, E⟩
                        refine ⟨_, rfl, ?_⟩
                        clear hT; intro a hT
                        replace H := H.pure E; clear E
                        refine Sx.st_eff hT rfl rfl rfl rfl (Sx.y_alloc hT rfl Tryd.ti23 rfl _) ?_
                        clear hT; rintro _ w22 ⟨b6, rfl, N⟩ a hT
                        replace H := H.new N; clear N
                        refine Sx.st_act hT rfl rfl rfl (Sx.y_storeS hT rfl Tryd.ti23 rfl rfl rfl rfl rfl (H.blk 0 rfl) rfl) ?_
                        rintro w23 ⟨hb, E, _⟩
                        replace H := H.setB 0 rfl hb E rfl; clear hb E
                        replace hT := hT.keep [20, 19, 116, 18, 17, 82, 16, 15, 14, 48, 13, 35, 12, 11, 23, 10, 9, 6, 0, 1, 2, 3, 4] rfl
                        refine Sx.ser_nil ?_
                        refine Sx.then_normal (hK32 _ _ ?_)
                        clear hK32
                        refine wp_seq_k fun K33 hK33 => ?_
                        -- region 21 (extra.go:35)
                        refine Sx.wp_text [(0, .take), (1, .run), (2, .run), (3, .take)] rfl ?_
                        refine Sx.st_take hT rfl rfl rfl rfl (Sx.x_move hT rfl rfl) ?_
                        clear hT; intro a hT
                        refine Sx.st_run hT rfl rfl rfl rfl (Sx.y_loadS hT rfl Tryd.underlying23 Tryd.ti23 rfl ((H.blk 5 rfl).seg (k := 3) rfl) (by rfl)) ?_
                        clear hT; intro a hT
                        refine Sx.st_call hT rfl rfl rfl rfl rfl Tryd.can27 rfl (Obs_calls (H.pre [1] rfl rfl) _ _ _) ?_
                        rintro _ w24 ⟨rfl, K⟩
                        refine ⟨_, rfl, ?_⟩
                        clear hT; intro a hT
                        replace H := H.back [1] [0, 2, 3, 4, 5, 6] rfl rfl rfl K rfl; clear K
                        refine Sx.st_take hT rfl rfl rfl rfl (Sx.x_assign hT rfl rfl) ?_
                        clear hT; intro a hT
                        replace hT := hT.keep [21, 20, 19, 116, 18, 17, 82, 16, 15, 14, 48, 13, 35, 12, 11, 23, 10, 9, 6, 0, 1, 2, 3, 4] rfl
                        refine Sx.ser_nil ?_
                        refine Sx.then_normal (hK33 _ _ ?_)
                        clear hK33
                        refine wp_seq_k fun K34 hK34 => ?_
                        -- region 22 (extra.go:36)
                        rw [obs_twice] at H
                        refine Sx.wp_draws (fun u => Sx.Ext (Sx.No) u) [(0, .keep), (1, .take), (2, .take), (3, .take), (4, .take), (5, .take), (6, .take), (7, .take), (9, .held), (8, .keep), (10, .take), (11, .take), (12, .take), (13, .take), (14, .take), (15, .held), (16, .keep), (17, .take), (18, .take), (19, .take), (20, .take), (21, .held), (22, .take), (23, .take), (24, .take), (25, .take)] (by kernel_rfl) (by kernel_rfl) (fun u E _ => ?_)
                        replace H := H.pure E; clear E
                        have hH : Sx.Ext (Sx.No) u u := Sx.Ext.refl _ _
                        have Hu := H
                        refine Sx.st_callkeep hT rfl rfl rfl rfl rfl Tryd.can10 rfl (first_calls _) ?_
                        rintro _ w25 ⟨rfl, E⟩
                        refine ⟨_, rfl, hH.step E, ?_⟩
                        replace hH := hH.step E
                        clear hT; intro a hT
                        replace H := H.pure E; clear E
                        refine Sx.st_take hT rfl rfl rfl rfl (Sx.x_move hT rfl rfl) ?_
                        clear hT; intro a hT
                        refine Sx.st_take hT rfl rfl rfl rfl (Sx.x_move hT rfl rfl) ?_
                        clear hT; intro a hT
                        refine Sx.st_take hT rfl rfl rfl rfl (Sx.x_move hT rfl rfl) ?_
                        clear hT; intro a hT
                        refine Sx.st_take hT rfl rfl rfl rfl ((fun w => Sx.x_eq w hT rfl rfl rfl)) ?_
                        clear hT; intro a hT
                        refine Sx.st_take hT rfl rfl rfl rfl (Sx.x_pick_t hT rfl rfl rfl) ?_
                        clear hT; intro a hT
                        refine Sx.st_take hT rfl rfl rfl rfl (Sx.x_move hT rfl rfl) ?_
                        clear hT; intro a hT
                        -- guard (22, 6)
                        refine Sx.Sl.two hT 131 rfl (fun hc35 hT => ?_) (fun hc35 hT => ?_)
                        · try simp only [decide_eq_true_eq, decide_eq_false_iff_not, Bool.not_eq_true', Bool.not_eq_false', Bool.not_eq_true, Bool.not_eq_false, Bool.and_eq_true, Bool.or_eq_false_iff, beq_iff_eq, bne_iff_ne, Int.not_lt, Int.not_le, ne_eq] at hc35
                          refine Sx.st_take hT rfl rfl rfl rfl (Sx.x_move hT rfl rfl) ?_
                          clear hT; intro a hT
                          refine Sx.st_held hT rfl rfl rfl rfl hH (fun w' h' => Sx.y_loadS hT rfl Tryd.underlying23 Tryd.ti23 rfl ((Hu.heldB 1 rfl h' Sx.off_No).seg (k := 3) rfl) (by rfl)) ?_
                          clear hT; intro a hT
                          refine Sx.st_callkeep hT rfl rfl rfl rfl rfl Tryd.can29 rfl (Last_calls (H.blk 0 rfl)) ?_
                          rintro _ w26 ⟨rfl, E⟩
                          refine ⟨_, rfl, hH.step E, ?_⟩
                          replace hH := hH.step E
                          clear hT; intro a hT
                          replace H := H.pure E; clear E
                          refine Sx.st_take hT rfl rfl rfl rfl (Sx.x_eqS hT rfl (by kernel_rfl) (Tryd.eq23 _ _ _ _ _ _) rfl rfl rfl) ?_
                          clear hT; intro a hT
                          refine Sx.st_take hT rfl rfl rfl rfl (Sx.x_pick_t hT rfl rfl rfl) ?_
                          clear hT; intro a hT
                          refine Sx.st_take hT rfl rfl rfl rfl (Sx.x_move hT rfl rfl) ?_
                          clear hT; intro a hT
                          -- guard (22, 12)
                          refine Sx.Sl.two hT 137 rfl (fun hc36 hT => ?_) (fun hc36 hT => ?_)
                          · try simp only [decide_eq_true_eq, decide_eq_false_iff_not, Bool.not_eq_true', Bool.not_eq_false', Bool.not_eq_true, Bool.not_eq_false, Bool.and_eq_true, Bool.or_eq_false_iff, beq_iff_eq, bne_iff_ne, Int.not_lt, Int.not_le, ne_eq] at hc36
                            refine Sx.st_take hT rfl rfl rfl rfl (Sx.x_move hT rfl rfl) ?_
                            clear hT; intro a hT
                            refine Sx.st_take hT rfl rfl rfl rfl ((fun w => Sx.x_eq w hT rfl rfl rfl)) ?_
                            clear hT; intro a hT
                            refine Sx.st_held hT rfl rfl rfl rfl hH (fun w' h' => Sx.y_loadS hT rfl Tryd.underlying23 Tryd.ti23 rfl ((Hu.heldB 5 rfl h' Sx.off_No).seg (k := 3) rfl) (by rfl)) ?_
                            clear hT; intro a hT
                            refine Sx.st_callkeep hT rfl rfl rfl rfl rfl Tryd.can13 rfl (May_calls _ _ _ _) ?_
                            rintro _ w27 ⟨rfl, E⟩
                            refine ⟨_, rfl, hH.step E, ?_⟩
                            replace hH := hH.step E
                            clear hT; intro a hT
                            replace H := H.pure E; clear E
                            refine Sx.st_take hT rfl rfl rfl rfl (Sx.x_eqb hT rfl Tryd.underlying4 rfl rfl) ?_
                            clear hT; intro a hT
                            refine Sx.st_take hT rfl rfl rfl rfl (Sx.x_pick_t hT rfl rfl rfl) ?_
                            clear hT; intro a hT
                            refine Sx.st_take hT rfl rfl rfl rfl (Sx.x_move hT rfl rfl) ?_
                            clear hT; intro a hT
                            -- guard (22, 19)
                            refine Sx.Sl.two hT 144 rfl (fun hc37 hT => ?_) (fun hc37 hT => ?_)
                            · try simp only [decide_eq_true_eq, decide_eq_false_iff_not, Bool.not_eq_true', Bool.not_eq_false', Bool.not_eq_true, Bool.not_eq_false, Bool.and_eq_true, Bool.or_eq_false_iff, beq_iff_eq, bne_iff_ne, Int.not_lt, Int.not_le, ne_eq] at hc37
                              refine Sx.st_take hT rfl rfl rfl rfl (Sx.x_fieldAddr hT rfl Tryd.fa23_2 rfl) ?_
                              clear hT; intro a hT
                              refine Sx.st_held hT rfl rfl rfl rfl hH (fun w' h' => Sx.x_load1 hT rfl Tryd.fl3 rfl ((Hu.heldB 1 rfl h' Sx.off_No).nth rfl)) ?_
                              clear hT; intro a hT
                              refine Sx.st_take hT rfl rfl rfl rfl (Sx.x_move hT rfl rfl) ?_
                              clear hT; intro a hT
                              refine Sx.st_take hT rfl rfl rfl rfl ((fun w => Sx.x_eq w hT rfl rfl rfl)) ?_
                              clear hT; intro a hT
                              refine Sx.st_take hT rfl rfl rfl rfl (Sx.x_pick_t hT rfl rfl rfl) ?_
                              clear hT; intro a hT
                              refine Sx.st_take hT rfl rfl rfl rfl (Sx.x_assign hT rfl rfl) ?_
                              clear hT; intro a hT
                              replace hT := hT.keep [10, 21, 20, 19, 116, 18, 17, 82, 16, 15, 14, 48, 13, 35, 12, 11, 23, 9, 6, 0, 1, 2, 3, 4] rfl
                              clear Hu hH
                              refine Sx.ser_calm ?_
                              refine Sx.then_normal (hK34 _ _ ?_)
                              clear hK34
                              refine wp_ret ?_
                              refine Sx.done1 (fn := Tryd.f6) hT rfl (.tmp (hT.get 10 _ rfl)) ?_
                              exact ⟨ret_b (by simp [obs_node, peek_node _ _ hp, hnd]), H.ext⟩
                            · exfalso
                              try simp only [decide_eq_true_eq, decide_eq_false_iff_not, Bool.not_eq_true', Bool.not_eq_false', Bool.not_eq_true, Bool.not_eq_false, Bool.and_eq_true, Bool.or_eq_false_iff, beq_iff_eq, bne_iff_ne, Int.not_lt, Int.not_le, ne_eq] at hc37
                              revert hc37; cases may ⟨p, q, r⟩ <;> simp
                          · exfalso
                            try simp only [decide_eq_true_eq, decide_eq_false_iff_not, Bool.not_eq_true', Bool.not_eq_false', Bool.not_eq_true, Bool.not_eq_false, Bool.and_eq_true, Bool.or_eq_false_iff, beq_iff_eq, bne_iff_ne, Int.not_lt, Int.not_le, ne_eq] at hc36
                            first | (simp at hc36; done) | omega | (simp at hc36; omega) | (simp_all; done)
                        · exfalso
                          try simp only [decide_eq_true_eq, decide_eq_false_iff_not, Bool.not_eq_true', Bool.not_eq_false', Bool.not_eq_true, Bool.not_eq_false, Bool.and_eq_true, Bool.or_eq_false_iff, beq_iff_eq, bne_iff_ne, Int.not_lt, Int.not_le, ne_eq] at hc35
                          first | (simp at hc35; done) | omega | (simp at hc35; omega) | (simp_all; done)
                    · try simp only [decide_eq_true_eq, decide_eq_false_iff_not, Bool.not_eq_true', Bool.not_eq_false', Bool.not_eq_true, Bool.not_eq_false, Bool.and_eq_true, Bool.or_eq_false_iff, beq_iff_eq, bne_iff_ne, Int.not_lt, Int.not_le, ne_eq] at hc29
                      refine Sx.st_skip hT rfl rfl rfl rfl ?_
                      clear hT; intro a hT
                      refine Sx.st_heldskip hT rfl rfl rfl rfl hH ?_
                      clear hT; intro a hT
                      refine Sx.st_keepskip hT rfl rfl rfl rfl hH ?_
                      clear hT; intro a hT
                      refine Sx.st_skip hT rfl rfl rfl rfl ?_
                      clear hT; intro a hT
                      refine Sx.st_take hT rfl rfl rfl rfl (Sx.x_pick_f hT rfl rfl rfl) ?_
                      clear hT; intro a hT
                      refine Sx.st_take hT rfl rfl rfl rfl (Sx.x_pick_f hT rfl rfl rfl) ?_
                      clear hT; intro a hT
                      replace hT := hT.keep [116, 18, 17, 82, 16, 15, 14, 48, 13, 35, 12, 11, 23, 10, 9, 6, 0, 1, 2, 3, 4] rfl
                      clear Hu hH
                      refine Sx.ser_calm ?_
                      refine Sx.then_normal (hK24 _ _ ?_)
                      clear hK24
                      refine Sx.wp_if hT rfl (fun h => by cases h) (fun _ => ?_)
                      refine wp_skip ?_
                      refine Sx.then_normal (hK23 _ _ ?_)
                      clear hK23
                      refine wp_seq_k fun K38 hK38 => ?_
                      -- region 19 (extra.go:33)
                      refine Sx.wp_text [(0, .take), (1, .run), (2, .run), (3, .take)] rfl ?_
                      refine Sx.st_take hT rfl rfl rfl rfl (Sx.x_move hT rfl rfl) ?_
                      clear hT; intro a hT
                      refine Sx.st_run hT rfl rfl rfl rfl (Sx.y_loadS hT rfl Tryd.underlying23 Tryd.ti23 rfl ((H.blk 4 rfl).seg (k := 3) rfl) (by rfl)) ?_
                      clear hT; intro a hT
                      refine Sx.st_call hT rfl rfl rfl rfl rfl Tryd.can27 rfl (Obs_calls (H.pre [1] rfl rfl) _ _ _) ?_
                      rintro _ w28 ⟨rfl, K⟩
                      refine ⟨_, rfl, ?_⟩
                      clear hT; intro a hT
                      replace H := H.back [1] [0, 2, 3, 4, 5] rfl rfl rfl K rfl; clear K
                      refine Sx.st_take hT rfl rfl rfl rfl (Sx.x_assign hT rfl rfl) ?_
                      clear hT; intro a hT
                      replace hT := hT.keep [19, 116, 18, 17, 82, 16, 15, 14, 48, 13, 35, 12, 11, 23, 10, 9, 6, 0, 1, 2, 3, 4] rfl
                      refine Sx.ser_nil ?_
                      refine Sx.then_normal (hK38 _ _ ?_)
                      clear hK38
                      refine wp_seq_k fun K39 hK39 => ?_
                      -- region 20 (extra.go:34)
                      refine Sx.wp_text [(0, .take), (1, .run), (2, .run), (3, .run)] rfl ?_
                      refine Sx.st_take hT rfl rfl rfl rfl (Sx.x_move hT rfl rfl) ?_
                      clear hT; intro a hT
                      refine Sx.st_call hT rfl rfl rfl rfl rfl Tryd.can29 rfl (Last_calls (H.blk 0 rfl)) ?_
                      rintro _ w29 ⟨rfl, E⟩
                      refine ⟨_, rfl, ?_⟩
                      clear hT; intro a hT
                      replace H := H.pure E; clear E
                      refine Sx.st_eff hT rfl rfl rfl rfl (Sx.y_alloc hT rfl Tryd.ti23 rfl _) ?_
                      clear hT; rintro _ w30 ⟨b7, rfl, N⟩ a hT
                      replace H := H.new N; clear N
                      refine Sx.st_act hT rfl rfl rfl (Sx.y_storeS hT rfl Tryd.ti23 rfl rfl rfl rfl rfl (H.blk 0 rfl) rfl) ?_
                      rintro w31 ⟨hb, E, _⟩
                      replace H := H.setB 0 rfl hb E rfl; clear hb E
                      replace hT := hT.keep [20, 19, 116, 18, 17, 82, 16, 15, 14, 48, 13, 35, 12, 11, 23, 10, 9, 6, 0, 1, 2, 3, 4] rfl
                      refine Sx.ser_nil ?_
                      refine Sx.then_normal (hK39 _ _ ?_)
                      clear hK39
                      refine wp_seq_k fun K40 hK40 => ?_
                      -- region 21 (extra.go:35)
                      refine Sx.wp_text [(0, .take), (1, .run), (2, .run), (3, .take)] rfl ?_
                      refine Sx.st_take hT rfl rfl rfl rfl (Sx.x_move hT rfl rfl) ?_
                      clear hT; intro a hT
                      refine Sx.st_run hT rfl rfl rfl rfl (Sx.y_loadS hT rfl Tryd.underlying23 Tryd.ti23 rfl ((H.blk 5 rfl).seg (k := 3) rfl) (by rfl)) ?_
                      clear hT; intro a hT
                      refine Sx.st_call hT rfl rfl rfl rfl rfl Tryd.can27 rfl (Obs_calls (H.pre [1] rfl rfl) _ _ _) ?_
                      rintro _ w32 ⟨rfl, K⟩
                      refine ⟨_, rfl, ?_⟩
                      clear hT; intro a hT
                      replace H := H.back [1] [0, 2, 3, 4, 5, 6] rfl rfl rfl K rfl; clear K
                      refine Sx.st_take hT rfl rfl rfl rfl (Sx.x_assign hT rfl rfl) ?_
                      clear hT; intro a hT
                      replace hT := hT.keep [21, 20, 19, 116, 18, 17, 82, 16, 15, 14, 48, 13, 35, 12, 11, 23, 10, 9, 6, 0, 1, 2, 3, 4] rfl
                      refine Sx.ser_nil ?_
                      refine Sx.then_normal (hK40 _ _ ?_)
                      clear hK40
                      refine wp_seq_k fun K41 hK41 => ?_
                      -- region 22 (extra.go:36)
                      rw [obs_twice] at H
                      refine Sx.wp_draws (fun u => Sx.Ext (Sx.No) u) [(0, .keep), (1, .take), (2, .take), (3, .take), (4, .take), (5, .take), (6, .take), (7, .take), (9, .held), (8, .keep), (10, .take), (11, .take), (12, .take), (13, .take), (14, .take), (15, .held), (16, .keep), (17, .take), (18, .take), (19, .take), (20, .take), (21, .held), (22, .take), (23, .take), (24, .take), (25, .take)] (by kernel_rfl) (by kernel_rfl) (fun u E _ => ?_)
                      replace H := H.pure E; clear E
                      have hH : Sx.Ext (Sx.No) u u := Sx.Ext.refl _ _
                      have Hu := H
                      refine Sx.st_callkeep hT rfl rfl rfl rfl rfl Tryd.can10 rfl (first_calls _) ?_
                      rintro _ w33 ⟨rfl, E⟩
                      refine ⟨_, rfl, hH.step E, ?_⟩
                      replace hH := hH.step E
                      clear hT; intro a hT
                      replace H := H.pure E; clear E
                      refine Sx.st_take hT rfl rfl rfl rfl (Sx.x_move hT rfl rfl) ?_
                      clear hT; intro a hT
                      refine Sx.st_take hT rfl rfl rfl rfl (Sx.x_move hT rfl rfl) ?_
                      clear hT; intro a hT
                      refine Sx.st_take hT rfl rfl rfl rfl (Sx.x_move hT rfl rfl) ?_
                      clear hT; intro a hT
                      refine Sx.st_take hT rfl rfl rfl rfl ((fun w => Sx.x_eq w hT rfl rfl rfl)) ?_
                      clear hT; intro a hT
                      refine Sx.st_take hT rfl rfl rfl rfl (Sx.x_pick_t hT rfl rfl rfl) ?_
                      clear hT; intro a hT
                      refine Sx.st_take hT rfl rfl rfl rfl (Sx.x_move hT rfl rfl) ?_
                      clear hT; intro a hT
                      -- guard (22, 6)
                      refine Sx.Sl.two hT 131 rfl (fun hc42 hT => ?_) (fun hc42 hT => ?_)
                      · try simp only [decide_eq_true_eq, decide_eq_false_iff_not, Bool.not_eq_true', Bool.not_eq_false', Bool.not_eq_true, Bool.not_eq_false, Bool.and_eq_true, Bool.or_eq_false_iff, beq_iff_eq, bne_iff_ne, Int.not_lt, Int.not_le, ne_eq] at hc42
                        refine Sx.st_take hT rfl rfl rfl rfl (Sx.x_move hT rfl rfl) ?_
                        clear hT; intro a hT
                        refine Sx.st_held hT rfl rfl rfl rfl hH (fun w' h' => Sx.y_loadS hT rfl Tryd.underlying23 Tryd.ti23 rfl ((Hu.heldB 1 rfl h' Sx.off_No).seg (k := 3) rfl) (by rfl)) ?_
                        clear hT; intro a hT
                        refine Sx.st_callkeep hT rfl rfl rfl rfl rfl Tryd.can29 rfl (Last_calls (H.blk 0 rfl)) ?_
                        rintro _ w34 ⟨rfl, E⟩
                        refine ⟨_, rfl, hH.step E, ?_⟩
                        replace hH := hH.step E
                        clear hT; intro a hT
                        replace H := H.pure E; clear E
                        refine Sx.st_take hT rfl rfl rfl rfl (Sx.x_eqS hT rfl (by kernel_rfl) (Tryd.eq23 _ _ _ _ _ _) rfl rfl rfl) ?_
                        clear hT; intro a hT
                        refine Sx.st_take hT rfl rfl rfl rfl (Sx.x_pick_t hT rfl rfl rfl) ?_
                        clear hT; intro a hT
                        refine Sx.st_take hT rfl rfl rfl rfl (Sx.x_move hT rfl rfl) ?_
                        clear hT; intro a hT
                        -- guard (22, 12)
                        refine Sx.Sl.two hT 137 rfl (fun hc43 hT => ?_) (fun hc43 hT => ?_)
                        · try simp only [decide_eq_true_eq, decide_eq_false_iff_not, Bool.not_eq_true', Bool.not_eq_false', Bool.not_eq_true, Bool.not_eq_false, Bool.and_eq_true, Bool.or_eq_false_iff, beq_iff_eq, bne_iff_ne, Int.not_lt, Int.not_le, ne_eq] at hc43
                          refine Sx.st_take hT rfl rfl rfl rfl (Sx.x_move hT rfl rfl) ?_
                          clear hT; intro a hT
                          refine Sx.st_take hT rfl rfl rfl rfl ((fun w => Sx.x_eq w hT rfl rfl rfl)) ?_
                          clear hT; intro a hT
                          refine Sx.st_held hT rfl rfl rfl rfl hH (fun w' h' => Sx.y_loadS hT rfl Tryd.underlying23 Tryd.ti23 rfl ((Hu.heldB 5 rfl h' Sx.off_No).seg (k := 3) rfl) (by rfl)) ?_
                          clear hT; intro a hT
                          refine Sx.st_callkeep hT rfl rfl rfl rfl rfl Tryd.can13 rfl (May_calls _ _ _ _) ?_
                          rintro _ w35 ⟨rfl, E⟩
                          refine ⟨_, rfl, hH.step E, ?_⟩
                          replace hH := hH.step E
                          clear hT; intro a hT
                          replace H := H.pure E; clear E
                          refine Sx.st_take hT rfl rfl rfl rfl (Sx.x_eqb hT rfl Tryd.underlying4 rfl rfl) ?_
                          clear hT; intro a hT
                          refine Sx.st_take hT rfl rfl rfl rfl (Sx.x_pick_t hT rfl rfl rfl) ?_
                          clear hT; intro a hT
                          refine Sx.st_take hT rfl rfl rfl rfl (Sx.x_move hT rfl rfl) ?_
                          clear hT; intro a hT
                          -- guard (22, 19)
                          refine Sx.Sl.two hT 144 rfl (fun hc44 hT => ?_) (fun hc44 hT => ?_)
                          · try simp only [decide_eq_true_eq, decide_eq_false_iff_not, Bool.not_eq_true', Bool.not_eq_false', Bool.not_eq_true, Bool.not_eq_false, Bool.and_eq_true, Bool.or_eq_false_iff, beq_iff_eq, bne_iff_ne, Int.not_lt, Int.not_le, ne_eq] at hc44
                            refine Sx.st_take hT rfl rfl rfl rfl (Sx.x_fieldAddr hT rfl Tryd.fa23_2 rfl) ?_
                            clear hT; intro a hT
                            refine Sx.st_held hT rfl rfl rfl rfl hH (fun w' h' => Sx.x_load1 hT rfl Tryd.fl3 rfl ((Hu.heldB 1 rfl h' Sx.off_No).nth rfl)) ?_
                            clear hT; intro a hT
                            refine Sx.st_take hT rfl rfl rfl rfl (Sx.x_move hT rfl rfl) ?_
                            clear hT; intro a hT
                            refine Sx.st_take hT rfl rfl rfl rfl ((fun w => Sx.x_eq w hT rfl rfl rfl)) ?_
                            clear hT; intro a hT
                            refine Sx.st_take hT rfl rfl rfl rfl (Sx.x_pick_t hT rfl rfl rfl) ?_
                            clear hT; intro a hT
                            refine Sx.st_take hT rfl rfl rfl rfl (Sx.x_assign hT rfl rfl) ?_
                            clear hT; intro a hT
                            replace hT := hT.keep [10, 21, 20, 19, 116, 18, 17, 82, 16, 15, 14, 48, 13, 35, 12, 11, 23, 9, 6, 0, 1, 2, 3, 4] rfl
                            clear Hu hH
                            refine Sx.ser_calm ?_
                            refine Sx.then_normal (hK41 _ _ ?_)
                            clear hK41
                            refine wp_ret ?_
                            refine Sx.done1 (fn := Tryd.f6) hT rfl (.tmp (hT.get 10 _ rfl)) ?_
                            exact ⟨ret_b (by simp [obs_node, peek_node _ _ hp, hnd]), H.ext⟩
                          · exfalso
                            try simp only [decide_eq_true_eq, decide_eq_false_iff_not, Bool.not_eq_true', Bool.not_eq_false', Bool.not_eq_true, Bool.not_eq_false, Bool.and_eq_true, Bool.or_eq_false_iff, beq_iff_eq, bne_iff_ne, Int.not_lt, Int.not_le, ne_eq] at hc44
                            revert hc44; cases may ⟨p, q, r⟩ <;> simp
                        · exfalso
                          try simp only [decide_eq_true_eq, decide_eq_false_iff_not, Bool.not_eq_true', Bool.not_eq_false', Bool.not_eq_true, Bool.not_eq_false, Bool.and_eq_true, Bool.or_eq_false_iff, beq_iff_eq, bne_iff_ne, Int.not_lt, Int.not_le, ne_eq] at hc43
                          first | (simp at hc43; done) | omega | (simp at hc43; omega) | (simp_all; done)
                      · exfalso
                        try simp only [decide_eq_true_eq, decide_eq_false_iff_not, Bool.not_eq_true', Bool.not_eq_false', Bool.not_eq_true, Bool.not_eq_false, Bool.and_eq_true, Bool.or_eq_false_iff, beq_iff_eq, bne_iff_ne, Int.not_lt, Int.not_le, ne_eq] at hc42
                        first | (simp at hc42; done) | omega | (simp at hc42; omega) | (simp_all; done)
                · try simp only [decide_eq_true_eq, decide_eq_false_iff_not, Bool.not_eq_true', Bool.not_eq_false', Bool.not_eq_true, Bool.not_eq_false, Bool.and_eq_true, Bool.or_eq_false_iff, beq_iff_eq, bne_iff_ne, Int.not_lt, Int.not_le, ne_eq] at hc27
                  refine Sx.st_skip hT rfl rfl rfl rfl ?_
                  clear hT; intro a hT
                  refine Sx.st_heldskip hT rfl rfl rfl rfl hH ?_
                  clear hT; intro a hT
                  refine Sx.st_keepskip hT rfl rfl rfl rfl hH ?_
                  clear hT; intro a hT
                  refine Sx.st_skip hT rfl rfl rfl rfl ?_
                  clear hT; intro a hT
                  refine Sx.st_take hT rfl rfl rfl rfl (Sx.x_pick_f hT rfl rfl rfl) ?_
                  clear hT; intro a hT
                  refine Sx.st_take hT rfl rfl rfl rfl (Sx.x_pick_f hT rfl rfl rfl) ?_
                  clear hT; intro a hT
                  refine Sx.st_take hT rfl rfl rfl rfl (Sx.x_move hT rfl rfl) ?_
                  clear hT; intro a hT
                  refine Sx.st_take hT rfl rfl rfl rfl (Sx.x_move hT rfl rfl) ?_
                  clear hT; intro a hT
                  refine Sx.st_take hT rfl rfl rfl rfl ((fun w => Sx.x_eq w hT rfl rfl rfl)) ?_
                  clear hT; intro a hT
                  refine Sx.st_take hT rfl rfl rfl rfl (Sx.x_move hT rfl rfl) ?_
                  clear hT; intro a hT
                  -- guard (17, 21)
                  refine Sx.Sl.two hT 110 rfl (fun hc45 hT => ?_) (fun hc45 hT => ?_)
                  · try simp only [decide_eq_true_eq, decide_eq_false_iff_not, Bool.not_eq_true', Bool.not_eq_false', Bool.not_eq_true, Bool.not_eq_false, Bool.and_eq_true, Bool.or_eq_false_iff, beq_iff_eq, bne_iff_ne, Int.not_lt, Int.not_le, ne_eq] at hc45
                    refine Sx.st_take hT rfl rfl rfl rfl (Sx.x_move hT rfl rfl) ?_
                    clear hT; intro a hT
                    refine Sx.st_held hT rfl rfl rfl rfl hH (fun w' h' => Sx.y_loadS hT rfl Tryd.underlying23 Tryd.ti23 rfl ((Hu.heldB 2 rfl h' Sx.off_No).seg (k := 3) rfl) (by rfl)) ?_
                    clear hT; intro a hT
                    refine Sx.st_callkeep hT rfl rfl rfl rfl rfl Tryd.can29 rfl (Last_calls (H.blk 1 rfl)) ?_
                    rintro _ w36 ⟨rfl, E⟩
                    refine ⟨_, rfl, hH.step E, ?_⟩
                    replace hH := hH.step E
                    clear hT; intro a hT
                    replace H := H.pure E; clear E
                    refine Sx.st_take hT rfl rfl rfl rfl (Sx.x_neS hT rfl (by kernel_rfl) (Tryd.eq23 _ _ _ _ _ _) rfl rfl rfl) ?_
                    clear hT; intro a hT
                    refine Sx.st_take hT rfl rfl rfl rfl (Sx.x_pick_t hT rfl rfl rfl) ?_
                    clear hT; intro a hT
                    refine Sx.st_take hT rfl rfl rfl rfl (Sx.x_pick_f hT rfl rfl rfl) ?_
                    clear hT; intro a hT
                    replace hT := hT.keep [116, 18, 17, 82, 16, 15, 14, 48, 13, 35, 12, 11, 23, 10, 9, 6, 0, 1, 2, 3, 4] rfl
                    clear Hu hH
                    refine Sx.ser_calm ?_
                    refine Sx.then_normal (hK24 _ _ ?_)
                    clear hK24
                    -- cond 5
                    refine Sx.wp_if hT rfl (fun hc46 => ?_) (fun hc46 => ?_)
                    · exfalso
                      try simp only [decide_eq_true_eq, decide_eq_false_iff_not, Bool.not_eq_true', Bool.not_eq_false', Bool.not_eq_true, Bool.not_eq_false, Bool.and_eq_true, Bool.or_eq_false_iff, beq_iff_eq, bne_iff_ne, Int.not_lt, Int.not_le, ne_eq] at hc46
                      first | (simp at hc46; done) | omega | (simp at hc46; omega) | (simp_all; done)
                    · try simp only [decide_eq_true_eq, decide_eq_false_iff_not, Bool.not_eq_true', Bool.not_eq_false', Bool.not_eq_true, Bool.not_eq_false, Bool.and_eq_true, Bool.or_eq_false_iff, beq_iff_eq, bne_iff_ne, Int.not_lt, Int.not_le, ne_eq] at hc46
                      refine wp_skip ?_
                      refine Sx.then_normal (hK23 _ _ ?_)
                      clear hK23
                      refine wp_seq_k fun K47 hK47 => ?_
                      -- region 19 (extra.go:33)
                      refine Sx.wp_text [(0, .take), (1, .run), (2, .run), (3, .take)] rfl ?_
                      refine Sx.st_take hT rfl rfl rfl rfl (Sx.x_move hT rfl rfl) ?_
                      clear hT; intro a hT
                      refine Sx.st_run hT rfl rfl rfl rfl (Sx.y_loadS hT rfl Tryd.underlying23 Tryd.ti23 rfl ((H.blk 4 rfl).seg (k := 3) rfl) (by rfl)) ?_
                      clear hT; intro a hT
                      refine Sx.st_call hT rfl rfl rfl rfl rfl Tryd.can27 rfl (Obs_calls (H.pre [1] rfl rfl) _ _ _) ?_
                      rintro _ w37 ⟨rfl, K⟩
                      refine ⟨_, rfl, ?_⟩
                      clear hT; intro a hT
                      replace H := H.back [1] [0, 2, 3, 4, 5] rfl rfl rfl K rfl; clear K
                      refine Sx.st_take hT rfl rfl rfl rfl (Sx.x_assign hT rfl rfl) ?_
                      clear hT; intro a hT
                      replace hT := hT.keep [19, 116, 18, 17, 82, 16, 15, 14, 48, 13, 35, 12, 11, 23, 10, 9, 6, 0, 1, 2, 3, 4] rfl
                      refine Sx.ser_nil ?_
                      refine Sx.then_normal (hK47 _ _ ?_)
                      clear hK47
                      refine wp_seq_k fun K48 hK48 => ?_
                      -- region 20 (extra.go:34)
                      refine Sx.wp_text [(0, .take), (1, .run), (2, .run), (3, .run)] rfl ?_
                      refine Sx.st_take hT rfl rfl rfl rfl (Sx.x_move hT rfl rfl) ?_
                      clear hT; intro a hT
                      refine Sx.st_call hT rfl rfl rfl rfl rfl Tryd.can29 rfl (Last_calls (H.blk 0 rfl)) ?_
                      rintro _ w38 ⟨rfl, E⟩
                      refine ⟨_, rfl, ?_⟩
                      clear hT; intro a hT
                      replace H := H.pure E; clear E
                      refine Sx.st_eff hT rfl rfl rfl rfl (Sx.y_alloc hT rfl Tryd.ti23 rfl _) ?_
                      clear hT; rintro _ w39 ⟨b8, rfl, N⟩ a hT
                      replace H := H.new N; clear N
                      refine Sx.st_act hT rfl rfl rfl (Sx.y_storeS hT rfl Tryd.ti23 rfl rfl rfl rfl rfl (H.blk 0 rfl) rfl) ?_
                      rintro w40 ⟨hb, E, _⟩
                      replace H := H.setB 0 rfl hb E rfl; clear hb E
                      replace hT := hT.keep [20, 19, 116, 18, 17, 82, 16, 15, 14, 48, 13, 35, 12, 11, 23, 10, 9, 6, 0, 1, 2, 3, 4] rfl
                      refine Sx.ser_nil ?_
                      refine Sx.then_normal (hK48 _ _ ?_)
                      clear hK48
                      refine wp_seq_k fun K49 hK49 => ?_
                      -- region 21 (extra.go:35)
                      refine Sx.wp_text [(0, .take), (1, .run), (2, .run), (3, .take)] rfl ?_
                      refine Sx.st_take hT rfl rfl rfl rfl (Sx.x_move hT rfl rfl) ?_
                      clear hT; intro a hT
                      refine Sx.st_run hT rfl rfl rfl rfl (Sx.y_loadS hT rfl Tryd.underlying23 Tryd.ti23 rfl ((H.blk 5 rfl).seg (k := 3) rfl) (by rfl)) ?_
                      clear hT; intro a hT
                      refine Sx.st_call hT rfl rfl rfl rfl rfl Tryd.can27 rfl (Obs_calls (H.pre [1] rfl rfl) _ _ _) ?_
                      rintro _ w41 ⟨rfl, K⟩
                      refine ⟨_, rfl, ?_⟩
                      clear hT; intro a hT
                      replace H := H.back [1] [0, 2, 3, 4, 5, 6] rfl rfl rfl K rfl; clear K
                      refine Sx.st_take hT rfl rfl rfl rfl (Sx.x_assign hT rfl rfl) ?_
                      clear hT; intro a hT
                      replace hT := hT.keep [21, 20, 19, 116, 18, 17, 82, 16, 15, 14, 48, 13, 35, 12, 11, 23, 10, 9, 6, 0, 1, 2, 3, 4] rfl
                      refine Sx.ser_nil ?_
                      refine Sx.then_normal (hK49 _ _ ?_)
                      clear hK49
                      refine wp_seq_k fun K50 hK50 => ?_
                      -- region 22 (extra.go:36)
                      rw [obs_twice] at H
                      refine Sx.wp_draws (fun u => Sx.Ext (Sx.No) u) [(0, .keep), (1, .take), (2, .take), (3, .take), (4, .take), (5, .take), (6, .take), (7, .take), (9, .held), (8, .keep), (10, .take), (11, .take), (12, .take), (13, .take), (14, .take), (15, .held), (16, .keep), (17, .take), (18, .take), (19, .take), (20, .take), (21, .held), (22, .take), (23, .take), (24, .take), (25, .take)] (by kernel_rfl) (by kernel_rfl) (fun u E _ => ?_)
                      replace H := H.pure E; clear E
                      have hH : Sx.Ext (Sx.No) u u := Sx.Ext.refl _ _
                      have Hu := H
                      refine Sx.st_callkeep hT rfl rfl rfl rfl rfl Tryd.can10 rfl (first_calls _) ?_
                      rintro _ w42 ⟨rfl, E⟩
                      refine ⟨_, rfl, hH.step E, ?_⟩
                      replace hH := hH.step E
                      clear hT; intro a hT
                      replace H := H.pure E; clear E
                      refine Sx.st_take hT rfl rfl rfl rfl (Sx.x_move hT rfl rfl) ?_
                      clear hT; intro a hT
                      refine Sx.st_take hT rfl rfl rfl rfl (Sx.x_move hT rfl rfl) ?_
                      clear hT; intro a hT
                      refine Sx.st_take hT rfl rfl rfl rfl (Sx.x_move hT rfl rfl) ?_
                      clear hT; intro a hT
                      refine Sx.st_take hT rfl rfl rfl rfl ((fun w => Sx.x_eq w hT rfl rfl rfl)) ?_
                      clear hT; intro a hT
                      refine Sx.st_take hT rfl rfl rfl rfl (Sx.x_pick_t hT rfl rfl rfl) ?_
                      clear hT; intro a hT
                      refine Sx.st_take hT rfl rfl rfl rfl (Sx.x_move hT rfl rfl) ?_
                      clear hT; intro a hT
                      -- guard (22, 6)
                      refine Sx.Sl.two hT 131 rfl (fun hc51 hT => ?_) (fun hc51 hT => ?_)
                      · try simp only [decide_eq_true_eq, decide_eq_false_iff_not, Bool.not_eq_true', Bool.not_eq_false', Bool.not_eq_true, Bool.not_eq_false, Bool.and_eq_true, Bool.or_eq_false_iff, beq_iff_eq, bne_iff_ne, Int.not_lt, Int.not_le, ne_eq] at hc51
                        refine Sx.st_take hT rfl rfl rfl rfl (Sx.x_move hT rfl rfl) ?_
                        clear hT; intro a hT
                        refine Sx.st_held hT rfl rfl rfl rfl hH (fun w' h' => Sx.y_loadS hT rfl Tryd.underlying23 Tryd.ti23 rfl ((Hu.heldB 1 rfl h' Sx.off_No).seg (k := 3) rfl) (by rfl)) ?_
                        clear hT; intro a hT
                        refine Sx.st_callkeep hT rfl rfl rfl rfl rfl Tryd.can29 rfl (Last_calls (H.blk 0 rfl)) ?_
                        rintro _ w43 ⟨rfl, E⟩
                        refine ⟨_, rfl, hH.step E, ?_⟩
                        replace hH := hH.step E
                        clear hT; intro a hT
                        replace H := H.pure E; clear E
                        refine Sx.st_take hT rfl rfl rfl rfl (Sx.x_eqS hT rfl (by kernel_rfl) (Tryd.eq23 _ _ _ _ _ _) rfl rfl rfl) ?_
                        clear hT; intro a hT
                        refine Sx.st_take hT rfl rfl rfl rfl (Sx.x_pick_t hT rfl rfl rfl) ?_
                        clear hT; intro a hT
                        refine Sx.st_take hT rfl rfl rfl rfl (Sx.x_move hT rfl rfl) ?_
                        clear hT; intro a hT
                        -- guard (22, 12)
                        refine Sx.Sl.two hT 137 rfl (fun hc52 hT => ?_) (fun hc52 hT => ?_)
                        · try simp only [decide_eq_true_eq, decide_eq_false_iff_not, Bool.not_eq_true', Bool.not_eq_false', Bool.not_eq_true, Bool.not_eq_false, Bool.and_eq_true, Bool.or_eq_false_iff, beq_iff_eq, bne_iff_ne, Int.not_lt, Int.not_le, ne_eq] at hc52
                          refine Sx.st_take hT rfl rfl rfl rfl (Sx.x_move hT rfl rfl) ?_
                          clear hT; intro a hT
                          refine Sx.st_take hT rfl rfl rfl rfl ((fun w => Sx.x_eq w hT rfl rfl rfl)) ?_
                          clear hT; intro a hT
                          refine Sx.st_held hT rfl rfl rfl rfl hH (fun w' h' => Sx.y_loadS hT rfl Tryd.underlying23 Tryd.ti23 rfl ((Hu.heldB 5 rfl h' Sx.off_No).seg (k := 3) rfl) (by rfl)) ?_
                          clear hT; intro a hT
                          refine Sx.st_callkeep hT rfl rfl rfl rfl rfl Tryd.can13 rfl (May_calls _ _ _ _) ?_
                          rintro _ w44 ⟨rfl, E⟩
                          refine ⟨_, rfl, hH.step E, ?_⟩
                          replace hH := hH.step E
                          clear hT; intro a hT
                          replace H := H.pure E; clear E
                          refine Sx.st_take hT rfl rfl rfl rfl (Sx.x_eqb hT rfl Tryd.underlying4 rfl rfl) ?_
                          clear hT; intro a hT
                          refine Sx.st_take hT rfl rfl rfl rfl (Sx.x_pick_t hT rfl rfl rfl) ?_
                          clear hT; intro a hT
                          refine Sx.st_take hT rfl rfl rfl rfl (Sx.x_move hT rfl rfl) ?_
                          clear hT; intro a hT
                          -- guard (22, 19)
                          refine Sx.Sl.two hT 144 rfl (fun hc53 hT => ?_) (fun hc53 hT => ?_)
                          · try simp only [decide_eq_true_eq, decide_eq_false_iff_not, Bool.not_eq_true', Bool.not_eq_false', Bool.not_eq_true, Bool.not_eq_false, Bool.and_eq_true, Bool.or_eq_false_iff, beq_iff_eq, bne_iff_ne, Int.not_lt, Int.not_le, ne_eq] at hc53
                            refine Sx.st_take hT rfl rfl rfl rfl (Sx.x_fieldAddr hT rfl Tryd.fa23_2 rfl) ?_
                            clear hT; intro a hT
                            refine Sx.st_held hT rfl rfl rfl rfl hH (fun w' h' => Sx.x_load1 hT rfl Tryd.fl3 rfl ((Hu.heldB 1 rfl h' Sx.off_No).nth rfl)) ?_
                            clear hT; intro a hT
                            refine Sx.st_take hT rfl rfl rfl rfl (Sx.x_move hT rfl rfl) ?_
                            clear hT; intro a hT
                            refine Sx.st_take hT rfl rfl rfl rfl ((fun w => Sx.x_eq w hT rfl rfl rfl)) ?_
                            clear hT; intro a hT
                            refine Sx.st_take hT rfl rfl rfl rfl (Sx.x_pick_t hT rfl rfl rfl) ?_
                            clear hT; intro a hT
                            refine Sx.st_take hT rfl rfl rfl rfl (Sx.x_assign hT rfl rfl) ?_
                            clear hT; intro a hT
                            replace hT := hT.keep [10, 21, 20, 19, 116, 18, 17, 82, 16, 15, 14, 48, 13, 35, 12, 11, 23, 9, 6, 0, 1, 2, 3, 4] rfl
                            clear Hu hH
                            refine Sx.ser_calm ?_
                            refine Sx.then_normal (hK50 _ _ ?_)
                            clear hK50
                            refine wp_ret ?_
                            refine Sx.done1 (fn := Tryd.f6) hT rfl (.tmp (hT.get 10 _ rfl)) ?_
                            exact ⟨ret_b (by simp [obs_node, peek_node _ _ hp, hnd]), H.ext⟩
                          · exfalso
                            try simp only [decide_eq_true_eq, decide_eq_false_iff_not, Bool.not_eq_true', Bool.not_eq_false', Bool.not_eq_true, Bool.not_eq_false, Bool.and_eq_true, Bool.or_eq_false_iff, beq_iff_eq, bne_iff_ne, Int.not_lt, Int.not_le, ne_eq] at hc53
                            revert hc53; cases may ⟨p, q, r⟩ <;> simp
                        · exfalso
                          try simp only [decide_eq_true_eq, decide_eq_false_iff_not, Bool.not_eq_true', Bool.not_eq_false', Bool.not_eq_true, Bool.not_eq_false, Bool.and_eq_true, Bool.or_eq_false_iff, beq_iff_eq, bne_iff_ne, Int.not_lt, Int.not_le, ne_eq] at hc52
                          first | (simp at hc52; done) | omega | (simp at hc52; omega) | (simp_all; done)
                      · exfalso
                        try simp only [decide_eq_true_eq, decide_eq_false_iff_not, Bool.not_eq_true', Bool.not_eq_false', Bool.not_eq_true, Bool.not_eq_false, Bool.and_eq_true, Bool.or_eq_false_iff, beq_iff_eq, bne_iff_ne, Int.not_lt, Int.not_le, ne_eq] at hc51
                        first | (simp at hc51; done) | omega | (simp at hc51; omega) | (simp_all; done)
                  · try simp only [decide_eq_true_eq, decide_eq_false_iff_not, Bool.not_eq_true', Bool.not_eq_false', Bool.not_eq_true, Bool.not_eq_false, Bool.and_eq_true, Bool.or_eq_false_iff, beq_iff_eq, bne_iff_ne, Int.not_lt, Int.not_le, ne_eq] at hc45
                    refine Sx.st_skip hT rfl rfl rfl rfl ?_
                    clear hT; intro a hT
                    refine Sx.st_heldskip hT rfl rfl rfl rfl hH ?_
                    clear hT; intro a hT
                    refine Sx.st_keepskip hT rfl rfl rfl rfl hH ?_
                    clear hT; intro a hT
                    refine Sx.st_skip hT rfl rfl rfl rfl ?_
                    clear hT; intro a hT
                    refine Sx.st_take hT rfl rfl rfl rfl (Sx.x_pick_f hT rfl rfl rfl) ?_
                    clear hT; intro a hT
                    refine Sx.st_take hT rfl rfl rfl rfl (Sx.x_pick_f hT rfl rfl rfl) ?_
                    clear hT; intro a hT
                    replace hT := hT.keep [116, 18, 17, 82, 16, 15, 14, 48, 13, 35, 12, 11, 23, 10, 9, 6, 0, 1, 2, 3, 4] rfl
                    clear Hu hH
                    refine Sx.ser_calm ?_
                    refine Sx.then_normal (hK24 _ _ ?_)
                    clear hK24
                    refine Sx.wp_if hT rfl (fun h => by cases h) (fun _ => ?_)
                    refine wp_skip ?_
                    refine Sx.then_normal (hK23 _ _ ?_)
                    clear hK23
                    refine wp_seq_k fun K54 hK54 => ?_
                    -- region 19 (extra.go:33)
                    refine Sx.wp_text [(0, .take), (1, .run), (2, .run), (3, .take)] rfl ?_
                    refine Sx.st_take hT rfl rfl rfl rfl (Sx.x_move hT rfl rfl) ?_
                    clear hT; intro a hT
                    refine Sx.st_run hT rfl rfl rfl rfl (Sx.y_loadS hT rfl Tryd.underlying23 Tryd.ti23 rfl ((H.blk 4 rfl).seg (k := 3) rfl) (by rfl)) ?_
                    clear hT; intro a hT
                    refine Sx.st_call hT rfl rfl rfl rfl rfl Tryd.can27 rfl (Obs_calls (H.pre [1] rfl rfl) _ _ _) ?_
                    rintro _ w45 ⟨rfl, K⟩
                    refine ⟨_, rfl, ?_⟩
                    clear hT; intro a hT
                    replace H := H.back [1] [0, 2, 3, 4, 5] rfl rfl rfl K rfl; clear K
                    refine Sx.st_take hT rfl rfl rfl rfl (Sx.x_assign hT rfl rfl) ?_
                    clear hT; intro a hT
                    replace hT := hT.keep [19, 116, 18, 17, 82, 16, 15, 14, 48, 13, 35, 12, 11, 23, 10, 9, 6, 0, 1, 2, 3, 4] rfl
                    refine Sx.ser_nil ?_
                    refine Sx.then_normal (hK54 _ _ ?_)
                    clear hK54
                    refine wp_seq_k fun K55 hK55 => ?_
                    -- region 20 (extra.go:34)
                    refine Sx.wp_text [(0, .take), (1, .run), (2, .run), (3, .run)] rfl ?_
                    refine Sx.st_take hT rfl rfl rfl rfl (Sx.x_move hT rfl rfl) ?_
                    clear hT; intro a hT
                    refine Sx.st_call hT rfl rfl rfl rfl rfl Tryd.can29 rfl (Last_calls (H.blk 0 rfl)) ?_
                    rintro _ w46 ⟨rfl, E⟩
                    refine ⟨_, rfl, ?_⟩
                    clear hT; intro a hT
                    replace H := H.pure E; clear E
                    refine Sx.st_eff hT rfl rfl rfl rfl (Sx.y_alloc hT rfl Tryd.ti23 rfl _) ?_
                    clear hT; rintro _ w47 ⟨b9, rfl, N⟩ a hT
                    replace H := H.new N; clear N
                    refine Sx.st_act hT rfl rfl rfl (Sx.y_storeS hT rfl Tryd.ti23 rfl rfl rfl rfl rfl (H.blk 0 rfl) rfl) ?_
                    rintro w48 ⟨hb, E, _⟩
                    replace H := H.setB 0 rfl hb E rfl; clear hb E
                    replace hT := hT.keep [20, 19, 116, 18, 17, 82, 16, 15, 14, 48, 13, 35, 12, 11, 23, 10, 9, 6, 0, 1, 2, 3, 4] rfl
                    refine Sx.ser_nil ?_
                    refine Sx.then_normal (hK55 _ _ ?_)
                    clear hK55
                    refine wp_seq_k fun K56 hK56 => ?_
                    -- region 21 (extra.go:35)
                    refine Sx.wp_text [(0, .take), (1, .run), (2, .run), (3, .take)] rfl ?_
                    refine Sx.st_take hT rfl rfl rfl rfl (Sx.x_move hT rfl rfl) ?_
                    clear hT; intro a hT
                    refine Sx.st_run hT rfl rfl rfl rfl (Sx.y_loadS hT rfl Tryd.underlying23 Tryd.ti23 rfl ((H.blk 5 rfl).seg (k := 3) rfl) (by rfl)) ?_
                    clear hT; intro a hT
                    refine Sx.st_call hT rfl rfl rfl rfl rfl Tryd.can27 rfl (Obs_calls (H.pre [1] rfl rfl) _ _ _) ?_
                    rintro _ w49 ⟨rfl, K⟩
                    refine ⟨_, rfl, ?_⟩
                    clear hT; intro a hT
                    replace H := H.back [1] [0, 2, 3, 4, 5, 6] rfl rfl rfl K rfl; clear K
                    refine Sx.st_take hT rfl rfl rfl rfl (Sx.x_assign hT rfl rfl) ?_
                    clear hT; intro a hT
                    replace hT := hT.keep [21, 20, 19, 116, 18, 17, 82, 16, 15, 14, 48, 13, 35, 12, 11, 23, 10, 9, 6, 0, 1, 2, 3, 4] rfl
                    refine Sx.ser_nil ?_
                    refine Sx.then_normal (hK56 _ _ ?_)
                    clear hK56
                    refine wp_seq_k fun K57 hK57 => ?_
                    -- region 22 (extra.go:36)
                    rw [obs_twice] at H
                    refine Sx.wp_draws (fun u => Sx.Ext (Sx.No) u) [(0, .keep), (1, .take), (2, .take), (3, .take), (4, .take), (5, .take), (6, .take), (7, .take), (9, .held), (8, .keep), (10, .take), (11, .take), (12, .take), (13, .take), (14, .take), (15, .held), (16, .keep), (17, .take), (18, .take), (19, .take), (20, .take), (21, .held), (22, .take), (23, .take), (24, .take), (25, .take)] (by kernel_rfl) (by kernel_rfl) (fun u E _ => ?_)
                    replace H := H.pure E; clear E
                    have hH : Sx.Ext (Sx.No) u u := Sx.Ext.refl _ _
                    have Hu := H
                    refine Sx.st_callkeep hT rfl rfl rfl rfl rfl Tryd.can10 rfl (first_calls _) ?_
                    rintro _ w50 ⟨rfl, E⟩
                    refine ⟨_, rfl, hH.step E, ?_⟩
                    replace hH := hH.step E
                    clear hT; intro a hT
                    replace H := H.pure E; clear E
                    refine Sx.st_take hT rfl rfl rfl rfl (Sx.x_move hT rfl rfl) ?_
                    clear hT; intro a hT
                    refine Sx.st_take hT rfl rfl rfl rfl (Sx.x_move hT rfl rfl) ?_
                    clear hT; intro a hT
                    refine Sx.st_take hT rfl rfl rfl rfl (Sx.x_move hT rfl rfl) ?_
                    clear hT; intro a hT
                    refine Sx.st_take hT rfl rfl rfl rfl ((fun w => Sx.x_eq w hT rfl rfl rfl)) ?_
                    clear hT; intro a hT
                    refine Sx.st_take hT rfl rfl rfl rfl (Sx.x_pick_t hT rfl rfl rfl) ?_
                    clear hT; intro a hT
                    refine Sx.st_take hT rfl rfl rfl rfl (Sx.x_move hT rfl rfl) ?_
                    clear hT; intro a hT
                    -- guard (22, 6)
                    refine Sx.Sl.two hT 131 rfl (fun hc58 hT => ?_) (fun hc58 hT => ?_)
                    · try simp only [decide_eq_true_eq, decide_eq_false_iff_not, Bool.not_eq_true', Bool.not_eq_false', Bool.not_eq_true, Bool.not_eq_false, Bool.and_eq_true, Bool.or_eq_false_iff, beq_iff_eq, bne_iff_ne, Int.not_lt, Int.not_le, ne_eq] at hc58
                      refine Sx.st_take hT rfl rfl rfl rfl (Sx.x_move hT rfl rfl) ?_
                      clear hT; intro a hT
                      refine Sx.st_held hT rfl rfl rfl rfl hH (fun w' h' => Sx.y_loadS hT rfl Tryd.underlying23 Tryd.ti23 rfl ((Hu.heldB 1 rfl h' Sx.off_No).seg (k := 3) rfl) (by rfl)) ?_
                      clear hT; intro a hT
                      refine Sx.st_callkeep hT rfl rfl rfl rfl rfl Tryd.can29 rfl (Last_calls (H.blk 0 rfl)) ?_
                      rintro _ w51 ⟨rfl, E⟩
                      refine ⟨_, rfl, hH.step E, ?_⟩
                      replace hH := hH.step E
                      clear hT; intro a hT
                      replace H := H.pure E; clear E
                      refine Sx.st_take hT rfl rfl rfl rfl (Sx.x_eqS hT rfl (by kernel_rfl) (Tryd.eq23 _ _ _ _ _ _) rfl rfl rfl) ?_
                      clear hT; intro a hT
                      refine Sx.st_take hT rfl rfl rfl rfl (Sx.x_pick_t hT rfl rfl rfl) ?_
                      clear hT; intro a hT
                      refine Sx.st_take hT rfl rfl rfl rfl (Sx.x_move hT rfl rfl) ?_
                      clear hT; intro a hT
                      -- guard (22, 12)
                      refine Sx.Sl.two hT 137 rfl (fun hc59 hT => ?_) (fun hc59 hT => ?_)
                      · try simp only [decide_eq_true_eq, decide_eq_false_iff_not, Bool.not_eq_true', Bool.not_eq_false', Bool.not_eq_true, Bool.not_eq_false, Bool.and_eq_true, Bool.or_eq_false_iff, beq_iff_eq, bne_iff_ne, Int.not_lt, Int.not_le, ne_eq] at hc59
                        refine Sx.st_take hT rfl rfl rfl rfl (Sx.x_move hT rfl rfl) ?_
                        clear hT; intro a hT
                        refine Sx.st_take hT rfl rfl rfl rfl ((fun w => Sx.x_eq w hT rfl rfl rfl)) ?_
                        clear hT; intro a hT
                        refine Sx.st_held hT rfl rfl rfl rfl hH (fun w' h' => Sx.y_loadS hT rfl Tryd.underlying23 Tryd.ti23 rfl ((Hu.heldB 5 rfl h' Sx.off_No).seg (k := 3) rfl) (by rfl)) ?_
                        clear hT; intro a hT
                        refine Sx.st_callkeep hT rfl rfl rfl rfl rfl Tryd.can13 rfl (May_calls _ _ _ _) ?_
                        rintro _ w52 ⟨rfl, E⟩
                        refine ⟨_, rfl, hH.step E, ?_⟩
                        replace hH := hH.step E
                        clear hT; intro a hT
                        replace H := H.pure E; clear E
                        refine Sx.st_take hT rfl rfl rfl rfl (Sx.x_eqb hT rfl Tryd.underlying4 rfl rfl) ?_
                        clear hT; intro a hT
                        refine Sx.st_take hT rfl rfl rfl rfl (Sx.x_pick_t hT rfl rfl rfl) ?_
                        clear hT; intro a hT
                        refine Sx.st_take hT rfl rfl rfl rfl (Sx.x_move hT rfl rfl) ?_
                        clear hT; intro a hT
                        -- guard (22, 19)
                        refine Sx.Sl.two hT 144 rfl (fun hc60 hT => ?_) (fun hc60 hT => ?_)
                        · try simp only [decide_eq_true_eq, decide_eq_false_iff_not, Bool.not_eq_true', Bool.not_eq_false', Bool.not_eq_true, Bool.not_eq_false, Bool.and_eq_true, Bool.or_eq_false_iff, beq_iff_eq, bne_iff_ne, Int.not_lt, Int.not_le, ne_eq] at hc60
                          refine Sx.st_take hT rfl rfl rfl rfl (Sx.x_fieldAddr hT rfl Tryd.fa23_2 rfl) ?_
                          clear hT; intro a hT
                          refine Sx.st_held hT rfl rfl rfl rfl hH (fun w' h' => Sx.x_load1 hT rfl Tryd.fl3 rfl ((Hu.heldB 1 rfl h' Sx.off_No).nth rfl)) ?_
                          clear hT; intro a hT
                          refine Sx.st_take hT rfl rfl rfl rfl (Sx.x_move hT rfl rfl) ?_
                          clear hT; intro a hT
                          refine Sx.st_take hT rfl rfl rfl rfl ((fun w => Sx.x_eq w hT rfl rfl rfl)) ?_
                          clear hT; intro a hT
                          refine Sx.st_take hT rfl rfl rfl rfl (Sx.x_pick_t hT rfl rfl rfl) ?_
                          clear hT; intro a hT
                          refine Sx.st_take hT rfl rfl rfl rfl (Sx.x_assign hT rfl rfl) ?_
                          clear hT; intro a hT
                          replace hT := hT.keep [10, 21, 20, 19, 116, 18, 17, 82, 16, 15, 14, 48, 13, 35, 12, 11, 23, 9, 6, 0, 1, 2, 3, 4] rfl
                          clear Hu hH
                          refine Sx.ser_calm ?_
                          refine Sx.then_normal (hK57 _ _ ?_)
                          clear hK57
                          refine wp_ret ?_
                          refine Sx.done1 (fn := Tryd.f6) hT rfl (.tmp (hT.get 10 _ rfl)) ?_
                          exact ⟨ret_b (by simp [obs_node, peek_node _ _ hp, hnd]), H.ext⟩
                        · exfalso
                          try simp only [decide_eq_true_eq, decide_eq_false_iff_not, Bool.not_eq_true', Bool.not_eq_false', Bool.not_eq_true, Bool.not_eq_false, Bool.and_eq_true, Bool.or_eq_false_iff, beq_iff_eq, bne_iff_ne, Int.not_lt, Int.not_le, ne_eq] at hc60
                          revert hc60; cases may ⟨p, q, r⟩ <;> simp
                      · exfalso
                        try simp only [decide_eq_true_eq, decide_eq_false_iff_not, Bool.not_eq_true', Bool.not_eq_false', Bool.not_eq_true, Bool.not_eq_false, Bool.and_eq_true, Bool.or_eq_false_iff, beq_iff_eq, bne_iff_ne, Int.not_lt, Int.not_le, ne_eq] at hc59
                        first | (simp at hc59; done) | omega | (simp at hc59; omega) | (simp_all; done)
                    · exfalso
                      try simp only [decide_eq_true_eq, decide_eq_false_iff_not, Bool.not_eq_true', Bool.not_eq_false', Bool.not_eq_true, Bool.not_eq_false, Bool.and_eq_true, Bool.or_eq_false_iff, beq_iff_eq, bne_iff_ne, Int.not_lt, Int.not_le, ne_eq] at hc58
                      first | (simp at hc58; done) | omega | (simp at hc58; omega) | (simp_all; done)
          · skip
            rw [now_not s phys hp] at H
            -- region 17 (extra.go:30)
            refine Sx.wp_draws (fun u => Sx.Ext (Sx.No) u) [(0, .held), (1, .held), (2, .take), (3, .take), (4, .take), (5, .take), (6, .take), (7, .take), (8, .take), (9, .take), (10, .take), (11, .take), (12, .take), (14, .held), (13, .keep), (15, .take), (16, .take), (17, .take), (18, .take), (19, .take), (20, .take), (21, .take), (22, .take), (24, .held), (23, .keep), (25, .take), (26, .take), (27, .take)] (by kernel_rfl) (by kernel_rfl) (fun u E _ => ?_)
            replace H := H.pure E; clear E
            have hH : Sx.Ext (Sx.No) u u := Sx.Ext.refl _ _
            have Hu := H
            refine Sx.st_held hT rfl rfl rfl rfl hH (fun w' h' => Sx.y_loadS hT rfl Tryd.underlying23 Tryd.ti23 rfl ((Hu.heldB 2 rfl h' Sx.off_No).seg (k := 3) rfl) (by rfl)) ?_
            clear hT; intro a hT
            refine Sx.st_held hT rfl rfl rfl rfl hH (fun w' h' => Sx.y_loadS hT rfl Tryd.underlying23 Tryd.ti23 rfl ((Hu.heldB 0 rfl h' Sx.off_No).seg (k := 3) rfl) (by rfl)) ?_
            clear hT; intro a hT
            refine Sx.st_take hT rfl rfl rfl rfl (Sx.x_neS hT rfl (by kernel_rfl) (Tryd.eq23 _ _ _ _ _ _) rfl rfl rfl) ?_
            clear hT; intro a hT
            refine Sx.st_take hT rfl rfl rfl rfl (Sx.x_move hT rfl rfl) ?_
            clear hT; intro a hT
            -- guard (17, 3)
            refine Sx.Sl.two hT 92 rfl (fun hc61 hT => ?_) (fun hc61 hT => ?_)
            · exfalso
              try simp only [decide_eq_true_eq, decide_eq_false_iff_not, Bool.not_eq_true', Bool.not_eq_false', Bool.not_eq_true, Bool.not_eq_false, Bool.and_eq_true, Bool.or_eq_false_iff, beq_iff_eq, bne_iff_ne, Int.not_lt, Int.not_le, ne_eq] at hc61
              first | (simp at hc61; done) | omega | (simp at hc61; omega) | (simp_all; done)
            · try simp only [decide_eq_true_eq, decide_eq_false_iff_not, Bool.not_eq_true', Bool.not_eq_false', Bool.not_eq_true, Bool.not_eq_false, Bool.and_eq_true, Bool.or_eq_false_iff, beq_iff_eq, bne_iff_ne, Int.not_lt, Int.not_le, ne_eq] at hc61
              refine Sx.st_take hT rfl rfl rfl rfl (Sx.x_move hT rfl rfl) ?_
              clear hT; intro a hT
              refine Sx.st_take hT rfl rfl rfl rfl (Sx.x_move hT rfl rfl) ?_
              clear hT; intro a hT
              refine Sx.st_take hT rfl rfl rfl rfl ((fun w => Sx.x_ne w hT rfl rfl rfl)) ?_
              clear hT; intro a hT
              refine Sx.st_take hT rfl rfl rfl rfl (Sx.x_pick_f hT rfl rfl rfl) ?_
              clear hT; intro a hT
              refine Sx.st_take hT rfl rfl rfl rfl (Sx.x_move hT rfl rfl) ?_
              clear hT; intro a hT
              -- guard (17, 8)
              refine Sx.Sl.two hT 97 rfl (fun hc62 hT => ?_) (fun hc62 hT => ?_)
              · exfalso
                try simp only [decide_eq_true_eq, decide_eq_false_iff_not, Bool.not_eq_true', Bool.not_eq_false', Bool.not_eq_true, Bool.not_eq_false, Bool.and_eq_true, Bool.or_eq_false_iff, beq_iff_eq, bne_iff_ne, Int.not_lt, Int.not_le, ne_eq] at hc62
                first | (simp at hc62; done) | omega | (simp at hc62; omega) | (simp_all; done)
              · try simp only [decide_eq_true_eq, decide_eq_false_iff_not, Bool.not_eq_true', Bool.not_eq_false', Bool.not_eq_true, Bool.not_eq_false, Bool.and_eq_true, Bool.or_eq_false_iff, beq_iff_eq, bne_iff_ne, Int.not_lt, Int.not_le, ne_eq] at hc62
                refine Sx.st_take hT rfl rfl rfl rfl (Sx.x_move hT rfl rfl) ?_
                clear hT; intro a hT
                refine Sx.st_take hT rfl rfl rfl rfl ((fun w => Sx.x_ne w hT rfl rfl rfl)) ?_
                clear hT; intro a hT
                refine Sx.st_take hT rfl rfl rfl rfl (Sx.x_move hT rfl rfl) ?_
                clear hT; intro a hT
                -- guard (17, 11)
                refine Sx.Sl.two hT 100 rfl (fun hc63 hT => ?_) (fun hc63 hT => ?_)
                · try simp only [decide_eq_true_eq, decide_eq_false_iff_not, Bool.not_eq_true', Bool.not_eq_false', Bool.not_eq_true, Bool.not_eq_false, Bool.and_eq_true, Bool.or_eq_false_iff, beq_iff_eq, bne_iff_ne, Int.not_lt, Int.not_le, ne_eq] at hc63
                  refine Sx.st_take hT rfl rfl rfl rfl (Sx.x_move hT rfl rfl) ?_
                  clear hT; intro a hT
                  refine Sx.st_held hT rfl rfl rfl rfl hH (fun w' h' => Sx.y_loadS hT rfl Tryd.underlying23 Tryd.ti23 rfl ((Hu.heldB 3 rfl h' Sx.off_No).seg (k := 3) rfl) (by rfl)) ?_
                  clear hT; intro a hT
                  refine Sx.st_callkeep hT rfl rfl rfl rfl rfl Tryd.can29 rfl (Last_calls (H.blk 1 rfl)) ?_
                  rintro _ w53 ⟨rfl, E⟩
                  refine ⟨_, rfl, hH.step E, ?_⟩
                  replace hH := hH.step E
                  clear hT; intro a hT
                  replace H := H.pure E; clear E
                  refine Sx.st_take hT rfl rfl rfl rfl (Sx.x_neS hT rfl (by kernel_rfl) (Tryd.eq23 _ _ _ _ _ _) rfl rfl rfl) ?_
                  clear hT; intro a hT
                  refine Sx.st_take hT rfl rfl rfl rfl (Sx.x_pick_t hT rfl rfl rfl) ?_
                  clear hT; intro a hT
                  refine Sx.st_take hT rfl rfl rfl rfl (Sx.x_pick_f hT rfl rfl rfl) ?_
                  clear hT; intro a hT
                  refine Sx.st_take hT rfl rfl rfl rfl (Sx.x_move hT rfl rfl) ?_
                  clear hT; intro a hT
                  -- guard (17, 18)
                  refine Sx.Sl.two hT 107 rfl (fun hc64 hT => ?_) (fun hc64 hT => ?_)
                  · exfalso
                    try simp only [decide_eq_true_eq, decide_eq_false_iff_not, Bool.not_eq_true', Bool.not_eq_false', Bool.not_eq_true, Bool.not_eq_false, Bool.and_eq_true, Bool.or_eq_false_iff, beq_iff_eq, bne_iff_ne, Int.not_lt, Int.not_le, ne_eq] at hc64
                    first | (simp at hc64; done) | omega | (simp at hc64; omega) | (simp_all; done)
                  · try simp only [decide_eq_true_eq, decide_eq_false_iff_not, Bool.not_eq_true', Bool.not_eq_false', Bool.not_eq_true, Bool.not_eq_false, Bool.and_eq_true, Bool.or_eq_false_iff, beq_iff_eq, bne_iff_ne, Int.not_lt, Int.not_le, ne_eq] at hc64
                    refine Sx.st_take hT rfl rfl rfl rfl (Sx.x_move hT rfl rfl) ?_
                    clear hT; intro a hT
                    refine Sx.st_take hT rfl rfl rfl rfl ((fun w => Sx.x_eq w hT rfl rfl rfl)) ?_
                    clear hT; intro a hT
                    refine Sx.st_take hT rfl rfl rfl rfl (Sx.x_move hT rfl rfl) ?_
                    clear hT; intro a hT
                    -- guard (17, 21)
                    refine Sx.Sl.two hT 110 rfl (fun hc65 hT => ?_) (fun hc65 hT => ?_)
                    · try simp only [decide_eq_true_eq, decide_eq_false_iff_not, Bool.not_eq_true', Bool.not_eq_false', Bool.not_eq_true, Bool.not_eq_false, Bool.and_eq_true, Bool.or_eq_false_iff, beq_iff_eq, bne_iff_ne, Int.not_lt, Int.not_le, ne_eq] at hc65
                      refine Sx.st_take hT rfl rfl rfl rfl (Sx.x_move hT rfl rfl) ?_
                      clear hT; intro a hT
                      refine Sx.st_held hT rfl rfl rfl rfl hH (fun w' h' => Sx.y_loadS hT rfl Tryd.underlying23 Tryd.ti23 rfl ((Hu.heldB 2 rfl h' Sx.off_No).seg (k := 3) rfl) (by rfl)) ?_
                      clear hT; intro a hT
                      refine Sx.st_callkeep hT rfl rfl rfl rfl rfl Tryd.can29 rfl (Last_calls (H.blk 1 rfl)) ?_
                      rintro _ w54 ⟨rfl, E⟩
                      refine ⟨_, rfl, hH.step E, ?_⟩
                      replace hH := hH.step E
                      clear hT; intro a hT
                      replace H := H.pure E; clear E
                      refine Sx.st_take hT rfl rfl rfl rfl (Sx.x_neS hT rfl (by kernel_rfl) (Tryd.eq23 _ _ _ _ _ _) rfl rfl rfl) ?_
                      clear hT; intro a hT
                      refine Sx.st_take hT rfl rfl rfl rfl (Sx.x_pick_t hT rfl rfl rfl) ?_
                      clear hT; intro a hT
                      refine Sx.st_take hT rfl rfl rfl rfl (Sx.x_pick_f hT rfl rfl rfl) ?_
                      clear hT; intro a hT
                      replace hT := hT.keep [116, 18, 17, 82, 16, 15, 14, 48, 13, 35, 12, 11, 23, 10, 9, 6, 0, 1, 2, 3, 4] rfl
                      clear Hu hH
                      refine Sx.ser_calm ?_
                      refine Sx.then_normal (hK24 _ _ ?_)
                      clear hK24
                      -- cond 5
                      refine Sx.wp_if hT rfl (fun hc66 => ?_) (fun hc66 => ?_)
                      · exfalso
                        try simp only [decide_eq_true_eq, decide_eq_false_iff_not, Bool.not_eq_true', Bool.not_eq_false', Bool.not_eq_true, Bool.not_eq_false, Bool.and_eq_true, Bool.or_eq_false_iff, beq_iff_eq, bne_iff_ne, Int.not_lt, Int.not_le, ne_eq] at hc66
                        first | (simp at hc66; done) | omega | (simp at hc66; omega) | (simp_all; done)
                      · try simp only [decide_eq_true_eq, decide_eq_false_iff_not, Bool.not_eq_true', Bool.not_eq_false', Bool.not_eq_true, Bool.not_eq_false, Bool.and_eq_true, Bool.or_eq_false_iff, beq_iff_eq, bne_iff_ne, Int.not_lt, Int.not_le, ne_eq] at hc66
                        refine wp_skip ?_
                        refine Sx.then_normal (hK23 _ _ ?_)
                        clear hK23
                        refine wp_seq_k fun K67 hK67 => ?_
                        -- region 19 (extra.go:33)
                        refine Sx.wp_text [(0, .take), (1, .run), (2, .run), (3, .take)] rfl ?_
                        refine Sx.st_take hT rfl rfl rfl rfl (Sx.x_move hT rfl rfl) ?_
                        clear hT; intro a hT
                        refine Sx.st_run hT rfl rfl rfl rfl (Sx.y_loadS hT rfl Tryd.underlying23 Tryd.ti23 rfl ((H.blk 4 rfl).seg (k := 3) rfl) (by rfl)) ?_
                        clear hT; intro a hT
                        refine Sx.st_call hT rfl rfl rfl rfl rfl Tryd.can27 rfl (Obs_calls (H.pre [1] rfl rfl) _ _ _) ?_
                        rintro _ w55 ⟨rfl, K⟩
                        refine ⟨_, rfl, ?_⟩
                        clear hT; intro a hT
                        replace H := H.back [1] [0, 2, 3, 4, 5] rfl rfl rfl K rfl; clear K
                        refine Sx.st_take hT rfl rfl rfl rfl (Sx.x_assign hT rfl rfl) ?_
                        clear hT; intro a hT
                        replace hT := hT.keep [19, 116, 18, 17, 82, 16, 15, 14, 48, 13, 35, 12, 11, 23, 10, 9, 6, 0, 1, 2, 3, 4] rfl
                        refine Sx.ser_nil ?_
                        refine Sx.then_normal (hK67 _ _ ?_)
                        clear hK67
                        refine wp_seq_k fun K68 hK68 => ?_
                        -- region 20 (extra.go:34)
                        refine Sx.wp_text [(0, .take), (1, .run), (2, .run), (3, .run)] rfl ?_
                        refine Sx.st_take hT rfl rfl rfl rfl (Sx.x_move hT rfl rfl) ?_
                        clear hT; intro a hT
                        refine Sx.st_call hT rfl rfl rfl rfl rfl Tryd.can29 rfl (Last_calls (H.blk 0 rfl)) ?_
                        rintro _ w56 ⟨rfl, E⟩
                        refine ⟨_, rfl, ?_⟩
                        clear hT; intro a hT
                        replace H := H.pure E; clear E
                        refine Sx.st_eff hT rfl rfl rfl rfl (Sx.y_alloc hT rfl Tryd.ti23 rfl _) ?_
                        clear hT; rintro _ w57 ⟨b10, rfl, N⟩ a hT
                        replace H := H.new N; clear N
                        refine Sx.st_act hT rfl rfl rfl (Sx.y_storeS hT rfl Tryd.ti23 rfl rfl rfl rfl rfl (H.blk 0 rfl) rfl) ?_
                        rintro w58 ⟨hb, E, _⟩
                        replace H := H.setB 0 rfl hb E rfl; clear hb E
                        replace hT := hT.keep [20, 19, 116, 18, 17, 82, 16, 15, 14, 48, 13, 35, 12, 11, 23, 10, 9, 6, 0, 1, 2, 3, 4] rfl
                        refine Sx.ser_nil ?_
                        refine Sx.then_normal (hK68 _ _ ?_)
                        clear hK68
                        refine wp_seq_k fun K69 hK69 => ?_
                        -- region 21 (extra.go:35)
                        refine Sx.wp_text [(0, .take), (1, .run), (2, .run), (3, .take)] rfl ?_
                        refine Sx.st_take hT rfl rfl rfl rfl (Sx.x_move hT rfl rfl) ?_
                        clear hT; intro a hT
                        refine Sx.st_run hT rfl rfl rfl rfl (Sx.y_loadS hT rfl Tryd.underlying23 Tryd.ti23 rfl ((H.blk 5 rfl).seg (k := 3) rfl) (by rfl)) ?_
                        clear hT; intro a hT
                        refine Sx.st_call hT rfl rfl rfl rfl rfl Tryd.can27 rfl (Obs_calls (H.pre [1] rfl rfl) _ _ _) ?_
                        rintro _ w59 ⟨rfl, K⟩
                        refine ⟨_, rfl, ?_⟩
                        clear hT; intro a hT
                        replace H := H.back [1] [0, 2, 3, 4, 5, 6] rfl rfl rfl K rfl; clear K
                        refine Sx.st_take hT rfl rfl rfl rfl (Sx.x_assign hT rfl rfl) ?_
                        clear hT; intro a hT
                        replace hT := hT.keep [21, 20, 19, 116, 18, 17, 82, 16, 15, 14, 48, 13, 35, 12, 11, 23, 10, 9, 6, 0, 1, 2, 3, 4] rfl
                        refine Sx.ser_nil ?_
                        refine Sx.then_normal (hK69 _ _ ?_)
                        clear hK69
                        refine wp_seq_k fun K70 hK70 => ?_
                        -- region 22 (extra.go:36)
                        rw [obs_twice] at H
                        refine Sx.wp_draws (fun u => Sx.Ext (Sx.No) u) [(0, .keep), (1, .take), (2, .take), (3, .take), (4, .take), (5, .take), (6, .take), (7, .take), (9, .held), (8, .keep), (10, .take), (11, .take), (12, .take), (13, .take), (14, .take), (15, .held), (16, .keep), (17, .take), (18, .take), (19, .take), (20, .take), (21, .held), (22, .take), (23, .take), (24, .take), (25, .take)] (by kernel_rfl) (by kernel_rfl) (fun u E _ => ?_)
                        replace H := H.pure E; clear E
                        have hH : Sx.Ext (Sx.No) u u := Sx.Ext.refl _ _
                        have Hu := H
                        refine Sx.st_callkeep hT rfl rfl rfl rfl rfl Tryd.can10 rfl (first_calls _) ?_
                        rintro _ w60 ⟨rfl, E⟩
                        refine ⟨_, rfl, hH.step E, ?_⟩
                        replace hH := hH.step E
                        clear hT; intro a hT
                        replace H := H.pure E; clear E
                        refine Sx.st_take hT rfl rfl rfl rfl (Sx.x_move hT rfl rfl) ?_
                        clear hT; intro a hT
                        refine Sx.st_take hT rfl rfl rfl rfl (Sx.x_move hT rfl rfl) ?_
                        clear hT; intro a hT
                        refine Sx.st_take hT rfl rfl rfl rfl (Sx.x_move hT rfl rfl) ?_
                        clear hT; intro a hT
                        refine Sx.st_take hT rfl rfl rfl rfl ((fun w => Sx.x_eq w hT rfl rfl rfl)) ?_
                        clear hT; intro a hT
                        refine Sx.st_take hT rfl rfl rfl rfl (Sx.x_pick_t hT rfl rfl rfl) ?_
                        clear hT; intro a hT
                        refine Sx.st_take hT rfl rfl rfl rfl (Sx.x_move hT rfl rfl) ?_
                        clear hT; intro a hT
                        -- guard (22, 6)
                        refine Sx.Sl.two hT 131 rfl (fun hc71 hT => ?_) (fun hc71 hT => ?_)
                        · try simp only [decide_eq_true_eq, decide_eq_false_iff_not, Bool.not_eq_true', Bool.not_eq_false', Bool.not_eq_true, Bool.not_eq_false, Bool.and_eq_true, Bool.or_eq_false_iff, beq_iff_eq, bne_iff_ne, Int.not_lt, Int.not_le, ne_eq] at hc71
                          refine Sx.st_take hT rfl rfl rfl rfl (Sx.x_move hT rfl rfl) ?_
                          clear hT; intro a hT
                          refine Sx.st_held hT rfl rfl rfl rfl hH (fun w' h' => Sx.y_loadS hT rfl Tryd.underlying23 Tryd.ti23 rfl ((Hu.heldB 1 rfl h' Sx.off_No).seg (k := 3) rfl) (by rfl)) ?_
                          clear hT; intro a hT
                          refine Sx.st_callkeep hT rfl rfl rfl rfl rfl Tryd.can29 rfl (Last_calls (H.blk 0 rfl)) ?_
                          rintro _ w61 ⟨rfl, E⟩
                          refine ⟨_, rfl, hH.step E, ?_⟩
                          replace hH := hH.step E
                          clear hT; intro a hT
                          replace H := H.pure E; clear E
                          refine Sx.st_take hT rfl rfl rfl rfl (Sx.x_eqS hT rfl (by kernel_rfl) (Tryd.eq23 _ _ _ _ _ _) rfl rfl rfl) ?_
                          clear hT; intro a hT
                          refine Sx.st_take hT rfl rfl rfl rfl (Sx.x_pick_t hT rfl rfl rfl) ?_
                          clear hT; intro a hT
                          refine Sx.st_take hT rfl rfl rfl rfl (Sx.x_move hT rfl rfl) ?_
                          clear hT; intro a hT
                          -- guard (22, 12)
                          refine Sx.Sl.two hT 137 rfl (fun hc72 hT => ?_) (fun hc72 hT => ?_)
                          · try simp only [decide_eq_true_eq, decide_eq_false_iff_not, Bool.not_eq_true', Bool.not_eq_false', Bool.not_eq_true, Bool.not_eq_false, Bool.and_eq_true, Bool.or_eq_false_iff, beq_iff_eq, bne_iff_ne, Int.not_lt, Int.not_le, ne_eq] at hc72
                            refine Sx.st_take hT rfl rfl rfl rfl (Sx.x_move hT rfl rfl) ?_
                            clear hT; intro a hT
                            refine Sx.st_take hT rfl rfl rfl rfl ((fun w => Sx.x_eq w hT rfl rfl rfl)) ?_
                            clear hT; intro a hT
                            refine Sx.st_held hT rfl rfl rfl rfl hH (fun w' h' => Sx.y_loadS hT rfl Tryd.underlying23 Tryd.ti23 rfl ((Hu.heldB 5 rfl h' Sx.off_No).seg (k := 3) rfl) (by rfl)) ?_
                            clear hT; intro a hT
                            refine Sx.st_callkeep hT rfl rfl rfl rfl rfl Tryd.can13 rfl (May_calls _ _ _ _) ?_
                            rintro _ w62 ⟨rfl, E⟩
                            refine ⟨_, rfl, hH.step E, ?_⟩
                            replace hH := hH.step E
                            clear hT; intro a hT
                            replace H := H.pure E; clear E
                            refine Sx.st_take hT rfl rfl rfl rfl (Sx.x_eqb hT rfl Tryd.underlying4 rfl rfl) ?_
                            clear hT; intro a hT
                            refine Sx.st_take hT rfl rfl rfl rfl (Sx.x_pick_t hT rfl rfl rfl) ?_
                            clear hT; intro a hT
                            refine Sx.st_take hT rfl rfl rfl rfl (Sx.x_move hT rfl rfl) ?_
                            clear hT; intro a hT
                            -- guard (22, 19)
                            refine Sx.Sl.two hT 144 rfl (fun hc73 hT => ?_) (fun hc73 hT => ?_)
                            · try simp only [decide_eq_true_eq, decide_eq_false_iff_not, Bool.not_eq_true', Bool.not_eq_false', Bool.not_eq_true, Bool.not_eq_false, Bool.and_eq_true, Bool.or_eq_false_iff, beq_iff_eq, bne_iff_ne, Int.not_lt, Int.not_le, ne_eq] at hc73
                              refine Sx.st_take hT rfl rfl rfl rfl (Sx.x_fieldAddr hT rfl Tryd.fa23_2 rfl) ?_
                              clear hT; intro a hT
                              refine Sx.st_held hT rfl rfl rfl rfl hH (fun w' h' => Sx.x_load1 hT rfl Tryd.fl3 rfl ((Hu.heldB 1 rfl h' Sx.off_No).nth rfl)) ?_
                              clear hT; intro a hT
                              refine Sx.st_take hT rfl rfl rfl rfl (Sx.x_move hT rfl rfl) ?_
                              clear hT; intro a hT
                              refine Sx.st_take hT rfl rfl rfl rfl ((fun w => Sx.x_eq w hT rfl rfl rfl)) ?_
                              clear hT; intro a hT
                              refine Sx.st_take hT rfl rfl rfl rfl (Sx.x_pick_t hT rfl rfl rfl) ?_
                              clear hT; intro a hT
                              refine Sx.st_take hT rfl rfl rfl rfl (Sx.x_assign hT rfl rfl) ?_
                              clear hT; intro a hT
                              replace hT := hT.keep [10, 21, 20, 19, 116, 18, 17, 82, 16, 15, 14, 48, 13, 35, 12, 11, 23, 9, 6, 0, 1, 2, 3, 4] rfl
                              clear Hu hH
                              refine Sx.ser_calm ?_
                              refine Sx.then_normal (hK70 _ _ ?_)
                              clear hK70
                              refine wp_ret ?_
                              refine Sx.done1 (fn := Tryd.f6) hT rfl (.tmp (hT.get 10 _ rfl)) ?_
                              exact ⟨ret_b (by simp [obs_node, hnd]), H.ext⟩
                            · exfalso
                              try simp only [decide_eq_true_eq, decide_eq_false_iff_not, Bool.not_eq_true', Bool.not_eq_false', Bool.not_eq_true, Bool.not_eq_false, Bool.and_eq_true, Bool.or_eq_false_iff, beq_iff_eq, bne_iff_ne, Int.not_lt, Int.not_le, ne_eq] at hc73
                              revert hc73; cases may ⟨p, q, r⟩ <;> simp
                          · exfalso
                            try simp only [decide_eq_true_eq, decide_eq_false_iff_not, Bool.not_eq_true', Bool.not_eq_false', Bool.not_eq_true, Bool.not_eq_false, Bool.and_eq_true, Bool.or_eq_false_iff, beq_iff_eq, bne_iff_ne, Int.not_lt, Int.not_le, ne_eq] at hc72
                            first | (simp at hc72; done) | omega | (simp at hc72; omega) | (simp_all; done)
                        · exfalso
                          try simp only [decide_eq_true_eq, decide_eq_false_iff_not, Bool.not_eq_true', Bool.not_eq_false', Bool.not_eq_true, Bool.not_eq_false, Bool.and_eq_true, Bool.or_eq_false_iff, beq_iff_eq, bne_iff_ne, Int.not_lt, Int.not_le, ne_eq] at hc71
                          first | (simp at hc71; done) | omega | (simp at hc71; omega) | (simp_all; done)
                    · try simp only [decide_eq_true_eq, decide_eq_false_iff_not, Bool.not_eq_true', Bool.not_eq_false', Bool.not_eq_true, Bool.not_eq_false, Bool.and_eq_true, Bool.or_eq_false_iff, beq_iff_eq, bne_iff_ne, Int.not_lt, Int.not_le, ne_eq] at hc65
                      refine Sx.st_skip hT rfl rfl rfl rfl ?_
                      clear hT; intro a hT
                      refine Sx.st_heldskip hT rfl rfl rfl rfl hH ?_
                      clear hT; intro a hT
                      refine Sx.st_keepskip hT rfl rfl rfl rfl hH ?_
                      clear hT; intro a hT
                      refine Sx.st_skip hT rfl rfl rfl rfl ?_
                      clear hT; intro a hT
                      refine Sx.st_take hT rfl rfl rfl rfl (Sx.x_pick_f hT rfl rfl rfl) ?_
                      clear hT; intro a hT
                      refine Sx.st_take hT rfl rfl rfl rfl (Sx.x_pick_f hT rfl rfl rfl) ?_
                      clear hT; intro a hT
                      replace hT := hT.keep [116, 18, 17, 82, 16, 15, 14, 48, 13, 35, 12, 11, 23, 10, 9, 6, 0, 1, 2, 3, 4] rfl
                      clear Hu hH
                      refine Sx.ser_calm ?_
                      refine Sx.then_normal (hK24 _ _ ?_)
                      clear hK24
                      refine Sx.wp_if hT rfl (fun h => by cases h) (fun _ => ?_)
                      refine wp_skip ?_
                      refine Sx.then_normal (hK23 _ _ ?_)
                      clear hK23
                      refine wp_seq_k fun K74 hK74 => ?_
                      -- region 19 (extra.go:33)
                      refine Sx.wp_text [(0, .take), (1, .run), (2, .run), (3, .take)] rfl ?_
                      refine Sx.st_take hT rfl rfl rfl rfl (Sx.x_move hT rfl rfl) ?_
                      clear hT; intro a hT
                      refine Sx.st_run hT rfl rfl rfl rfl (Sx.y_loadS hT rfl Tryd.underlying23 Tryd.ti23 rfl ((H.blk 4 rfl).seg (k := 3) rfl) (by rfl)) ?_
                      clear hT; intro a hT
                      refine Sx.st_call hT rfl rfl rfl rfl rfl Tryd.can27 rfl (Obs_calls (H.pre [1] rfl rfl) _ _ _) ?_
                      rintro _ w63 ⟨rfl, K⟩
                      refine ⟨_, rfl, ?_⟩
                      clear hT; intro a hT
                      replace H := H.back [1] [0, 2, 3, 4, 5] rfl rfl rfl K rfl; clear K
                      refine Sx.st_take hT rfl rfl rfl rfl (Sx.x_assign hT rfl rfl) ?_
                      clear hT; intro a hT
                      replace hT := hT.keep [19, 116, 18, 17, 82, 16, 15, 14, 48, 13, 35, 12, 11, 23, 10, 9, 6, 0, 1, 2, 3, 4] rfl
                      refine Sx.ser_nil ?_
                      refine Sx.then_normal (hK74 _ _ ?_)
                      clear hK74
                      refine wp_seq_k fun K75 hK75 => ?_
                      -- region 20 (extra.go:34)
                      refine Sx.wp_text [(0, .take), (1, .run), (2, .run), (3, .run)] rfl ?_
                      refine Sx.st_take hT rfl rfl rfl rfl (Sx.x_move hT rfl rfl) ?_
                      clear hT; intro a hT
                      refine Sx.st_call hT rfl rfl rfl rfl rfl Tryd.can29 rfl (Last_calls (H.blk 0 rfl)) ?_
                      rintro _ w64 ⟨rfl, E⟩
                      refine ⟨_, rfl, ?_⟩
                      clear hT; intro a hT
                      replace H := H.pure E; clear E
                      refine Sx.st_eff hT rfl rfl rfl rfl (Sx.y_alloc hT rfl Tryd.ti23 rfl _) ?_
                      clear hT; rintro _ w65 ⟨b11, rfl, N⟩ a hT
                      replace H := H.new N; clear N
                      refine Sx.st_act hT rfl rfl rfl (Sx.y_storeS hT rfl Tryd.ti23 rfl rfl rfl rfl rfl (H.blk 0 rfl) rfl) ?_
                      rintro w66 ⟨hb, E, _⟩
                      replace H := H.setB 0 rfl hb E rfl; clear hb E
                      replace hT := hT.keep [20, 19, 116, 18, 17, 82, 16, 15, 14, 48, 13, 35, 12, 11, 23, 10, 9, 6, 0, 1, 2, 3, 4] rfl
                      refine Sx.ser_nil ?_
                      refine Sx.then_normal (hK75 _ _ ?_)
                      clear hK75
                      refine wp_seq_k fun K76 hK76 => ?_
                      -- region 21 (extra.go:35)
                      refine Sx.wp_text [(0, .take), (1, .run), (2, .run), (3, .take)] rfl ?_
                      refine Sx.st_take hT rfl rfl rfl rfl (Sx.x_move hT rfl rfl) ?_
                      clear hT; intro a hT
                      refine Sx.st_run hT rfl rfl rfl rfl (Sx.y_loadS hT rfl Tryd.underlying23 Tryd.ti23 rfl ((H.blk 5 rfl).seg (k := 3) rfl) (by rfl)) ?_
                      clear hT; intro a hT
                      refine Sx.st_call hT rfl rfl rfl rfl rfl Tryd.can27 rfl (Obs_calls (H.pre [1] rfl rfl) _ _ _) ?_
                      rintro _ w67 ⟨rfl, K⟩
                      refine ⟨_, rfl, ?_⟩
                      clear hT; intro a hT
                      replace H := H.back [1] [0, 2, 3, 4, 5, 6] rfl rfl rfl K rfl; clear K
                      refine Sx.st_take hT rfl rfl rfl rfl (Sx.x_assign hT rfl rfl) ?_
                      clear hT; intro a hT
                      replace hT := hT.keep [21, 20, 19, 116, 18, 17, 82, 16, 15, 14, 48, 13, 35, 12, 11, 23, 10, 9, 6, 0, 1, 2, 3, 4] rfl
                      refine Sx.ser_nil ?_
                      refine Sx.then_normal (hK76 _ _ ?_)
                      clear hK76
                      refine wp_seq_k fun K77 hK77 => ?_
                      -- region 22 (extra.go:36)
                      rw [obs_twice] at H
                      refine Sx.wp_draws (fun u => Sx.Ext (Sx.No) u) [(0, .keep), (1, .take), (2, .take), (3, .take), (4, .take), (5, .take), (6, .take), (7, .take), (9, .held), (8, .keep), (10, .take), (11, .take), (12, .take), (13, .take), (14, .take), (15, .held), (16, .keep), (17, .take), (18, .take), (19, .take), (20, .take), (21, .held), (22, .take), (23, .take), (24, .take), (25, .take)] (by kernel_rfl) (by kernel_rfl) (fun u E _ => ?_)
                      replace H := H.pure E; clear E
                      have hH : Sx.Ext (Sx.No) u u := Sx.Ext.refl _ _
                      have Hu := H
                      refine Sx.st_callkeep hT rfl rfl rfl rfl rfl Tryd.can10 rfl (first_calls _) ?_
                      rintro _ w68 ⟨rfl, E⟩
                      refine ⟨_, rfl, hH.step E, ?_⟩
                      replace hH := hH.step E
                      clear hT; intro a hT
                      replace H := H.pure E; clear E
                      refine Sx.st_take hT rfl rfl rfl rfl (Sx.x_move hT rfl rfl) ?_
                      clear hT; intro a hT
                      refine Sx.st_take hT rfl rfl rfl rfl (Sx.x_move hT rfl rfl) ?_
                      clear hT; intro a hT
                      refine Sx.st_take hT rfl rfl rfl rfl (Sx.x_move hT rfl rfl) ?_
                      clear hT; intro a hT
                      refine Sx.st_take hT rfl rfl rfl rfl ((fun w => Sx.x_eq w hT rfl rfl rfl)) ?_
                      clear hT; intro a hT
                      refine Sx.st_take hT rfl rfl rfl rfl (Sx.x_pick_t hT rfl rfl rfl) ?_
                      clear hT; intro a hT
                      refine Sx.st_take hT rfl rfl rfl rfl (Sx.x_move hT rfl rfl) ?_
                      clear hT; intro a hT
                      -- guard (22, 6)
                      refine Sx.Sl.two hT 131 rfl (fun hc78 hT => ?_) (fun hc78 hT => ?_)
                      · try simp only [decide_eq_true_eq, decide_eq_false_iff_not, Bool.not_eq_true', Bool.not_eq_false', Bool.not_eq_true, Bool.not_eq_false, Bool.and_eq_true, Bool.or_eq_false_iff, beq_iff_eq, bne_iff_ne, Int.not_lt, Int.not_le, ne_eq] at hc78
                        refine Sx.st_take hT rfl rfl rfl rfl (Sx.x_move hT rfl rfl) ?_
                        clear hT; intro a hT
                        refine Sx.st_held hT rfl rfl rfl rfl hH (fun w' h' => Sx.y_loadS hT rfl Tryd.underlying23 Tryd.ti23 rfl ((Hu.heldB 1 rfl h' Sx.off_No).seg (k := 3) rfl) (by rfl)) ?_
                        clear hT; intro a hT
                        refine Sx.st_callkeep hT rfl rfl rfl rfl rfl Tryd.can29 rfl (Last_calls (H.blk 0 rfl)) ?_
                        rintro _ w69 ⟨rfl, E⟩
                        refine ⟨_, rfl, hH.step E, ?_⟩
                        replace hH := hH.step E
                        clear hT; intro a hT
                        replace H := H.pure E; clear E
                        refine Sx.st_take hT rfl rfl rfl rfl (Sx.x_eqS hT rfl (by kernel_rfl) (Tryd.eq23 _ _ _ _ _ _) rfl rfl rfl) ?_
                        clear hT; intro a hT
                        refine Sx.st_take hT rfl rfl rfl rfl (Sx.x_pick_t hT rfl rfl rfl) ?_
                        clear hT; intro a hT
                        refine Sx.st_take hT rfl rfl rfl rfl (Sx.x_move hT rfl rfl) ?_
                        clear hT; intro a hT
                        -- guard (22, 12)
                        refine Sx.Sl.two hT 137 rfl (fun hc79 hT => ?_) (fun hc79 hT => ?_)
                        · try simp only [decide_eq_true_eq, decide_eq_false_iff_not, Bool.not_eq_true', Bool.not_eq_false', Bool.not_eq_true, Bool.not_eq_false, Bool.and_eq_true, Bool.or_eq_false_iff, beq_iff_eq, bne_iff_ne, Int.not_lt, Int.not_le, ne_eq] at hc79
                          refine Sx.st_take hT rfl rfl rfl rfl (Sx.x_move hT rfl rfl) ?_
                          clear hT; intro a hT
                          refine Sx.st_take hT rfl rfl rfl rfl ((fun w => Sx.x_eq w hT rfl rfl rfl)) ?_
                          clear hT; intro a hT
                          refine Sx.st_held hT rfl rfl rfl rfl hH (fun w' h' => Sx.y_loadS hT rfl Tryd.underlying23 Tryd.ti23 rfl ((Hu.heldB 5 rfl h' Sx.off_No).seg (k := 3) rfl) (by rfl)) ?_
                          clear hT; intro a hT
                          refine Sx.st_callkeep hT rfl rfl rfl rfl rfl Tryd.can13 rfl (May_calls _ _ _ _) ?_
                          rintro _ w70 ⟨rfl, E⟩
                          refine ⟨_, rfl, hH.step E, ?_⟩
                          replace hH := hH.step E
                          clear hT; intro a hT
                          replace H := H.pure E; clear E
                          refine Sx.st_take hT rfl rfl rfl rfl (Sx.x_eqb hT rfl Tryd.underlying4 rfl rfl) ?_
                          clear hT; intro a hT
                          refine Sx.st_take hT rfl rfl rfl rfl (Sx.x_pick_t hT rfl rfl rfl) ?_
                          clear hT; intro a hT
                          refine Sx.st_take hT rfl rfl rfl rfl (Sx.x_move hT rfl rfl) ?_
                          clear hT; intro a hT
                          -- guard (22, 19)
                          refine Sx.Sl.two hT 144 rfl (fun hc80 hT => ?_) (fun hc80 hT => ?_)
                          · try simp only [decide_eq_true_eq, decide_eq_false_iff_not, Bool.not_eq_true', Bool.not_eq_false', Bool.not_eq_true, Bool.not_eq_false, Bool.and_eq_true, Bool.or_eq_false_iff, beq_iff_eq, bne_iff_ne, Int.not_lt, Int.not_le, ne_eq] at hc80
                            refine Sx.st_take hT rfl rfl rfl rfl (Sx.x_fieldAddr hT rfl Tryd.fa23_2 rfl) ?_
                            clear hT; intro a hT
                            refine Sx.st_held hT rfl rfl rfl rfl hH (fun w' h' => Sx.x_load1 hT rfl Tryd.fl3 rfl ((Hu.heldB 1 rfl h' Sx.off_No).nth rfl)) ?_
                            clear hT; intro a hT
                            refine Sx.st_take hT rfl rfl rfl rfl (Sx.x_move hT rfl rfl) ?_
                            clear hT; intro a hT
                            refine Sx.st_take hT rfl rfl rfl rfl ((fun w => Sx.x_eq w hT rfl rfl rfl)) ?_
                            clear hT; intro a hT
                            refine Sx.st_take hT rfl rfl rfl rfl (Sx.x_pick_t hT rfl rfl rfl) ?_
                            clear hT; intro a hT
                            refine Sx.st_take hT rfl rfl rfl rfl (Sx.x_assign hT rfl rfl) ?_
                            clear hT; intro a hT
                            replace hT := hT.keep [10, 21, 20, 19, 116, 18, 17, 82, 16, 15, 14, 48, 13, 35, 12, 11, 23, 9, 6, 0, 1, 2, 3, 4] rfl
                            clear Hu hH
                            refine Sx.ser_calm ?_
                            refine Sx.then_normal (hK77 _ _ ?_)
                            clear hK77
                            refine wp_ret ?_
                            refine Sx.done1 (fn := Tryd.f6) hT rfl (.tmp (hT.get 10 _ rfl)) ?_
                            exact ⟨ret_b (by simp [obs_node, hnd]), H.ext⟩
                          · exfalso
                            try simp only [decide_eq_true_eq, decide_eq_false_iff_not, Bool.not_eq_true', Bool.not_eq_false', Bool.not_eq_true, Bool.not_eq_false, Bool.and_eq_true, Bool.or_eq_false_iff, beq_iff_eq, bne_iff_ne, Int.not_lt, Int.not_le, ne_eq] at hc80
                            revert hc80; cases may ⟨p, q, r⟩ <;> simp
                        · exfalso
                          try simp only [decide_eq_true_eq, decide_eq_false_iff_not, Bool.not_eq_true', Bool.not_eq_false', Bool.not_eq_true, Bool.not_eq_false, Bool.and_eq_true, Bool.or_eq_false_iff, beq_iff_eq, bne_iff_ne, Int.not_lt, Int.not_le, ne_eq] at hc79
                          first | (simp at hc79; done) | omega | (simp at hc79; omega) | (simp_all; done)
                      · exfalso
                        try simp only [decide_eq_true_eq, decide_eq_false_iff_not, Bool.not_eq_true', Bool.not_eq_false', Bool.not_eq_true, Bool.not_eq_false, Bool.and_eq_true, Bool.or_eq_false_iff, beq_iff_eq, bne_iff_ne, Int.not_lt, Int.not_le, ne_eq] at hc78
                        first | (simp at hc78; done) | omega | (simp at hc78; omega) | (simp_all; done)
                · try simp only [decide_eq_true_eq, decide_eq_false_iff_not, Bool.not_eq_true', Bool.not_eq_false', Bool.not_eq_true, Bool.not_eq_false, Bool.and_eq_true, Bool.or_eq_false_iff, beq_iff_eq, bne_iff_ne, Int.not_lt, Int.not_le, ne_eq] at hc63
                  refine Sx.st_skip hT rfl rfl rfl rfl ?_
                  clear hT; intro a hT
                  refine Sx.st_heldskip hT rfl rfl rfl rfl hH ?_
                  clear hT; intro a hT
                  refine Sx.st_keepskip hT rfl rfl rfl rfl hH ?_
                  clear hT; intro a hT
                  refine Sx.st_skip hT rfl rfl rfl rfl ?_
                  clear hT; intro a hT
                  refine Sx.st_take hT rfl rfl rfl rfl (Sx.x_pick_f hT rfl rfl rfl) ?_
                  clear hT; intro a hT
                  refine Sx.st_take hT rfl rfl rfl rfl (Sx.x_pick_f hT rfl rfl rfl) ?_
                  clear hT; intro a hT
                  refine Sx.st_take hT rfl rfl rfl rfl (Sx.x_move hT rfl rfl) ?_
                  clear hT; intro a hT
                  refine Sx.st_take hT rfl rfl rfl rfl (Sx.x_move hT rfl rfl) ?_
                  clear hT; intro a hT
                  refine Sx.st_take hT rfl rfl rfl rfl ((fun w => Sx.x_eq w hT rfl rfl rfl)) ?_
                  clear hT; intro a hT
                  refine Sx.st_take hT rfl rfl rfl rfl (Sx.x_move hT rfl rfl) ?_
                  clear hT; intro a hT
                  -- guard (17, 21)
                  refine Sx.Sl.two hT 110 rfl (fun hc81 hT => ?_) (fun hc81 hT => ?_)
                  · try simp only [decide_eq_true_eq, decide_eq_false_iff_not, Bool.not_eq_true', Bool.not_eq_false', Bool.not_eq_true, Bool.not_eq_false, Bool.and_eq_true, Bool.or_eq_false_iff, beq_iff_eq, bne_iff_ne, Int.not_lt, Int.not_le, ne_eq] at hc81
                    refine Sx.st_take hT rfl rfl rfl rfl (Sx.x_move hT rfl rfl) ?_
                    clear hT; intro a hT
                    refine Sx.st_held hT rfl rfl rfl rfl hH (fun w' h' => Sx.y_loadS hT rfl Tryd.underlying23 Tryd.ti23 rfl ((Hu.heldB 2 rfl h' Sx.off_No).seg (k := 3) rfl) (by rfl)) ?_
                    clear hT; intro a hT
                    refine Sx.st_callkeep hT rfl rfl rfl rfl rfl Tryd.can29 rfl (Last_calls (H.blk 1 rfl)) ?_
                    rintro _ w71 ⟨rfl, E⟩
                    refine ⟨_, rfl, hH.step E, ?_⟩
                    replace hH := hH.step E
                    clear hT; intro a hT
                    replace H := H.pure E; clear E
                    refine Sx.st_take hT rfl rfl rfl rfl (Sx.x_neS hT rfl (by kernel_rfl) (Tryd.eq23 _ _ _ _ _ _) rfl rfl rfl) ?_
                    clear hT; intro a hT
                    refine Sx.st_take hT rfl rfl rfl rfl (Sx.x_pick_t hT rfl rfl rfl) ?_
                    clear hT; intro a hT
                    refine Sx.st_take hT rfl rfl rfl rfl (Sx.x_pick_f hT rfl rfl rfl) ?_
                    clear hT; intro a hT
                    replace hT := hT.keep [116, 18, 17, 82, 16, 15, 14, 48, 13, 35, 12, 11, 23, 10, 9, 6, 0, 1, 2, 3, 4] rfl
                    clear Hu hH
                    refine Sx.ser_calm ?_
                    refine Sx.then_normal (hK24 _ _ ?_)
                    clear hK24
                    -- cond 5
                    refine Sx.wp_if hT rfl (fun hc82 => ?_) (fun hc82 => ?_)
                    · exfalso
                      try simp only [decide_eq_true_eq, decide_eq_false_iff_not, Bool.not_eq_true', Bool.not_eq_false', Bool.not_eq_true, Bool.not_eq_false, Bool.and_eq_true, Bool.or_eq_false_iff, beq_iff_eq, bne_iff_ne, Int.not_lt, Int.not_le, ne_eq] at hc82
                      first | (simp at hc82; done) | omega | (simp at hc82; omega) | (simp_all; done)
                    · try simp only [decide_eq_true_eq, decide_eq_false_iff_not, Bool.not_eq_true', Bool.not_eq_false', Bool.not_eq_true, Bool.not_eq_false, Bool.and_eq_true, Bool.or_eq_false_iff, beq_iff_eq, bne_iff_ne, Int.not_lt, Int.not_le, ne_eq] at hc82
                      refine wp_skip ?_
                      refine Sx.then_normal (hK23 _ _ ?_)
                      clear hK23
                      refine wp_seq_k fun K83 hK83 => ?_
                      -- region 19 (extra.go:33)
                      refine Sx.wp_text [(0, .take), (1, .run), (2, .run), (3, .take)] rfl ?_
                      refine Sx.st_take hT rfl rfl rfl rfl (Sx.x_move hT rfl rfl) ?_
                      clear hT; intro a hT
                      refine Sx.st_run hT rfl rfl rfl rfl (Sx.y_loadS hT rfl Tryd.underlying23 Tryd.ti23 rfl ((H.blk 4 rfl).seg (k := 3) rfl) (by rfl)) ?_
                      clear hT; intro a hT
                      refine Sx.st_call hT rfl rfl rfl rfl rfl Tryd.can27 rfl (Obs_calls (H.pre [1] rfl rfl) _ _ _) ?_
                      rintro _ w72 ⟨rfl, K⟩
                      refine ⟨_, rfl, ?_⟩
                      clear hT; intro a hT
                      replace H := H.back [1] [0, 2, 3, 4, 5] rfl rfl rfl K rfl; clear K
                      refine Sx.st_take hT rfl rfl rfl rfl (Sx.x_assign hT rfl rfl) ?_
                      clear hT; intro a hT
                      replace hT := hT.keep [19, 116, 18, 17, 82, 16, 15, 14, 48, 13, 35, 12, 11, 23, 10, 9, 6, 0, 1, 2, 3, 4] rfl
                      refine Sx.ser_nil ?_
                      refine Sx.then_normal (hK83 _ _ ?_)
                      clear hK83
                      refine wp_seq_k fun K84 hK84 => ?_
                      -- region 20 (extra.go:34)
                      refine Sx.wp_text [(0, .take), (1, .run), (2, .run), (3, .run)] rfl ?_
                      refine Sx.st_take hT rfl rfl rfl rfl (Sx.x_move hT rfl rfl) ?_
                      clear hT; intro a hT
                      refine Sx.st_call hT rfl rfl rfl rfl rfl Tryd.can29 rfl (Last_calls (H.blk 0 rfl)) ?_
                      rintro _ w73 ⟨rfl, E⟩
                      refine ⟨_, rfl, ?_⟩
                      clear hT; intro a hT
                      replace H := H.pure E; clear E
                      refine Sx.st_eff hT rfl rfl rfl rfl (Sx.y_alloc hT rfl Tryd.ti23 rfl _) ?_
                      clear hT; rintro _ w74 ⟨b12, rfl, N⟩ a hT
                      replace H := H.new N; clear N
                      refine Sx.st_act hT rfl rfl rfl (Sx.y_storeS hT rfl Tryd.ti23 rfl rfl rfl rfl rfl (H.blk 0 rfl) rfl) ?_
                      rintro w75 ⟨hb, E, _⟩
                      replace H := H.setB 0 rfl hb E rfl; clear hb E
                      replace hT := hT.keep [20, 19, 116, 18, 17, 82, 16, 15, 14, 48, 13, 35, 12, 11, 23, 10, 9, 6, 0, 1, 2, 3, 4] rfl
                      refine Sx.ser_nil ?_
                      refine Sx.then_normal (hK84 _ _ ?_)
                      clear hK84
                      refine wp_seq_k fun K85 hK85 => ?_
                      -- region 21 (extra.go:35)
                      refine Sx.wp_text [(0, .take), (1, .run), (2, .run), (3, .take)] rfl ?_
                      refine Sx.st_take hT rfl rfl rfl rfl (Sx.x_move hT rfl rfl) ?_
                      clear hT; intro a hT
                      refine Sx.st_run hT rfl rfl rfl rfl (Sx.y_loadS hT rfl Tryd.underlying23 Tryd.ti23 rfl ((H.blk 5 rfl).seg (k := 3) rfl) (by rfl)) ?_
                      clear hT; intro a hT
                      refine Sx.st_call hT rfl rfl rfl rfl rfl Tryd.can27 rfl (Obs_calls (H.pre [1] rfl rfl) _ _ _) ?_
                      rintro _ w76 ⟨rfl, K⟩
                      refine ⟨_, rfl, ?_⟩
                      clear hT; intro a hT
                      replace H := H.back [1] [0, 2, 3, 4, 5, 6] rfl rfl rfl K rfl; clear K
                      refine Sx.st_take hT rfl rfl rfl rfl (Sx.x_assign hT rfl rfl) ?_
                      clear hT; intro a hT
                      replace hT := hT.keep [21, 20, 19, 116, 18, 17, 82, 16, 15, 14, 48, 13, 35, 12, 11, 23, 10, 9, 6, 0, 1, 2, 3, 4] rfl
                      refine Sx.ser_nil ?_
                      refine Sx.then_normal (hK85 _ _ ?_)
                      clear hK85
                      refine wp_seq_k fun K86 hK86 => ?_
                      -- region 22 (extra.go:36)
                      rw [obs_twice] at H
                      refine Sx.wp_draws (fun u => Sx.Ext (Sx.No) u) [(0, .keep), (1, .take), (2, .take), (3, .take), (4, .take), (5, .take), (6, .take), (7, .take), (9, .held), (8, .keep), (10, .take), (11, .take), (12, .take), (13, .take), (14, .take), (15, .held), (16, .keep), (17, .take), (18, .take), (19, .take), (20, .take), (21, .held), (22, .take), (23, .take), (24, .take), (25, .take)] (by kernel_rfl) (by kernel_rfl) (fun u E _ => ?_)
                      replace H := H.pure E; clear E
                      have hH : Sx.Ext (Sx.No) u u := Sx.Ext.refl _ _
                      have Hu := H
                      refine Sx.st_callkeep hT rfl rfl rfl rfl rfl Tryd.can10 rfl (first_calls _) ?_
                      rintro _ w77 ⟨rfl, E⟩
                      refine ⟨_, rfl, hH.step E, ?_⟩
                      replace hH := hH.step E
                      clear hT; intro a hT
                      replace H := H.pure E; clear E
                      refine Sx.st_take hT rfl rfl rfl rfl (Sx.x_move hT rfl rfl) ?_
                      clear hT; intro a hT
                      refine Sx.st_take hT rfl rfl rfl rfl (Sx.x_move hT rfl rfl) ?_
                      clear hT; intro a hT
                      refine Sx.st_take hT rfl rfl rfl rfl (Sx.x_move hT rfl rfl) ?_
                      clear hT; intro a hT
                      refine Sx.st_take hT rfl rfl rfl rfl ((fun w => Sx.x_eq w hT rfl rfl rfl)) ?_
                      clear hT; intro a hT
                      refine Sx.st_take hT rfl rfl rfl rfl (Sx.x_pick_t hT rfl rfl rfl) ?_
                      clear hT; intro a hT
                      refine Sx.st_take hT rfl rfl rfl rfl (Sx.x_move hT rfl rfl) ?_
                      clear hT; intro a hT
                      -- guard (22, 6)
                      refine Sx.Sl.two hT 131 rfl (fun hc87 hT => ?_) (fun hc87 hT => ?_)
                      · try simp only [decide_eq_true_eq, decide_eq_false_iff_not, Bool.not_eq_true', Bool.not_eq_false', Bool.not_eq_true, Bool.not_eq_false, Bool.and_eq_true, Bool.or_eq_false_iff, beq_iff_eq, bne_iff_ne, Int.not_lt, Int.not_le, ne_eq] at hc87
                        refine Sx.st_take hT rfl rfl rfl rfl (Sx.x_move hT rfl rfl) ?_
                        clear hT; intro a hT
                        refine Sx.st_held hT rfl rfl rfl rfl hH (fun w' h' => Sx.y_loadS hT rfl Tryd.underlying23 Tryd.ti23 rfl ((Hu.heldB 1 rfl h' Sx.off_No).seg (k := 3) rfl) (by rfl)) ?_
                        clear hT; intro a hT
                        refine Sx.st_callkeep hT rfl rfl rfl rfl rfl Tryd.can29 rfl (Last_calls (H.blk 0 rfl)) ?_
                        rintro _ w78 ⟨rfl, E⟩
                        refine ⟨_, rfl, hH.step E, ?_⟩
                        replace hH := hH.step E
                        clear hT; intro a hT
                        replace H := H.pure E; clear E
                        refine Sx.st_take hT rfl rfl rfl rfl (Sx.x_eqS hT rfl (by kernel_rfl) (Tryd.eq23 _ _ _ _ _ _) rfl rfl rfl) ?_
                        clear hT; intro a hT
                        refine Sx.st_take hT rfl rfl rfl rfl (Sx.x_pick_t hT rfl rfl rfl) ?_
                        clear hT; intro a hT
                        refine Sx.st_take hT rfl rfl rfl rfl (Sx.x_move hT rfl rfl) ?_
                        clear hT; intro a hT
                        -- guard (22, 12)
                        refine Sx.Sl.two hT 137 rfl (fun hc88 hT => ?_) (fun hc88 hT => ?_)
                        · try simp only [decide_eq_true_eq, decide_eq_false_iff_not, Bool.not_eq_true', Bool.not_eq_false', Bool.not_eq_true, Bool.not_eq_false, Bool.and_eq_true, Bool.or_eq_false_iff, beq_iff_eq, bne_iff_ne, Int.not_lt, Int.not_le, ne_eq] at hc88
                          refine Sx.st_take hT rfl rfl rfl rfl (Sx.x_move hT rfl rfl) ?_
                          clear hT; intro a hT
                          refine Sx.st_take hT rfl rfl rfl rfl ((fun w => Sx.x_eq w hT rfl rfl rfl)) ?_
                          clear hT; intro a hT
                          refine Sx.st_held hT rfl rfl rfl rfl hH (fun w' h' => Sx.y_loadS hT rfl Tryd.underlying23 Tryd.ti23 rfl ((Hu.heldB 5 rfl h' Sx.off_No).seg (k := 3) rfl) (by rfl)) ?_
                          clear hT; intro a hT
                          refine Sx.st_callkeep hT rfl rfl rfl rfl rfl Tryd.can13 rfl (May_calls _ _ _ _) ?_
                          rintro _ w79 ⟨rfl, E⟩
                          refine ⟨_, rfl, hH.step E, ?_⟩
                          replace hH := hH.step E
                          clear hT; intro a hT
                          replace H := H.pure E; clear E
                          refine Sx.st_take hT rfl rfl rfl rfl (Sx.x_eqb hT rfl Tryd.underlying4 rfl rfl) ?_
                          clear hT; intro a hT
                          refine Sx.st_take hT rfl rfl rfl rfl (Sx.x_pick_t hT rfl rfl rfl) ?_
                          clear hT; intro a hT
                          refine Sx.st_take hT rfl rfl rfl rfl (Sx.x_move hT rfl rfl) ?_
                          clear hT; intro a hT
                          -- guard (22, 19)
                          refine Sx.Sl.two hT 144 rfl (fun hc89 hT => ?_) (fun hc89 hT => ?_)
                          · try simp only [decide_eq_true_eq, decide_eq_false_iff_not, Bool.not_eq_true', Bool.not_eq_false', Bool.not_eq_true, Bool.not_eq_false, Bool.and_eq_true, Bool.or_eq_false_iff, beq_iff_eq, bne_iff_ne, Int.not_lt, Int.not_le, ne_eq] at hc89
                            refine Sx.st_take hT rfl rfl rfl rfl (Sx.x_fieldAddr hT rfl Tryd.fa23_2 rfl) ?_
                            clear hT; intro a hT
                            refine Sx.st_held hT rfl rfl rfl rfl hH (fun w' h' => Sx.x_load1 hT rfl Tryd.fl3 rfl ((Hu.heldB 1 rfl h' Sx.off_No).nth rfl)) ?_
                            clear hT; intro a hT
                            refine Sx.st_take hT rfl rfl rfl rfl (Sx.x_move hT rfl rfl) ?_
                            clear hT; intro a hT
                            refine Sx.st_take hT rfl rfl rfl rfl ((fun w => Sx.x_eq w hT rfl rfl rfl)) ?_
                            clear hT; intro a hT
                            refine Sx.st_take hT rfl rfl rfl rfl (Sx.x_pick_t hT rfl rfl rfl) ?_
                            clear hT; intro a hT
                            refine Sx.st_take hT rfl rfl rfl rfl (Sx.x_assign hT rfl rfl) ?_
                            clear hT; intro a hT
                            replace hT := hT.keep [10, 21, 20, 19, 116, 18, 17, 82, 16, 15, 14, 48, 13, 35, 12, 11, 23, 9, 6, 0, 1, 2, 3, 4] rfl
                            clear Hu hH
                            refine Sx.ser_calm ?_
                            refine Sx.then_normal (hK86 _ _ ?_)
                            clear hK86
                            refine wp_ret ?_
                            refine Sx.done1 (fn := Tryd.f6) hT rfl (.tmp (hT.get 10 _ rfl)) ?_
                            exact ⟨ret_b (by simp [obs_node, hnd]), H.ext⟩
                          · exfalso
                            try simp only [decide_eq_true_eq, decide_eq_false_iff_not, Bool.not_eq_true', Bool.not_eq_false', Bool.not_eq_true, Bool.not_eq_false, Bool.and_eq_true, Bool.or_eq_false_iff, beq_iff_eq, bne_iff_ne, Int.not_lt, Int.not_le, ne_eq] at hc89
                            revert hc89; cases may ⟨p, q, r⟩ <;> simp
                        · exfalso
                          try simp only [decide_eq_true_eq, decide_eq_false_iff_not, Bool.not_eq_true', Bool.not_eq_false', Bool.not_eq_true, Bool.not_eq_false, Bool.and_eq_true, Bool.or_eq_false_iff, beq_iff_eq, bne_iff_ne, Int.not_lt, Int.not_le, ne_eq] at hc88
                          first | (simp at hc88; done) | omega | (simp at hc88; omega) | (simp_all; done)
                      · exfalso
                        try simp only [decide_eq_true_eq, decide_eq_false_iff_not, Bool.not_eq_true', Bool.not_eq_false', Bool.not_eq_true, Bool.not_eq_false, Bool.and_eq_true, Bool.or_eq_false_iff, beq_iff_eq, bne_iff_ne, Int.not_lt, Int.not_le, ne_eq] at hc87
                        first | (simp at hc87; done) | omega | (simp at hc87; omega) | (simp_all; done)
                  · try simp only [decide_eq_true_eq, decide_eq_false_iff_not, Bool.not_eq_true', Bool.not_eq_false', Bool.not_eq_true, Bool.not_eq_false, Bool.and_eq_true, Bool.or_eq_false_iff, beq_iff_eq, bne_iff_ne, Int.not_lt, Int.not_le, ne_eq] at hc81
                    refine Sx.st_skip hT rfl rfl rfl rfl ?_
                    clear hT; intro a hT
                    refine Sx.st_heldskip hT rfl rfl rfl rfl hH ?_
                    clear hT; intro a hT
                    refine Sx.st_keepskip hT rfl rfl rfl rfl hH ?_
                    clear hT; intro a hT
                    refine Sx.st_skip hT rfl rfl rfl rfl ?_
                    clear hT; intro a hT
                    refine Sx.st_take hT rfl rfl rfl rfl (Sx.x_pick_f hT rfl rfl rfl) ?_
                    clear hT; intro a hT
                    refine Sx.st_take hT rfl rfl rfl rfl (Sx.x_pick_f hT rfl rfl rfl) ?_
                    clear hT; intro a hT
                    replace hT := hT.keep [116, 18, 17, 82, 16, 15, 14, 48, 13, 35, 12, 11, 23, 10, 9, 6, 0, 1, 2, 3, 4] rfl
                    clear Hu hH
                    refine Sx.ser_calm ?_
                    refine Sx.then_normal (hK24 _ _ ?_)
                    clear hK24
                    refine Sx.wp_if hT rfl (fun h => by cases h) (fun _ => ?_)
                    refine wp_skip ?_
                    refine Sx.then_normal (hK23 _ _ ?_)
                    clear hK23
                    refine wp_seq_k fun K90 hK90 => ?_
                    -- region 19 (extra.go:33)
                    refine Sx.wp_text [(0, .take), (1, .run), (2, .run), (3, .take)] rfl ?_
                    refine Sx.st_take hT rfl rfl rfl rfl (Sx.x_move hT rfl rfl) ?_
                    clear hT; intro a hT
                    refine Sx.st_run hT rfl rfl rfl rfl (Sx.y_loadS hT rfl Tryd.underlying23 Tryd.ti23 rfl ((H.blk 4 rfl).seg (k := 3) rfl) (by rfl)) ?_
                    clear hT; intro a hT
                    refine Sx.st_call hT rfl rfl rfl rfl rfl Tryd.can27 rfl (Obs_calls (H.pre [1] rfl rfl) _ _ _) ?_
                    rintro _ w80 ⟨rfl, K⟩
                    refine ⟨_, rfl, ?_⟩
                    clear hT; intro a hT
                    replace H := H.back [1] [0, 2, 3, 4, 5] rfl rfl rfl K rfl; clear K
                    refine Sx.st_take hT rfl rfl rfl rfl (Sx.x_assign hT rfl rfl) ?_
                    clear hT; intro a hT
                    replace hT := hT.keep [19, 116, 18, 17, 82, 16, 15, 14, 48, 13, 35, 12, 11, 23, 10, 9, 6, 0, 1, 2, 3, 4] rfl
                    refine Sx.ser_nil ?_
                    refine Sx.then_normal (hK90 _ _ ?_)
                    clear hK90
                    refine wp_seq_k fun K91 hK91 => ?_
                    -- region 20 (extra.go:34)
                    refine Sx.wp_text [(0, .take), (1, .run), (2, .run), (3, .run)] rfl ?_
                    refine Sx.st_take hT rfl rfl rfl rfl (Sx.x_move hT rfl rfl) ?_
                    clear hT; intro a hT
                    refine Sx.st_call hT rfl rfl rfl rfl rfl Tryd.can29 rfl (Last_calls (H.blk 0 rfl)) ?_
                    rintro _ w81 ⟨rfl, E⟩
                    refine ⟨_, rfl, ?_⟩
                    clear hT; intro a hT
                    replace H := H.pure E; clear E
                    refine Sx.st_eff hT rfl rfl rfl rfl (Sx.y_alloc hT rfl Tryd.ti23 rfl _) ?_
                    clear hT; rintro _ w82 ⟨b13, rfl, N⟩ a hT
                    replace H := H.new N; clear N
                    refine Sx.st_act hT rfl rfl rfl (Sx.y_storeS hT rfl Tryd.ti23 rfl rfl rfl rfl rfl (H.blk 0 rfl) rfl) ?_
                    rintro w83 ⟨hb, E, _⟩
                    replace H := H.setB 0 rfl hb E rfl; clear hb E
                    replace hT := hT.keep [20, 19, 116, 18, 17, 82, 16, 15, 14, 48, 13, 35, 12, 11, 23, 10, 9, 6, 0, 1, 2, 3, 4] rfl
                    refine Sx.ser_nil ?_
                    refine Sx.then_normal (hK91 _ _ ?_)
                    clear hK91
                    refine wp_seq_k fun K92 hK92 => ?_
                    -- region 21 (extra.go:35)
                    refine Sx.wp_text [(0, .take), (1, .run), (2, .run), (3, .take)] rfl ?_
                    refine Sx.st_take hT rfl rfl rfl rfl (Sx.x_move hT rfl rfl) ?_
                    clear hT; intro a hT
                    refine Sx.st_run hT rfl rfl rfl rfl (Sx.y_loadS hT rfl Tryd.underlying23 Tryd.ti23 rfl ((H.blk 5 rfl).seg (k := 3) rfl) (by rfl)) ?_
                    clear hT; intro a hT
                    refine Sx.st_call hT rfl rfl rfl rfl rfl Tryd.can27 rfl (Obs_calls (H.pre [1] rfl rfl) _ _ _) ?_
                    rintro _ w84 ⟨rfl, K⟩
                    refine ⟨_, rfl, ?_⟩
                    clear hT; intro a hT
                    replace H := H.back [1] [0, 2, 3, 4, 5, 6] rfl rfl rfl K rfl; clear K
                    refine Sx.st_take hT rfl rfl rfl rfl (Sx.x_assign hT rfl rfl) ?_
                    clear hT; intro a hT
                    replace hT := hT.keep [21, 20, 19, 116, 18, 17, 82, 16, 15, 14, 48, 13, 35, 12, 11, 23, 10, 9, 6, 0, 1, 2, 3, 4] rfl
                    refine Sx.ser_nil ?_
                    refine Sx.then_normal (hK92 _ _ ?_)
                    clear hK92
                    refine wp_seq_k fun K93 hK93 => ?_
                    -- region 22 (extra.go:36)
                    rw [obs_twice] at H
                    refine Sx.wp_draws (fun u => Sx.Ext (Sx.No) u) [(0, .keep), (1, .take), (2, .take), (3, .take), (4, .take), (5, .take), (6, .take), (7, .take), (9, .held), (8, .keep), (10, .take), (11, .take), (12, .take), (13, .take), (14, .take), (15, .held), (16, .keep), (17, .take), (18, .take), (19, .take), (20, .take), (21, .held), (22, .take), (23, .take), (24, .take), (25, .take)] (by kernel_rfl) (by kernel_rfl) (fun u E _ => ?_)
                    replace H := H.pure E; clear E
                    have hH : Sx.Ext (Sx.No) u u := Sx.Ext.refl _ _
                    have Hu := H
                    refine Sx.st_callkeep hT rfl rfl rfl rfl rfl Tryd.can10 rfl (first_calls _) ?_
                    rintro _ w85 ⟨rfl, E⟩
                    refine ⟨_, rfl, hH.step E, ?_⟩
                    replace hH := hH.step E
                    clear hT; intro a hT
                    replace H := H.pure E; clear E
                    refine Sx.st_take hT rfl rfl rfl rfl (Sx.x_move hT rfl rfl) ?_
                    clear hT; intro a hT
                    refine Sx.st_take hT rfl rfl rfl rfl (Sx.x_move hT rfl rfl) ?_
                    clear hT; intro a hT
                    refine Sx.st_take hT rfl rfl rfl rfl (Sx.x_move hT rfl rfl) ?_
                    clear hT; intro a hT
                    refine Sx.st_take hT rfl rfl rfl rfl ((fun w => Sx.x_eq w hT rfl rfl rfl)) ?_
                    clear hT; intro a hT
                    refine Sx.st_take hT rfl rfl rfl rfl (Sx.x_pick_t hT rfl rfl rfl) ?_
                    clear hT; intro a hT
                    refine Sx.st_take hT rfl rfl rfl rfl (Sx.x_move hT rfl rfl) ?_
                    clear hT; intro a hT
                    -- guard (22, 6)
                    refine Sx.Sl.two hT 131 rfl (fun hc94 hT => ?_) (fun hc94 hT => ?_)
                    · try simp only [decide_eq_true_eq, decide_eq_false_iff_not, Bool.not_eq_true', Bool.not_eq_false', Bool.not_eq_true, Bool.not_eq_false, Bool.and_eq_true, Bool.or_eq_false_iff, beq_iff_eq, bne_iff_ne, Int.not_lt, Int.not_le, ne_eq] at hc94
                      refine Sx.st_take hT rfl rfl rfl rfl (Sx.x_move hT rfl rfl) ?_
                      clear hT; intro a hT
                      refine Sx.st_held hT rfl rfl rfl rfl hH (fun w' h' => Sx.y_loadS hT rfl Tryd.underlying23 Tryd.ti23 rfl ((Hu.heldB 1 rfl h' Sx.off_No).seg (k := 3) rfl) (by rfl)) ?_
                      clear hT; intro a hT
                      refine Sx.st_callkeep hT rfl rfl rfl rfl rfl Tryd.can29 rfl (Last_calls (H.blk 0 rfl)) ?_
                      rintro _ w86 ⟨rfl, E⟩
                      refine ⟨_, rfl, hH.step E, ?_⟩
                      replace hH := hH.step E
                      clear hT; intro a hT
                      replace H := H.pure E; clear E
                      refine Sx.st_take hT rfl rfl rfl rfl (Sx.x_eqS hT rfl (by kernel_rfl) (Tryd.eq23 _ _ _ _ _ _) rfl rfl rfl) ?_
                      clear hT; intro a hT
                      refine Sx.st_take hT rfl rfl rfl rfl (Sx.x_pick_t hT rfl rfl rfl) ?_
                      clear hT; intro a hT
                      refine Sx.st_take hT rfl rfl rfl rfl (Sx.x_move hT rfl rfl) ?_
                      clear hT; intro a hT
                      -- guard (22, 12)
                      refine Sx.Sl.two hT 137 rfl (fun hc95 hT => ?_) (fun hc95 hT => ?_)
                      · try simp only [decide_eq_true_eq, decide_eq_false_iff_not, Bool.not_eq_true', Bool.not_eq_false', Bool.not_eq_true, Bool.not_eq_false, Bool.and_eq_true, Bool.or_eq_false_iff, beq_iff_eq, bne_iff_ne, Int.not_lt, Int.not_le, ne_eq] at hc95
                        refine Sx.st_take hT rfl rfl rfl rfl (Sx.x_move hT rfl rfl) ?_
                        clear hT; intro a hT
                        refine Sx.st_take hT rfl rfl rfl rfl ((fun w => Sx.x_eq w hT rfl rfl rfl)) ?_
                        clear hT; intro a hT
                        refine Sx.st_held hT rfl rfl rfl rfl hH (fun w' h' => Sx.y_loadS hT rfl Tryd.underlying23 Tryd.ti23 rfl ((Hu.heldB 5 rfl h' Sx.off_No).seg (k := 3) rfl) (by rfl)) ?_
                        clear hT; intro a hT
                        refine Sx.st_callkeep hT rfl rfl rfl rfl rfl Tryd.can13 rfl (May_calls _ _ _ _) ?_
                        rintro _ w87 ⟨rfl, E⟩
                        refine ⟨_, rfl, hH.step E, ?_⟩
                        replace hH := hH.step E
                        clear hT; intro a hT
                        replace H := H.pure E; clear E
                        refine Sx.st_take hT rfl rfl rfl rfl (Sx.x_eqb hT rfl Tryd.underlying4 rfl rfl) ?_
                        clear hT; intro a hT
                        refine Sx.st_take hT rfl rfl rfl rfl (Sx.x_pick_t hT rfl rfl rfl) ?_
                        clear hT; intro a hT
                        refine Sx.st_take hT rfl rfl rfl rfl (Sx.x_move hT rfl rfl) ?_
                        clear hT; intro a hT
                        -- guard (22, 19)
                        refine Sx.Sl.two hT 144 rfl (fun hc96 hT => ?_) (fun hc96 hT => ?_)
                        · try simp only [decide_eq_true_eq, decide_eq_false_iff_not, Bool.not_eq_true', Bool.not_eq_false', Bool.not_eq_true, Bool.not_eq_false, Bool.and_eq_true, Bool.or_eq_false_iff, beq_iff_eq, bne_iff_ne, Int.not_lt, Int.not_le, ne_eq] at hc96
                          refine Sx.st_take hT rfl rfl rfl rfl (Sx.x_fieldAddr hT rfl Tryd.fa23_2 rfl) ?_
                          clear hT; intro a hT
                          refine Sx.st_held hT rfl rfl rfl rfl hH (fun w' h' => Sx.x_load1 hT rfl Tryd.fl3 rfl ((Hu.heldB 1 rfl h' Sx.off_No).nth rfl)) ?_
                          clear hT; intro a hT
                          refine Sx.st_take hT rfl rfl rfl rfl (Sx.x_move hT rfl rfl) ?_
                          clear hT; intro a hT
                          refine Sx.st_take hT rfl rfl rfl rfl ((fun w => Sx.x_eq w hT rfl rfl rfl)) ?_
                          clear hT; intro a hT
                          refine Sx.st_take hT rfl rfl rfl rfl (Sx.x_pick_t hT rfl rfl rfl) ?_
                          clear hT; intro a hT
                          refine Sx.st_take hT rfl rfl rfl rfl (Sx.x_assign hT rfl rfl) ?_
                          clear hT; intro a hT
                          replace hT := hT.keep [10, 21, 20, 19, 116, 18, 17, 82, 16, 15, 14, 48, 13, 35, 12, 11, 23, 9, 6, 0, 1, 2, 3, 4] rfl
                          clear Hu hH
                          refine Sx.ser_calm ?_
                          refine Sx.then_normal (hK93 _ _ ?_)
                          clear hK93
                          refine wp_ret ?_
                          refine Sx.done1 (fn := Tryd.f6) hT rfl (.tmp (hT.get 10 _ rfl)) ?_
                          exact ⟨ret_b (by simp [obs_node, hnd]), H.ext⟩
                        · exfalso
                          try simp only [decide_eq_true_eq, decide_eq_false_iff_not, Bool.not_eq_true', Bool.not_eq_false', Bool.not_eq_true, Bool.not_eq_false, Bool.and_eq_true, Bool.or_eq_false_iff, beq_iff_eq, bne_iff_ne, Int.not_lt, Int.not_le, ne_eq] at hc96
                          revert hc96; cases may ⟨p, q, r⟩ <;> simp
                      · exfalso
                        try simp only [decide_eq_true_eq, decide_eq_false_iff_not, Bool.not_eq_true', Bool.not_eq_false', Bool.not_eq_true, Bool.not_eq_false, Bool.and_eq_true, Bool.or_eq_false_iff, beq_iff_eq, bne_iff_ne, Int.not_lt, Int.not_le, ne_eq] at hc95
                        first | (simp at hc95; done) | omega | (simp at hc95; omega) | (simp_all; done)
                    · exfalso
                      try simp only [decide_eq_true_eq, decide_eq_false_iff_not, Bool.not_eq_true', Bool.not_eq_false', Bool.not_eq_true, Bool.not_eq_false, Bool.and_eq_true, Bool.or_eq_false_iff, beq_iff_eq, bne_iff_ne, Int.not_lt, Int.not_le, ne_eq] at hc94
                      first | (simp at hc94; done) | omega | (simp at hc94; omega) | (simp_all; done)
    · try simp only [decide_eq_true_eq, decide_eq_false_iff_not, Bool.not_eq_true', Bool.not_eq_false', Bool.not_eq_true, Bool.not_eq_false, Bool.and_eq_true, Bool.or_eq_false_iff, beq_iff_eq, bne_iff_ne, Int.not_lt, Int.not_le, ne_eq] at hc12
      refine Sx.st_skip hT rfl rfl rfl rfl ?_
      clear hT; intro a hT
      refine Sx.st_skip hT rfl rfl rfl rfl ?_
      clear hT; intro a hT
      refine Sx.st_take hT rfl rfl rfl rfl (Sx.x_pick_f hT rfl rfl rfl) ?_
      clear hT; intro a hT
      replace hT := hT.keep [48, 13, 35, 12, 11, 23, 10, 9, 6, 0, 1, 2, 3, 4] rfl
      refine Sx.ser_nil ?_
      refine Sx.then_normal (hK11 _ _ ?_)
      clear hK11
      refine Sx.wp_if hT rfl (fun h => by cases h) (fun _ => ?_)
      refine wp_exit ?_
      refine Sx.then_exit ?_
      refine Sx.then_exit ?_
      refine Sx.block_exit ?_
      refine Sx.then_normal (hK8 _ _ ?_)
      clear hK8
      refine wp_seq_k fun K97 hK97 => ?_
      -- region 12 (extra.go:24)
      refine Sx.wp_text [(0, .take), (1, .run), (2, .run), (3, .run)] rfl ?_
      refine Sx.st_take hT rfl rfl rfl rfl (Sx.x_move hT rfl rfl) ?_
      clear hT; intro a hT
      refine Sx.st_call hT rfl rfl rfl rfl rfl Tryd.can29 rfl (Last_calls (H.blk 0 rfl)) ?_
      rintro _ w88 ⟨rfl, E⟩
      refine ⟨_, rfl, ?_⟩
      clear hT; intro a hT
      replace H := H.pure E; clear E
      refine Sx.st_eff hT rfl rfl rfl rfl (Sx.y_alloc hT rfl Tryd.ti23 rfl _) ?_
      clear hT; rintro _ w89 ⟨b14, rfl, N⟩ a hT
      replace H := H.new N; clear N
      refine Sx.st_act hT rfl rfl rfl (Sx.y_storeS hT rfl Tryd.ti23 rfl rfl rfl rfl rfl (H.blk 0 rfl) rfl) ?_
      rintro w90 ⟨hb, E, _⟩
      replace H := H.setB 0 rfl hb E rfl; clear hb E
      replace hT := hT.keep [14, 48, 13, 35, 12, 11, 23, 10, 9, 6, 0, 1, 2, 3, 4] rfl
      refine Sx.ser_nil ?_
      refine Sx.then_normal (hK97 _ _ ?_)
      clear hK97
      refine wp_seq_k fun K98 hK98 => ?_
      -- region 13 (extra.go:25)
      refine Sx.wp_text [(0, .take), (1, .take), (2, .run), (3, .take), (4, .take), (5, .take), (6, .run), (7, .run), (8, .take)] rfl ?_
      refine Sx.st_take hT rfl rfl rfl rfl (Sx.x_move hT rfl rfl) ?_
      clear hT; intro a hT
      refine Sx.st_take hT rfl rfl rfl rfl (Sx.x_move hT rfl rfl) ?_
      clear hT; intro a hT
      refine Sx.st_call hT rfl rfl rfl rfl rfl Tryd.can25 rfl (Peek_calls (H.blk 1 rfl) hg _) ?_
      rintro _ w91 ⟨rfl, E⟩
      refine ⟨_, rfl, ?_⟩
      clear hT; intro a hT
      replace H := H.pure E; clear E
      refine Sx.st_take hT rfl rfl rfl rfl (Sx.x_move hT rfl rfl) ?_
      clear hT; intro a hT
      refine Sx.st_take hT rfl rfl rfl rfl (Sx.x_extractL hT rfl rfl rfl) ?_
      clear hT; intro a hT
      refine Sx.st_take hT rfl rfl rfl rfl (Sx.x_extractL hT rfl rfl rfl) ?_
      clear hT; intro a hT
      refine Sx.st_eff hT rfl rfl rfl rfl (Sx.y_alloc hT rfl Tryd.ti23 rfl _) ?_
      clear hT; rintro _ w92 ⟨b15, rfl, N⟩ a hT
      replace H := H.new N; clear N
      refine Sx.st_act hT rfl rfl rfl (Sx.y_storeS hT rfl Tryd.ti23 rfl rfl rfl rfl rfl (H.blk 0 rfl) rfl) ?_
      rintro w93 ⟨hb, E, _⟩
      replace H := H.setB 0 rfl hb E rfl; clear hb E
      refine Sx.st_take hT rfl rfl rfl rfl (Sx.x_assign hT rfl rfl) ?_
      clear hT; intro a hT
      replace hT := hT.keep [16, 15, 14, 48, 13, 35, 12, 11, 23, 10, 9, 6, 0, 1, 2, 3, 4] rfl
      refine Sx.ser_nil ?_
      refine Sx.then_normal (hK98 _ _ ?_)
      clear hK98
      refine wp_seq_k fun K99 hK99 => ?_
      refine wp_seq_k fun K100 hK100 => ?_
      -- region 14 (extra.go:26)
      refine Sx.wp_draws (fun u => Sx.Ext (Sx.No) u) [(0, .take), (2, .held), (1, .keep), (3, .take)] (by kernel_rfl) (by kernel_rfl) (fun u E _ => ?_)
      replace H := H.pure E; clear E
      have hH : Sx.Ext (Sx.No) u u := Sx.Ext.refl _ _
      have Hu := H
      refine Sx.st_take hT rfl rfl rfl rfl (Sx.x_move hT rfl rfl) ?_
      clear hT; intro a hT
      refine Sx.st_held hT rfl rfl rfl rfl hH (fun w' h' => Sx.y_loadS hT rfl Tryd.underlying23 Tryd.ti23 rfl ((Hu.heldB 1 rfl h' Sx.off_No).seg (k := 3) rfl) (by rfl)) ?_
      clear hT; intro a hT
      refine Sx.st_callkeep hT rfl rfl rfl rfl rfl Tryd.can29 rfl (Last_calls (H.blk 2 rfl)) ?_
      rintro _ w94 ⟨rfl, E⟩
      refine ⟨_, rfl, hH.step E, ?_⟩
      replace hH := hH.step E
      clear hT; intro a hT
      replace H := H.pure E; clear E
      refine Sx.st_take hT rfl rfl rfl rfl (Sx.x_neS hT rfl (by kernel_rfl) (Tryd.eq23 _ _ _ _ _ _) rfl rfl rfl) ?_
      clear hT; intro a hT
      replace hT := hT.keep [82, 16, 15, 14, 48, 13, 35, 12, 11, 23, 10, 9, 6, 0, 1, 2, 3, 4] rfl
      clear Hu hH
      refine Sx.ser_calm ?_
      refine Sx.then_normal (hK100 _ _ ?_)
      clear hK100
      -- cond 4
      refine Sx.wp_if hT rfl (fun hc101 => ?_) (fun hc101 => ?_)
      · exfalso
        try simp only [decide_eq_true_eq, decide_eq_false_iff_not, Bool.not_eq_true', Bool.not_eq_false', Bool.not_eq_true, Bool.not_eq_false, Bool.and_eq_true, Bool.or_eq_false_iff, beq_iff_eq, bne_iff_ne, Int.not_lt, Int.not_le, ne_eq] at hc101
        first | (simp at hc101; done) | omega | (simp at hc101; omega) | (simp_all; done)
      · try simp only [decide_eq_true_eq, decide_eq_false_iff_not, Bool.not_eq_true', Bool.not_eq_false', Bool.not_eq_true, Bool.not_eq_false, Bool.and_eq_true, Bool.or_eq_false_iff, beq_iff_eq, bne_iff_ne, Int.not_lt, Int.not_le, ne_eq] at hc101
        refine wp_skip ?_
        refine Sx.then_normal (hK99 _ _ ?_)
        clear hK99
        refine wp_seq_k fun K102 hK102 => ?_
        -- region 16 (extra.go:29)
        refine Sx.wp_text [(0, .take), (1, .take), (2, .run), (3, .take), (4, .take), (5, .take), (6, .run), (7, .run), (8, .take)] rfl ?_
        refine Sx.st_take hT rfl rfl rfl rfl (Sx.x_move hT rfl rfl) ?_
        clear hT; intro a hT
        refine Sx.st_take hT rfl rfl rfl rfl (Sx.x_move hT rfl rfl) ?_
        clear hT; intro a hT
        refine Sx.st_call hT rfl rfl rfl rfl rfl Tryd.can23 rfl (Now_calls (H.pre [2] rfl rfl) hg _) ?_
        rintro _ w95 ⟨rfl, K⟩
        refine ⟨_, rfl, ?_⟩
        clear hT; intro a hT
        replace H := H.back [2] [0, 1, 3, 4] rfl rfl rfl K rfl; clear K
        refine Sx.st_take hT rfl rfl rfl rfl (Sx.x_move hT rfl rfl) ?_
        clear hT; intro a hT
        refine Sx.st_take hT rfl rfl rfl rfl (Sx.x_extractL hT rfl rfl rfl) ?_
        clear hT; intro a hT
        refine Sx.st_take hT rfl rfl rfl rfl (Sx.x_extractL hT rfl rfl rfl) ?_
        clear hT; intro a hT
        refine Sx.st_eff hT rfl rfl rfl rfl (Sx.y_alloc hT rfl Tryd.ti23 rfl _) ?_
        clear hT; rintro _ w96 ⟨b16, rfl, N⟩ a hT
        replace H := H.new N; clear N
        refine Sx.st_act hT rfl rfl rfl (Sx.y_storeS hT rfl Tryd.ti23 rfl rfl rfl rfl rfl (H.blk 0 rfl) rfl) ?_
        rintro w97 ⟨hb, E, _⟩
        replace H := H.setB 0 rfl hb E rfl; clear hb E
        refine Sx.st_take hT rfl rfl rfl rfl (Sx.x_assign hT rfl rfl) ?_
        clear hT; intro a hT
        replace hT := hT.keep [18, 17, 82, 16, 15, 14, 48, 13, 35, 12, 11, 23, 10, 9, 6, 0, 1, 2, 3, 4] rfl
        refine Sx.ser_nil ?_
        refine Sx.then_normal (hK102 _ _ ?_)
        clear hK102
        refine wp_seq_k fun K103 hK103 => ?_
        refine wp_seq_k fun K104 hK104 => ?_
        by_cases hp : (peek s phys).2 = 0
        · skip
          rw [now_ok s phys hp] at H
          -- region 17 (extra.go:30)
          refine Sx.wp_draws (fun u => Sx.Ext (Sx.No) u) [(0, .held), (1, .held), (2, .take), (3, .take), (4, .take), (5, .take), (6, .take), (7, .take), (8, .take), (9, .take), (10, .take), (11, .take), (12, .take), (14, .held), (13, .keep), (15, .take), (16, .take), (17, .take), (18, .take), (19, .take), (20, .take), (21, .take), (22, .take), (24, .held), (23, .keep), (25, .take), (26, .take), (27, .take)] (by kernel_rfl) (by kernel_rfl) (fun u E _ => ?_)
          replace H := H.pure E; clear E
          have hH : Sx.Ext (Sx.No) u u := Sx.Ext.refl _ _
          have Hu := H
          refine Sx.st_held hT rfl rfl rfl rfl hH (fun w' h' => Sx.y_loadS hT rfl Tryd.underlying23 Tryd.ti23 rfl ((Hu.heldB 2 rfl h' Sx.off_No).seg (k := 3) rfl) (by rfl)) ?_
          clear hT; intro a hT
          refine Sx.st_held hT rfl rfl rfl rfl hH (fun w' h' => Sx.y_loadS hT rfl Tryd.underlying23 Tryd.ti23 rfl ((Hu.heldB 0 rfl h' Sx.off_No).seg (k := 3) rfl) (by rfl)) ?_
          clear hT; intro a hT
          refine Sx.st_take hT rfl rfl rfl rfl (Sx.x_neS hT rfl (by kernel_rfl) (Tryd.eq23 _ _ _ _ _ _) rfl rfl rfl) ?_
          clear hT; intro a hT
          refine Sx.st_take hT rfl rfl rfl rfl (Sx.x_move hT rfl rfl) ?_
          clear hT; intro a hT
          -- guard (17, 3)
          refine Sx.Sl.two hT 92 rfl (fun hc105 hT => ?_) (fun hc105 hT => ?_)
          · exfalso
            try simp only [decide_eq_true_eq, decide_eq_false_iff_not, Bool.not_eq_true', Bool.not_eq_false', Bool.not_eq_true, Bool.not_eq_false, Bool.and_eq_true, Bool.or_eq_false_iff, beq_iff_eq, bne_iff_ne, Int.not_lt, Int.not_le, ne_eq] at hc105
            first | (simp at hc105; done) | omega | (simp at hc105; omega) | (simp_all; done)
          · try simp only [decide_eq_true_eq, decide_eq_false_iff_not, Bool.not_eq_true', Bool.not_eq_false', Bool.not_eq_true, Bool.not_eq_false, Bool.and_eq_true, Bool.or_eq_false_iff, beq_iff_eq, bne_iff_ne, Int.not_lt, Int.not_le, ne_eq] at hc105
            refine Sx.st_take hT rfl rfl rfl rfl (Sx.x_move hT rfl rfl) ?_
            clear hT; intro a hT
            refine Sx.st_take hT rfl rfl rfl rfl (Sx.x_move hT rfl rfl) ?_
            clear hT; intro a hT
            refine Sx.st_take hT rfl rfl rfl rfl ((fun w => Sx.x_ne w hT rfl rfl rfl)) ?_
            clear hT; intro a hT
            refine Sx.st_take hT rfl rfl rfl rfl (Sx.x_pick_f hT rfl rfl rfl) ?_
            clear hT; intro a hT
            refine Sx.st_take hT rfl rfl rfl rfl (Sx.x_move hT rfl rfl) ?_
            clear hT; intro a hT
            -- guard (17, 8)
            refine Sx.Sl.two hT 97 rfl (fun hc106 hT => ?_) (fun hc106 hT => ?_)
            · exfalso
              try simp only [decide_eq_true_eq, decide_eq_false_iff_not, Bool.not_eq_true', Bool.not_eq_false', Bool.not_eq_true, Bool.not_eq_false, Bool.and_eq_true, Bool.or_eq_false_iff, beq_iff_eq, bne_iff_ne, Int.not_lt, Int.not_le, ne_eq] at hc106
              first | (simp at hc106; done) | omega | (simp at hc106; omega) | (simp_all; done)
            · try simp only [decide_eq_true_eq, decide_eq_false_iff_not, Bool.not_eq_true', Bool.not_eq_false', Bool.not_eq_true, Bool.not_eq_false, Bool.and_eq_true, Bool.or_eq_false_iff, beq_iff_eq, bne_iff_ne, Int.not_lt, Int.not_le, ne_eq] at hc106
              refine Sx.st_take hT rfl rfl rfl rfl (Sx.x_move hT rfl rfl) ?_
              clear hT; intro a hT
              refine Sx.st_take hT rfl rfl rfl rfl ((fun w => Sx.x_ne w hT rfl rfl rfl)) ?_
              clear hT; intro a hT
              refine Sx.st_take hT rfl rfl rfl rfl (Sx.x_move hT rfl rfl) ?_
              clear hT; intro a hT
              -- guard (17, 11)
              refine Sx.Sl.two hT 100 rfl (fun hc107 hT => ?_) (fun hc107 hT => ?_)
              · try simp only [decide_eq_true_eq, decide_eq_false_iff_not, Bool.not_eq_true', Bool.not_eq_false', Bool.not_eq_true, Bool.not_eq_false, Bool.and_eq_true, Bool.or_eq_false_iff, beq_iff_eq, bne_iff_ne, Int.not_lt, Int.not_le, ne_eq] at hc107
                refine Sx.st_take hT rfl rfl rfl rfl (Sx.x_move hT rfl rfl) ?_
                clear hT; intro a hT
                refine Sx.st_held hT rfl rfl rfl rfl hH (fun w' h' => Sx.y_loadS hT rfl Tryd.underlying23 Tryd.ti23 rfl ((Hu.heldB 3 rfl h' Sx.off_No).seg (k := 3) rfl) (by rfl)) ?_
                clear hT; intro a hT
                refine Sx.st_callkeep hT rfl rfl rfl rfl rfl Tryd.can29 rfl (Last_calls (H.blk 1 rfl)) ?_
                rintro _ w98 ⟨rfl, E⟩
                refine ⟨_, rfl, hH.step E, ?_⟩
                replace hH := hH.step E
                clear hT; intro a hT
                replace H := H.pure E; clear E
                refine Sx.st_take hT rfl rfl rfl rfl (Sx.x_neS hT rfl (by kernel_rfl) (Tryd.eq23 _ _ _ _ _ _) rfl rfl rfl) ?_
                clear hT; intro a hT
                refine Sx.st_take hT rfl rfl rfl rfl (Sx.x_pick_t hT rfl rfl rfl) ?_
                clear hT; intro a hT
                refine Sx.st_take hT rfl rfl rfl rfl (Sx.x_pick_f hT rfl rfl rfl) ?_
                clear hT; intro a hT
                refine Sx.st_take hT rfl rfl rfl rfl (Sx.x_move hT rfl rfl) ?_
                clear hT; intro a hT
                -- guard (17, 18)
                refine Sx.Sl.two hT 107 rfl (fun hc108 hT => ?_) (fun hc108 hT => ?_)
                · exfalso
                  try simp only [decide_eq_true_eq, decide_eq_false_iff_not, Bool.not_eq_true', Bool.not_eq_false', Bool.not_eq_true, Bool.not_eq_false, Bool.and_eq_true, Bool.or_eq_false_iff, beq_iff_eq, bne_iff_ne, Int.not_lt, Int.not_le, ne_eq] at hc108
                  first | (simp at hc108; done) | omega | (simp at hc108; omega) | (simp_all; done)
                · try simp only [decide_eq_true_eq, decide_eq_false_iff_not, Bool.not_eq_true', Bool.not_eq_false', Bool.not_eq_true, Bool.not_eq_false, Bool.and_eq_true, Bool.or_eq_false_iff, beq_iff_eq, bne_iff_ne, Int.not_lt, Int.not_le, ne_eq] at hc108
                  refine Sx.st_take hT rfl rfl rfl rfl (Sx.x_move hT rfl rfl) ?_
                  clear hT; intro a hT
                  refine Sx.st_take hT rfl rfl rfl rfl ((fun w => Sx.x_eq w hT rfl rfl rfl)) ?_
                  clear hT; intro a hT
                  refine Sx.st_take hT rfl rfl rfl rfl (Sx.x_move hT rfl rfl) ?_
                  clear hT; intro a hT
                  -- guard (17, 21)
                  refine Sx.Sl.two hT 110 rfl (fun hc109 hT => ?_) (fun hc109 hT => ?_)
                  · try simp only [decide_eq_true_eq, decide_eq_false_iff_not, Bool.not_eq_true', Bool.not_eq_false', Bool.not_eq_true, Bool.not_eq_false, Bool.and_eq_true, Bool.or_eq_false_iff, beq_iff_eq, bne_iff_ne, Int.not_lt, Int.not_le, ne_eq] at hc109
                    refine Sx.st_take hT rfl rfl rfl rfl (Sx.x_move hT rfl rfl) ?_
                    clear hT; intro a hT
                    refine Sx.st_held hT rfl rfl rfl rfl hH (fun w' h' => Sx.y_loadS hT rfl Tryd.underlying23 Tryd.ti23 rfl ((Hu.heldB 2 rfl h' Sx.off_No).seg (k := 3) rfl) (by rfl)) ?_
                    clear hT; intro a hT
                    refine Sx.st_callkeep hT rfl rfl rfl rfl rfl Tryd.can29 rfl (Last_calls (H.blk 1 rfl)) ?_
                    rintro _ w99 ⟨rfl, E⟩
                    refine ⟨_, rfl, hH.step E, ?_⟩
                    replace hH := hH.step E
                    clear hT; intro a hT
                    replace H := H.pure E; clear E
                    refine Sx.st_take hT rfl rfl rfl rfl (Sx.x_neS hT rfl (by kernel_rfl) (Tryd.eq23 _ _ _ _ _ _) rfl rfl rfl) ?_
                    clear hT; intro a hT
                    refine Sx.st_take hT rfl rfl rfl rfl (Sx.x_pick_t hT rfl rfl rfl) ?_
                    clear hT; intro a hT
                    refine Sx.st_take hT rfl rfl rfl rfl (Sx.x_pick_f hT rfl rfl rfl) ?_
                    clear hT; intro a hT
                    replace hT := hT.keep [116, 18, 17, 82, 16, 15, 14, 48, 13, 35, 12, 11, 23, 10, 9, 6, 0, 1, 2, 3, 4] rfl
                    clear Hu hH
                    refine Sx.ser_calm ?_
                    refine Sx.then_normal (hK104 _ _ ?_)
                    clear hK104
                    -- cond 5
                    refine Sx.wp_if hT rfl (fun hc110 => ?_) (fun hc110 => ?_)
                    · exfalso
                      try simp only [decide_eq_true_eq, decide_eq_false_iff_not, Bool.not_eq_true', Bool.not_eq_false', Bool.not_eq_true, Bool.not_eq_false, Bool.and_eq_true, Bool.or_eq_false_iff, beq_iff_eq, bne_iff_ne, Int.not_lt, Int.not_le, ne_eq] at hc110
                      first | (simp at hc110; done) | omega | (simp at hc110; omega) | (simp_all; done)
                    · try simp only [decide_eq_true_eq, decide_eq_false_iff_not, Bool.not_eq_true', Bool.not_eq_false', Bool.not_eq_true, Bool.not_eq_false, Bool.and_eq_true, Bool.or_eq_false_iff, beq_iff_eq, bne_iff_ne, Int.not_lt, Int.not_le, ne_eq] at hc110
                      refine wp_skip ?_
                      refine Sx.then_normal (hK103 _ _ ?_)
                      clear hK103
                      refine wp_seq_k fun K111 hK111 => ?_
                      -- region 19 (extra.go:33)
                      refine Sx.wp_text [(0, .take), (1, .run), (2, .run), (3, .take)] rfl ?_
                      refine Sx.st_take hT rfl rfl rfl rfl (Sx.x_move hT rfl rfl) ?_
                      clear hT; intro a hT
                      refine Sx.st_run hT rfl rfl rfl rfl (Sx.y_loadS hT rfl Tryd.underlying23 Tryd.ti23 rfl ((H.blk 4 rfl).seg (k := 3) rfl) (by rfl)) ?_
                      clear hT; intro a hT
                      refine Sx.st_call hT rfl rfl rfl rfl rfl Tryd.can27 rfl (Obs_calls (H.pre [1] rfl rfl) _ _ _) ?_
                      rintro _ w100 ⟨rfl, K⟩
                      refine ⟨_, rfl, ?_⟩
                      clear hT; intro a hT
                      replace H := H.back [1] [0, 2, 3, 4, 5] rfl rfl rfl K rfl; clear K
                      refine Sx.st_take hT rfl rfl rfl rfl (Sx.x_assign hT rfl rfl) ?_
                      clear hT; intro a hT
                      replace hT := hT.keep [19, 116, 18, 17, 82, 16, 15, 14, 48, 13, 35, 12, 11, 23, 10, 9, 6, 0, 1, 2, 3, 4] rfl
                      refine Sx.ser_nil ?_
                      refine Sx.then_normal (hK111 _ _ ?_)
                      clear hK111
                      refine wp_seq_k fun K112 hK112 => ?_
                      -- region 20 (extra.go:34)
                      refine Sx.wp_text [(0, .take), (1, .run), (2, .run), (3, .run)] rfl ?_
                      refine Sx.st_take hT rfl rfl rfl rfl (Sx.x_move hT rfl rfl) ?_
                      clear hT; intro a hT
                      refine Sx.st_call hT rfl rfl rfl rfl rfl Tryd.can29 rfl (Last_calls (H.blk 0 rfl)) ?_
                      rintro _ w101 ⟨rfl, E⟩
                      refine ⟨_, rfl, ?_⟩
                      clear hT; intro a hT
                      replace H := H.pure E; clear E
                      refine Sx.st_eff hT rfl rfl rfl rfl (Sx.y_alloc hT rfl Tryd.ti23 rfl _) ?_
                      clear hT; rintro _ w102 ⟨b17, rfl, N⟩ a hT
                      replace H := H.new N; clear N
                      refine Sx.st_act hT rfl rfl rfl (Sx.y_storeS hT rfl Tryd.ti23 rfl rfl rfl rfl rfl (H.blk 0 rfl) rfl) ?_
                      rintro w103 ⟨hb, E, _⟩
                      replace H := H.setB 0 rfl hb E rfl; clear hb E
                      replace hT := hT.keep [20, 19, 116, 18, 17, 82, 16, 15, 14, 48, 13, 35, 12, 11, 23, 10, 9, 6, 0, 1, 2, 3, 4] rfl
                      refine Sx.ser_nil ?_
                      refine Sx.then_normal (hK112 _ _ ?_)
                      clear hK112
                      refine wp_seq_k fun K113 hK113 => ?_
                      -- region 21 (extra.go:35)
                      refine Sx.wp_text [(0, .take), (1, .run), (2, .run), (3, .take)] rfl ?_
                      refine Sx.st_take hT rfl rfl rfl rfl (Sx.x_move hT rfl rfl) ?_
                      clear hT; intro a hT
                      refine Sx.st_run hT rfl rfl rfl rfl (Sx.y_loadS hT rfl Tryd.underlying23 Tryd.ti23 rfl ((H.blk 5 rfl).seg (k := 3) rfl) (by rfl)) ?_
                      clear hT; intro a hT
                      refine Sx.st_call hT rfl rfl rfl rfl rfl Tryd.can27 rfl (Obs_calls (H.pre [1] rfl rfl) _ _ _) ?_
                      rintro _ w104 ⟨rfl, K⟩
                      refine ⟨_, rfl, ?_⟩
                      clear hT; intro a hT
                      replace H := H.back [1] [0, 2, 3, 4, 5, 6] rfl rfl rfl K rfl; clear K
                      refine Sx.st_take hT rfl rfl rfl rfl (Sx.x_assign hT rfl rfl) ?_
                      clear hT; intro a hT
                      replace hT := hT.keep [21, 20, 19, 116, 18, 17, 82, 16, 15, 14, 48, 13, 35, 12, 11, 23, 10, 9, 6, 0, 1, 2, 3, 4] rfl
                      refine Sx.ser_nil ?_
                      refine Sx.then_normal (hK113 _ _ ?_)
                      clear hK113
                      refine wp_seq_k fun K114 hK114 => ?_
                      -- region 22 (extra.go:36)
                      rw [obs_twice] at H
                      refine Sx.wp_draws (fun u => Sx.Ext (Sx.No) u) [(0, .keep), (1, .take), (2, .take), (3, .take), (4, .take), (5, .take), (6, .take), (7, .take), (9, .held), (8, .keep), (10, .take), (11, .take), (12, .take), (13, .take), (14, .take), (15, .held), (16, .keep), (17, .take), (18, .take), (19, .take), (20, .take), (21, .held), (22, .take), (23, .take), (24, .take), (25, .take)] (by kernel_rfl) (by kernel_rfl) (fun u E _ => ?_)
                      replace H := H.pure E; clear E
                      have hH : Sx.Ext (Sx.No) u u := Sx.Ext.refl _ _
                      have Hu := H
                      refine Sx.st_callkeep hT rfl rfl rfl rfl rfl Tryd.can10 rfl (first_calls _) ?_
                      rintro _ w105 ⟨rfl, E⟩
                      refine ⟨_, rfl, hH.step E, ?_⟩
                      replace hH := hH.step E
                      clear hT; intro a hT
                      replace H := H.pure E; clear E
                      refine Sx.st_take hT rfl rfl rfl rfl (Sx.x_move hT rfl rfl) ?_
                      clear hT; intro a hT
                      refine Sx.st_take hT rfl rfl rfl rfl (Sx.x_move hT rfl rfl) ?_
                      clear hT; intro a hT
                      refine Sx.st_take hT rfl rfl rfl rfl (Sx.x_move hT rfl rfl) ?_
                      clear hT; intro a hT
                      refine Sx.st_take hT rfl rfl rfl rfl ((fun w => Sx.x_eq w hT rfl rfl rfl)) ?_
                      clear hT; intro a hT
                      refine Sx.st_take hT rfl rfl rfl rfl (Sx.x_pick_t hT rfl rfl rfl) ?_
                      clear hT; intro a hT
                      refine Sx.st_take hT rfl rfl rfl rfl (Sx.x_move hT rfl rfl) ?_
                      clear hT; intro a hT
                      -- guard (22, 6)
                      refine Sx.Sl.two hT 131 rfl (fun hc115 hT => ?_) (fun hc115 hT => ?_)
                      · try simp only [decide_eq_true_eq, decide_eq_false_iff_not, Bool.not_eq_true', Bool.not_eq_false', Bool.not_eq_true, Bool.not_eq_false, Bool.and_eq_true, Bool.or_eq_false_iff, beq_iff_eq, bne_iff_ne, Int.not_lt, Int.not_le, ne_eq] at hc115
                        refine Sx.st_take hT rfl rfl rfl rfl (Sx.x_move hT rfl rfl) ?_
                        clear hT; intro a hT
                        refine Sx.st_held hT rfl rfl rfl rfl hH (fun w' h' => Sx.y_loadS hT rfl Tryd.underlying23 Tryd.ti23 rfl ((Hu.heldB 1 rfl h' Sx.off_No).seg (k := 3) rfl) (by rfl)) ?_
                        clear hT; intro a hT
                        refine Sx.st_callkeep hT rfl rfl rfl rfl rfl Tryd.can29 rfl (Last_calls (H.blk 0 rfl)) ?_
                        rintro _ w106 ⟨rfl, E⟩
                        refine ⟨_, rfl, hH.step E, ?_⟩
                        replace hH := hH.step E
                        clear hT; intro a hT
                        replace H := H.pure E; clear E
                        refine Sx.st_take hT rfl rfl rfl rfl (Sx.x_eqS hT rfl (by kernel_rfl) (Tryd.eq23 _ _ _ _ _ _) rfl rfl rfl) ?_
                        clear hT; intro a hT
                        refine Sx.st_take hT rfl rfl rfl rfl (Sx.x_pick_t hT rfl rfl rfl) ?_
                        clear hT; intro a hT
                        refine Sx.st_take hT rfl rfl rfl rfl (Sx.x_move hT rfl rfl) ?_
                        clear hT; intro a hT
                        -- guard (22, 12)
                        refine Sx.Sl.two hT 137 rfl (fun hc116 hT => ?_) (fun hc116 hT => ?_)
                        · try simp only [decide_eq_true_eq, decide_eq_false_iff_not, Bool.not_eq_true', Bool.not_eq_false', Bool.not_eq_true, Bool.not_eq_false, Bool.and_eq_true, Bool.or_eq_false_iff, beq_iff_eq, bne_iff_ne, Int.not_lt, Int.not_le, ne_eq] at hc116
                          refine Sx.st_take hT rfl rfl rfl rfl (Sx.x_move hT rfl rfl) ?_
                          clear hT; intro a hT
                          refine Sx.st_take hT rfl rfl rfl rfl ((fun w => Sx.x_eq w hT rfl rfl rfl)) ?_
                          clear hT; intro a hT
                          refine Sx.st_held hT rfl rfl rfl rfl hH (fun w' h' => Sx.y_loadS hT rfl Tryd.underlying23 Tryd.ti23 rfl ((Hu.heldB 5 rfl h' Sx.off_No).seg (k := 3) rfl) (by rfl)) ?_
                          clear hT; intro a hT
                          refine Sx.st_callkeep hT rfl rfl rfl rfl rfl Tryd.can13 rfl (May_calls _ _ _ _) ?_
                          rintro _ w107 ⟨rfl, E⟩
                          refine ⟨_, rfl, hH.step E, ?_⟩
                          replace hH := hH.step E
                          clear hT; intro a hT
                          replace H := H.pure E; clear E
                          refine Sx.st_take hT rfl rfl rfl rfl (Sx.x_eqb hT rfl Tryd.underlying4 rfl rfl) ?_
                          clear hT; intro a hT
                          refine Sx.st_take hT rfl rfl rfl rfl (Sx.x_pick_t hT rfl rfl rfl) ?_
                          clear hT; intro a hT
                          refine Sx.st_take hT rfl rfl rfl rfl (Sx.x_move hT rfl rfl) ?_
                          clear hT; intro a hT
                          -- guard (22, 19)
                          refine Sx.Sl.two hT 144 rfl (fun hc117 hT => ?_) (fun hc117 hT => ?_)
                          · try simp only [decide_eq_true_eq, decide_eq_false_iff_not, Bool.not_eq_true', Bool.not_eq_false', Bool.not_eq_true, Bool.not_eq_false, Bool.and_eq_true, Bool.or_eq_false_iff, beq_iff_eq, bne_iff_ne, Int.not_lt, Int.not_le, ne_eq] at hc117
                            refine Sx.st_take hT rfl rfl rfl rfl (Sx.x_fieldAddr hT rfl Tryd.fa23_2 rfl) ?_
                            clear hT; intro a hT
                            refine Sx.st_held hT rfl rfl rfl rfl hH (fun w' h' => Sx.x_load1 hT rfl Tryd.fl3 rfl ((Hu.heldB 1 rfl h' Sx.off_No).nth rfl)) ?_
                            clear hT; intro a hT
                            refine Sx.st_take hT rfl rfl rfl rfl (Sx.x_move hT rfl rfl) ?_
                            clear hT; intro a hT
                            refine Sx.st_take hT rfl rfl rfl rfl ((fun w => Sx.x_eq w hT rfl rfl rfl)) ?_
                            clear hT; intro a hT
                            refine Sx.st_take hT rfl rfl rfl rfl (Sx.x_pick_t hT rfl rfl rfl) ?_
                            clear hT; intro a hT
                            refine Sx.st_take hT rfl rfl rfl rfl (Sx.x_assign hT rfl rfl) ?_
                            clear hT; intro a hT
                            replace hT := hT.keep [10, 21, 20, 19, 116, 18, 17, 82, 16, 15, 14, 48, 13, 35, 12, 11, 23, 9, 6, 0, 1, 2, 3, 4] rfl
                            clear Hu hH
                            refine Sx.ser_calm ?_
                            refine Sx.then_normal (hK114 _ _ ?_)
                            clear hK114
                            refine wp_ret ?_
                            refine Sx.done1 (fn := Tryd.f6) hT rfl (.tmp (hT.get 10 _ rfl)) ?_
                            exact ⟨ret_b (by simp [obs_node, peek_node _ _ hp, hnd]), H.ext⟩
                          · exfalso
                            try simp only [decide_eq_true_eq, decide_eq_false_iff_not, Bool.not_eq_true', Bool.not_eq_false', Bool.not_eq_true, Bool.not_eq_false, Bool.and_eq_true, Bool.or_eq_false_iff, beq_iff_eq, bne_iff_ne, Int.not_lt, Int.not_le, ne_eq] at hc117
                            revert hc117; cases may ⟨p, q, r⟩ <;> simp
                        · exfalso
                          try simp only [decide_eq_true_eq, decide_eq_false_iff_not, Bool.not_eq_true', Bool.not_eq_false', Bool.not_eq_true, Bool.not_eq_false, Bool.and_eq_true, Bool.or_eq_false_iff, beq_iff_eq, bne_iff_ne, Int.not_lt, Int.not_le, ne_eq] at hc116
                          first | (simp at hc116; done) | omega | (simp at hc116; omega) | (simp_all; done)
                      · exfalso
                        try simp only [decide_eq_true_eq, decide_eq_false_iff_not, Bool.not_eq_true', Bool.not_eq_false', Bool.not_eq_true, Bool.not_eq_false, Bool.and_eq_true, Bool.or_eq_false_iff, beq_iff_eq, bne_iff_ne, Int.not_lt, Int.not_le, ne_eq] at hc115
                        first | (simp at hc115; done) | omega | (simp at hc115; omega) | (simp_all; done)
                  · try simp only [decide_eq_true_eq, decide_eq_false_iff_not, Bool.not_eq_true', Bool.not_eq_false', Bool.not_eq_true, Bool.not_eq_false, Bool.and_eq_true, Bool.or_eq_false_iff, beq_iff_eq, bne_iff_ne, Int.not_lt, Int.not_le, ne_eq] at hc109
                    refine Sx.st_skip hT rfl rfl rfl rfl ?_
                    clear hT; intro a hT
                    refine Sx.st_heldskip hT rfl rfl rfl rfl hH ?_
                    clear hT; intro a hT
                    refine Sx.st_keepskip hT rfl rfl rfl rfl hH ?_
                    clear hT; intro a hT
                    refine Sx.st_skip hT rfl rfl rfl rfl ?_
                    clear hT; intro a hT
                    refine Sx.st_take hT rfl rfl rfl rfl (Sx.x_pick_f hT rfl rfl rfl) ?_
                    clear hT; intro a hT
                    refine Sx.st_take hT rfl rfl rfl rfl (Sx.x_pick_f hT rfl rfl rfl) ?_
                    clear hT; intro a hT
                    replace hT := hT.keep [116, 18, 17, 82, 16, 15, 14, 48, 13, 35, 12, 11, 23, 10, 9, 6, 0, 1, 2, 3, 4] rfl
                    clear Hu hH
                    refine Sx.ser_calm ?_
                    refine Sx.then_normal (hK104 _ _ ?_)
                    clear hK104
                    refine Sx.wp_if hT rfl (fun h => by cases h) (fun _ => ?_)
                    refine wp_skip ?_
                    refine Sx.then_normal (hK103 _ _ ?_)
                    clear hK103
                    refine wp_seq_k fun K118 hK118 => ?_
                    -- region 19 (extra.go:33)
                    refine Sx.wp_text [(0, .take), (1, .run), (2, .run), (3, .take)] rfl ?_
                    refine Sx.st_take hT rfl rfl rfl rfl (Sx.x_move hT rfl rfl) ?_
                    clear hT; intro a hT
                    refine Sx.st_run hT rfl rfl rfl rfl (Sx.y_loadS hT rfl Tryd.underlying23 Tryd.ti23 rfl ((H.blk 4 rfl).seg (k := 3) rfl) (by rfl)) ?_
                    clear hT; intro a hT
                    refine Sx.st_call hT rfl rfl rfl rfl rfl Tryd.can27 rfl (Obs_calls (H.pre [1] rfl rfl) _ _ _) ?_
                    rintro _ w108 ⟨rfl, K⟩
                    refine ⟨_, rfl, ?_⟩
                    clear hT; intro a hT
                    replace H := H.back [1] [0, 2, 3, 4, 5] rfl rfl rfl K rfl; clear K
                    refine Sx.st_take hT rfl rfl rfl rfl (Sx.x_assign hT rfl rfl) ?_
                    clear hT; intro a hT
                    replace hT := hT.keep [19, 116, 18, 17, 82, 16, 15, 14, 48, 13, 35, 12, 11, 23, 10, 9, 6, 0, 1, 2, 3, 4] rfl
                    refine Sx.ser_nil ?_
                    refine Sx.then_normal (hK118 _ _ ?_)
                    clear hK118
                    refine wp_seq_k fun K119 hK119 => ?_
                    -- region 20 (extra.go:34)
                    refine Sx.wp_text [(0, .take), (1, .run), (2, .run), (3, .run)] rfl ?_
                    refine Sx.st_take hT rfl rfl rfl rfl (Sx.x_move hT rfl rfl) ?_
                    clear hT; intro a hT
                    refine Sx.st_call hT rfl rfl rfl rfl rfl Tryd.can29 rfl (Last_calls (H.blk 0 rfl)) ?_
                    rintro _ w109 ⟨rfl, E⟩
                    refine ⟨_, rfl, ?_⟩
                    clear hT; intro a hT
                    replace H := H.pure E; clear E
                    refine Sx.st_eff hT rfl rfl rfl rfl (Sx.y_alloc hT rfl Tryd.ti23 rfl _) ?_
                    clear hT; rintro _ w110 ⟨b18, rfl, N⟩ a hT
                    replace H := H.new N; clear N
                    refine Sx.st_act hT rfl rfl rfl (Sx.y_storeS hT rfl Tryd.ti23 rfl rfl rfl rfl rfl (H.blk 0 rfl) rfl) ?_
                    rintro w111 ⟨hb, E, _⟩
                    replace H := H.setB 0 rfl hb E rfl; clear hb E
                    replace hT := hT.keep [20, 19, 116, 18, 17, 82, 16, 15, 14, 48, 13, 35, 12, 11, 23, 10, 9, 6, 0, 1, 2, 3, 4] rfl
                    refine Sx.ser_nil ?_
                    refine Sx.then_normal (hK119 _ _ ?_)
                    clear hK119
                    refine wp_seq_k fun K120 hK120 => ?_
                    -- region 21 (extra.go:35)
                    refine Sx.wp_text [(0, .take), (1, .run), (2, .run), (3, .take)] rfl ?_
                    refine Sx.st_take hT rfl rfl rfl rfl (Sx.x_move hT rfl rfl) ?_
                    clear hT; intro a hT
                    refine Sx.st_run hT rfl rfl rfl rfl (Sx.y_loadS hT rfl Tryd.underlying23 Tryd.ti23 rfl ((H.blk 5 rfl).seg (k := 3) rfl) (by rfl)) ?_
                    clear hT; intro a hT
                    refine Sx.st_call hT rfl rfl rfl rfl rfl Tryd.can27 rfl (Obs_calls (H.pre [1] rfl rfl) _ _ _) ?_
                    rintro _ w112 ⟨rfl, K⟩
                    refine ⟨_, rfl, ?_⟩
                    clear hT; intro a hT
                    replace H := H.back [1] [0, 2, 3, 4, 5, 6] rfl rfl rfl K rfl; clear K
                    refine Sx.st_take hT rfl rfl rfl rfl (Sx.x_assign hT rfl rfl) ?_
                    clear hT; intro a hT
                    replace hT := hT.keep [21, 20, 19, 116, 18, 17, 82, 16, 15, 14, 48, 13, 35, 12, 11, 23, 10, 9, 6, 0, 1, 2, 3, 4] rfl
                    refine Sx.ser_nil ?_
                    refine Sx.then_normal (hK120 _ _ ?_)
                    clear hK120
                    refine wp_seq_k fun K121 hK121 => ?_
                    -- region 22 (extra.go:36)
                    rw [obs_twice] at H
                    refine Sx.wp_draws (fun u => Sx.Ext (Sx.No) u) [(0, .keep), (1, .take), (2, .take), (3, .take), (4, .take), (5, .take), (6, .take), (7, .take), (9, .held), (8, .keep), (10, .take), (11, .take), (12, .take), (13, .take), (14, .take), (15, .held), (16, .keep), (17, .take), (18, .take), (19, .take), (20, .take), (21, .held), (22, .take), (23, .take), (24, .take), (25, .take)] (by kernel_rfl) (by kernel_rfl) (fun u E _ => ?_)
                    replace H := H.pure E; clear E
                    have hH : Sx.Ext (Sx.No) u u := Sx.Ext.refl _ _
                    have Hu := H
                    refine Sx.st_callkeep hT rfl rfl rfl rfl rfl Tryd.can10 rfl (first_calls _) ?_
                    rintro _ w113 ⟨rfl, E⟩
                    refine ⟨_, rfl, hH.step E, ?_⟩
                    replace hH := hH.step E
                    clear hT; intro a hT
                    replace H := H.pure E; clear E
                    refine Sx.st_take hT rfl rfl rfl rfl (Sx.x_move hT rfl rfl) ?_
                    clear hT; intro a hT
                    refine Sx.st_take hT rfl rfl rfl rfl (Sx.x_move hT rfl rfl) ?_
                    clear hT; intro a hT
                    refine Sx.st_take hT rfl rfl rfl rfl (Sx.x_move hT rfl rfl) ?_
                    clear hT; intro a hT
                    refine Sx.st_take hT rfl rfl rfl rfl ((fun w => Sx.x_eq w hT rfl rfl rfl)) ?_
                    clear hT; intro a hT
                    refine Sx.st_take hT rfl rfl rfl rfl (Sx.x_pick_t hT rfl rfl rfl) ?_
                    clear hT; intro a hT
                    refine Sx.st_take hT rfl rfl rfl rfl (Sx.x_move hT rfl rfl) ?_
                    clear hT; intro a hT
                    -- guard (22, 6)
                    refine Sx.Sl.two hT 131 rfl (fun hc122 hT => ?_) (fun hc122 hT => ?_)
                    · try simp only [decide_eq_true_eq, decide_eq_false_iff_not, Bool.not_eq_true', Bool.not_eq_false', Bool.not_eq_true, Bool.not_eq_false, Bool.and_eq_true, Bool.or_eq_false_iff, beq_iff_eq, bne_iff_ne, Int.not_lt, Int.not_le, ne_eq] at hc122
                      refine Sx.st_take hT rfl rfl rfl rfl (Sx.x_move hT rfl rfl) ?_
                      clear hT; intro a hT
                      refine Sx.st_held hT rfl rfl rfl rfl hH (fun w' h' => Sx.y_loadS hT rfl Tryd.underlying23 Tryd.ti23 rfl ((Hu.heldB 1 rfl h' Sx.off_No).seg (k := 3) rfl) (by rfl)) ?_
                      clear hT; intro a hT
                      refine Sx.st_callkeep hT rfl rfl rfl rfl rfl Tryd.can29 rfl (Last_calls (H.blk 0 rfl)) ?_
                      rintro _ w114 ⟨rfl, E⟩
                      refine ⟨_, rfl, hH.step E, ?_⟩
                      replace hH := hH.step E
                      clear hT; intro a hT
                      replace H := H.pure E; clear E
                      refine Sx.st_take hT rfl rfl rfl rfl (Sx.x_eqS hT rfl (by kernel_rfl) (Tryd.eq23 _ _ _ _ _ _) rfl rfl rfl) ?_
                      clear hT; intro a hT
                      refine Sx.st_take hT rfl rfl rfl rfl (Sx.x_pick_t hT rfl rfl rfl) ?_
                      clear hT; intro a hT
                      refine Sx.st_take hT rfl rfl rfl rfl (Sx.x_move hT rfl rfl) ?_
                      clear hT; intro a hT
                      -- guard (22, 12)
                      refine Sx.Sl.two hT 137 rfl (fun hc123 hT => ?_) (fun hc123 hT => ?_)
                      · try simp only [decide_eq_true_eq, decide_eq_false_iff_not, Bool.not_eq_true', Bool.not_eq_false', Bool.not_eq_true, Bool.not_eq_false, Bool.and_eq_true, Bool.or_eq_false_iff, beq_iff_eq, bne_iff_ne, Int.not_lt, Int.not_le, ne_eq] at hc123
                        refine Sx.st_take hT rfl rfl rfl rfl (Sx.x_move hT rfl rfl) ?_
                        clear hT; intro a hT
                        refine Sx.st_take hT rfl rfl rfl rfl ((fun w => Sx.x_eq w hT rfl rfl rfl)) ?_
                        clear hT; intro a hT
                        refine Sx.st_held hT rfl rfl rfl rfl hH (fun w' h' => Sx.y_loadS hT rfl Tryd.underlying23 Tryd.ti23 rfl ((Hu.heldB 5 rfl h' Sx.off_No).seg (k := 3) rfl) (by rfl)) ?_
                        clear hT; intro a hT
                        refine Sx.st_callkeep hT rfl rfl rfl rfl rfl Tryd.can13 rfl (May_calls _ _ _ _) ?_
                        rintro _ w115 ⟨rfl, E⟩
                        refine ⟨_, rfl, hH.step E, ?_⟩
                        replace hH := hH.step E
                        clear hT; intro a hT
                        replace H := H.pure E; clear E
                        refine Sx.st_take hT rfl rfl rfl rfl (Sx.x_eqb hT rfl Tryd.underlying4 rfl rfl) ?_
                        clear hT; intro a hT
                        refine Sx.st_take hT rfl rfl rfl rfl (Sx.x_pick_t hT rfl rfl rfl) ?_
                        clear hT; intro a hT
                        refine Sx.st_take hT rfl rfl rfl rfl (Sx.x_move hT rfl rfl) ?_
                        clear hT; intro a hT
                        -- guard (22, 19)
                        refine Sx.Sl.two hT 144 rfl (fun hc124 hT => ?_) (fun hc124 hT => ?_)
                        · try simp only [decide_eq_true_eq, decide_eq_false_iff_not, Bool.not_eq_true', Bool.not_eq_false', Bool.not_eq_true, Bool.not_eq_false, Bool.and_eq_true, Bool.or_eq_false_iff, beq_iff_eq, bne_iff_ne, Int.not_lt, Int.not_le, ne_eq] at hc124
                          refine Sx.st_take hT rfl rfl rfl rfl (Sx.x_fieldAddr hT rfl Tryd.fa23_2 rfl) ?_
                          clear hT; intro a hT
                          refine Sx.st_held hT rfl rfl rfl rfl hH (fun w' h' => Sx.x_load1 hT rfl Tryd.fl3 rfl ((Hu.heldB 1 rfl h' Sx.off_No).nth rfl)) ?_
                          clear hT; intro a hT
                          refine Sx.st_take hT rfl rfl rfl rfl (Sx.x_move hT rfl rfl) ?_
                          clear hT; intro a hT
                          refine Sx.st_take hT rfl rfl rfl rfl ((fun w => Sx.x_eq w hT rfl rfl rfl)) ?_
                          clear hT; intro a hT
                          refine Sx.st_take hT rfl rfl rfl rfl (Sx.x_pick_t hT rfl rfl rfl) ?_
                          clear hT; intro a hT
                          refine Sx.st_take hT rfl rfl rfl rfl (Sx.x_assign hT rfl rfl) ?_
                          clear hT; intro a hT
                          replace hT := hT.keep [10, 21, 20, 19, 116, 18, 17, 82, 16, 15, 14, 48, 13, 35, 12, 11, 23, 9, 6, 0, 1, 2, 3, 4] rfl
                          clear Hu hH
                          refine Sx.ser_calm ?_
                          refine Sx.then_normal (hK121 _ _ ?_)
                          clear hK121
                          refine wp_ret ?_
                          refine Sx.done1 (fn := Tryd.f6) hT rfl (.tmp (hT.get 10 _ rfl)) ?_
                          exact ⟨ret_b (by simp [obs_node, peek_node _ _ hp, hnd]), H.ext⟩
                        · exfalso
                          try simp only [decide_eq_true_eq, decide_eq_false_iff_not, Bool.not_eq_true', Bool.not_eq_false', Bool.not_eq_true, Bool.not_eq_false, Bool.and_eq_true, Bool.or_eq_false_iff, beq_iff_eq, bne_iff_ne, Int.not_lt, Int.not_le, ne_eq] at hc124
                          revert hc124; cases may ⟨p, q, r⟩ <;> simp
                      · exfalso
                        try simp only [decide_eq_true_eq, decide_eq_false_iff_not, Bool.not_eq_true', Bool.not_eq_false', Bool.not_eq_true, Bool.not_eq_false, Bool.and_eq_true, Bool.or_eq_false_iff, beq_iff_eq, bne_iff_ne, Int.not_lt, Int.not_le, ne_eq] at hc123
                        first | (simp at hc123; done) | omega | (simp at hc123; omega) | (simp_all; done)
                    · exfalso
                      try simp only [decide_eq_true_eq, decide_eq_false_iff_not, Bool.not_eq_true', Bool.not_eq_false', Bool.not_eq_true, Bool.not_eq_false, Bool.and_eq_true, Bool.or_eq_false_iff, beq_iff_eq, bne_iff_ne, Int.not_lt, Int.not_le, ne_eq] at hc122
                      first | (simp at hc122; done) | omega | (simp at hc122; omega) | (simp_all; done)
              · try simp only [decide_eq_true_eq, decide_eq_false_iff_not, Bool.not_eq_true', Bool.not_eq_false', Bool.not_eq_true, Bool.not_eq_false, Bool.and_eq_true, Bool.or_eq_false_iff, beq_iff_eq, bne_iff_ne, Int.not_lt, Int.not_le, ne_eq] at hc107
                refine Sx.st_skip hT rfl rfl rfl rfl ?_
                clear hT; intro a hT
                refine Sx.st_heldskip hT rfl rfl rfl rfl hH ?_
                clear hT; intro a hT
                refine Sx.st_keepskip hT rfl rfl rfl rfl hH ?_
                clear hT; intro a hT
                refine Sx.st_skip hT rfl rfl rfl rfl ?_
                clear hT; intro a hT
                refine Sx.st_take hT rfl rfl rfl rfl (Sx.x_pick_f hT rfl rfl rfl) ?_
                clear hT; intro a hT
                refine Sx.st_take hT rfl rfl rfl rfl (Sx.x_pick_f hT rfl rfl rfl) ?_
                clear hT; intro a hT
                refine Sx.st_take hT rfl rfl rfl rfl (Sx.x_move hT rfl rfl) ?_
                clear hT; intro a hT
                refine Sx.st_take hT rfl rfl rfl rfl (Sx.x_move hT rfl rfl) ?_
                clear hT; intro a hT
                refine Sx.st_take hT rfl rfl rfl rfl ((fun w => Sx.x_eq w hT rfl rfl rfl)) ?_
                clear hT; intro a hT
                refine Sx.st_take hT rfl rfl rfl rfl (Sx.x_move hT rfl rfl) ?_
                clear hT; intro a hT
                -- guard (17, 21)
                refine Sx.Sl.two hT 110 rfl (fun hc125 hT => ?_) (fun hc125 hT => ?_)
                · try simp only [decide_eq_true_eq, decide_eq_false_iff_not, Bool.not_eq_true', Bool.not_eq_false', Bool.not_eq_true, Bool.not_eq_false, Bool.and_eq_true, Bool.or_eq_false_iff, beq_iff_eq, bne_iff_ne, Int.not_lt, Int.not_le, ne_eq] at hc125
                  refine Sx.st_take hT rfl rfl rfl rfl (Sx.x_move hT rfl rfl) ?_
                  clear hT; intro a hT
                  refine Sx.st_held hT rfl rfl rfl rfl hH (fun w' h' => Sx.y_loadS hT rfl Tryd.underlying23 Tryd.ti23 rfl ((Hu.heldB 2 rfl h' Sx.off_No).seg (k := 3) rfl) (by rfl)) ?_
                  clear hT; intro a hT
                  refine Sx.st_callkeep hT rfl rfl rfl rfl rfl Tryd.can29 rfl (Last_calls (H.blk 1 rfl)) ?_
                  rintro _ w116 ⟨rfl, E⟩
                  refine ⟨_, rfl, hH.step E, ?_⟩
                  replace hH := hH.step E
                  clear hT; intro a hT
                  replace H := H.pure E; clear E
                  refine Sx.st_take hT rfl rfl rfl rfl (Sx.x_neS hT rfl (by kernel_rfl) (Tryd.eq23 _ _ _ _ _ _) rfl rfl rfl) ?_
                  clear hT; intro a hT
                  refine Sx.st_take hT rfl rfl rfl rfl (Sx.x_pick_t hT rfl rfl rfl) ?_
                  clear hT; intro a hT
                  refine Sx.st_take hT rfl rfl rfl rfl (Sx.x_pick_f hT rfl rfl rfl) ?_
                  clear hT; intro a hT
                  replace hT := hT.keep [116, 18, 17, 82, 16, 15, 14, 48, 13, 35, 12, 11, 23, 10, 9, 6, 0, 1, 2, 3, 4] rfl
                  clear Hu hH
                  refine Sx.ser_calm ?_
                  refine Sx.then_normal (hK104 _ _ ?_)
                  clear hK104
                  -- cond 5
                  refine Sx.wp_if hT rfl (fun hc126 => ?_) (fun hc126 => ?_)
                  · exfalso
                    try simp only [decide_eq_true_eq, decide_eq_false_iff_not, Bool.not_eq_true', Bool.not_eq_false', Bool.not_eq_true, Bool.not_eq_false, Bool.and_eq_true, Bool.or_eq_false_iff, beq_iff_eq, bne_iff_ne, Int.not_lt, Int.not_le, ne_eq] at hc126
                    first | (simp at hc126; done) | omega | (simp at hc126; omega) | (simp_all; done)
                  · try simp only [decide_eq_true_eq, decide_eq_false_iff_not, Bool.not_eq_true', Bool.not_eq_false', Bool.not_eq_true, Bool.not_eq_false, Bool.and_eq_true, Bool.or_eq_false_iff, beq_iff_eq, bne_iff_ne, Int.not_lt, Int.not_le, ne_eq] at hc126
                    refine wp_skip ?_
                    refine Sx.then_normal (hK103 _ _ ?_)
                    clear hK103
                    refine wp_seq_k fun K127 hK127 => ?_
                    -- region 19 (extra.go:33)
                    refine Sx.wp_text [(0, .take), (1, .run), (2, .run), (3, .take)] rfl ?_
                    refine Sx.st_take hT rfl rfl rfl rfl (Sx.x_move hT rfl rfl) ?_
                    clear hT; intro a hT
                    refine Sx.st_run hT rfl rfl rfl rfl (Sx.y_loadS hT rfl Tryd.underlying23 Tryd.ti23 rfl ((H.blk 4 rfl).seg (k := 3) rfl) (by rfl)) ?_
                    clear hT; intro a hT
                    refine Sx.st_call hT rfl rfl rfl rfl rfl Tryd.can27 rfl (Obs_calls (H.pre [1] rfl rfl) _ _ _) ?_
                    rintro _ w117 ⟨rfl, K⟩
                    refine ⟨_, rfl, ?_⟩
                    clear hT; intro a hT
                    replace H := H.back [1] [0, 2, 3, 4, 5] rfl rfl rfl K rfl; clear K
                    refine Sx.st_take hT rfl rfl rfl rfl (Sx.x_assign hT rfl rfl) ?_
                    clear hT; intro a hT
                    replace hT := hT.keep [19, 116, 18, 17, 82, 16, 15, 14, 48, 13, 35, 12, 11, 23, 10, 9, 6, 0, 1, 2, 3, 4] rfl
                    refine Sx.ser_nil ?_
                    refine Sx.then_normal (hK127 _ _ ?_)
                    clear hK127
                    refine wp_seq_k fun K128 hK128 => ?_
                    -- region 20 (extra.go:34)
                    refine Sx.wp_text [(0, .take), (1, .run), (2, .run), (3, .run)] rfl ?_
                    refine Sx.st_take hT rfl rfl rfl rfl (Sx.x_move hT rfl rfl) ?_
                    clear hT; intro a hT
                    refine Sx.st_call hT rfl rfl rfl rfl rfl Tryd.can29 rfl (Last_calls (H.blk 0 rfl)) ?_
                    rintro _ w118 ⟨rfl, E⟩
                    refine ⟨_, rfl, ?_⟩
                    clear hT; intro a hT
                    replace H := H.pure E; clear E
                    refine Sx.st_eff hT rfl rfl rfl rfl (Sx.y_alloc hT rfl Tryd.ti23 rfl _) ?_
                    clear hT; rintro _ w119 ⟨b19, rfl, N⟩ a hT
                    replace H := H.new N; clear N
                    refine Sx.st_act hT rfl rfl rfl (Sx.y_storeS hT rfl Tryd.ti23 rfl rfl rfl rfl rfl (H.blk 0 rfl) rfl) ?_
                    rintro w120 ⟨hb, E, _⟩
                    replace H := H.setB 0 rfl hb E rfl; clear hb E
                    replace hT := hT.keep [20, 19, 116, 18, 17, 82, 16, 15, 14, 48, 13, 35, 12, 11, 23, 10, 9, 6, 0, 1, 2, 3, 4] rfl
                    refine Sx.ser_nil ?_
                    refine Sx.then_normal (hK128 _ _ ?_)
                    clear hK128
                    refine wp_seq_k fun K129 hK129 => ?_
                    -- region 21 (extra.go:35)
                    refine Sx.wp_text [(0, .take), (1, .run), (2, .run), (3, .take)] rfl ?_
                    refine Sx.st_take hT rfl rfl rfl rfl (Sx.x_move hT rfl rfl) ?_
                    clear hT; intro a hT
                    refine Sx.st_run hT rfl rfl rfl rfl (Sx.y_loadS hT rfl Tryd.underlying23 Tryd.ti23 rfl ((H.blk 5 rfl).seg (k := 3) rfl) (by rfl)) ?_
                    clear hT; intro a hT
                    refine Sx.st_call hT rfl rfl rfl rfl rfl Tryd.can27 rfl (Obs_calls (H.pre [1] rfl rfl) _ _ _) ?_
                    rintro _ w121 ⟨rfl, K⟩
                    refine ⟨_, rfl, ?_⟩
                    clear hT; intro a hT
                    replace H := H.back [1] [0, 2, 3, 4, 5, 6] rfl rfl rfl K rfl; clear K
                    refine Sx.st_take hT rfl rfl rfl rfl (Sx.x_assign hT rfl rfl) ?_
                    clear hT; intro a hT
                    replace hT := hT.keep [21, 20, 19, 116, 18, 17, 82, 16, 15, 14, 48, 13, 35, 12, 11, 23, 10, 9, 6, 0, 1, 2, 3, 4] rfl
                    refine Sx.ser_nil ?_
                    refine Sx.then_normal (hK129 _ _ ?_)
                    clear hK129
                    refine wp_seq_k fun K130 hK130 => ?_
                    -- region 22 (extra.go:36)
                    rw [obs_twice] at H
                    refine Sx.wp_draws (fun u => Sx.Ext (Sx.No) u) [(0, .keep), (1, .take), (2, .take), (3, .take), (4, .take), (5, .take), (6, .take), (7, .take), (9, .held), (8, .keep), (10, .take), (11, .take), (12, .take), (13, .take), (14, .take), (15, .held), (16, .keep), (17, .take), (18, .take), (19, .take), (20, .take), (21, .held), (22, .take), (23, .take), (24, .take), (25, .take)] (by kernel_rfl) (by kernel_rfl) (fun u E _ => ?_)
                    replace H := H.pure E; clear E
                    have hH : Sx.Ext (Sx.No) u u := Sx.Ext.refl _ _
                    have Hu := H
                    refine Sx.st_callkeep hT rfl rfl rfl rfl rfl Tryd.can10 rfl (first_calls _) ?_
                    rintro _ w122 ⟨rfl, E⟩
                    refine ⟨_, rfl, hH.step E, ?_⟩
                    replace hH := hH.step E
                    clear hT; intro a hT
                    replace H := H.pure E; clear E
                    refine Sx.st_take hT rfl rfl rfl rfl (Sx.x_move hT rfl rfl) ?_
                    clear hT; intro a hT
                    refine Sx.st_take hT rfl rfl rfl rfl (Sx.x_move hT rfl rfl) ?_
                    clear hT; intro a hT
                    refine Sx.st_take hT rfl rfl rfl rfl (Sx.x_move hT rfl rfl) ?_
                    clear hT; intro a hT
                    refine Sx.st_take hT rfl rfl rfl rfl ((fun w => Sx.x_eq w hT rfl rfl rfl)) ?_
                    clear hT; intro a hT
                    refine Sx.st_take hT rfl rfl rfl rfl (Sx.x_pick_t hT rfl rfl rfl) ?_
                    clear hT; intro a hT
                    refine Sx.st_take hT rfl rfl rfl rfl (Sx.x_move hT rfl rfl) ?_
                    clear hT; intro a hT
                    -- guard (22, 6)
                    refine Sx.Sl.two hT 131 rfl (fun hc131 hT => ?_) (fun hc131 hT => ?_)
                    · try simp only [decide_eq_true_eq, decide_eq_false_iff_not, Bool.not_eq_true', Bool.not_eq_false', Bool.not_eq_true, Bool.not_eq_false, Bool.and_eq_true, Bool.or_eq_false_iff, beq_iff_eq, bne_iff_ne, Int.not_lt, Int.not_le, ne_eq] at hc131
                      refine Sx.st_take hT rfl rfl rfl rfl (Sx.x_move hT rfl rfl) ?_
                      clear hT; intro a hT
                      refine Sx.st_held hT rfl rfl rfl rfl hH (fun w' h' => Sx.y_loadS hT rfl Tryd.underlying23 Tryd.ti23 rfl ((Hu.heldB 1 rfl h' Sx.off_No).seg (k := 3) rfl) (by rfl)) ?_
                      clear hT; intro a hT
                      refine Sx.st_callkeep hT rfl rfl rfl rfl rfl Tryd.can29 rfl (Last_calls (H.blk 0 rfl)) ?_
                      rintro _ w123 ⟨rfl, E⟩
                      refine ⟨_, rfl, hH.step E, ?_⟩
                      replace hH := hH.step E
                      clear hT; intro a hT
                      replace H := H.pure E; clear E
                      refine Sx.st_take hT rfl rfl rfl rfl (Sx.x_eqS hT rfl (by kernel_rfl) (Tryd.eq23 _ _ _ _ _ _) rfl rfl rfl) ?_
                      clear hT; intro a hT
                      refine Sx.st_take hT rfl rfl rfl rfl (Sx.x_pick_t hT rfl rfl rfl) ?_
                      clear hT; intro a hT
                      refine Sx.st_take hT rfl rfl rfl rfl (Sx.x_move hT rfl rfl) ?_
                      clear hT; intro a hT
                      -- guard (22, 12)
                      refine Sx.Sl.two hT 137 rfl (fun hc132 hT => ?_) (fun hc132 hT => ?_)
                      · try simp only [decide_eq_true_eq, decide_eq_false_iff_not, Bool.not_eq_true', Bool.not_eq_false', Bool.not_eq_true, Bool.not_eq_false, Bool.and_eq_true, Bool.or_eq_false_iff, beq_iff_eq, bne_iff_ne, Int.not_lt, Int.not_le, ne_eq] at hc132
                        refine Sx.st_take hT rfl rfl rfl rfl (Sx.x_move hT rfl rfl) ?_
                        clear hT; intro a hT
                        refine Sx.st_take hT rfl rfl rfl rfl ((fun w => Sx.x_eq w hT rfl rfl rfl)) ?_
                        clear hT; intro a hT
                        refine Sx.st_held hT rfl rfl rfl rfl hH (fun w' h' => Sx.y_loadS hT rfl Tryd.underlying23 Tryd.ti23 rfl ((Hu.heldB 5 rfl h' Sx.off_No).seg (k := 3) rfl) (by rfl)) ?_
                        clear hT; intro a hT
                        refine Sx.st_callkeep hT rfl rfl rfl rfl rfl Tryd.can13 rfl (May_calls _ _ _ _) ?_
                        rintro _ w124 ⟨rfl, E⟩
                        refine ⟨_, rfl, hH.step E, ?_⟩
                        replace hH := hH.step E
                        clear hT; intro a hT
                        replace H := H.pure E; clear E
                        refine Sx.st_take hT rfl rfl rfl rfl (Sx.x_eqb hT rfl Tryd.underlying4 rfl rfl) ?_
                        clear hT; intro a hT
                        refine Sx.st_take hT rfl rfl rfl rfl (Sx.x_pick_t hT rfl rfl rfl) ?_
                        clear hT; intro a hT
                        refine Sx.st_take hT rfl rfl rfl rfl (Sx.x_move hT rfl rfl) ?_
                        clear hT; intro a hT
                        -- guard (22, 19)
                        refine Sx.Sl.two hT 144 rfl (fun hc133 hT => ?_) (fun hc133 hT => ?_)
                        · try simp only [decide_eq_true_eq, decide_eq_false_iff_not, Bool.not_eq_true', Bool.not_eq_false', Bool.not_eq_true, Bool.not_eq_false, Bool.and_eq_true, Bool.or_eq_false_iff, beq_iff_eq, bne_iff_ne, Int.not_lt, Int.not_le, ne_eq] at hc133
                          refine Sx.st_take hT rfl rfl rfl rfl (Sx.x_fieldAddr hT rfl Tryd.fa23_2 rfl) ?_
                          clear hT; intro a hT
                          refine Sx.st_held hT rfl rfl rfl rfl hH (fun w' h' => Sx.x_load1 hT rfl Tryd.fl3 rfl ((Hu.heldB 1 rfl h' Sx.off_No).nth rfl)) ?_
                          clear hT; intro a hT
                          refine Sx.st_take hT rfl rfl rfl rfl (Sx.x_move hT rfl rfl) ?_
                          clear hT; intro a hT
                          refine Sx.st_take hT rfl rfl rfl rfl ((fun w => Sx.x_eq w hT rfl rfl rfl)) ?_
                          clear hT; intro a hT
                          refine Sx.st_take hT rfl rfl rfl rfl (Sx.x_pick_t hT rfl rfl rfl) ?_
                          clear hT; intro a hT
                          refine Sx.st_take hT rfl rfl rfl rfl (Sx.x_assign hT rfl rfl) ?_
                          clear hT; intro a hT
                          replace hT := hT.keep [10, 21, 20, 19, 116, 18, 17, 82, 16, 15, 14, 48, 13, 35, 12, 11, 23, 9, 6, 0, 1, 2, 3, 4] rfl
                          clear Hu hH
                          refine Sx.ser_calm ?_
                          refine Sx.then_normal (hK130 _ _ ?_)
                          clear hK130
                          refine wp_ret ?_
                          refine Sx.done1 (fn := Tryd.f6) hT rfl (.tmp (hT.get 10 _ rfl)) ?_
                          exact ⟨ret_b (by simp [obs_node, peek_node _ _ hp, hnd]), H.ext⟩
                        · exfalso
                          try simp only [decide_eq_true_eq, decide_eq_false_iff_not, Bool.not_eq_true', Bool.not_eq_false', Bool.not_eq_true, Bool.not_eq_false, Bool.and_eq_true, Bool.or_eq_false_iff, beq_iff_eq, bne_iff_ne, Int.not_lt, Int.not_le, ne_eq] at hc133
                          revert hc133; cases may ⟨p, q, r⟩ <;> simp
                      · exfalso
                        try simp only [decide_eq_true_eq, decide_eq_false_iff_not, Bool.not_eq_true', Bool.not_eq_false', Bool.not_eq_true, Bool.not_eq_false, Bool.and_eq_true, Bool.or_eq_false_iff, beq_iff_eq, bne_iff_ne, Int.not_lt, Int.not_le, ne_eq] at hc132
                        first | (simp at hc132; done) | omega | (simp at hc132; omega) | (simp_all; done)
                    · exfalso
                      try simp only [decide_eq_true_eq, decide_eq_false_iff_not, Bool.not_eq_true', Bool.not_eq_false', Bool.not_eq_true, Bool.not_eq_false, Bool.and_eq_true, Bool.or_eq_false_iff, beq_iff_eq, bne_iff_ne, Int.not_lt, Int.not_le, ne_eq] at hc131
                      first | (simp at hc131; done) | omega | (simp at hc131; omega) | (simp_all; done)
                · try simp only [decide_eq_true_eq, decide_eq_false_iff_not, Bool.not_eq_true', Bool.not_eq_false', Bool.not_eq_true, Bool.not_eq_false, Bool.and_eq_true, Bool.or_eq_false_iff, beq_iff_eq, bne_iff_ne, Int.not_lt, Int.not_le, ne_eq] at hc125
                  refine Sx.st_skip hT rfl rfl rfl rfl ?_
                  clear hT; intro a hT
                  refine Sx.st_heldskip hT rfl rfl rfl rfl hH ?_
                  clear hT; intro a hT
                  refine Sx.st_keepskip hT rfl rfl rfl rfl hH ?_
                  clear hT; intro a hT
                  refine Sx.st_skip hT rfl rfl rfl rfl ?_
                  clear hT; intro a hT
                  refine Sx.st_take hT rfl rfl rfl rfl (Sx.x_pick_f hT rfl rfl rfl) ?_
                  clear hT; intro a hT
                  refine Sx.st_take hT rfl rfl rfl rfl (Sx.x_pick_f hT rfl rfl rfl) ?_
                  clear hT; intro a hT
                  replace hT := hT.keep [116, 18, 17, 82, 16, 15, 14, 48, 13, 35, 12, 11, 23, 10, 9, 6, 0, 1, 2, 3, 4] rfl
                  clear Hu hH
                  refine Sx.ser_calm ?_
                  refine Sx.then_normal (hK104 _ _ ?_)
                  clear hK104
                  refine Sx.wp_if hT rfl (fun h => by cases h) (fun _ => ?_)
                  refine wp_skip ?_
                  refine Sx.then_normal (hK103 _ _ ?_)
                  clear hK103
                  refine wp_seq_k fun K134 hK134 => ?_
                  -- region 19 (extra.go:33)
                  refine Sx.wp_text [(0, .take), (1, .run), (2, .run), (3, .take)] rfl ?_
                  refine Sx.st_take hT rfl rfl rfl rfl (Sx.x_move hT rfl rfl) ?_
                  clear hT; intro a hT
                  refine Sx.st_run hT rfl rfl rfl rfl (Sx.y_loadS hT rfl Tryd.underlying23 Tryd.ti23 rfl ((H.blk 4 rfl).seg (k := 3) rfl) (by rfl)) ?_
                  clear hT; intro a hT
                  refine Sx.st_call hT rfl rfl rfl rfl rfl Tryd.can27 rfl (Obs_calls (H.pre [1] rfl rfl) _ _ _) ?_
                  rintro _ w125 ⟨rfl, K⟩
                  refine ⟨_, rfl, ?_⟩
                  clear hT; intro a hT
                  replace H := H.back [1] [0, 2, 3, 4, 5] rfl rfl rfl K rfl; clear K
                  refine Sx.st_take hT rfl rfl rfl rfl (Sx.x_assign hT rfl rfl) ?_
                  clear hT; intro a hT
                  replace hT := hT.keep [19, 116, 18, 17, 82, 16, 15, 14, 48, 13, 35, 12, 11, 23, 10, 9, 6, 0, 1, 2, 3, 4] rfl
                  refine Sx.ser_nil ?_
                  refine Sx.then_normal (hK134 _ _ ?_)
                  clear hK134
                  refine wp_seq_k fun K135 hK135 => ?_
                  -- region 20 (extra.go:34)
                  refine Sx.wp_text [(0, .take), (1, .run), (2, .run), (3, .run)] rfl ?_
                  refine Sx.st_take hT rfl rfl rfl rfl (Sx.x_move hT rfl rfl) ?_
                  clear hT; intro a hT
                  refine Sx.st_call hT rfl rfl rfl rfl rfl Tryd.can29 rfl (Last_calls (H.blk 0 rfl)) ?_
                  rintro _ w126 ⟨rfl, E⟩
                  refine ⟨_, rfl, ?_⟩
                  clear hT; intro a hT
                  replace H := H.pure E; clear E
                  refine Sx.st_eff hT rfl rfl rfl rfl (Sx.y_alloc hT rfl Tryd.ti23 rfl _) ?_
                  clear hT; rintro _ w127 ⟨b20, rfl, N⟩ a hT
                  replace H := H.new N; clear N
                  refine Sx.st_act hT rfl rfl rfl (Sx.y_storeS hT rfl Tryd.ti23 rfl rfl rfl rfl rfl (H.blk 0 rfl) rfl) ?_
                  rintro w128 ⟨hb, E, _⟩
                  replace H := H.setB 0 rfl hb E rfl; clear hb E
                  replace hT := hT.keep [20, 19, 116, 18, 17, 82, 16, 15, 14, 48, 13, 35, 12, 11, 23, 10, 9, 6, 0, 1, 2, 3, 4] rfl
                  refine Sx.ser_nil ?_
                  refine Sx.then_normal (hK135 _ _ ?_)
                  clear hK135
                  refine wp_seq_k fun K136 hK136 => ?_
                  -- region 21 (extra.go:35)
                  refine Sx.wp_text [(0, .take), (1, .run), (2, .run), (3, .take)] rfl ?_
                  refine Sx.st_take hT rfl rfl rfl rfl (Sx.x_move hT rfl rfl) ?_
                  clear hT; intro a hT
                  refine Sx.st_run hT rfl rfl rfl rfl (Sx.y_loadS hT rfl Tryd.underlying23 Tryd.ti23 rfl ((H.blk 5 rfl).seg (k := 3) rfl) (by rfl)) ?_
                  clear hT; intro a hT
                  refine Sx.st_call hT rfl rfl rfl rfl rfl Tryd.can27 rfl (Obs_calls (H.pre [1] rfl rfl) _ _ _) ?_
                  rintro _ w129 ⟨rfl, K⟩
                  refine ⟨_, rfl, ?_⟩
                  clear hT; intro a hT
                  replace H := H.back [1] [0, 2, 3, 4, 5, 6] rfl rfl rfl K rfl; clear K
                  refine Sx.st_take hT rfl rfl rfl rfl (Sx.x_assign hT rfl rfl) ?_
                  clear hT; intro a hT
                  replace hT := hT.keep [21, 20, 19, 116, 18, 17, 82, 16, 15, 14, 48, 13, 35, 12, 11, 23, 10, 9, 6, 0, 1, 2, 3, 4] rfl
                  refine Sx.ser_nil ?_
                  refine Sx.then_normal (hK136 _ _ ?_)
                  clear hK136
                  refine wp_seq_k fun K137 hK137 => ?_
                  -- region 22 (extra.go:36)
                  rw [obs_twice] at H
                  refine Sx.wp_draws (fun u => Sx.Ext (Sx.No) u) [(0, .keep), (1, .take), (2, .take), (3, .take), (4, .take), (5, .take), (6, .take), (7, .take), (9, .held), (8, .keep), (10, .take), (11, .take), (12, .take), (13, .take), (14, .take), (15, .held), (16, .keep), (17, .take), (18, .take), (19, .take), (20, .take), (21, .held), (22, .take), (23, .take), (24, .take), (25, .take)] (by kernel_rfl) (by kernel_rfl) (fun u E _ => ?_)
                  replace H := H.pure E; clear E
                  have hH : Sx.Ext (Sx.No) u u := Sx.Ext.refl _ _
                  have Hu := H
                  refine Sx.st_callkeep hT rfl rfl rfl rfl rfl Tryd.can10 rfl (first_calls _) ?_
                  rintro _ w130 ⟨rfl, E⟩
                  refine ⟨_, rfl, hH.step E, ?_⟩
                  replace hH := hH.step E
                  clear hT; intro a hT
                  replace H := H.pure E; clear E
                  refine Sx.st_take hT rfl rfl rfl rfl (Sx.x_move hT rfl rfl) ?_
                  clear hT; intro a hT
                  refine Sx.st_take hT rfl rfl rfl rfl (Sx.x_move hT rfl rfl) ?_
                  clear hT; intro a hT
                  refine Sx.st_take hT rfl rfl rfl rfl (Sx.x_move hT rfl rfl) ?_
                  clear hT; intro a hT
                  refine Sx.st_take hT rfl rfl rfl rfl ((fun w => Sx.x_eq w hT rfl rfl rfl)) ?_
                  clear hT; intro a hT
                  refine Sx.st_take hT rfl rfl rfl rfl (Sx.x_pick_t hT rfl rfl rfl) ?_
                  clear hT; intro a hT
                  refine Sx.st_take hT rfl rfl rfl rfl (Sx.x_move hT rfl rfl) ?_
                  clear hT; intro a hT
                  -- guard (22, 6)
                  refine Sx.Sl.two hT 131 rfl (fun hc138 hT => ?_) (fun hc138 hT => ?_)
                  · try simp only [decide_eq_true_eq, decide_eq_false_iff_not, Bool.not_eq_true', Bool.not_eq_false', Bool.not_eq_true, Bool.not_eq_false, Bool.and_eq_true, Bool.or_eq_false_iff, beq_iff_eq, bne_iff_ne, Int.not_lt, Int.not_le, ne_eq] at hc138
                    refine Sx.st_take hT rfl rfl rfl rfl (Sx.x_move hT rfl rfl) ?_
                    clear hT; intro a hT
                    refine Sx.st_held hT rfl rfl rfl rfl hH (fun w' h' => Sx.y_loadS hT rfl Tryd.underlying23 Tryd.ti23 rfl ((Hu.heldB 1 rfl h' Sx.off_No).seg (k := 3) rfl) (by rfl)) ?_
                    clear hT; intro a hT
                    refine Sx.st_callkeep hT rfl rfl rfl rfl rfl Tryd.can29 rfl (Last_calls (H.blk 0 rfl)) ?_
                    rintro _ w131 ⟨rfl, E⟩
                    refine ⟨_, rfl, hH.step E, ?_⟩
                    replace hH := hH.step E
                    clear hT; intro a hT
                    replace H := H.pure E; clear E
                    refine Sx.st_take hT rfl rfl rfl rfl (Sx.x_eqS hT rfl (by kernel_rfl) (Tryd.eq23 _ _ _ _ _ _) rfl rfl rfl) ?_
                    clear hT; intro a hT
                    refine Sx.st_take hT rfl rfl rfl rfl (Sx.x_pick_t hT rfl rfl rfl) ?_
                    clear hT; intro a hT
                    refine Sx.st_take hT rfl rfl rfl rfl (Sx.x_move hT rfl rfl) ?_
                    clear hT; intro a hT
                    -- guard (22, 12)
                    refine Sx.Sl.two hT 137 rfl (fun hc139 hT => ?_) (fun hc139 hT => ?_)
                    · try simp only [decide_eq_true_eq, decide_eq_false_iff_not, Bool.not_eq_true', Bool.not_eq_false', Bool.not_eq_true, Bool.not_eq_false, Bool.and_eq_true, Bool.or_eq_false_iff, beq_iff_eq, bne_iff_ne, Int.not_lt, Int.not_le, ne_eq] at hc139
                      refine Sx.st_take hT rfl rfl rfl rfl (Sx.x_move hT rfl rfl) ?_
                      clear hT; intro a hT
                      refine Sx.st_take hT rfl rfl rfl rfl ((fun w => Sx.x_eq w hT rfl rfl rfl)) ?_
                      clear hT; intro a hT
                      refine Sx.st_held hT rfl rfl rfl rfl hH (fun w' h' => Sx.y_loadS hT rfl Tryd.underlying23 Tryd.ti23 rfl ((Hu.heldB 5 rfl h' Sx.off_No).seg (k := 3) rfl) (by rfl)) ?_
                      clear hT; intro a hT
                      refine Sx.st_callkeep hT rfl rfl rfl rfl rfl Tryd.can13 rfl (May_calls _ _ _ _) ?_
                      rintro _ w132 ⟨rfl, E⟩
                      refine ⟨_, rfl, hH.step E, ?_⟩
                      replace hH := hH.step E
                      clear hT; intro a hT
                      replace H := H.pure E; clear E
                      refine Sx.st_take hT rfl rfl rfl rfl (Sx.x_eqb hT rfl Tryd.underlying4 rfl rfl) ?_
                      clear hT; intro a hT
                      refine Sx.st_take hT rfl rfl rfl rfl (Sx.x_pick_t hT rfl rfl rfl) ?_
                      clear hT; intro a hT
                      refine Sx.st_take hT rfl rfl rfl rfl (Sx.x_move hT rfl rfl) ?_
                      clear hT; intro a hT
                      -- guard (22, 19)
                      refine Sx.Sl.two hT 144 rfl (fun hc140 hT => ?_) (fun hc140 hT => ?_)
                      · try simp only [decide_eq_true_eq, decide_eq_false_iff_not, Bool.not_eq_true', Bool.not_eq_false', Bool.not_eq_true, Bool.not_eq_false, Bool.and_eq_true, Bool.or_eq_false_iff, beq_iff_eq, bne_iff_ne, Int.not_lt, Int.not_le, ne_eq] at hc140
                        refine Sx.st_take hT rfl rfl rfl rfl (Sx.x_fieldAddr hT rfl Tryd.fa23_2 rfl) ?_
                        clear hT; intro a hT
                        refine Sx.st_held hT rfl rfl rfl rfl hH (fun w' h' => Sx.x_load1 hT rfl Tryd.fl3 rfl ((Hu.heldB 1 rfl h' Sx.off_No).nth rfl)) ?_
                        clear hT; intro a hT
                        refine Sx.st_take hT rfl rfl rfl rfl (Sx.x_move hT rfl rfl) ?_
                        clear hT; intro a hT
                        refine Sx.st_take hT rfl rfl rfl rfl ((fun w => Sx.x_eq w hT rfl rfl rfl)) ?_
                        clear hT; intro a hT
                        refine Sx.st_take hT rfl rfl rfl rfl (Sx.x_pick_t hT rfl rfl rfl) ?_
                        clear hT; intro a hT
                        refine Sx.st_take hT rfl rfl rfl rfl (Sx.x_assign hT rfl rfl) ?_
                        clear hT; intro a hT
                        replace hT := hT.keep [10, 21, 20, 19, 116, 18, 17, 82, 16, 15, 14, 48, 13, 35, 12, 11, 23, 9, 6, 0, 1, 2, 3, 4] rfl
                        clear Hu hH
                        refine Sx.ser_calm ?_
                        refine Sx.then_normal (hK137 _ _ ?_)
                        clear hK137
                        refine wp_ret ?_
                        refine Sx.done1 (fn := Tryd.f6) hT rfl (.tmp (hT.get 10 _ rfl)) ?_
                        exact ⟨ret_b (by simp [obs_node, peek_node _ _ hp, hnd]), H.ext⟩
                      · exfalso
                        try simp only [decide_eq_true_eq, decide_eq_false_iff_not, Bool.not_eq_true', Bool.not_eq_false', Bool.not_eq_true, Bool.not_eq_false, Bool.and_eq_true, Bool.or_eq_false_iff, beq_iff_eq, bne_iff_ne, Int.not_lt, Int.not_le, ne_eq] at hc140
                        revert hc140; cases may ⟨p, q, r⟩ <;> simp
                    · exfalso
                      try simp only [decide_eq_true_eq, decide_eq_false_iff_not, Bool.not_eq_true', Bool.not_eq_false', Bool.not_eq_true, Bool.not_eq_false, Bool.and_eq_true, Bool.or_eq_false_iff, beq_iff_eq, bne_iff_ne, Int.not_lt, Int.not_le, ne_eq] at hc139
                      first | (simp at hc139; done) | omega | (simp at hc139; omega) | (simp_all; done)
                  · exfalso
                    try simp only [decide_eq_true_eq, decide_eq_false_iff_not, Bool.not_eq_true', Bool.not_eq_false', Bool.not_eq_true, Bool.not_eq_false, Bool.and_eq_true, Bool.or_eq_false_iff, beq_iff_eq, bne_iff_ne, Int.not_lt, Int.not_le, ne_eq] at hc138
                    first | (simp at hc138; done) | omega | (simp at hc138; omega) | (simp_all; done)
        · skip
          rw [now_not s phys hp] at H
          -- region 17 (extra.go:30)
          refine Sx.wp_draws (fun u => Sx.Ext (Sx.No) u) [(0, .held), (1, .held), (2, .take), (3, .take), (4, .take), (5, .take), (6, .take), (7, .take), (8, .take), (9, .take), (10, .take), (11, .take), (12, .take), (14, .held), (13, .keep), (15, .take), (16, .take), (17, .take), (18, .take), (19, .take), (20, .take), (21, .take), (22, .take), (24, .held), (23, .keep), (25, .take), (26, .take), (27, .take)] (by kernel_rfl) (by kernel_rfl) (fun u E _ => ?_)
          replace H := H.pure E; clear E
          have hH : Sx.Ext (Sx.No) u u := Sx.Ext.refl _ _
          have Hu := H
          refine Sx.st_held hT rfl rfl rfl rfl hH (fun w' h' => Sx.y_loadS hT rfl Tryd.underlying23 Tryd.ti23 rfl ((Hu.heldB 2 rfl h' Sx.off_No).seg (k := 3) rfl) (by rfl)) ?_
          clear hT; intro a hT
          refine Sx.st_held hT rfl rfl rfl rfl hH (fun w' h' => Sx.y_loadS hT rfl Tryd.underlying23 Tryd.ti23 rfl ((Hu.heldB 0 rfl h' Sx.off_No).seg (k := 3) rfl) (by rfl)) ?_
          clear hT; intro a hT
          refine Sx.st_take hT rfl rfl rfl rfl (Sx.x_neS hT rfl (by kernel_rfl) (Tryd.eq23 _ _ _ _ _ _) rfl rfl rfl) ?_
          clear hT; intro a hT
          refine Sx.st_take hT rfl rfl rfl rfl (Sx.x_move hT rfl rfl) ?_
          clear hT; intro a hT
          -- guard (17, 3)
          refine Sx.Sl.two hT 92 rfl (fun hc141 hT => ?_) (fun hc141 hT => ?_)
          · exfalso
            try simp only [decide_eq_true_eq, decide_eq_false_iff_not, Bool.not_eq_true', Bool.not_eq_false', Bool.not_eq_true, Bool.not_eq_false, Bool.and_eq_true, Bool.or_eq_false_iff, beq_iff_eq, bne_iff_ne, Int.not_lt, Int.not_le, ne_eq] at hc141
            first | (simp at hc141; done) | omega | (simp at hc141; omega) | (simp_all; done)
          · try simp only [decide_eq_true_eq, decide_eq_false_iff_not, Bool.not_eq_true', Bool.not_eq_false', Bool.not_eq_true, Bool.not_eq_false, Bool.and_eq_true, Bool.or_eq_false_iff, beq_iff_eq, bne_iff_ne, Int.not_lt, Int.not_le, ne_eq] at hc141
            refine Sx.st_take hT rfl rfl rfl rfl (Sx.x_move hT rfl rfl) ?_
            clear hT; intro a hT
            refine Sx.st_take hT rfl rfl rfl rfl (Sx.x_move hT rfl rfl) ?_
            clear hT; intro a hT
            refine Sx.st_take hT rfl rfl rfl rfl ((fun w => Sx.x_ne w hT rfl rfl rfl)) ?_
            clear hT; intro a hT
            refine Sx.st_take hT rfl rfl rfl rfl (Sx.x_pick_f hT rfl rfl rfl) ?_
            clear hT; intro a hT
            refine Sx.st_take hT rfl rfl rfl rfl (Sx.x_move hT rfl rfl) ?_
            clear hT; intro a hT
            -- guard (17, 8)
            refine Sx.Sl.two hT 97 rfl (fun hc142 hT => ?_) (fun hc142 hT => ?_)
            · exfalso
              try simp only [decide_eq_true_eq, decide_eq_false_iff_not, Bool.not_eq_true', Bool.not_eq_false', Bool.not_eq_true, Bool.not_eq_false, Bool.and_eq_true, Bool.or_eq_false_iff, beq_iff_eq, bne_iff_ne, Int.not_lt, Int.not_le, ne_eq] at hc142
              first | (simp at hc142; done) | omega | (simp at hc142; omega) | (simp_all; done)
            · try simp only [decide_eq_true_eq, decide_eq_false_iff_not, Bool.not_eq_true', Bool.not_eq_false', Bool.not_eq_true, Bool.not_eq_false, Bool.and_eq_true, Bool.or_eq_false_iff, beq_iff_eq, bne_iff_ne, Int.not_lt, Int.not_le, ne_eq] at hc142
              refine Sx.st_take hT rfl rfl rfl rfl (Sx.x_move hT rfl rfl) ?_
              clear hT; intro a hT
              refine Sx.st_take hT rfl rfl rfl rfl ((fun w => Sx.x_ne w hT rfl rfl rfl)) ?_
              clear hT; intro a hT
              refine Sx.st_take hT rfl rfl rfl rfl (Sx.x_move hT rfl rfl) ?_
              clear hT; intro a hT
              -- guard (17, 11)
              refine Sx.Sl.two hT 100 rfl (fun hc143 hT => ?_) (fun hc143 hT => ?_)
              · try simp only [decide_eq_true_eq, decide_eq_false_iff_not, Bool.not_eq_true', Bool.not_eq_false', Bool.not_eq_true, Bool.not_eq_false, Bool.and_eq_true, Bool.or_eq_false_iff, beq_iff_eq, bne_iff_ne, Int.not_lt, Int.not_le, ne_eq] at hc143
                refine Sx.st_take hT rfl rfl rfl rfl (Sx.x_move hT rfl rfl) ?_
                clear hT; intro a hT
                refine Sx.st_held hT rfl rfl rfl rfl hH (fun w' h' => Sx.y_loadS hT rfl Tryd.underlying23 Tryd.ti23 rfl ((Hu.heldB 3 rfl h' Sx.off_No).seg (k := 3) rfl) (by rfl)) ?_
                clear hT; intro a hT
                refine Sx.st_callkeep hT rfl rfl rfl rfl rfl Tryd.can29 rfl (Last_calls (H.blk 1 rfl)) ?_
                rintro _ w133 ⟨rfl, E⟩
                refine ⟨_, rfl, hH.step E, ?_⟩
                replace hH := hH.step E
                clear hT; intro a hT
                replace H := H.pure E; clear E
                refine Sx.st_take hT rfl rfl rfl rfl (Sx.x_neS hT rfl (by kernel_rfl) (Tryd.eq23 _ _ _ _ _ _) rfl rfl rfl) ?_
                clear hT; intro a hT
                refine Sx.st_take hT rfl rfl rfl rfl (Sx.x_pick_t hT rfl rfl rfl) ?_
                clear hT; intro a hT
                refine Sx.st_take hT rfl rfl rfl rfl (Sx.x_pick_f hT rfl rfl rfl) ?_
                clear hT; intro a hT
                refine Sx.st_take hT rfl rfl rfl rfl (Sx.x_move hT rfl rfl) ?_
                clear hT; intro a hT
                -- guard (17, 18)
                refine Sx.Sl.two hT 107 rfl (fun hc144 hT => ?_) (fun hc144 hT => ?_)
                · exfalso
                  try simp only [decide_eq_true_eq, decide_eq_false_iff_not, Bool.not_eq_true', Bool.not_eq_false', Bool.not_eq_true, Bool.not_eq_false, Bool.and_eq_true, Bool.or_eq_false_iff, beq_iff_eq, bne_iff_ne, Int.not_lt, Int.not_le, ne_eq] at hc144
                  first | (simp at hc144; done) | omega | (simp at hc144; omega) | (simp_all; done)
                · try simp only [decide_eq_true_eq, decide_eq_false_iff_not, Bool.not_eq_true', Bool.not_eq_false', Bool.not_eq_true, Bool.not_eq_false, Bool.and_eq_true, Bool.or_eq_false_iff, beq_iff_eq, bne_iff_ne, Int.not_lt, Int.not_le, ne_eq] at hc144
                  refine Sx.st_take hT rfl rfl rfl rfl (Sx.x_move hT rfl rfl) ?_
                  clear hT; intro a hT
                  refine Sx.st_take hT rfl rfl rfl rfl ((fun w => Sx.x_eq w hT rfl rfl rfl)) ?_
                  clear hT; intro a hT
                  refine Sx.st_take hT rfl rfl rfl rfl (Sx.x_move hT rfl rfl) ?_
                  clear hT; intro a hT
                  -- guard (17, 21)
                  refine Sx.Sl.two hT 110 rfl (fun hc145 hT => ?_) (fun hc145 hT => ?_)
                  · try simp only [decide_eq_true_eq, decide_eq_false_iff_not, Bool.not_eq_true', Bool.not_eq_false', Bool.not_eq_true, Bool.not_eq_false, Bool.and_eq_true, Bool.or_eq_false_iff, beq_iff_eq, bne_iff_ne, Int.not_lt, Int.not_le, ne_eq] at hc145
                    refine Sx.st_take hT rfl rfl rfl rfl (Sx.x_move hT rfl rfl) ?_
                    clear hT; intro a hT
                    refine Sx.st_held hT rfl rfl rfl rfl hH (fun w' h' => Sx.y_loadS hT rfl Tryd.underlying23 Tryd.ti23 rfl ((Hu.heldB 2 rfl h' Sx.off_No).seg (k := 3) rfl) (by rfl)) ?_
                    clear hT; intro a hT
                    refine Sx.st_callkeep hT rfl rfl rfl rfl rfl Tryd.can29 rfl (Last_calls (H.blk 1 rfl)) ?_
                    rintro _ w134 ⟨rfl, E⟩
                    refine ⟨_, rfl, hH.step E, ?_⟩
                    replace hH := hH.step E
                    clear hT; intro a hT
                    replace H := H.pure E; clear E
                    refine Sx.st_take hT rfl rfl rfl rfl (Sx.x_neS hT rfl (by kernel_rfl) (Tryd.eq23 _ _ _ _ _ _) rfl rfl rfl) ?_
                    clear hT; intro a hT
                    refine Sx.st_take hT rfl rfl rfl rfl (Sx.x_pick_t hT rfl rfl rfl) ?_
                    clear hT; intro a hT
                    refine Sx.st_take hT rfl rfl rfl rfl (Sx.x_pick_f hT rfl rfl rfl) ?_
                    clear hT; intro a hT
                    replace hT := hT.keep [116, 18, 17, 82, 16, 15, 14, 48, 13, 35, 12, 11, 23, 10, 9, 6, 0, 1, 2, 3, 4] rfl
                    clear Hu hH
                    refine Sx.ser_calm ?_
                    refine Sx.then_normal (hK104 _ _ ?_)
                    clear hK104
                    -- cond 5
                    refine Sx.wp_if hT rfl (fun hc146 => ?_) (fun hc146 => ?_)
                    · exfalso
                      try simp only [decide_eq_true_eq, decide_eq_false_iff_not, Bool.not_eq_true', Bool.not_eq_false', Bool.not_eq_true, Bool.not_eq_false, Bool.and_eq_true, Bool.or_eq_false_iff, beq_iff_eq, bne_iff_ne, Int.not_lt, Int.not_le, ne_eq] at hc146
                      first | (simp at hc146; done) | omega | (simp at hc146; omega) | (simp_all; done)
                    · try simp only [decide_eq_true_eq, decide_eq_false_iff_not, Bool.not_eq_true', Bool.not_eq_false', Bool.not_eq_true, Bool.not_eq_false, Bool.and_eq_true, Bool.or_eq_false_iff, beq_iff_eq, bne_iff_ne, Int.not_lt, Int.not_le, ne_eq] at hc146
                      refine wp_skip ?_
                      refine Sx.then_normal (hK103 _ _ ?_)
                      clear hK103
                      refine wp_seq_k fun K147 hK147 => ?_
                      -- region 19 (extra.go:33)
                      refine Sx.wp_text [(0, .take), (1, .run), (2, .run), (3, .take)] rfl ?_
                      refine Sx.st_take hT rfl rfl rfl rfl (Sx.x_move hT rfl rfl) ?_
                      clear hT; intro a hT
                      refine Sx.st_run hT rfl rfl rfl rfl (Sx.y_loadS hT rfl Tryd.underlying23 Tryd.ti23 rfl ((H.blk 4 rfl).seg (k := 3) rfl) (by rfl)) ?_
                      clear hT; intro a hT
                      refine Sx.st_call hT rfl rfl rfl rfl rfl Tryd.can27 rfl (Obs_calls (H.pre [1] rfl rfl) _ _ _) ?_
                      rintro _ w135 ⟨rfl, K⟩
                      refine ⟨_, rfl, ?_⟩
                      clear hT; intro a hT
                      replace H := H.back [1] [0, 2, 3, 4, 5] rfl rfl rfl K rfl; clear K
                      refine Sx.st_take hT rfl rfl rfl rfl (Sx.x_assign hT rfl rfl) ?_
                      clear hT; intro a hT
                      replace hT := hT.keep [19, 116, 18, 17, 82, 16, 15, 14, 48, 13, 35, 12, 11, 23, 10, 9, 6, 0, 1, 2, 3, 4] rfl
                      refine Sx.ser_nil ?_
                      refine Sx.then_normal (hK147 _ _ ?_)
                      clear hK147
                      refine wp_seq_k fun K148 hK148 => ?_
                      -- region 20 (extra.go:34)
                      refine Sx.wp_text [(0, .take), (1, .run), (2, .run), (3, .run)] rfl ?_
                      refine Sx.st_take hT rfl rfl rfl rfl (Sx.x_move hT rfl rfl) ?_
                      clear hT; intro a hT
                      refine Sx.st_call hT rfl rfl rfl rfl rfl Tryd.can29 rfl (Last_calls (H.blk 0 rfl)) ?_
                      rintro _ w136 ⟨rfl, E⟩
                      refine ⟨_, rfl, ?_⟩
                      clear hT; intro a hT
                      replace H := H.pure E; clear E
                      refine Sx.st_eff hT rfl rfl rfl rfl (Sx.y_alloc hT rfl Tryd.ti23 rfl _) ?_
                      clear hT; rintro _ w137 ⟨b21, rfl, N⟩ a hT
                      replace H := H.new N; clear N
                      refine Sx.st_act hT rfl rfl rfl (Sx.y_storeS hT rfl Tryd.ti23 rfl rfl rfl rfl rfl (H.blk 0 rfl) rfl) ?_
                      rintro w138 ⟨hb, E, _⟩
                      replace H := H.setB 0 rfl hb E rfl; clear hb E
                      replace hT := hT.keep [20, 19, 116, 18, 17, 82, 16, 15, 14, 48, 13, 35, 12, 11, 23, 10, 9, 6, 0, 1, 2, 3, 4] rfl
                      refine Sx.ser_nil ?_
                      refine Sx.then_normal (hK148 _ _ ?_)
                      clear hK148
                      refine wp_seq_k fun K149 hK149 => ?_
                      -- region 21 (extra.go:35)
                      refine Sx.wp_text [(0, .take), (1, .run), (2, .run), (3, .take)] rfl ?_
                      refine Sx.st_take hT rfl rfl rfl rfl (Sx.x_move hT rfl rfl) ?_
                      clear hT; intro a hT
                      refine Sx.st_run hT rfl rfl rfl rfl (Sx.y_loadS hT rfl Tryd.underlying23 Tryd.ti23 rfl ((H.blk 5 rfl).seg (k := 3) rfl) (by rfl)) ?_
                      clear hT; intro a hT
                      refine Sx.st_call hT rfl rfl rfl rfl rfl Tryd.can27 rfl (Obs_calls (H.pre [1] rfl rfl) _ _ _) ?_
                      rintro _ w139 ⟨rfl, K⟩
                      refine ⟨_, rfl, ?_⟩
                      clear hT; intro a hT
                      replace H := H.back [1] [0, 2, 3, 4, 5, 6] rfl rfl rfl K rfl; clear K
                      refine Sx.st_take hT rfl rfl rfl rfl (Sx.x_assign hT rfl rfl) ?_
                      clear hT; intro a hT
                      replace hT := hT.keep [21, 20, 19, 116, 18, 17, 82, 16, 15, 14, 48, 13, 35, 12, 11, 23, 10, 9, 6, 0, 1, 2, 3, 4] rfl
                      refine Sx.ser_nil ?_
                      refine Sx.then_normal (hK149 _ _ ?_)
                      clear hK149
                      refine wp_seq_k fun K150 hK150 => ?_
                      -- region 22 (extra.go:36)
                      rw [obs_twice] at H
                      refine Sx.wp_draws (fun u => Sx.Ext (Sx.No) u) [(0, .keep), (1, .take), (2, .take), (3, .take), (4, .take), (5, .take), (6, .take), (7, .take), (9, .held), (8, .keep), (10, .take), (11, .take), (12, .take), (13, .take), (14, .take), (15, .held), (16, .keep), (17, .take), (18, .take), (19, .take), (20, .take), (21, .held), (22, .take), (23, .take), (24, .take), (25, .take)] (by kernel_rfl) (by kernel_rfl) (fun u E _ => ?_)
                      replace H := H.pure E; clear E
                      have hH : Sx.Ext (Sx.No) u u := Sx.Ext.refl _ _
                      have Hu := H
                      refine Sx.st_callkeep hT rfl rfl rfl rfl rfl Tryd.can10 rfl (first_calls _) ?_
                      rintro _ w140 ⟨rfl, E⟩
                      refine ⟨_, rfl, hH.step E, ?_⟩
                      replace hH := hH.step E
                      clear hT; intro a hT
                      replace H := H.pure E; clear E
                      refine Sx.st_take hT rfl rfl rfl rfl (Sx.x_move hT rfl rfl) ?_
                      clear hT; intro a hT
                      refine Sx.st_take hT rfl rfl rfl rfl (Sx.x_move hT rfl rfl) ?_
                      clear hT; intro a hT
                      refine Sx.st_take hT rfl rfl rfl rfl (Sx.x_move hT rfl rfl) ?_
                      clear hT; intro a hT
                      refine Sx.st_take hT rfl rfl rfl rfl ((fun w => Sx.x_eq w hT rfl rfl rfl)) ?_
                      clear hT; intro a hT
                      refine Sx.st_take hT rfl rfl rfl rfl (Sx.x_pick_t hT rfl rfl rfl) ?_
                      clear hT; intro a hT
                      refine Sx.st_take hT rfl rfl rfl rfl (Sx.x_move hT rfl rfl) ?_
                      clear hT; intro a hT
                      -- guard (22, 6)
                      refine Sx.Sl.two hT 131 rfl (fun hc151 hT => ?_) (fun hc151 hT => ?_)
                      · try simp only [decide_eq_true_eq, decide_eq_false_iff_not, Bool.not_eq_true', Bool.not_eq_false', Bool.not_eq_true, Bool.not_eq_false, Bool.and_eq_true, Bool.or_eq_false_iff, beq_iff_eq, bne_iff_ne, Int.not_lt, Int.not_le, ne_eq] at hc151
                        refine Sx.st_take hT rfl rfl rfl rfl (Sx.x_move hT rfl rfl) ?_
                        clear hT; intro a hT
                        refine Sx.st_held hT rfl rfl rfl rfl hH (fun w' h' => Sx.y_loadS hT rfl Tryd.underlying23 Tryd.ti23 rfl ((Hu.heldB 1 rfl h' Sx.off_No).seg (k := 3) rfl) (by rfl)) ?_
                        clear hT; intro a hT
                        refine Sx.st_callkeep hT rfl rfl rfl rfl rfl Tryd.can29 rfl (Last_calls (H.blk 0 rfl)) ?_
                        rintro _ w141 ⟨rfl, E⟩
                        refine ⟨_, rfl, hH.step E, ?_⟩
                        replace hH := hH.step E
                        clear hT; intro a hT
                        replace H := H.pure E; clear E
                        refine Sx.st_take hT rfl rfl rfl rfl (Sx.x_eqS hT rfl (by kernel_rfl) (Tryd.eq23 _ _ _ _ _ _) rfl rfl rfl) ?_
                        clear hT; intro a hT
                        refine Sx.st_take hT rfl rfl rfl rfl (Sx.x_pick_t hT rfl rfl rfl) ?_
                        clear hT; intro a hT
                        refine Sx.st_take hT rfl rfl rfl rfl (Sx.x_move hT rfl rfl) ?_
                        clear hT; intro a hT
                        -- guard (22, 12)
                        refine Sx.Sl.two hT 137 rfl (fun hc152 hT => ?_) (fun hc152 hT => ?_)
                        · try simp only [decide_eq_true_eq, decide_eq_false_iff_not, Bool.not_eq_true', Bool.not_eq_false', Bool.not_eq_true, Bool.not_eq_false, Bool.and_eq_true, Bool.or_eq_false_iff, beq_iff_eq, bne_iff_ne, Int.not_lt, Int.not_le, ne_eq] at hc152
                          refine Sx.st_take hT rfl rfl rfl rfl (Sx.x_move hT rfl rfl) ?_
                          clear hT; intro a hT
                          refine Sx.st_take hT rfl rfl rfl rfl ((fun w => Sx.x_eq w hT rfl rfl rfl)) ?_
                          clear hT; intro a hT
                          refine Sx.st_held hT rfl rfl rfl rfl hH (fun w' h' => Sx.y_loadS hT rfl Tryd.underlying23 Tryd.ti23 rfl ((Hu.heldB 5 rfl h' Sx.off_No).seg (k := 3) rfl) (by rfl)) ?_
                          clear hT; intro a hT
                          refine Sx.st_callkeep hT rfl rfl rfl rfl rfl Tryd.can13 rfl (May_calls _ _ _ _) ?_
                          rintro _ w142 ⟨rfl, E⟩
                          refine ⟨_, rfl, hH.step E, ?_⟩
                          replace hH := hH.step E
                          clear hT; intro a hT
                          replace H := H.pure E; clear E
                          refine Sx.st_take hT rfl rfl rfl rfl (Sx.x_eqb hT rfl Tryd.underlying4 rfl rfl) ?_
                          clear hT; intro a hT
                          refine Sx.st_take hT rfl rfl rfl rfl (Sx.x_pick_t hT rfl rfl rfl) ?_
                          clear hT; intro a hT
                          refine Sx.st_take hT rfl rfl rfl rfl (Sx.x_move hT rfl rfl) ?_
                          clear hT; intro a hT
                          -- guard (22, 19)
                          refine Sx.Sl.two hT 144 rfl (fun hc153 hT => ?_) (fun hc153 hT => ?_)
                          · try simp only [decide_eq_true_eq, decide_eq_false_iff_not, Bool.not_eq_true', Bool.not_eq_false', Bool.not_eq_true, Bool.not_eq_false, Bool.and_eq_true, Bool.or_eq_false_iff, beq_iff_eq, bne_iff_ne, Int.not_lt, Int.not_le, ne_eq] at hc153
                            refine Sx.st_take hT rfl rfl rfl rfl (Sx.x_fieldAddr hT rfl Tryd.fa23_2 rfl) ?_
                            clear hT; intro a hT
                            refine Sx.st_held hT rfl rfl rfl rfl hH (fun w' h' => Sx.x_load1 hT rfl Tryd.fl3 rfl ((Hu.heldB 1 rfl h' Sx.off_No).nth rfl)) ?_
                            clear hT; intro a hT
                            refine Sx.st_take hT rfl rfl rfl rfl (Sx.x_move hT rfl rfl) ?_
                            clear hT; intro a hT
                            refine Sx.st_take hT rfl rfl rfl rfl ((fun w => Sx.x_eq w hT rfl rfl rfl)) ?_
                            clear hT; intro a hT
                            refine Sx.st_take hT rfl rfl rfl rfl (Sx.x_pick_t hT rfl rfl rfl) ?_
                            clear hT; intro a hT
                            refine Sx.st_take hT rfl rfl rfl rfl (Sx.x_assign hT rfl rfl) ?_
                            clear hT; intro a hT
                            replace hT := hT.keep [10, 21, 20, 19, 116, 18, 17, 82, 16, 15, 14, 48, 13, 35, 12, 11, 23, 9, 6, 0, 1, 2, 3, 4] rfl
                            clear Hu hH
                            refine Sx.ser_calm ?_
                            refine Sx.then_normal (hK150 _ _ ?_)
                            clear hK150
                            refine wp_ret ?_
                            refine Sx.done1 (fn := Tryd.f6) hT rfl (.tmp (hT.get 10 _ rfl)) ?_
                            exact ⟨ret_b (by simp [obs_node, hnd]), H.ext⟩
                          · exfalso
                            try simp only [decide_eq_true_eq, decide_eq_false_iff_not, Bool.not_eq_true', Bool.not_eq_false', Bool.not_eq_true, Bool.not_eq_false, Bool.and_eq_true, Bool.or_eq_false_iff, beq_iff_eq, bne_iff_ne, Int.not_lt, Int.not_le, ne_eq] at hc153
                            revert hc153; cases may ⟨p, q, r⟩ <;> simp
                        · exfalso
                          try simp only [decide_eq_true_eq, decide_eq_false_iff_not, Bool.not_eq_true', Bool.not_eq_false', Bool.not_eq_true, Bool.not_eq_false, Bool.and_eq_true, Bool.or_eq_false_iff, beq_iff_eq, bne_iff_ne, Int.not_lt, Int.not_le, ne_eq] at hc152
                          first | (simp at hc152; done) | omega | (simp at hc152; omega) | (simp_all; done)
                      · exfalso
                        try simp only [decide_eq_true_eq, decide_eq_false_iff_not, Bool.not_eq_true', Bool.not_eq_false', Bool.not_eq_true, Bool.not_eq_false, Bool.and_eq_true, Bool.or_eq_false_iff, beq_iff_eq, bne_iff_ne, Int.not_lt, Int.not_le, ne_eq] at hc151
                        first | (simp at hc151; done) | omega | (simp at hc151; omega) | (simp_all; done)
                  · try simp only [decide_eq_true_eq, decide_eq_false_iff_not, Bool.not_eq_true', Bool.not_eq_false', Bool.not_eq_true, Bool.not_eq_false, Bool.and_eq_true, Bool.or_eq_false_iff, beq_iff_eq, bne_iff_ne, Int.not_lt, Int.not_le, ne_eq] at hc145
                    refine Sx.st_skip hT rfl rfl rfl rfl ?_
                    clear hT; intro a hT
                    refine Sx.st_heldskip hT rfl rfl rfl rfl hH ?_
                    clear hT; intro a hT
                    refine Sx.st_keepskip hT rfl rfl rfl rfl hH ?_
                    clear hT; intro a hT
                    refine Sx.st_skip hT rfl rfl rfl rfl ?_
                    clear hT; intro a hT
                    refine Sx.st_take hT rfl rfl rfl rfl (Sx.x_pick_f hT rfl rfl rfl) ?_
                    clear hT; intro a hT
                    refine Sx.st_take hT rfl rfl rfl rfl (Sx.x_pick_f hT rfl rfl rfl) ?_
                    clear hT; intro a hT
                    replace hT := hT.keep [116, 18, 17, 82, 16, 15, 14, 48, 13, 35, 12, 11, 23, 10, 9, 6, 0, 1, 2, 3, 4] rfl
                    clear Hu hH
                    refine Sx.ser_calm ?_
                    refine Sx.then_normal (hK104 _ _ ?_)
                    clear hK104
                    refine Sx.wp_if hT rfl (fun h => by cases h) (fun _ => ?_)
                    refine wp_skip ?_
                    refine Sx.then_normal (hK103 _ _ ?_)
                    clear hK103
                    refine wp_seq_k fun K154 hK154 => ?_
                    -- region 19 (extra.go:33)
                    refine Sx.wp_text [(0, .take), (1, .run), (2, .run), (3, .take)] rfl ?_
                    refine Sx.st_take hT rfl rfl rfl rfl (Sx.x_move hT rfl rfl) ?_
                    clear hT; intro a hT
                    refine Sx.st_run hT rfl rfl rfl rfl (Sx.y_loadS hT rfl Tryd.underlying23 Tryd.ti23 rfl ((H.blk 4 rfl).seg (k := 3) rfl) (by rfl)) ?_
                    clear hT; intro a hT
                    refine Sx.st_call hT rfl rfl rfl rfl rfl Tryd.can27 rfl (Obs_calls (H.pre [1] rfl rfl) _ _ _) ?_
                    rintro _ w143 ⟨rfl, K⟩
                    refine ⟨_, rfl, ?_⟩
                    clear hT; intro a hT
                    replace H := H.back [1] [0, 2, 3, 4, 5] rfl rfl rfl K rfl; clear K
                    refine Sx.st_take hT rfl rfl rfl rfl (Sx.x_assign hT rfl rfl) ?_
                    clear hT; intro a hT
                    replace hT := hT.keep [19, 116, 18, 17, 82, 16, 15, 14, 48, 13, 35, 12, 11, 23, 10, 9, 6, 0, 1, 2, 3, 4] rfl
                    refine Sx.ser_nil ?_
                    refine Sx.then_normal (hK154 _ _ ?_)
                    clear hK154
                    refine wp_seq_k fun K155 hK155 => ?_
                    -- region 20 (extra.go:34)
                    refine Sx.wp_text [(0, .take), (1, .run), (2, .run), (3, .run)] rfl ?_
                    refine Sx.st_take hT rfl rfl rfl rfl (Sx.x_move hT rfl rfl) ?_
                    clear hT; intro a hT
                    refine Sx.st_call hT rfl rfl rfl rfl rfl Tryd.can29 rfl (Last_calls (H.blk 0 rfl)) ?_
                    rintro _ w144 ⟨rfl, E⟩
                    refine ⟨_, rfl, ?_⟩
                    clear hT; intro a hT
                    replace H := H.pure E; clear E
                    refine Sx.st_eff hT rfl rfl rfl rfl (Sx.y_alloc hT rfl Tryd.ti23 rfl _) ?_
                    clear hT; rintro _ w145 ⟨b22, rfl, N⟩ a hT
                    replace H := H.new N; clear N
                    refine Sx.st_act hT rfl rfl rfl (Sx.y_storeS hT rfl Tryd.ti23 rfl rfl rfl rfl rfl (H.blk 0 rfl) rfl) ?_
                    rintro w146 ⟨hb, E, _⟩
                    replace H := H.setB 0 rfl hb E rfl; clear hb E
                    replace hT := hT.keep [20, 19, 116, 18, 17, 82, 16, 15, 14, 48, 13, 35, 12, 11, 23, 10, 9, 6, 0, 1, 2, 3, 4] rfl
                    refine Sx.ser_nil ?_
                    refine Sx.then_normal (hK155 _ _ ?_)
                    clear hK155
                    refine wp_seq_k fun K156 hK156 => ?_
                    -- region 21 (extra.go:35)
                    refine Sx.wp_text [(0, .take), (1, .run), (2, .run), (3, .take)] rfl ?_
                    refine Sx.st_take hT rfl rfl rfl rfl (Sx.x_move hT rfl rfl) ?_
                    clear hT; intro a hT
                    refine Sx.st_run hT rfl rfl rfl rfl (Sx.y_loadS hT rfl Tryd.underlying23 Tryd.ti23 rfl ((H.blk 5 rfl).seg (k := 3) rfl) (by rfl)) ?_
                    clear hT; intro a hT
                    refine Sx.st_call hT rfl rfl rfl rfl rfl Tryd.can27 rfl (Obs_calls (H.pre [1] rfl rfl) _ _ _) ?_
                    rintro _ w147 ⟨rfl, K⟩
                    refine ⟨_, rfl, ?_⟩
                    clear hT; intro a hT
                    replace H := H.back [1] [0, 2, 3, 4, 5, 6] rfl rfl rfl K rfl; clear K
                    refine Sx.st_take hT rfl rfl rfl rfl (Sx.x_assign hT rfl rfl) ?_
                    clear hT; intro a hT
                    replace hT := hT.keep [21, 20, 19, 116, 18, 17, 82, 16, 15, 14, 48, 13, 35, 12, 11, 23, 10, 9, 6, 0, 1, 2, 3, 4] rfl
                    refine Sx.ser_nil ?_
                    refine Sx.then_normal (hK156 _ _ ?_)
                    clear hK156
                    refine wp_seq_k fun K157 hK157 => ?_
                    -- region 22 (extra.go:36)
                    rw [obs_twice] at H
                    refine Sx.wp_draws (fun u => Sx.Ext (Sx.No) u) [(0, .keep), (1, .take), (2, .take), (3, .take), (4, .take), (5, .take), (6, .take), (7, .take), (9, .held), (8, .keep), (10, .take), (11, .take), (12, .take), (13, .take), (14, .take), (15, .held), (16, .keep), (17, .take), (18, .take), (19, .take), (20, .take), (21, .held), (22, .take), (23, .take), (24, .take), (25, .take)] (by kernel_rfl) (by kernel_rfl) (fun u E _ => ?_)
                    replace H := H.pure E; clear E
                    have hH : Sx.Ext (Sx.No) u u := Sx.Ext.refl _ _
                    have Hu := H
                    refine Sx.st_callkeep hT rfl rfl rfl rfl rfl Tryd.can10 rfl (first_calls _) ?_
                    rintro _ w148 ⟨rfl, E⟩
                    refine ⟨_, rfl, hH.step E, ?_⟩
                    replace hH := hH.step E
                    clear hT; intro a hT
                    replace H := H.pure E; clear E
                    refine Sx.st_take hT rfl rfl rfl rfl (Sx.x_move hT rfl rfl) ?_
                    clear hT; intro a hT
                    refine Sx.st_take hT rfl rfl rfl rfl (Sx.x_move hT rfl rfl) ?_
                    clear hT; intro a hT
                    refine Sx.st_take hT rfl rfl rfl rfl (Sx.x_move hT rfl rfl) ?_
                    clear hT; intro a hT
                    refine Sx.st_take hT rfl rfl rfl rfl ((fun w => Sx.x_eq w hT rfl rfl rfl)) ?_
                    clear hT; intro a hT
                    refine Sx.st_take hT rfl rfl rfl rfl (Sx.x_pick_t hT rfl rfl rfl) ?_
                    clear hT; intro a hT
                    refine Sx.st_take hT rfl rfl rfl rfl (Sx.x_move hT rfl rfl) ?_
                    clear hT; intro a hT
                    -- guard (22, 6)
                    refine Sx.Sl.two hT 131 rfl (fun hc158 hT => ?_) (fun hc158 hT => ?_)
                    · try simp only [decide_eq_true_eq, decide_eq_false_iff_not, Bool.not_eq_true', Bool.not_eq_false', Bool.not_eq_true, Bool.not_eq_false, Bool.and_eq_true, Bool.or_eq_false_iff, beq_iff_eq, bne_iff_ne, Int.not_lt, Int.not_le, ne_eq] at hc158
                      refine Sx.st_take hT rfl rfl rfl rfl (Sx.x_move hT rfl rfl) ?_
                      clear hT; intro a hT
                      refine Sx.st_held hT rfl rfl rfl rfl hH (fun w' h' => Sx.y_loadS hT rfl Tryd.underlying23 Tryd.ti23 rfl ((Hu.heldB 1 rfl h' Sx.off_No).seg (k := 3) rfl) (by rfl)) ?_
                      clear hT; intro a hT
                      refine Sx.st_callkeep hT rfl rfl rfl rfl rfl Tryd.can29 rfl (Last_calls (H.blk 0 rfl)) ?_
                      rintro _ w149 ⟨rfl, E⟩
                      refine ⟨_, rfl, hH.step E, ?_⟩
                      replace hH := hH.step E
                      clear hT; intro a hT
                      replace H := H.pure E; clear E
                      refine Sx.st_take hT rfl rfl rfl rfl (Sx.x_eqS hT rfl (by kernel_rfl) (Tryd.eq23 _ _ _ _ _ _) rfl rfl rfl) ?_
                      clear hT; intro a hT
                      refine Sx.st_take hT rfl rfl rfl rfl (Sx.x_pick_t hT rfl rfl rfl) ?_
                      clear hT; intro a hT
                      refine Sx.st_take hT rfl rfl rfl rfl (Sx.x_move hT rfl rfl) ?_
                      clear hT; intro a hT
                      -- guard (22, 12)
                      refine Sx.Sl.two hT 137 rfl (fun hc159 hT => ?_) (fun hc159 hT => ?_)
                      · try simp only [decide_eq_true_eq, decide_eq_false_iff_not, Bool.not_eq_true', Bool.not_eq_false', Bool.not_eq_true, Bool.not_eq_false, Bool.and_eq_true, Bool.or_eq_false_iff, beq_iff_eq, bne_iff_ne, Int.not_lt, Int.not_le, ne_eq] at hc159
                        refine Sx.st_take hT rfl rfl rfl rfl (Sx.x_move hT rfl rfl) ?_
                        clear hT; intro a hT
                        refine Sx.st_take hT rfl rfl rfl rfl ((fun w => Sx.x_eq w hT rfl rfl rfl)) ?_
                        clear hT; intro a hT
                        refine Sx.st_held hT rfl rfl rfl rfl hH (fun w' h' => Sx.y_loadS hT rfl Tryd.underlying23 Tryd.ti23 rfl ((Hu.heldB 5 rfl h' Sx.off_No).seg (k := 3) rfl) (by rfl)) ?_
                        clear hT; intro a hT
                        refine Sx.st_callkeep hT rfl rfl rfl rfl rfl Tryd.can13 rfl (May_calls _ _ _ _) ?_
                        rintro _ w150 ⟨rfl, E⟩
                        refine ⟨_, rfl, hH.step E, ?_⟩
                        replace hH := hH.step E
                        clear hT; intro a hT
                        replace H := H.pure E; clear E
                        refine Sx.st_take hT rfl rfl rfl rfl (Sx.x_eqb hT rfl Tryd.underlying4 rfl rfl) ?_
                        clear hT; intro a hT
                        refine Sx.st_take hT rfl rfl rfl rfl (Sx.x_pick_t hT rfl rfl rfl) ?_
                        clear hT; intro a hT
                        refine Sx.st_take hT rfl rfl rfl rfl (Sx.x_move hT rfl rfl) ?_
                        clear hT; intro a hT
                        -- guard (22, 19)
                        refine Sx.Sl.two hT 144 rfl (fun hc160 hT => ?_) (fun hc160 hT => ?_)
                        · try simp only [decide_eq_true_eq, decide_eq_false_iff_not, Bool.not_eq_true', Bool.not_eq_false', Bool.not_eq_true, Bool.not_eq_false, Bool.and_eq_true, Bool.or_eq_false_iff, beq_iff_eq, bne_iff_ne, Int.not_lt, Int.not_le, ne_eq] at hc160
                          refine Sx.st_take hT rfl rfl rfl rfl (Sx.x_fieldAddr hT rfl Tryd.fa23_2 rfl) ?_
                          clear hT; intro a hT
                          refine Sx.st_held hT rfl rfl rfl rfl hH (fun w' h' => Sx.x_load1 hT rfl Tryd.fl3 rfl ((Hu.heldB 1 rfl h' Sx.off_No).nth rfl)) ?_
                          clear hT; intro a hT
                          refine Sx.st_take hT rfl rfl rfl rfl (Sx.x_move hT rfl rfl) ?_
                          clear hT; intro a hT
                          refine Sx.st_take hT rfl rfl rfl rfl ((fun w => Sx.x_eq w hT rfl rfl rfl)) ?_
                          clear hT; intro a hT
                          refine Sx.st_take hT rfl rfl rfl rfl (Sx.x_pick_t hT rfl rfl rfl) ?_
                          clear hT; intro a hT
                          refine Sx.st_take hT rfl rfl rfl rfl (Sx.x_assign hT rfl rfl) ?_
                          clear hT; intro a hT
                          replace hT := hT.keep [10, 21, 20, 19, 116, 18, 17, 82, 16, 15, 14, 48, 13, 35, 12, 11, 23, 9, 6, 0, 1, 2, 3, 4] rfl
                          clear Hu hH
                          refine Sx.ser_calm ?_
                          refine Sx.then_normal (hK157 _ _ ?_)
                          clear hK157
                          refine wp_ret ?_
                          refine Sx.done1 (fn := Tryd.f6) hT rfl (.tmp (hT.get 10 _ rfl)) ?_
                          exact ⟨ret_b (by simp [obs_node, hnd]), H.ext⟩
                        · exfalso
                          try simp only [decide_eq_true_eq, decide_eq_false_iff_not, Bool.not_eq_true', Bool.not_eq_false', Bool.not_eq_true, Bool.not_eq_false, Bool.and_eq_true, Bool.or_eq_false_iff, beq_iff_eq, bne_iff_ne, Int.not_lt, Int.not_le, ne_eq] at hc160
                          revert hc160; cases may ⟨p, q, r⟩ <;> simp
                      · exfalso
                        try simp only [decide_eq_true_eq, decide_eq_false_iff_not, Bool.not_eq_true', Bool.not_eq_false', Bool.not_eq_true, Bool.not_eq_false, Bool.and_eq_true, Bool.or_eq_false_iff, beq_iff_eq, bne_iff_ne, Int.not_lt, Int.not_le, ne_eq] at hc159
                        first | (simp at hc159; done) | omega | (simp at hc159; omega) | (simp_all; done)
                    · exfalso
                      try simp only [decide_eq_true_eq, decide_eq_false_iff_not, Bool.not_eq_true', Bool.not_eq_false', Bool.not_eq_true, Bool.not_eq_false, Bool.and_eq_true, Bool.or_eq_false_iff, beq_iff_eq, bne_iff_ne, Int.not_lt, Int.not_le, ne_eq] at hc158
                      first | (simp at hc158; done) | omega | (simp at hc158; omega) | (simp_all; done)
              · try simp only [decide_eq_true_eq, decide_eq_false_iff_not, Bool.not_eq_true', Bool.not_eq_false', Bool.not_eq_true, Bool.not_eq_false, Bool.and_eq_true, Bool.or_eq_false_iff, beq_iff_eq, bne_iff_ne, Int.not_lt, Int.not_le, ne_eq] at hc143
                refine Sx.st_skip hT rfl rfl rfl rfl ?_
                clear hT; intro a hT
                refine Sx.st_heldskip hT rfl rfl rfl rfl hH ?_
                clear hT; intro a hT
                refine Sx.st_keepskip hT rfl rfl rfl rfl hH ?_
                clear hT; intro a hT
                refine Sx.st_skip hT rfl rfl rfl rfl ?_
                clear hT; intro a hT
                refine Sx.st_take hT rfl rfl rfl rfl (Sx.x_pick_f hT rfl rfl rfl) ?_
                clear hT; intro a hT
                refine Sx.st_take hT rfl rfl rfl rfl (Sx.x_pick_f hT rfl rfl rfl) ?_
                clear hT; intro a hT
                refine Sx.st_take hT rfl rfl rfl rfl (Sx.x_move hT rfl rfl) ?_
                clear hT; intro a hT
                refine Sx.st_take hT rfl rfl rfl rfl (Sx.x_move hT rfl rfl) ?_
                clear hT; intro a hT
                refine Sx.st_take hT rfl rfl rfl rfl ((fun w => Sx.x_eq w hT rfl rfl rfl)) ?_
                clear hT; intro a hT
                refine Sx.st_take hT rfl rfl rfl rfl (Sx.x_move hT rfl rfl) ?_
                clear hT; intro a hT
                -- guard (17, 21)
                refine Sx.Sl.two hT 110 rfl (fun hc161 hT => ?_) (fun hc161 hT => ?_)
                · try simp only [decide_eq_true_eq, decide_eq_false_iff_not, Bool.not_eq_true', Bool.not_eq_false', Bool.not_eq_true, Bool.not_eq_false, Bool.and_eq_true, Bool.or_eq_false_iff, beq_iff_eq, bne_iff_ne, Int.not_lt, Int.not_le, ne_eq] at hc161
                  refine Sx.st_take hT rfl rfl rfl rfl (Sx.x_move hT rfl rfl) ?_
                  clear hT; intro a hT
                  refine Sx.st_held hT rfl rfl rfl rfl hH (fun w' h' => Sx.y_loadS hT rfl Tryd.underlying23 Tryd.ti23 rfl ((Hu.heldB 2 rfl h' Sx.off_No).seg (k := 3) rfl) (by rfl)) ?_
                  clear hT; intro a hT
                  refine Sx.st_callkeep hT rfl rfl rfl rfl rfl Tryd.can29 rfl (Last_calls (H.blk 1 rfl)) ?_
                  rintro _ w151 ⟨rfl, E⟩
                  refine ⟨_, rfl, hH.step E, ?_⟩
                  replace hH := hH.step E
                  clear hT; intro a hT
                  replace H := H.pure E; clear E
                  refine Sx.st_take hT rfl rfl rfl rfl (Sx.x_neS hT rfl (by kernel_rfl) (Tryd.eq23 _ _ _ _ _ _) rfl rfl rfl) ?_
                  clear hT; intro a hT
                  refine Sx.st_take hT rfl rfl rfl rfl (Sx.x_pick_t hT rfl rfl rfl) ?_
                  clear hT; intro a hT
                  refine Sx.st_take hT rfl rfl rfl rfl (Sx.x_pick_f hT rfl rfl rfl) ?_
                  clear hT; intro a hT
                  replace hT := hT.keep [116, 18, 17, 82, 16, 15, 14, 48, 13, 35, 12, 11, 23, 10, 9, 6, 0, 1, 2, 3, 4] rfl
                  clear Hu hH
                  refine Sx.ser_calm ?_
                  refine Sx.then_normal (hK104 _ _ ?_)
                  clear hK104
                  -- cond 5
                  refine Sx.wp_if hT rfl (fun hc162 => ?_) (fun hc162 => ?_)
                  · exfalso
                    try simp only [decide_eq_true_eq, decide_eq_false_iff_not, Bool.not_eq_true', Bool.not_eq_false', Bool.not_eq_true, Bool.not_eq_false, Bool.and_eq_true, Bool.or_eq_false_iff, beq_iff_eq, bne_iff_ne, Int.not_lt, Int.not_le, ne_eq] at hc162
                    first | (simp at hc162; done) | omega | (simp at hc162; omega) | (simp_all; done)
                  · try simp only [decide_eq_true_eq, decide_eq_false_iff_not, Bool.not_eq_true', Bool.not_eq_false', Bool.not_eq_true, Bool.not_eq_false, Bool.and_eq_true, Bool.or_eq_false_iff, beq_iff_eq, bne_iff_ne, Int.not_lt, Int.not_le, ne_eq] at hc162
                    refine wp_skip ?_
                    refine Sx.then_normal (hK103 _ _ ?_)
                    clear hK103
                    refine wp_seq_k fun K163 hK163 => ?_
                    -- region 19 (extra.go:33)
                    refine Sx.wp_text [(0, .take), (1, .run), (2, .run), (3, .take)] rfl ?_
                    refine Sx.st_take hT rfl rfl rfl rfl (Sx.x_move hT rfl rfl) ?_
                    clear hT; intro a hT
                    refine Sx.st_run hT rfl rfl rfl rfl (Sx.y_loadS hT rfl Tryd.underlying23 Tryd.ti23 rfl ((H.blk 4 rfl).seg (k := 3) rfl) (by rfl)) ?_
                    clear hT; intro a hT
                    refine Sx.st_call hT rfl rfl rfl rfl rfl Tryd.can27 rfl (Obs_calls (H.pre [1] rfl rfl) _ _ _) ?_
                    rintro _ w152 ⟨rfl, K⟩
                    refine ⟨_, rfl, ?_⟩
                    clear hT; intro a hT
                    replace H := H.back [1] [0, 2, 3, 4, 5] rfl rfl rfl K rfl; clear K
                    refine Sx.st_take hT rfl rfl rfl rfl (Sx.x_assign hT rfl rfl) ?_
                    clear hT; intro a hT
                    replace hT := hT.keep [19, 116, 18, 17, 82, 16, 15, 14, 48, 13, 35, 12, 11, 23, 10, 9, 6, 0, 1, 2, 3, 4] rfl
                    refine Sx.ser_nil ?_
                    refine Sx.then_normal (hK163 _ _ ?_)
                    clear hK163
                    refine wp_seq_k fun K164 hK164 => ?_
                    -- region 20 (extra.go:34)
                    refine Sx.wp_text [(0, .take), (1, .run), (2, .run), (3, .run)] rfl ?_
                    refine Sx.st_take hT rfl rfl rfl rfl (Sx.x_move hT rfl rfl) ?_
                    clear hT; intro a hT
                    refine Sx.st_call hT rfl rfl rfl rfl rfl Tryd.can29 rfl (Last_calls (H.blk 0 rfl)) ?_
                    rintro _ w153 ⟨rfl, E⟩
                    refine ⟨_, rfl, ?_⟩
                    clear hT; intro a hT
                    replace H := H.pure E; clear E
                    refine Sx.st_eff hT rfl rfl rfl rfl (Sx.y_alloc hT rfl Tryd.ti23 rfl _) ?_
                    clear hT; rintro _ w154 ⟨b23, rfl, N⟩ a hT
                    replace H := H.new N; clear N
                    refine Sx.st_act hT rfl rfl rfl (Sx.y_storeS hT rfl Tryd.ti23 rfl rfl rfl rfl rfl (H.blk 0 rfl) rfl) ?_
                    rintro w155 ⟨hb, E, _⟩
                    replace H := H.setB 0 rfl hb E rfl; clear hb E
                    replace hT := hT.keep [20, 19, 116, 18, 17, 82, 16, 15, 14, 48, 13, 35, 12, 11, 23, 10, 9, 6, 0, 1, 2, 3, 4] rfl
                    refine Sx.ser_nil ?_
                    refine Sx.then_normal (hK164 _ _ ?_)
                    clear hK164
                    refine wp_seq_k fun K165 hK165 => ?_
                    -- region 21 (extra.go:35)
                    refine Sx.wp_text [(0, .take), (1, .run), (2, .run), (3, .take)] rfl ?_
                    refine Sx.st_take hT rfl rfl rfl rfl (Sx.x_move hT rfl rfl) ?_
                    clear hT; intro a hT
                    refine Sx.st_run hT rfl rfl rfl rfl (Sx.y_loadS hT rfl Tryd.underlying23 Tryd.ti23 rfl ((H.blk 5 rfl).seg (k := 3) rfl) (by rfl)) ?_
                    clear hT; intro a hT
                    refine Sx.st_call hT rfl rfl rfl rfl rfl Tryd.can27 rfl (Obs_calls (H.pre [1] rfl rfl) _ _ _) ?_
                    rintro _ w156 ⟨rfl, K⟩
                    refine ⟨_, rfl, ?_⟩
                    clear hT; intro a hT
                    replace H := H.back [1] [0, 2, 3, 4, 5, 6] rfl rfl rfl K rfl; clear K
                    refine Sx.st_take hT rfl rfl rfl rfl (Sx.x_assign hT rfl rfl) ?_
                    clear hT; intro a hT
                    replace hT := hT.keep [21, 20, 19, 116, 18, 17, 82, 16, 15, 14, 48, 13, 35, 12, 11, 23, 10, 9, 6, 0, 1, 2, 3, 4] rfl
                    refine Sx.ser_nil ?_
                    refine Sx.then_normal (hK165 _ _ ?_)
                    clear hK165
                    refine wp_seq_k fun K166 hK166 => ?_
                    -- region 22 (extra.go:36)
                    rw [obs_twice] at H
                    refine Sx.wp_draws (fun u => Sx.Ext (Sx.No) u) [(0, .keep), (1, .take), (2, .take), (3, .take), (4, .take), (5, .take), (6, .take), (7, .take), (9, .held), (8, .keep), (10, .take), (11, .take), (12, .take), (13, .take), (14, .take), (15, .held), (16, .keep), (17, .take), (18, .take), (19, .take), (20, .take), (21, .held), (22, .take), (23, .take), (24, .take), (25, .take)] (by kernel_rfl) (by kernel_rfl) (fun u E _ => ?_)
                    replace H := H.pure E; clear E
                    have hH : Sx.Ext (Sx.No) u u := Sx.Ext.refl _ _
                    have Hu := H
                    refine Sx.st_callkeep hT rfl rfl rfl rfl rfl Tryd.can10 rfl (first_calls _) ?_
                    rintro _ w157 ⟨rfl, E⟩
                    refine ⟨_, rfl, hH.step E, ?_⟩
                    replace hH := hH.step E
                    clear hT; intro a hT
                    replace H := H.pure E; clear E
                    refine Sx.st_take hT rfl rfl rfl rfl (Sx.x_move hT rfl rfl) ?_
                    clear hT; intro a hT
                    refine Sx.st_take hT rfl rfl rfl rfl (Sx.x_move hT rfl rfl) ?_
                    clear hT; intro a hT
                    refine Sx.st_take hT rfl rfl rfl rfl (Sx.x_move hT rfl rfl) ?_
                    clear hT; intro a hT
                    refine Sx.st_take hT rfl rfl rfl rfl ((fun w => Sx.x_eq w hT rfl rfl rfl)) ?_
                    clear hT; intro a hT
                    refine Sx.st_take hT rfl rfl rfl rfl (Sx.x_pick_t hT rfl rfl rfl) ?_
                    clear hT; intro a hT
                    refine Sx.st_take hT rfl rfl rfl rfl (Sx.x_move hT rfl rfl) ?_
                    clear hT; intro a hT
                    -- guard (22, 6)
                    refine Sx.Sl.two hT 131 rfl (fun hc167 hT => ?_) (fun hc167 hT => ?_)
                    · try simp only [decide_eq_true_eq, decide_eq_false_iff_not, Bool.not_eq_true', Bool.not_eq_false', Bool.not_eq_true, Bool.not_eq_false, Bool.and_eq_true, Bool.or_eq_false_iff, beq_iff_eq, bne_iff_ne, Int.not_lt, Int.not_le, ne_eq] at hc167
                      refine Sx.st_take hT rfl rfl rfl rfl (Sx.x_move hT rfl rfl) ?_
                      clear hT; intro a hT
                      refine Sx.st_held hT rfl rfl rfl rfl hH (fun w' h' => Sx.y_loadS hT rfl Tryd.underlying23 Tryd.ti23 rfl ((Hu.heldB 1 rfl h' Sx.off_No).seg (k := 3) rfl) (by rfl)) ?_
                      clear hT; intro a hT
                      refine Sx.st_callkeep hT rfl rfl rfl rfl rfl Tryd.can29 rfl (Last_calls (H.blk 0 rfl)) ?_
                      rintro _ w158 ⟨rfl, E⟩
                      refine ⟨_, rfl, hH.step E, ?_⟩
                      replace hH := hH.step E
                      clear hT; intro a hT
                      replace H := H.pure E; clear E
                      refine Sx.st_take hT rfl rfl rfl rfl (Sx.x_eqS hT rfl (by kernel_rfl) (Tryd.eq23 _ _ _ _ _ _) rfl rfl rfl) ?_
                      clear hT; intro a hT
                      refine Sx.st_take hT rfl rfl rfl rfl (Sx.x_pick_t hT rfl rfl rfl) ?_
                      clear hT; intro a hT
                      refine Sx.st_take hT rfl rfl rfl rfl (Sx.x_move hT rfl rfl) ?_
                      clear hT; intro a hT
                      -- guard (22, 12)
                      refine Sx.Sl.two hT 137 rfl (fun hc168 hT => ?_) (fun hc168 hT => ?_)
                      · try simp only [decide_eq_true_eq, decide_eq_false_iff_not, Bool.not_eq_true', Bool.not_eq_false', Bool.not_eq_true, Bool.not_eq_false, Bool.and_eq_true, Bool.or_eq_false_iff, beq_iff_eq, bne_iff_ne, Int.not_lt, Int.not_le, ne_eq] at hc168
                        refine Sx.st_take hT rfl rfl rfl rfl (Sx.x_move hT rfl rfl) ?_
                        clear hT; intro a hT
                        refine Sx.st_take hT rfl rfl rfl rfl ((fun w => Sx.x_eq w hT rfl rfl rfl)) ?_
                        clear hT; intro a hT
                        refine Sx.st_held hT rfl rfl rfl rfl hH (fun w' h' => Sx.y_loadS hT rfl Tryd.underlying23 Tryd.ti23 rfl ((Hu.heldB 5 rfl h' Sx.off_No).seg (k := 3) rfl) (by rfl)) ?_
                        clear hT; intro a hT
                        refine Sx.st_callkeep hT rfl rfl rfl rfl rfl Tryd.can13 rfl (May_calls _ _ _ _) ?_
                        rintro _ w159 ⟨rfl, E⟩
                        refine ⟨_, rfl, hH.step E, ?_⟩
                        replace hH := hH.step E
                        clear hT; intro a hT
                        replace H := H.pure E; clear E
                        refine Sx.st_take hT rfl rfl rfl rfl (Sx.x_eqb hT rfl Tryd.underlying4 rfl rfl) ?_
                        clear hT; intro a hT
                        refine Sx.st_take hT rfl rfl rfl rfl (Sx.x_pick_t hT rfl rfl rfl) ?_
                        clear hT; intro a hT
                        refine Sx.st_take hT rfl rfl rfl rfl (Sx.x_move hT rfl rfl) ?_
                        clear hT; intro a hT
                        -- guard (22, 19)
                        refine Sx.Sl.two hT 144 rfl (fun hc169 hT => ?_) (fun hc169 hT => ?_)
                        · try simp only [decide_eq_true_eq, decide_eq_false_iff_not, Bool.not_eq_true', Bool.not_eq_false', Bool.not_eq_true, Bool.not_eq_false, Bool.and_eq_true, Bool.or_eq_false_iff, beq_iff_eq, bne_iff_ne, Int.not_lt, Int.not_le, ne_eq] at hc169
                          refine Sx.st_take hT rfl rfl rfl rfl (Sx.x_fieldAddr hT rfl Tryd.fa23_2 rfl) ?_
                          clear hT; intro a hT
                          refine Sx.st_held hT rfl rfl rfl rfl hH (fun w' h' => Sx.x_load1 hT rfl Tryd.fl3 rfl ((Hu.heldB 1 rfl h' Sx.off_No).nth rfl)) ?_
                          clear hT; intro a hT
                          refine Sx.st_take hT rfl rfl rfl rfl (Sx.x_move hT rfl rfl) ?_
                          clear hT; intro a hT
                          refine Sx.st_take hT rfl rfl rfl rfl ((fun w => Sx.x_eq w hT rfl rfl rfl)) ?_
                          clear hT; intro a hT
                          refine Sx.st_take hT rfl rfl rfl rfl (Sx.x_pick_t hT rfl rfl rfl) ?_
                          clear hT; intro a hT
                          refine Sx.st_take hT rfl rfl rfl rfl (Sx.x_assign hT rfl rfl) ?_
                          clear hT; intro a hT
                          replace hT := hT.keep [10, 21, 20, 19, 116, 18, 17, 82, 16, 15, 14, 48, 13, 35, 12, 11, 23, 9, 6, 0, 1, 2, 3, 4] rfl
                          clear Hu hH
                          refine Sx.ser_calm ?_
                          refine Sx.then_normal (hK166 _ _ ?_)
                          clear hK166
                          refine wp_ret ?_
                          refine Sx.done1 (fn := Tryd.f6) hT rfl (.tmp (hT.get 10 _ rfl)) ?_
                          exact ⟨ret_b (by simp [obs_node, hnd]), H.ext⟩
                        · exfalso
                          try simp only [decide_eq_true_eq, decide_eq_false_iff_not, Bool.not_eq_true', Bool.not_eq_false', Bool.not_eq_true, Bool.not_eq_false, Bool.and_eq_true, Bool.or_eq_false_iff, beq_iff_eq, bne_iff_ne, Int.not_lt, Int.not_le, ne_eq] at hc169
                          revert hc169; cases may ⟨p, q, r⟩ <;> simp
                      · exfalso
                        try simp only [decide_eq_true_eq, decide_eq_false_iff_not, Bool.not_eq_true', Bool.not_eq_false', Bool.not_eq_true, Bool.not_eq_false, Bool.and_eq_true, Bool.or_eq_false_iff, beq_iff_eq, bne_iff_ne, Int.not_lt, Int.not_le, ne_eq] at hc168
                        first | (simp at hc168; done) | omega | (simp at hc168; omega) | (simp_all; done)
                    · exfalso
                      try simp only [decide_eq_true_eq, decide_eq_false_iff_not, Bool.not_eq_true', Bool.not_eq_false', Bool.not_eq_true, Bool.not_eq_false, Bool.and_eq_true, Bool.or_eq_false_iff, beq_iff_eq, bne_iff_ne, Int.not_lt, Int.not_le, ne_eq] at hc167
                      first | (simp at hc167; done) | omega | (simp at hc167; omega) | (simp_all; done)
                · try simp only [decide_eq_true_eq, decide_eq_false_iff_not, Bool.not_eq_true', Bool.not_eq_false', Bool.not_eq_true, Bool.not_eq_false, Bool.and_eq_true, Bool.or_eq_false_iff, beq_iff_eq, bne_iff_ne, Int.not_lt, Int.not_le, ne_eq] at hc161
                  refine Sx.st_skip hT rfl rfl rfl rfl ?_
                  clear hT; intro a hT
                  refine Sx.st_heldskip hT rfl rfl rfl rfl hH ?_
                  clear hT; intro a hT
                  refine Sx.st_keepskip hT rfl rfl rfl rfl hH ?_
                  clear hT; intro a hT
                  refine Sx.st_skip hT rfl rfl rfl rfl ?_
                  clear hT; intro a hT
                  refine Sx.st_take hT rfl rfl rfl rfl (Sx.x_pick_f hT rfl rfl rfl) ?_
                  clear hT; intro a hT
                  refine Sx.st_take hT rfl rfl rfl rfl (Sx.x_pick_f hT rfl rfl rfl) ?_
                  clear hT; intro a hT
                  replace hT := hT.keep [116, 18, 17, 82, 16, 15, 14, 48, 13, 35, 12, 11, 23, 10, 9, 6, 0, 1, 2, 3, 4] rfl
                  clear Hu hH
                  refine Sx.ser_calm ?_
                  refine Sx.then_normal (hK104 _ _ ?_)
                  clear hK104
                  refine Sx.wp_if hT rfl (fun h => by cases h) (fun _ => ?_)
                  refine wp_skip ?_
                  refine Sx.then_normal (hK103 _ _ ?_)
                  clear hK103
                  refine wp_seq_k fun K170 hK170 => ?_
                  -- region 19 (extra.go:33)
                  refine Sx.wp_text [(0, .take), (1, .run), (2, .run), (3, .take)] rfl ?_
                  refine Sx.st_take hT rfl rfl rfl rfl (Sx.x_move hT rfl rfl) ?_
                  clear hT; intro a hT
                  refine Sx.st_run hT rfl rfl rfl rfl (Sx.y_loadS hT rfl Tryd.underlying23 Tryd.ti23 rfl ((H.blk 4 rfl).seg (k := 3) rfl) (by rfl)) ?_
                  clear hT; intro a hT
                  refine Sx.st_call hT rfl rfl rfl rfl rfl Tryd.can27 rfl (Obs_calls (H.pre [1] rfl rfl) _ _ _) ?_
                  rintro _ w160 ⟨rfl, K⟩
                  refine ⟨_, rfl, ?_⟩
                  clear hT; intro a hT
                  replace H := H.back [1] [0, 2, 3, 4, 5] rfl rfl rfl K rfl; clear K
                  refine Sx.st_take hT rfl rfl rfl rfl (Sx.x_assign hT rfl rfl) ?_
                  clear hT; intro a hT
                  replace hT := hT.keep [19, 116, 18, 17, 82, 16, 15, 14, 48, 13, 35, 12, 11, 23, 10, 9, 6, 0, 1, 2, 3, 4] rfl
                  refine Sx.ser_nil ?_
                  refine Sx.then_normal (hK170 _ _ ?_)
                  clear hK170
                  refine wp_seq_k fun K171 hK171 => ?_
                  -- region 20 (extra.go:34)
                  refine Sx.wp_text [(0, .take), (1, .run), (2, .run), (3, .run)] rfl ?_
                  refine Sx.st_take hT rfl rfl rfl rfl (Sx.x_move hT rfl rfl) ?_
                  clear hT; intro a hT
                  refine Sx.st_call hT rfl rfl rfl rfl rfl Tryd.can29 rfl (Last_calls (H.blk 0 rfl)) ?_
                  rintro _ w161 ⟨rfl, E⟩
                  refine ⟨_, rfl, ?_⟩
                  clear hT; intro a hT
                  replace H := H.pure E; clear E
                  refine Sx.st_eff hT rfl rfl rfl rfl (Sx.y_alloc hT rfl Tryd.ti23 rfl _) ?_
                  clear hT; rintro _ w162 ⟨b24, rfl, N⟩ a hT
                  replace H := H.new N; clear N
                  refine Sx.st_act hT rfl rfl rfl (Sx.y_storeS hT rfl Tryd.ti23 rfl rfl rfl rfl rfl (H.blk 0 rfl) rfl) ?_
                  rintro w163 ⟨hb, E, _⟩
                  replace H := H.setB 0 rfl hb E rfl; clear hb E
                  replace hT := hT.keep [20, 19, 116, 18, 17, 82, 16, 15, 14, 48, 13, 35, 12, 11, 23, 10, 9, 6, 0, 1, 2, 3, 4] rfl
                  refine Sx.ser_nil ?_
                  refine Sx.then_normal (hK171 _ _ ?_)
                  clear hK171
                  refine wp_seq_k fun K172 hK172 => ?_
                  -- region 21 (extra.go:35)
                  refine Sx.wp_text [(0, .take), (1, .run), (2, .run), (3, .take)] rfl ?_
                  refine Sx.st_take hT rfl rfl rfl rfl (Sx.x_move hT rfl rfl) ?_
                  clear hT; intro a hT
                  refine Sx.st_run hT rfl rfl rfl rfl (Sx.y_loadS hT rfl Tryd.underlying23 Tryd.ti23 rfl ((H.blk 5 rfl).seg (k := 3) rfl) (by rfl)) ?_
                  clear hT; intro a hT
                  refine Sx.st_call hT rfl rfl rfl rfl rfl Tryd.can27 rfl (Obs_calls (H.pre [1] rfl rfl) _ _ _) ?_
                  rintro _ w164 ⟨rfl, K⟩
                  refine ⟨_, rfl, ?_⟩
                  clear hT; intro a hT
                  replace H := H.back [1] [0, 2, 3, 4, 5, 6] rfl rfl rfl K rfl; clear K
                  refine Sx.st_take hT rfl rfl rfl rfl (Sx.x_assign hT rfl rfl) ?_
                  clear hT; intro a hT
                  replace hT := hT.keep [21, 20, 19, 116, 18, 17, 82, 16, 15, 14, 48, 13, 35, 12, 11, 23, 10, 9, 6, 0, 1, 2, 3, 4] rfl
                  refine Sx.ser_nil ?_
                  refine Sx.then_normal (hK172 _ _ ?_)
                  clear hK172
                  refine wp_seq_k fun K173 hK173 => ?_
                  -- region 22 (extra.go:36)
                  rw [obs_twice] at H
                  refine Sx.wp_draws (fun u => Sx.Ext (Sx.No) u) [(0, .keep), (1, .take), (2, .take), (3, .take), (4, .take), (5, .take), (6, .take), (7, .take), (9, .held), (8, .keep), (10, .take), (11, .take), (12, .take), (13, .take), (14, .take), (15, .held), (16, .keep), (17, .take), (18, .take), (19, .take), (20, .take), (21, .held), (22, .take), (23, .take), (24, .take), (25, .take)] (by kernel_rfl) (by kernel_rfl) (fun u E _ => ?_)
                  replace H := H.pure E; clear E
                  have hH : Sx.Ext (Sx.No) u u := Sx.Ext.refl _ _
                  have Hu := H
                  refine Sx.st_callkeep hT rfl rfl rfl rfl rfl Tryd.can10 rfl (first_calls _) ?_
                  rintro _ w165 ⟨rfl, E⟩
                  refine ⟨_, rfl, hH.step E, ?_⟩
                  replace hH := hH.step E
                  clear hT; intro a hT
                  replace H := H.pure E; clear E
                  refine Sx.st_take hT rfl rfl rfl rfl (Sx.x_move hT rfl rfl) ?_
                  clear hT; intro a hT
                  refine Sx.st_take hT rfl rfl rfl rfl (Sx.x_move hT rfl rfl) ?_
                  clear hT; intro a hT
                  refine Sx.st_take hT rfl rfl rfl rfl (Sx.x_move hT rfl rfl) ?_
                  clear hT; intro a hT
                  refine Sx.st_take hT rfl rfl rfl rfl ((fun w => Sx.x_eq w hT rfl rfl rfl)) ?_
                  clear hT; intro a hT
                  refine Sx.st_take hT rfl rfl rfl rfl (Sx.x_pick_t hT rfl rfl rfl) ?_
                  clear hT; intro a hT
                  refine Sx.st_take hT rfl rfl rfl rfl (Sx.x_move hT rfl rfl) ?_
                  clear hT; intro a hT
                  -- guard (22, 6)
                  refine Sx.Sl.two hT 131 rfl (fun hc174 hT => ?_) (fun hc174 hT => ?_)
                  · try simp only [decide_eq_true_eq, decide_eq_false_iff_not, Bool.not_eq_true', Bool.not_eq_false', Bool.not_eq_true, Bool.not_eq_false, Bool.and_eq_true, Bool.or_eq_false_iff, beq_iff_eq, bne_iff_ne, Int.not_lt, Int.not_le, ne_eq] at hc174
                    refine Sx.st_take hT rfl rfl rfl rfl (Sx.x_move hT rfl rfl) ?_
                    clear hT; intro a hT
                    refine Sx.st_held hT rfl rfl rfl rfl hH (fun w' h' => Sx.y_loadS hT rfl Tryd.underlying23 Tryd.ti23 rfl ((Hu.heldB 1 rfl h' Sx.off_No).seg (k := 3) rfl) (by rfl)) ?_
                    clear hT; intro a hT
                    refine Sx.st_callkeep hT rfl rfl rfl rfl rfl Tryd.can29 rfl (Last_calls (H.blk 0 rfl)) ?_
                    rintro _ w166 ⟨rfl, E⟩
                    refine ⟨_, rfl, hH.step E, ?_⟩
                    replace hH := hH.step E
                    clear hT; intro a hT
                    replace H := H.pure E; clear E
                    refine Sx.st_take hT rfl rfl rfl rfl (Sx.x_eqS hT rfl (by kernel_rfl) (Tryd.eq23 _ _ _ _ _ _) rfl rfl rfl) ?_
                    clear hT; intro a hT
                    refine Sx.st_take hT rfl rfl rfl rfl (Sx.x_pick_t hT rfl rfl rfl) ?_
                    clear hT; intro a hT
                    refine Sx.st_take hT rfl rfl rfl rfl (Sx.x_move hT rfl rfl) ?_
                    clear hT; intro a hT
                    -- guard (22, 12)
                    refine Sx.Sl.two hT 137 rfl (fun hc175 hT => ?_) (fun hc175 hT => ?_)
                    · try simp only [decide_eq_true_eq, decide_eq_false_iff_not, Bool.not_eq_true', Bool.not_eq_false', Bool.not_eq_true, Bool.not_eq_false, Bool.and_eq_true, Bool.or_eq_false_iff, beq_iff_eq, bne_iff_ne, Int.not_lt, Int.not_le, ne_eq] at hc175
                      refine Sx.st_take hT rfl rfl rfl rfl (Sx.x_move hT rfl rfl) ?_
                      clear hT; intro a hT
                      refine Sx.st_take hT rfl rfl rfl rfl ((fun w => Sx.x_eq w hT rfl rfl rfl)) ?_
                      clear hT; intro a hT
                      refine Sx.st_held hT rfl rfl rfl rfl hH (fun w' h' => Sx.y_loadS hT rfl Tryd.underlying23 Tryd.ti23 rfl ((Hu.heldB 5 rfl h' Sx.off_No).seg (k := 3) rfl) (by rfl)) ?_
                      clear hT; intro a hT
                      refine Sx.st_callkeep hT rfl rfl rfl rfl rfl Tryd.can13 rfl (May_calls _ _ _ _) ?_
                      rintro _ w167 ⟨rfl, E⟩
                      refine ⟨_, rfl, hH.step E, ?_⟩
                      replace hH := hH.step E
                      clear hT; intro a hT
                      replace H := H.pure E; clear E
                      refine Sx.st_take hT rfl rfl rfl rfl (Sx.x_eqb hT rfl Tryd.underlying4 rfl rfl) ?_
                      clear hT; intro a hT
                      refine Sx.st_take hT rfl rfl rfl rfl (Sx.x_pick_t hT rfl rfl rfl) ?_
                      clear hT; intro a hT
                      refine Sx.st_take hT rfl rfl rfl rfl (Sx.x_move hT rfl rfl) ?_
                      clear hT; intro a hT
                      -- guard (22, 19)
                      refine Sx.Sl.two hT 144 rfl (fun hc176 hT => ?_) (fun hc176 hT => ?_)
                      · try simp only [decide_eq_true_eq, decide_eq_false_iff_not, Bool.not_eq_true', Bool.not_eq_false', Bool.not_eq_true, Bool.not_eq_false, Bool.and_eq_true, Bool.or_eq_false_iff, beq_iff_eq, bne_iff_ne, Int.not_lt, Int.not_le, ne_eq] at hc176
                        refine Sx.st_take hT rfl rfl rfl rfl (Sx.x_fieldAddr hT rfl Tryd.fa23_2 rfl) ?_
                        clear hT; intro a hT
                        refine Sx.st_held hT rfl rfl rfl rfl hH (fun w' h' => Sx.x_load1 hT rfl Tryd.fl3 rfl ((Hu.heldB 1 rfl h' Sx.off_No).nth rfl)) ?_
                        clear hT; intro a hT
                        refine Sx.st_take hT rfl rfl rfl rfl (Sx.x_move hT rfl rfl) ?_
                        clear hT; intro a hT
                        refine Sx.st_take hT rfl rfl rfl rfl ((fun w => Sx.x_eq w hT rfl rfl rfl)) ?_
                        clear hT; intro a hT
                        refine Sx.st_take hT rfl rfl rfl rfl (Sx.x_pick_t hT rfl rfl rfl) ?_
                        clear hT; intro a hT
                        refine Sx.st_take hT rfl rfl rfl rfl (Sx.x_assign hT rfl rfl) ?_
                        clear hT; intro a hT
                        replace hT := hT.keep [10, 21, 20, 19, 116, 18, 17, 82, 16, 15, 14, 48, 13, 35, 12, 11, 23, 9, 6, 0, 1, 2, 3, 4] rfl
                        clear Hu hH
                        refine Sx.ser_calm ?_
                        refine Sx.then_normal (hK173 _ _ ?_)
                        clear hK173
                        refine wp_ret ?_
                        refine Sx.done1 (fn := Tryd.f6) hT rfl (.tmp (hT.get 10 _ rfl)) ?_
                        exact ⟨ret_b (by simp [obs_node, hnd]), H.ext⟩
                      · exfalso
                        try simp only [decide_eq_true_eq, decide_eq_false_iff_not, Bool.not_eq_true', Bool.not_eq_false', Bool.not_eq_true, Bool.not_eq_false, Bool.and_eq_true, Bool.or_eq_false_iff, beq_iff_eq, bne_iff_ne, Int.not_lt, Int.not_le, ne_eq] at hc176
                        revert hc176; cases may ⟨p, q, r⟩ <;> simp
                    · exfalso
                      try simp only [decide_eq_true_eq, decide_eq_false_iff_not, Bool.not_eq_true', Bool.not_eq_false', Bool.not_eq_true, Bool.not_eq_false, Bool.and_eq_true, Bool.or_eq_false_iff, beq_iff_eq, bne_iff_ne, Int.not_lt, Int.not_le, ne_eq] at hc175
                      first | (simp at hc175; done) | omega | (simp at hc175; omega) | (simp_all; done)
                  · exfalso
                    try simp only [decide_eq_true_eq, decide_eq_false_iff_not, Bool.not_eq_true', Bool.not_eq_false', Bool.not_eq_true, Bool.not_eq_false, Bool.and_eq_true, Bool.or_eq_false_iff, beq_iff_eq, bne_iff_ne, Int.not_lt, Int.not_le, ne_eq] at hc174
                    first | (simp at hc174; done) | omega | (simp at hc174; omega) | (simp_all; done)

end Go.Proofs.YtioebjimkainjaaDoor
