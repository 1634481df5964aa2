/- Walk: HlcNext. -/
import Derived.Test.YtioebjimkainjaaDoorW9
set_option linter.unusedSimpArgs false
set_option linter.unusedVariables false
namespace Go.Proofs.YtioebjimkainjaaDoor
open Sx
theorem Tryd.can9 : Sx.Can Tryd.prog 9 := ⟨_, Tryd.func9, by kernel_rfl, rfl⟩
theorem cmp_lt (a b : Stamp) : cmp a b < 0 ↔ a.wall < b.wall ∨ (a.wall = b.wall ∧ (a.logical < b.logical ∨ (a.logical = b.logical ∧ a.node < b.node))) := by
  have o1 := order_tri a.wall b.wall
  have o2 := order_tri a.logical b.logical
  have o3 := order_tri a.node b.node
  unfold cmp
  (repeat' split) <;> omega
theorem cmp_zero (a b : Stamp) : cmp a b = 0 ↔ a.wall = b.wall ∧ a.logical = b.logical ∧ a.node = b.node := by
  have o1 := order_tri a.wall b.wall
  have o2 := order_tri a.logical b.logical
  have o3 := order_tri a.node b.node
  unfold cmp
  (repeat' split) <;> omega
theorem order_anti (a b : Int) : order b a = - order a b := by unfold order; (repeat' split) <;> omega
theorem cmp_anti (a b : Stamp) : cmp b a = - cmp a b := by
  have o1 := order_anti a.wall b.wall
  have o2 := order_anti a.logical b.logical
  have o3 := order_anti a.node b.node
  unfold cmp
  (repeat' split) <;> omega
theorem cmp_bd (a b : Stamp) : -1 ≤ cmp a b ∧ cmp a b ≤ 1 := by
  have o1 := order_tri a.wall b.wall
  have o2 := order_tri a.logical b.logical
  have o3 := order_tri a.node b.node
  unfold cmp
  (repeat' split) <;> omega
theorem may_iff (x y z : Int) : may ⟨x, y, z⟩ = true ↔ (0 ≤ x ∧ x ≤ 281474976710656 ∧ 0 ≤ y ∧ y ≤ 65535 ∧ 0 ≤ z ∧ z ≤ 63) := by unfold may; simp
theorem prior_yes (x y z : Int) (h : may ⟨x, y, z⟩ = true) (hnz : ¬ (x = 0 ∧ y = 0 ∧ z = 0)) :
    ∃ a b c, prior ⟨x, y, z⟩ = (⟨a, b, c⟩, true) ∧ may ⟨a, b, c⟩ = true ∧ cmp ⟨a, b, c⟩ ⟨x, y, z⟩ < 0 ∧ ∀ p q r, may ⟨p, q, r⟩ = true → cmp ⟨a, b, c⟩ ⟨p, q, r⟩ < 0 → ¬ cmp ⟨p, q, r⟩ ⟨x, y, z⟩ < 0 := by
  have h9 := (may_iff x y z).1 h
  simp only [cmp_lt, may_iff]
  unfold prior
  rw [if_neg (by simp only [h, Bool.true_eq_false, false_or]; exact hnz)]
  by_cases h1 : 0 < z
  · rw [if_pos h1]
    exact ⟨x, y, z - 1, rfl, by omega, by omega, fun p q r h2 h3 => by omega⟩
  · rw [if_neg h1]
    by_cases h2 : 0 < y
    · rw [if_pos h2]
      exact ⟨x, y - 1, 63, rfl, by omega, by omega, fun p q r h3 h4 => by omega⟩
    · rw [if_neg h2]
      exact ⟨x - 1, 65535, 63, rfl, by omega, by omega, fun p q r h3 h4 => by omega⟩
theorem prior_bad (x y z : Int) (h : may ⟨x, y, z⟩ = false ∨ (x = 0 ∧ y = 0 ∧ z = 0)) : prior ⟨x, y, z⟩ = (⟨0, 0, 0⟩, false) := by
  unfold prior
  rw [if_pos h]
theorem parsed_yes {x y z x1 y1 z1 r1 : Int} (hx : inInt x) (hy : inInt y) (hz : inInt z) (hm : may ⟨x, y, z⟩ = true) (h : Parsed (printS ⟨x, y, z⟩) x1 y1 z1 r1) : x = x1 ∧ y = y1 ∧ z = z1 ∧ r1 = 0 := by
  obtain ⟨h1, h2, h3, h4⟩ := h.one (.inl ⟨rfl, hm, rfl⟩)
  exact ⟨h1.symm, h2.symm, h3.symm, h4⟩
theorem parsed_no {x y z x1 y1 z1 r1 : Int} (hx : inInt x) (hy : inInt y) (hz : inInt z) (hm : may ⟨x, y, z⟩ = false) (h : Parsed (printS ⟨x, y, z⟩) x1 y1 z1 r1) : r1 = 4 := by
  rcases h with ⟨rfl, h1, h2⟩ | ⟨rfl, -⟩
  · have := print_inj ⟨hx, hy, hz⟩ (may_in h1) h2
    rw [← this] at h1
    rw [hm] at h1
    cases h1
  · rfl
theorem Later_lt (x y z p q r : Int) (w : World) (h : cmp ⟨x, y, z⟩ ⟨p, q, r⟩ < 0) : Calls Tryd.prog 17 #[.agg #[.int .i64 x, .int .i64 y, .int .i64 z], .agg #[.int .i64 p, .int .i64 q, .int .i64 r]] w fun e w' => e = .returned (.agg #[.int .i64 p, .int .i64 q, .int .i64 r]) ∧ Ext No w w' := by
  refine (Later_calls x y z p q r w).mono fun e w' k => ?_
  unfold later at k
  rw [if_pos h] at k
  exact k
theorem Later_ge (x y z p q r : Int) (w : World) (h : ¬ cmp ⟨x, y, z⟩ ⟨p, q, r⟩ < 0) : Calls Tryd.prog 17 #[.agg #[.int .i64 x, .int .i64 y, .int .i64 z], .agg #[.int .i64 p, .int .i64 q, .int .i64 r]] w fun e w' => e = .returned (.agg #[.int .i64 x, .int .i64 y, .int .i64 z]) ∧ Ext No w w' := by
  refine (Later_calls x y z p q r w).mono fun e w' k => ?_
  unfold later at k
  rw [if_neg h] at k
  exact k
theorem print_len {x y z : Int} (hx : inInt x) (hy : inInt y) (hz : inInt z) : (printS ⟨x, y, z⟩).length ≤ 2000 := by
  have l1 := itoa_len x hx.1 hx.2
  have l2 := itoa_len y hy.1 hy.2
  have l3 := itoa_len z hz.1 hz.2
  simp only [printS, List.length_append, List.length_cons, List.length_nil]
  omega

theorem Next_yes (x y z p q r : Int) (w : World) (hx : inInt x) (hy : inInt y) (hz : inInt z) (ht : Tab w) (he : Errs w) (hm : may ⟨x, y, z⟩ = true) (hnz : ¬ (x = 0 ∧ y = 0 ∧ z = 0)) : Calls Tryd.prog 9 #[.agg #[.int .i64 x, .int .i64 y, .int .i64 z], .agg #[.int .i64 p, .int .i64 q, .int .i64 r]] w fun e w' => e = .returned (.bool true) ∧ Ext No w w' := by
  obtain ⟨na, nb, nc, hpr, hmp, hlp, hgap⟩ := prior_yes x y z hm hnz
  have hnzb : decide (x = 0 ∧ y = 0 ∧ z = 0) = false := by simpa using hnz
  have RT : Ro w No _ := Ro.of fun w' x => Tab.ext ht x
  have RE : Ro w No _ := Ro.of fun w' x => he.ext x
  have hanti := cmp_anti ⟨x, y, z⟩ ⟨p, q, r⟩
  have hbd := cmp_bd ⟨x, y, z⟩ ⟨p, q, r⟩
  have hsa : cmp ⟨x, y, z⟩ ⟨x, y, z⟩ = 0 := (cmp_zero _ _).2 ⟨rfl, rfl, rfl⟩
  have hsb : cmp ⟨p, q, r⟩ ⟨p, q, r⟩ = 0 := (cmp_zero _ _).2 ⟨rfl, rfl, rfl⟩
  have hzz := cmp_zero ⟨x, y, z⟩ ⟨p, q, r⟩
  simp only at hzz
  have hlen := print_len hx hy hz
  refine Sx.calls_into Tryd.func9 rfl Tryd.ntmps9 rfl fun a hT => ?_
  replace hT := hT.keep [0, 1] rfl
  have H : Sx.Hp w (Sx.No) w [] := Sx.Hp.start _ _
  refine wp_seq_k fun K1 hK1 => ?_
  -- region 0 (law.go:138)
  refine Sx.wp_text [(0, .run), (1, .run), (2, .take)] rfl ?_
  refine Sx.st_eff hT rfl rfl rfl rfl (Sx.y_box hT rfl rfl rfl _) ?_
  clear hT; rintro _ w1 ⟨b1, rfl, N⟩ a hT
  replace H := H.new N; clear N
  refine Sx.st_eff hT rfl rfl rfl rfl (Sx.y_box hT rfl rfl rfl _) ?_
  clear hT; rintro _ w2 ⟨b2, rfl, N⟩ a hT
  replace H := H.new N; clear N
  refine Sx.st_take hT rfl rfl rfl rfl (Sx.x_assign hT rfl rfl) ?_
  clear hT; intro a hT
  replace hT := hT.keep [4, 3, 2, 0, 1] rfl
  refine Sx.ser_nil ?_
  refine Sx.then_normal (hK1 _ _ ?_)
  clear hK1
  refine wp_seq_k fun K2 hK2 => ?_
  refine wp_seq_k fun K3 hK3 => ?_
  -- region 1 (law.go:139)
  refine Sx.wp_text [(0, .run), (1, .take)] rfl ?_
  refine Sx.st_call hT rfl rfl rfl rfl rfl Tryd.can10 rfl (first_calls _) ?_
  rintro _ w3 ⟨rfl, E⟩
  refine ⟨_, rfl, ?_⟩
  clear hT; intro a hT
  replace H := H.pure E; clear E
  refine Sx.st_take hT rfl rfl rfl rfl (Sx.x_not hT rfl rfl) ?_
  clear hT; intro a hT
  replace hT := hT.keep [13, 4, 3, 2, 0, 1] rfl
  refine Sx.ser_nil ?_
  refine Sx.then_normal (hK3 _ _ ?_)
  clear hK3
  refine Sx.wp_if hT rfl (fun h => by cases h) (fun _ => ?_)
  refine wp_skip ?_
  refine Sx.then_normal (hK2 _ _ ?_)
  clear hK2
  refine wp_seq_k fun K4 hK4 => ?_
  -- region 3 (law.go:142)
  refine Sx.wp_text [(0, .run), (1, .run), (2, .take), (3, .take), (4, .take), (5, .run), (6, .run), (7, .take)] rfl ?_
  refine Sx.st_run hT rfl rfl rfl rfl (Sx.y_loadS hT rfl Tryd.underlying23 Tryd.ti23 rfl ((H.blk 1 rfl).seg (k := 3) rfl) (by rfl)) ?_
  clear hT; intro a hT
  refine Sx.st_call hT rfl rfl rfl rfl rfl Tryd.can11 rfl (Prior_at x y z na nb nc true _ hx.1 hx.2 hy.2 hz.2 hpr) ?_
  rintro _ w4 ⟨rfl, E⟩
  refine ⟨_, rfl, ?_⟩
  clear hT; intro a hT
  replace H := H.pure E; clear E
  refine Sx.st_take hT rfl rfl rfl rfl (Sx.x_move hT rfl rfl) ?_
  clear hT; intro a hT
  refine Sx.st_take hT rfl rfl rfl rfl (Sx.x_extractL hT rfl rfl rfl) ?_
  clear hT; intro a hT
  refine Sx.st_take hT rfl rfl rfl rfl (Sx.x_extractL hT rfl rfl rfl) ?_
  clear hT; intro a hT
  refine Sx.st_eff hT rfl rfl rfl rfl (Sx.y_alloc hT rfl Tryd.ti23 rfl _) ?_
  clear hT; rintro _ w5 ⟨b3, rfl, N⟩ a hT
  replace H := H.new N; clear N
  refine Sx.st_act hT rfl rfl rfl (Sx.y_storeS hT rfl Tryd.ti23 rfl rfl rfl rfl rfl (H.blk 0 rfl) rfl) ?_
  rintro w6 ⟨hb, E, _⟩
  replace H := H.setB 0 rfl hb E rfl; clear hb E
  refine Sx.st_take hT rfl rfl rfl rfl (Sx.x_assign hT rfl rfl) ?_
  clear hT; intro a hT
  replace hT := hT.keep [6, 5, 13, 4, 3, 2, 0, 1] rfl
  refine Sx.ser_nil ?_
  refine Sx.then_normal (hK4 _ _ ?_)
  clear hK4
  refine wp_seq_k fun K5 hK5 => ?_
  refine wp_seq_k fun K6 hK6 => ?_
  -- region 4 (law.go:143)
  refine Sx.wp_text [(0, .take), (1, .run), (2, .run), (3, .take), (4, .run), (5, .take), (6, .take), (7, .take), (8, .take)] rfl ?_
  refine Sx.st_take hT rfl rfl rfl rfl (Sx.x_move hT rfl rfl) ?_
  clear hT; intro a hT
  refine Sx.st_run hT rfl rfl rfl rfl (Sx.y_loadS hT rfl Tryd.underlying23 Tryd.ti23 rfl ((H.blk 2 rfl).seg (k := 3) rfl) (by rfl)) ?_
  clear hT; intro a hT
  refine Sx.st_call hT rfl rfl rfl rfl rfl Tryd.can13 rfl (May_calls _ _ _ _) ?_
  rintro _ w7 ⟨rfl, E⟩
  refine ⟨_, rfl, ?_⟩
  clear hT; intro a hT
  replace H := H.pure E; clear E
  refine Sx.st_take hT rfl rfl rfl rfl (Sx.x_move hT rfl rfl) ?_
  clear hT; intro a hT
  -- guard (4, 3)
  refine Sx.Sl.two hT 22 rfl (fun hc7 hT => ?_) (fun hc7 hT => ?_)
  · try simp only [decide_eq_true_eq, decide_eq_false_iff_not, Bool.not_eq_true', Bool.not_eq_false', Bool.not_eq_true, Bool.not_eq_false, Bool.and_eq_true, Bool.or_eq_false_iff, beq_iff_eq, bne_iff_ne, Int.not_lt, Int.not_le, ne_eq] at hc7
    refine Sx.st_run hT rfl rfl rfl rfl (Sx.y_loadS hT rfl Tryd.underlying23 Tryd.ti23 rfl ((H.blk 2 rfl).seg (k := 3) rfl) (by rfl)) ?_
    clear hT; intro a hT
    refine Sx.st_take hT rfl rfl rfl rfl (Sx.x_bld hT rfl Tryd.bld23 rfl rfl) ?_
    clear hT; intro a hT
    refine Sx.st_take hT rfl rfl rfl rfl (Sx.x_neS hT rfl (by kernel_rfl) (Tryd.eq23 _ _ _ _ _ _) rfl rfl rfl) ?_
    clear hT; intro a hT
    refine Sx.st_take hT rfl rfl rfl rfl (Sx.x_pick_t hT rfl rfl rfl) ?_
    clear hT; intro a hT
    refine Sx.st_take hT rfl rfl rfl rfl (Sx.x_neb hT rfl Tryd.underlying4 rfl rfl) ?_
    clear hT; intro a hT
    replace hT := hT.keep [27, 6, 5, 13, 4, 3, 2, 0, 1] rfl
    refine Sx.ser_nil ?_
    refine Sx.then_normal (hK6 _ _ ?_)
    clear hK6
    -- cond 1
    refine Sx.wp_if hT rfl (fun hc8 => ?_) (fun hc8 => ?_)
    · exfalso
      try simp only [decide_eq_true_eq, decide_eq_false_iff_not, Bool.not_eq_true', Bool.not_eq_false', Bool.not_eq_true, Bool.not_eq_false, Bool.and_eq_true, Bool.or_eq_false_iff, beq_iff_eq, bne_iff_ne, Int.not_lt, Int.not_le, ne_eq] at hc8
      first | (simp at hc8; done) | omega | (simp at hc8; omega) | (simp [hm] at hc8; done) | (rw [hnzb] at hc8; simp at hc8; done) | (simp only [hzz] at hc8; simp at hc8; done) | (rw [hm] at hc8; simp at hc8; done)
    · try simp only [decide_eq_true_eq, decide_eq_false_iff_not, Bool.not_eq_true', Bool.not_eq_false', Bool.not_eq_true, Bool.not_eq_false, Bool.and_eq_true, Bool.or_eq_false_iff, beq_iff_eq, bne_iff_ne, Int.not_lt, Int.not_le, ne_eq] at hc8
      refine wp_skip ?_
      refine Sx.then_normal (hK5 _ _ ?_)
      clear hK5
      refine wp_seq_k fun K9 hK9 => ?_
      refine wp_seq_k fun K10 hK10 => ?_
      -- region 6 (law.go:146)
      refine Sx.wp_text [(0, .take), (1, .take), (2, .run), (3, .run), (4, .run), (5, .take), (6, .take), (7, .run), (8, .run), (9, .take), (10, .take), (11, .take)] rfl ?_
      refine Sx.st_take hT rfl rfl rfl rfl (Sx.x_move hT rfl rfl) ?_
      clear hT; intro a hT
      refine Sx.st_take hT rfl rfl rfl rfl (Sx.x_move hT rfl rfl) ?_
      clear hT; intro a hT
      -- guard (6, 1)
      refine Sx.Sl.two hT 29 rfl (fun hc11 hT => ?_) (fun hc11 hT => ?_)
      · try simp only [decide_eq_true_eq, decide_eq_false_iff_not, Bool.not_eq_true', Bool.not_eq_false', Bool.not_eq_true, Bool.not_eq_false, Bool.and_eq_true, Bool.or_eq_false_iff, beq_iff_eq, bne_iff_ne, Int.not_lt, Int.not_le, ne_eq] at hc11
        refine Sx.st_run hT rfl rfl rfl rfl (Sx.y_loadS hT rfl Tryd.underlying23 Tryd.ti23 rfl ((H.blk 0 rfl).seg (k := 3) rfl) (by rfl)) ?_
        clear hT; intro a hT
        refine Sx.st_run hT rfl rfl rfl rfl (Sx.y_loadS hT rfl Tryd.underlying23 Tryd.ti23 rfl ((H.blk 2 rfl).seg (k := 3) rfl) (by rfl)) ?_
        clear hT; intro a hT
        refine Sx.st_call hT rfl rfl rfl rfl rfl Tryd.can15 rfl (Compare_calls _ _ _ _ _ _ _) ?_
        rintro _ w8 ⟨rfl, E⟩
        refine ⟨_, rfl, ?_⟩
        clear hT; intro a hT
        replace H := H.pure E; clear E
        refine Sx.st_take hT rfl rfl rfl rfl ((fun w => Sx.x_ge w hT rfl rfl rfl)) ?_
        clear hT; intro a hT
        refine Sx.st_take hT rfl rfl rfl rfl (Sx.x_move hT rfl rfl) ?_
        clear hT; intro a hT
        -- guard (6, 6)
        refine Sx.Sl.two hT 34 rfl (fun hc12 hT => ?_) (fun hc12 hT => ?_)
        · exfalso
          try simp only [decide_eq_true_eq, decide_eq_false_iff_not, Bool.not_eq_true', Bool.not_eq_false', Bool.not_eq_true, Bool.not_eq_false, Bool.and_eq_true, Bool.or_eq_false_iff, beq_iff_eq, bne_iff_ne, Int.not_lt, Int.not_le, ne_eq] at hc12
          first | (simp at hc12; done) | omega | (simp at hc12; omega) | (simp [hm] at hc12; done) | (rw [hnzb] at hc12; simp at hc12; done) | (simp only [hzz] at hc12; simp at hc12; done) | (rw [hm] at hc12; simp at hc12; done)
        · try simp only [decide_eq_true_eq, decide_eq_false_iff_not, Bool.not_eq_true', Bool.not_eq_false', Bool.not_eq_true, Bool.not_eq_false, Bool.and_eq_true, Bool.or_eq_false_iff, beq_iff_eq, bne_iff_ne, Int.not_lt, Int.not_le, ne_eq] at hc12
          refine Sx.st_run hT rfl rfl rfl rfl (Sx.y_loadS hT rfl Tryd.underlying23 Tryd.ti23 rfl ((H.blk 0 rfl).seg (k := 3) rfl) (by rfl)) ?_
          clear hT; intro a hT
          refine Sx.st_call hT rfl rfl rfl rfl rfl Tryd.can13 rfl (May_calls _ _ _ _) ?_
          rintro _ w9 ⟨rfl, E⟩
          refine ⟨_, rfl, ?_⟩
          clear hT; intro a hT
          replace H := H.pure E; clear E
          refine Sx.st_take hT rfl rfl rfl rfl (Sx.x_not hT rfl rfl) ?_
          clear hT; intro a hT
          refine Sx.st_take hT rfl rfl rfl rfl (Sx.x_pick_f hT rfl rfl rfl) ?_
          clear hT; intro a hT
          refine Sx.st_take hT rfl rfl rfl rfl (Sx.x_pick_t hT rfl rfl rfl) ?_
          clear hT; intro a hT
          replace hT := hT.keep [39, 27, 6, 5, 13, 4, 3, 2, 0, 1] rfl
          refine Sx.ser_nil ?_
          refine Sx.then_normal (hK10 _ _ ?_)
          clear hK10
          -- cond 2
          refine Sx.wp_if hT rfl (fun hc13 => ?_) (fun hc13 => ?_)
          · exfalso
            try simp only [decide_eq_true_eq, decide_eq_false_iff_not, Bool.not_eq_true', Bool.not_eq_false', Bool.not_eq_true, Bool.not_eq_false, Bool.and_eq_true, Bool.or_eq_false_iff, beq_iff_eq, bne_iff_ne, Int.not_lt, Int.not_le, ne_eq] at hc13
            first | (simp at hc13; done) | omega | (simp at hc13; omega) | (simp [hm, hmp] at hc13; done) | (rw [hnzb] at hc13; simp at hc13; done) | (simp only [hzz] at hc13; simp at hc13; done) | (rw [hm] at hc13; simp at hc13; done)
          · try simp only [decide_eq_true_eq, decide_eq_false_iff_not, Bool.not_eq_true', Bool.not_eq_false', Bool.not_eq_true, Bool.not_eq_false, Bool.and_eq_true, Bool.or_eq_false_iff, beq_iff_eq, bne_iff_ne, Int.not_lt, Int.not_le, ne_eq] at hc13
            refine wp_skip ?_
            refine Sx.then_normal (hK9 _ _ ?_)
            clear hK9
            refine wp_seq_k fun K14 hK14 => ?_
            refine wp_seq_k fun K15 hK15 => ?_
            -- region 8 (law.go:149)
            refine Sx.wp_text [(0, .take), (1, .take), (2, .run), (3, .run), (4, .take), (5, .take), (6, .run), (7, .run), (8, .run), (9, .take), (10, .take), (11, .take), (12, .run), (13, .run), (14, .run), (15, .take), (16, .take)] rfl ?_
            refine Sx.st_take hT rfl rfl rfl rfl (Sx.x_move hT rfl rfl) ?_
            clear hT; intro a hT
            refine Sx.st_take hT rfl rfl rfl rfl (Sx.x_move hT rfl rfl) ?_
            clear hT; intro a hT
            -- guard (8, 1)
            refine Sx.Sl.two hT 41 rfl (fun hc16 hT => ?_) (fun hc16 hT => ?_)
            · try simp only [decide_eq_true_eq, decide_eq_false_iff_not, Bool.not_eq_true', Bool.not_eq_false', Bool.not_eq_true, Bool.not_eq_false, Bool.and_eq_true, Bool.or_eq_false_iff, beq_iff_eq, bne_iff_ne, Int.not_lt, Int.not_le, ne_eq] at hc16
              refine Sx.st_run hT rfl rfl rfl rfl (Sx.y_loadS hT rfl Tryd.underlying23 Tryd.ti23 rfl ((H.blk 1 rfl).seg (k := 3) rfl) (by rfl)) ?_
              clear hT; intro a hT
              refine Sx.st_call hT rfl rfl rfl rfl rfl Tryd.can13 rfl (May_calls _ _ _ _) ?_
              rintro _ w10 ⟨rfl, E⟩
              refine ⟨_, rfl, ?_⟩
              clear hT; intro a hT
              replace H := H.pure E; clear E
              refine Sx.st_take hT rfl rfl rfl rfl (Sx.x_pick_t hT rfl rfl rfl) ?_
              clear hT; intro a hT
              refine Sx.st_take hT rfl rfl rfl rfl (Sx.x_move hT rfl rfl) ?_
              clear hT; intro a hT
              -- guard (8, 5)
              refine Sx.Sl.two hT 45 rfl (fun hc17 hT => ?_) (fun hc17 hT => ?_)
              · try simp only [decide_eq_true_eq, decide_eq_false_iff_not, Bool.not_eq_true', Bool.not_eq_false', Bool.not_eq_true, Bool.not_eq_false, Bool.and_eq_true, Bool.or_eq_false_iff, beq_iff_eq, bne_iff_ne, Int.not_lt, Int.not_le, ne_eq] at hc17
                have hmb := hc17
                refine Sx.st_run hT rfl rfl rfl rfl (Sx.y_loadS hT rfl Tryd.underlying23 Tryd.ti23 rfl ((H.blk 0 rfl).seg (k := 3) rfl) (by rfl)) ?_
                clear hT; intro a hT
                refine Sx.st_run hT rfl rfl rfl rfl (Sx.y_loadS hT rfl Tryd.underlying23 Tryd.ti23 rfl ((H.blk 1 rfl).seg (k := 3) rfl) (by rfl)) ?_
                clear hT; intro a hT
                refine Sx.st_call hT rfl rfl rfl rfl rfl Tryd.can15 rfl (Compare_calls _ _ _ _ _ _ _) ?_
                rintro _ w11 ⟨rfl, E⟩
                refine ⟨_, rfl, ?_⟩
                clear hT; intro a hT
                replace H := H.pure E; clear E
                refine Sx.st_take hT rfl rfl rfl rfl ((fun w => Sx.x_lt w hT rfl rfl rfl)) ?_
                clear hT; intro a hT
                refine Sx.st_take hT rfl rfl rfl rfl (Sx.x_pick_t hT rfl rfl rfl) ?_
                clear hT; intro a hT
                refine Sx.st_take hT rfl rfl rfl rfl (Sx.x_move hT rfl rfl) ?_
                clear hT; intro a hT
                -- guard (8, 11)
                refine Sx.Sl.two hT 51 rfl (fun hc18 hT => ?_) (fun hc18 hT => ?_)
                · try simp only [decide_eq_true_eq, decide_eq_false_iff_not, Bool.not_eq_true', Bool.not_eq_false', Bool.not_eq_true, Bool.not_eq_false, Bool.and_eq_true, Bool.or_eq_false_iff, beq_iff_eq, bne_iff_ne, Int.not_lt, Int.not_le, ne_eq] at hc18
                  have hg9 := hgap p q r hmb hc18
                  refine Sx.st_run hT rfl rfl rfl rfl (Sx.y_loadS hT rfl Tryd.underlying23 Tryd.ti23 rfl ((H.blk 1 rfl).seg (k := 3) rfl) (by rfl)) ?_
                  clear hT; intro a hT
                  refine Sx.st_run hT rfl rfl rfl rfl (Sx.y_loadS hT rfl Tryd.underlying23 Tryd.ti23 rfl ((H.blk 2 rfl).seg (k := 3) rfl) (by rfl)) ?_
                  clear hT; intro a hT
                  refine Sx.st_call hT rfl rfl rfl rfl rfl Tryd.can15 rfl (Compare_calls _ _ _ _ _ _ _) ?_
                  rintro _ w12 ⟨rfl, E⟩
                  refine ⟨_, rfl, ?_⟩
                  clear hT; intro a hT
                  replace H := H.pure E; clear E
                  refine Sx.st_take hT rfl rfl rfl rfl ((fun w => Sx.x_lt w hT rfl rfl rfl)) ?_
                  clear hT; intro a hT
                  refine Sx.st_take hT rfl rfl rfl rfl (Sx.x_pick_t hT rfl rfl rfl) ?_
                  clear hT; intro a hT
                  replace hT := hT.keep [56, 39, 27, 6, 5, 13, 4, 3, 2, 0, 1] rfl
                  refine Sx.ser_nil ?_
                  refine Sx.then_normal (hK15 _ _ ?_)
                  clear hK15
                  -- cond 3
                  refine Sx.wp_if hT rfl (fun hc19 => ?_) (fun hc19 => ?_)
                  · exfalso
                    try simp only [decide_eq_true_eq, decide_eq_false_iff_not, Bool.not_eq_true', Bool.not_eq_false', Bool.not_eq_true, Bool.not_eq_false, Bool.and_eq_true, Bool.or_eq_false_iff, beq_iff_eq, bne_iff_ne, Int.not_lt, Int.not_le, ne_eq] at hc19
                    first | (simp at hc19; done) | omega | (simp at hc19; omega) | (simp [hm] at hc19; done) | (rw [hnzb] at hc19; simp at hc19; done) | (simp only [hzz] at hc19; simp at hc19; done) | (rw [hm] at hc19; simp at hc19; done)
                  · try simp only [decide_eq_true_eq, decide_eq_false_iff_not, Bool.not_eq_true', Bool.not_eq_false', Bool.not_eq_true, Bool.not_eq_false, Bool.and_eq_true, Bool.or_eq_false_iff, beq_iff_eq, bne_iff_ne, Int.not_lt, Int.not_le, ne_eq] at hc19
                    refine wp_skip ?_
                    refine Sx.then_normal (hK14 _ _ ?_)
                    clear hK14
                    refine wp_seq_k fun K20 hK20 => ?_
                    -- region 10 (law.go:152)
                    refine Sx.wp_text [(0, .run), (1, .run), (2, .run), (3, .take), (4, .take), (5, .take), (6, .run), (7, .run), (8, .take)] rfl ?_
                    refine Sx.st_run hT rfl rfl rfl rfl (Sx.y_loadS hT rfl Tryd.underlying23 Tryd.ti23 rfl ((H.blk 2 rfl).seg (k := 3) rfl) (by rfl)) ?_
                    clear hT; intro a hT
                    refine Sx.st_call hT rfl rfl rfl rfl rfl Tryd.can19 rfl (Print_calls x y z _ hx hy hz (RT.at H.ext)) ?_
                    rintro _ w13 ⟨rfl, E⟩
                    refine ⟨_, rfl, ?_⟩
                    clear hT; intro a hT
                    replace H := H.pure E; clear E
                    refine Sx.st_call hT rfl rfl rfl rfl rfl Tryd.can31 rfl (Parse_calls (printS ⟨x, y, z⟩) hlen _ (RT.at H.ext) (RE.at H.ext)) ?_
                    rintro _ w14 ⟨x1, y1, z1, r1, rfl, hp1, E⟩
                    refine ⟨_, rfl, ?_⟩
                    clear hT; intro a hT
                    replace H := H.pure E; clear E
                    obtain ⟨rfl, rfl, rfl, rfl⟩ := parsed_yes hx hy hz hm hp1
                    refine Sx.st_take hT rfl rfl rfl rfl (Sx.x_move hT rfl rfl) ?_
                    clear hT; intro a hT
                    refine Sx.st_take hT rfl rfl rfl rfl (Sx.x_extractL hT rfl rfl rfl) ?_
                    clear hT; intro a hT
                    refine Sx.st_take hT rfl rfl rfl rfl (Sx.x_extractL hT rfl rfl rfl) ?_
                    clear hT; intro a hT
                    refine Sx.st_eff hT rfl rfl rfl rfl (Sx.y_alloc hT rfl Tryd.ti23 rfl _) ?_
                    clear hT; rintro _ w15 ⟨b4, rfl, N⟩ a hT
                    replace H := H.new N; clear N
                    refine Sx.st_act hT rfl rfl rfl (Sx.y_storeS hT rfl Tryd.ti23 rfl rfl rfl rfl rfl (H.blk 0 rfl) rfl) ?_
                    rintro w16 ⟨hb, E, _⟩
                    replace H := H.setB 0 rfl hb E rfl; clear hb E
                    refine Sx.st_take hT rfl rfl rfl rfl (Sx.x_assign hT rfl rfl) ?_
                    clear hT; intro a hT
                    replace hT := hT.keep [8, 7, 56, 39, 27, 6, 5, 13, 4, 3, 2, 0, 1] rfl
                    refine Sx.ser_nil ?_
                    refine Sx.then_normal (hK20 _ _ ?_)
                    clear hK20
                    refine wp_seq_k fun K21 hK21 => ?_
                    -- region 11 (law.go:153)
                    refine Sx.wp_text [(0, .take), (1, .take), (2, .run), (3, .run), (4, .take), (5, .take), (6, .take), (7, .take), (8, .take), (9, .run), (10, .run), (11, .take), (12, .take), (13, .take), (14, .take)] rfl ?_
                    refine Sx.st_take hT rfl rfl rfl rfl (Sx.x_move hT rfl rfl) ?_
                    clear hT; intro a hT
                    refine Sx.st_take hT rfl rfl rfl rfl ((fun w => Sx.x_eq w hT rfl rfl rfl)) ?_
                    clear hT; intro a hT
                    refine Sx.st_run hT rfl rfl rfl rfl (Sx.y_loadS hT rfl Tryd.underlying23 Tryd.ti23 rfl ((H.blk 3 rfl).seg (k := 3) rfl) (by rfl)) ?_
                    clear hT; intro a hT
                    refine Sx.st_call hT rfl rfl rfl rfl rfl Tryd.can13 rfl (May_calls _ _ _ _) ?_
                    rintro _ w17 ⟨rfl, E⟩
                    refine ⟨_, rfl, ?_⟩
                    clear hT; intro a hT
                    replace H := H.pure E; clear E
                    refine Sx.st_take hT rfl rfl rfl rfl (Sx.x_eqb hT rfl Tryd.underlying4 rfl rfl) ?_
                    clear hT; intro a hT
                    refine Sx.st_take hT rfl rfl rfl rfl (Sx.x_move hT rfl rfl) ?_
                    clear hT; intro a hT
                    -- guard (11, 5)
                    refine Sx.Sl.two hT 68 rfl (fun hc22 hT => ?_) (fun hc22 hT => ?_)
                    · try simp only [decide_eq_true_eq, decide_eq_false_iff_not, Bool.not_eq_true', Bool.not_eq_false', Bool.not_eq_true, Bool.not_eq_false, Bool.and_eq_true, Bool.or_eq_false_iff, beq_iff_eq, bne_iff_ne, Int.not_lt, Int.not_le, ne_eq] at hc22
                      refine Sx.st_take hT rfl rfl rfl rfl (Sx.x_move hT rfl rfl) ?_
                      clear hT; intro a hT
                      refine Sx.st_take hT rfl rfl rfl rfl ((fun w => Sx.x_ne w hT rfl rfl rfl)) ?_
                      clear hT; intro a hT
                      refine Sx.st_take hT rfl rfl rfl rfl (Sx.x_move hT rfl rfl) ?_
                      clear hT; intro a hT
                      -- guard (11, 8)
                      refine Sx.Sl.two hT 71 rfl (fun hc23 hT => ?_) (fun hc23 hT => ?_)
                      · exfalso
                        try simp only [decide_eq_true_eq, decide_eq_false_iff_not, Bool.not_eq_true', Bool.not_eq_false', Bool.not_eq_true, Bool.not_eq_false, Bool.and_eq_true, Bool.or_eq_false_iff, beq_iff_eq, bne_iff_ne, Int.not_lt, Int.not_le, ne_eq] at hc23
                        first | (simp at hc23; done) | omega | (simp at hc23; omega) | (simp [hm] at hc23; done) | (rw [hnzb] at hc23; simp at hc23; done) | (simp only [hzz] at hc23; simp at hc23; done) | (rw [hm] at hc23; simp at hc23; done)
                      · try simp only [decide_eq_true_eq, decide_eq_false_iff_not, Bool.not_eq_true', Bool.not_eq_false', Bool.not_eq_true, Bool.not_eq_false, Bool.and_eq_true, Bool.or_eq_false_iff, beq_iff_eq, bne_iff_ne, Int.not_lt, Int.not_le, ne_eq] at hc23
                        refine Sx.st_run hT rfl rfl rfl rfl (Sx.y_loadS hT rfl Tryd.underlying23 Tryd.ti23 rfl ((H.blk 0 rfl).seg (k := 3) rfl) (by rfl)) ?_
                        clear hT; intro a hT
                        refine Sx.st_run hT rfl rfl rfl rfl (Sx.y_loadS hT rfl Tryd.underlying23 Tryd.ti23 rfl ((H.blk 3 rfl).seg (k := 3) rfl) (by rfl)) ?_
                        clear hT; intro a hT
                        refine Sx.st_take hT rfl rfl rfl rfl (Sx.x_eqS hT rfl (by kernel_rfl) (Tryd.eq23 _ _ _ _ _ _) rfl rfl rfl) ?_
                        clear hT; intro a hT
                        refine Sx.st_take hT rfl rfl rfl rfl (Sx.x_pick_f hT rfl rfl rfl) ?_
                        clear hT; intro a hT
                        refine Sx.st_take hT rfl rfl rfl rfl (Sx.x_pick_t hT rfl rfl rfl) ?_
                        clear hT; intro a hT
                        refine Sx.st_take hT rfl rfl rfl rfl (Sx.x_assign hT rfl rfl) ?_
                        clear hT; intro a hT
                        replace hT := hT.keep [9, 8, 7, 56, 39, 27, 6, 5, 13, 4, 3, 2, 0, 1] rfl
                        refine Sx.ser_nil ?_
                        refine Sx.then_normal (hK21 _ _ ?_)
                        clear hK21
                        refine wp_seq_k fun K24 hK24 => ?_
                        -- region 12 (law.go:154)
                        refine Sx.wp_draws (fun u => Sx.Ext (Sx.No) u) [(0, .held), (1, .held), (3, .held), (4, .held), (2, .keep), (5, .keep), (6, .take), (7, .take), (8, .take), (9, .held), (10, .held), (13, .held), (14, .held), (15, .take), (11, .keep), (12, .take), (16, .take), (17, .take), (18, .take)] (by kernel_rfl) (by kernel_rfl) (fun u E _ => ?_)
                        replace H := H.pure E; clear E
                        have hH : Sx.Ext (Sx.No) u u := Sx.Ext.refl _ _
                        have Hu := H
                        refine Sx.st_held hT rfl rfl rfl rfl hH (fun w' h' => Sx.y_loadS hT rfl Tryd.underlying23 Tryd.ti23 rfl ((Hu.heldB 3 rfl h' Sx.off_No).seg (k := 3) rfl) (by rfl)) ?_
                        clear hT; intro a hT
                        refine Sx.st_held hT rfl rfl rfl rfl hH (fun w' h' => Sx.y_loadS hT rfl Tryd.underlying23 Tryd.ti23 rfl ((Hu.heldB 2 rfl h' Sx.off_No).seg (k := 3) rfl) (by rfl)) ?_
                        clear hT; intro a hT
                        refine Sx.st_held hT rfl rfl rfl rfl hH (fun w' h' => Sx.y_loadS hT rfl Tryd.underlying23 Tryd.ti23 rfl ((Hu.heldB 2 rfl h' Sx.off_No).seg (k := 3) rfl) (by rfl)) ?_
                        clear hT; intro a hT
                        refine Sx.st_held hT rfl rfl rfl rfl hH (fun w' h' => Sx.y_loadS hT rfl Tryd.underlying23 Tryd.ti23 rfl ((Hu.heldB 3 rfl h' Sx.off_No).seg (k := 3) rfl) (by rfl)) ?_
                        clear hT; intro a hT
                        refine Sx.st_callkeep hT rfl rfl rfl rfl rfl Tryd.can15 rfl (Compare_calls _ _ _ _ _ _ _) ?_
                        rintro _ w18 ⟨rfl, E⟩
                        refine ⟨_, rfl, hH.step E, ?_⟩
                        replace hH := hH.step E
                        clear hT; intro a hT
                        replace H := H.pure E; clear E
                        refine Sx.st_callkeep hT rfl rfl rfl rfl rfl Tryd.can15 rfl (Compare_calls _ _ _ _ _ _ _) ?_
                        rintro _ w19 ⟨rfl, E⟩
                        refine ⟨_, rfl, hH.step E, ?_⟩
                        replace hH := hH.step E
                        clear hT; intro a hT
                        replace H := H.pure E; clear E
                        refine Sx.st_take hT rfl rfl rfl rfl ((fun w => Sx.x_neg w hT rfl rfl (Sx.wrap64 (by omega)))) ?_
                        clear hT; intro a hT
                        refine Sx.st_take hT rfl rfl rfl rfl ((fun w => Sx.x_eq w hT rfl rfl rfl)) ?_
                        clear hT; intro a hT
                        refine Sx.st_take hT rfl rfl rfl rfl (Sx.x_move hT rfl rfl) ?_
                        clear hT; intro a hT
                        -- guard (12, 8)
                        refine Sx.Sl.two hT 85 rfl (fun hc25 hT => ?_) (fun hc25 hT => ?_)
                        · try simp only [decide_eq_true_eq, decide_eq_false_iff_not, Bool.not_eq_true', Bool.not_eq_false', Bool.not_eq_true, Bool.not_eq_false, Bool.and_eq_true, Bool.or_eq_false_iff, beq_iff_eq, bne_iff_ne, Int.not_lt, Int.not_le, ne_eq] at hc25
                          refine Sx.st_held hT rfl rfl rfl rfl hH (fun w' h' => Sx.y_loadS hT rfl Tryd.underlying23 Tryd.ti23 rfl ((Hu.heldB 3 rfl h' Sx.off_No).seg (k := 3) rfl) (by rfl)) ?_
                          clear hT; intro a hT
                          refine Sx.st_held hT rfl rfl rfl rfl hH (fun w' h' => Sx.y_loadS hT rfl Tryd.underlying23 Tryd.ti23 rfl ((Hu.heldB 2 rfl h' Sx.off_No).seg (k := 3) rfl) (by rfl)) ?_
                          clear hT; intro a hT
                          refine Sx.st_held hT rfl rfl rfl rfl hH (fun w' h' => Sx.y_loadS hT rfl Tryd.underlying23 Tryd.ti23 rfl ((Hu.heldB 3 rfl h' Sx.off_No).seg (k := 3) rfl) (by rfl)) ?_
                          clear hT; intro a hT
                          refine Sx.st_held hT rfl rfl rfl rfl hH (fun w' h' => Sx.y_loadS hT rfl Tryd.underlying23 Tryd.ti23 rfl ((Hu.heldB 2 rfl h' Sx.off_No).seg (k := 3) rfl) (by rfl)) ?_
                          clear hT; intro a hT
                          refine Sx.st_take hT rfl rfl rfl rfl (Sx.x_eqS hT rfl (by kernel_rfl) (Tryd.eq23 _ _ _ _ _ _) rfl rfl rfl) ?_
                          clear hT; intro a hT
                          refine Sx.st_callkeep hT rfl rfl rfl rfl rfl Tryd.can15 rfl (Compare_calls _ _ _ _ _ _ _) ?_
                          rintro _ w20 ⟨rfl, E⟩
                          refine ⟨_, rfl, hH.step E, ?_⟩
                          replace hH := hH.step E
                          clear hT; intro a hT
                          replace H := H.pure E; clear E
                          refine Sx.st_take hT rfl rfl rfl rfl ((fun w => Sx.x_eq w hT rfl rfl rfl)) ?_
                          clear hT; intro a hT
                          refine Sx.st_take hT rfl rfl rfl rfl (Sx.x_eqb hT rfl Tryd.underlying4 rfl rfl) ?_
                          clear hT; intro a hT
                          refine Sx.st_take hT rfl rfl rfl rfl (Sx.x_pick_t hT rfl rfl rfl) ?_
                          clear hT; intro a hT
                          refine Sx.st_take hT rfl rfl rfl rfl (Sx.x_assign hT rfl rfl) ?_
                          clear hT; intro a hT
                          replace hT := hT.keep [10, 9, 8, 7, 56, 39, 27, 6, 5, 13, 4, 3, 2, 0, 1] rfl
                          clear Hu hH
                          refine Sx.ser_calm ?_
                          refine Sx.then_normal (hK24 _ _ ?_)
                          clear hK24
                          refine wp_seq_k fun K26 hK26 => ?_
                          by_cases hlt : cmp ⟨x, y, z⟩ ⟨p, q, r⟩ < 0
                          · skip
                            -- region 13 (law.go:155)
                            refine Sx.wp_text [(0, .run), (1, .run), (2, .run), (3, .run), (4, .run)] rfl ?_
                            refine Sx.st_run hT rfl rfl rfl rfl (Sx.y_loadS hT rfl Tryd.underlying23 Tryd.ti23 rfl ((H.blk 3 rfl).seg (k := 3) rfl) (by rfl)) ?_
                            clear hT; intro a hT
                            refine Sx.st_run hT rfl rfl rfl rfl (Sx.y_loadS hT rfl Tryd.underlying23 Tryd.ti23 rfl ((H.blk 2 rfl).seg (k := 3) rfl) (by rfl)) ?_
                            clear hT; intro a hT
                            refine Sx.st_call hT rfl rfl rfl rfl rfl Tryd.can17 rfl (Later_lt _ _ _ _ _ _ _ hlt) ?_
                            rintro _ w21 ⟨rfl, E⟩
                            refine ⟨_, rfl, ?_⟩
                            clear hT; intro a hT
                            replace H := H.pure E; clear E
                            refine Sx.st_eff hT rfl rfl rfl rfl (Sx.y_alloc hT rfl Tryd.ti23 rfl _) ?_
                            clear hT; rintro _ w22 ⟨b5, rfl, N⟩ a hT
                            replace H := H.new N; clear N
                            refine Sx.st_act hT rfl rfl rfl (Sx.y_storeS hT rfl Tryd.ti23 rfl rfl rfl rfl rfl (H.blk 0 rfl) rfl) ?_
                            rintro w23 ⟨hb, E, _⟩
                            replace H := H.setB 0 rfl hb E rfl; clear hb E
                            replace hT := hT.keep [11, 10, 9, 8, 7, 56, 39, 27, 6, 5, 13, 4, 3, 2, 0, 1] rfl
                            refine Sx.ser_nil ?_
                            refine Sx.then_normal (hK26 _ _ ?_)
                            clear hK26
                            refine wp_seq_k fun K27 hK27 => ?_
                            -- region 14 (law.go:156)
                            refine Sx.wp_text [(0, .run), (1, .take), (2, .take), (3, .take), (4, .take), (5, .take), (6, .take), (7, .take), (8, .run), (9, .run), (10, .take), (11, .take), (12, .run), (13, .run), (14, .take), (15, .take), (16, .take), (17, .take), (18, .run), (19, .run), (20, .run), (21, .take), (22, .take), (23, .take), (24, .run), (25, .run), (26, .run), (27, .take), (28, .take), (29, .take)] rfl ?_
                            refine Sx.st_call hT rfl rfl rfl rfl rfl Tryd.can10 rfl (first_calls _) ?_
                            rintro _ w24 ⟨rfl, E⟩
                            refine ⟨_, rfl, ?_⟩
                            clear hT; intro a hT
                            replace H := H.pure E; clear E
                            refine Sx.st_take hT rfl rfl rfl rfl (Sx.x_move hT rfl rfl) ?_
                            clear hT; intro a hT
                            refine Sx.st_take hT rfl rfl rfl rfl (Sx.x_move hT rfl rfl) ?_
                            clear hT; intro a hT
                            refine Sx.st_take hT rfl rfl rfl rfl (Sx.x_pick_t hT rfl rfl rfl) ?_
                            clear hT; intro a hT
                            refine Sx.st_take hT rfl rfl rfl rfl (Sx.x_move hT rfl rfl) ?_
                            clear hT; intro a hT
                            -- guard (14, 4)
                            refine Sx.Sl.two hT 102 rfl (fun hc28 hT => ?_) (fun hc28 hT => ?_)
                            · try simp only [decide_eq_true_eq, decide_eq_false_iff_not, Bool.not_eq_true', Bool.not_eq_false', Bool.not_eq_true, Bool.not_eq_false, Bool.and_eq_true, Bool.or_eq_false_iff, beq_iff_eq, bne_iff_ne, Int.not_lt, Int.not_le, ne_eq] at hc28
                              refine Sx.st_take hT rfl rfl rfl rfl (Sx.x_move hT rfl rfl) ?_
                              clear hT; intro a hT
                              refine Sx.st_take hT rfl rfl rfl rfl (Sx.x_pick_t hT rfl rfl rfl) ?_
                              clear hT; intro a hT
                              refine Sx.st_take hT rfl rfl rfl rfl (Sx.x_move hT rfl rfl) ?_
                              clear hT; intro a hT
                              -- guard (14, 7)
                              refine Sx.Sl.two hT 105 rfl (fun hc29 hT => ?_) (fun hc29 hT => ?_)
                              · try simp only [decide_eq_true_eq, decide_eq_false_iff_not, Bool.not_eq_true', Bool.not_eq_false', Bool.not_eq_true, Bool.not_eq_false, Bool.and_eq_true, Bool.or_eq_false_iff, beq_iff_eq, bne_iff_ne, Int.not_lt, Int.not_le, ne_eq] at hc29
                                refine Sx.st_run hT rfl rfl rfl rfl (Sx.y_loadS hT rfl Tryd.underlying23 Tryd.ti23 rfl ((H.blk 0 rfl).seg (k := 3) rfl) (by rfl)) ?_
                                clear hT; intro a hT
                                refine Sx.st_run hT rfl rfl rfl rfl (Sx.y_loadS hT rfl Tryd.underlying23 Tryd.ti23 rfl ((H.blk 4 rfl).seg (k := 3) rfl) (by rfl)) ?_
                                clear hT; intro a hT
                                refine Sx.st_take hT rfl rfl rfl rfl (Sx.x_eqS hT rfl (by kernel_rfl) (Tryd.eq23 _ _ _ _ _ _) rfl rfl rfl) ?_
                                clear hT; intro a hT
                                refine Sx.st_take hT rfl rfl rfl rfl (Sx.x_move hT rfl rfl) ?_
                                clear hT; intro a hT
                                -- guard (14, 11)
                                refine Sx.Sl.two hT 109 rfl (fun hc30 hT => ?_) (fun hc30 hT => ?_)
                                · try simp only [decide_eq_true_eq, decide_eq_false_iff_not, Bool.not_eq_true', Bool.not_eq_false', Bool.not_eq_true, Bool.not_eq_false, Bool.and_eq_true, Bool.or_eq_false_iff, beq_iff_eq, bne_iff_ne, Int.not_lt, Int.not_le, ne_eq] at hc30
                                  refine Sx.st_runskip hT rfl rfl rfl rfl ?_
                                  clear hT; intro a hT
                                  refine Sx.st_runskip hT rfl rfl rfl rfl ?_
                                  clear hT; intro a hT
                                  refine Sx.st_skip hT rfl rfl rfl rfl ?_
                                  clear hT; intro a hT
                                  refine Sx.st_take hT rfl rfl rfl rfl (Sx.x_pick_t hT rfl rfl rfl) ?_
                                  clear hT; intro a hT
                                  refine Sx.st_take hT rfl rfl rfl rfl (Sx.x_pick_t hT rfl rfl rfl) ?_
                                  clear hT; intro a hT
                                  refine Sx.st_take hT rfl rfl rfl rfl (Sx.x_move hT rfl rfl) ?_
                                  clear hT; intro a hT
                                  refine Sx.st_run hT rfl rfl rfl rfl (Sx.y_loadS hT rfl Tryd.underlying23 Tryd.ti23 rfl ((H.blk 0 rfl).seg (k := 3) rfl) (by rfl)) ?_
                                  clear hT; intro a hT
                                  refine Sx.st_run hT rfl rfl rfl rfl (Sx.y_loadS hT rfl Tryd.underlying23 Tryd.ti23 rfl ((H.blk 4 rfl).seg (k := 3) rfl) (by rfl)) ?_
                                  clear hT; intro a hT
                                  refine Sx.st_call hT rfl rfl rfl rfl rfl Tryd.can15 rfl (Compare_calls _ _ _ _ _ _ _) ?_
                                  rintro _ w25 ⟨rfl, E⟩
                                  refine ⟨_, rfl, ?_⟩
                                  clear hT; intro a hT
                                  replace H := H.pure E; clear E
                                  refine Sx.st_take hT rfl rfl rfl rfl ((fun w => Sx.x_ge w hT rfl rfl rfl)) ?_
                                  clear hT; intro a hT
                                  refine Sx.st_take hT rfl rfl rfl rfl (Sx.x_pick_t hT rfl rfl rfl) ?_
                                  clear hT; intro a hT
                                  refine Sx.st_take hT rfl rfl rfl rfl (Sx.x_move hT rfl rfl) ?_
                                  clear hT; intro a hT
                                  -- guard (14, 23)
                                  refine Sx.Sl.two hT 121 rfl (fun hc31 hT => ?_) (fun hc31 hT => ?_)
                                  · try simp only [decide_eq_true_eq, decide_eq_false_iff_not, Bool.not_eq_true', Bool.not_eq_false', Bool.not_eq_true, Bool.not_eq_false, Bool.and_eq_true, Bool.or_eq_false_iff, beq_iff_eq, bne_iff_ne, Int.not_lt, Int.not_le, ne_eq] at hc31
                                    refine Sx.st_run hT rfl rfl rfl rfl (Sx.y_loadS hT rfl Tryd.underlying23 Tryd.ti23 rfl ((H.blk 0 rfl).seg (k := 3) rfl) (by rfl)) ?_
                                    clear hT; intro a hT
                                    refine Sx.st_run hT rfl rfl rfl rfl (Sx.y_loadS hT rfl Tryd.underlying23 Tryd.ti23 rfl ((H.blk 3 rfl).seg (k := 3) rfl) (by rfl)) ?_
                                    clear hT; intro a hT
                                    refine Sx.st_call hT rfl rfl rfl rfl rfl Tryd.can15 rfl (Compare_calls _ _ _ _ _ _ _) ?_
                                    rintro _ w26 ⟨rfl, E⟩
                                    refine ⟨_, rfl, ?_⟩
                                    clear hT; intro a hT
                                    replace H := H.pure E; clear E
                                    refine Sx.st_take hT rfl rfl rfl rfl ((fun w => Sx.x_ge w hT rfl rfl rfl)) ?_
                                    clear hT; intro a hT
                                    refine Sx.st_take hT rfl rfl rfl rfl (Sx.x_pick_t hT rfl rfl rfl) ?_
                                    clear hT; intro a hT
                                    refine Sx.st_take hT rfl rfl rfl rfl (Sx.x_assign hT rfl rfl) ?_
                                    clear hT; intro a hT
                                    replace hT := hT.keep [4, 11, 10, 9, 8, 7, 56, 39, 27, 6, 5, 13, 3, 2, 0, 1] rfl
                                    refine Sx.ser_nil ?_
                                    refine Sx.then_normal (hK27 _ _ ?_)
                                    clear hK27
                                    refine wp_ret ?_
                                    refine Sx.done1 (fn := Tryd.f9) hT rfl (.tmp (hT.get 4 _ rfl)) ?_
                                    first | exact ⟨rfl, H.ext⟩ | exact ⟨ret_b (by first | (simp; done) | (simp only [decide_eq_true_eq]; omega)), H.ext⟩
                                  · exfalso
                                    try simp only [decide_eq_true_eq, decide_eq_false_iff_not, Bool.not_eq_true', Bool.not_eq_false', Bool.not_eq_true, Bool.not_eq_false, Bool.and_eq_true, Bool.or_eq_false_iff, beq_iff_eq, bne_iff_ne, Int.not_lt, Int.not_le, ne_eq] at hc31
                                    first | (simp at hc31; done) | omega | (simp at hc31; omega) | (simp [hm] at hc31; done) | (rw [hnzb] at hc31; simp at hc31; done) | (simp only [hzz] at hc31; simp at hc31; done) | (rw [hm] at hc31; simp at hc31; done)
                                · try simp only [decide_eq_true_eq, decide_eq_false_iff_not, Bool.not_eq_true', Bool.not_eq_false', Bool.not_eq_true, Bool.not_eq_false, Bool.and_eq_true, Bool.or_eq_false_iff, beq_iff_eq, bne_iff_ne, Int.not_lt, Int.not_le, ne_eq] at hc30
                                  refine Sx.st_run hT rfl rfl rfl rfl (Sx.y_loadS hT rfl Tryd.underlying23 Tryd.ti23 rfl ((H.blk 0 rfl).seg (k := 3) rfl) (by rfl)) ?_
                                  clear hT; intro a hT
                                  refine Sx.st_run hT rfl rfl rfl rfl (Sx.y_loadS hT rfl Tryd.underlying23 Tryd.ti23 rfl ((H.blk 3 rfl).seg (k := 3) rfl) (by rfl)) ?_
                                  clear hT; intro a hT
                                  refine Sx.st_take hT rfl rfl rfl rfl (Sx.x_eqS hT rfl (by kernel_rfl) (Tryd.eq23 _ _ _ _ _ _) rfl rfl rfl) ?_
                                  clear hT; intro a hT
                                  refine Sx.st_take hT rfl rfl rfl rfl (Sx.x_pick_f hT rfl rfl rfl) ?_
                                  clear hT; intro a hT
                                  refine Sx.st_take hT rfl rfl rfl rfl (Sx.x_pick_t hT rfl rfl rfl) ?_
                                  clear hT; intro a hT
                                  refine Sx.st_take hT rfl rfl rfl rfl (Sx.x_move hT rfl rfl) ?_
                                  clear hT; intro a hT
                                  -- guard (14, 17)
                                  refine Sx.Sl.two hT 115 rfl (fun hc32 hT => ?_) (fun hc32 hT => ?_)
                                  · try simp only [decide_eq_true_eq, decide_eq_false_iff_not, Bool.not_eq_true', Bool.not_eq_false', Bool.not_eq_true, Bool.not_eq_false, Bool.and_eq_true, Bool.or_eq_false_iff, beq_iff_eq, bne_iff_ne, Int.not_lt, Int.not_le, ne_eq] at hc32
                                    refine Sx.st_run hT rfl rfl rfl rfl (Sx.y_loadS hT rfl Tryd.underlying23 Tryd.ti23 rfl ((H.blk 0 rfl).seg (k := 3) rfl) (by rfl)) ?_
                                    clear hT; intro a hT
                                    refine Sx.st_run hT rfl rfl rfl rfl (Sx.y_loadS hT rfl Tryd.underlying23 Tryd.ti23 rfl ((H.blk 4 rfl).seg (k := 3) rfl) (by rfl)) ?_
                                    clear hT; intro a hT
                                    refine Sx.st_call hT rfl rfl rfl rfl rfl Tryd.can15 rfl (Compare_calls _ _ _ _ _ _ _) ?_
                                    rintro _ w27 ⟨rfl, E⟩
                                    refine ⟨_, rfl, ?_⟩
                                    clear hT; intro a hT
                                    replace H := H.pure E; clear E
                                    refine Sx.st_take hT rfl rfl rfl rfl ((fun w => Sx.x_ge w hT rfl rfl rfl)) ?_
                                    clear hT; intro a hT
                                    refine Sx.st_take hT rfl rfl rfl rfl (Sx.x_pick_t hT rfl rfl rfl) ?_
                                    clear hT; intro a hT
                                    refine Sx.st_take hT rfl rfl rfl rfl (Sx.x_move hT rfl rfl) ?_
                                    clear hT; intro a hT
                                    -- guard (14, 23)
                                    refine Sx.Sl.two hT 121 rfl (fun hc33 hT => ?_) (fun hc33 hT => ?_)
                                    · try simp only [decide_eq_true_eq, decide_eq_false_iff_not, Bool.not_eq_true', Bool.not_eq_false', Bool.not_eq_true, Bool.not_eq_false, Bool.and_eq_true, Bool.or_eq_false_iff, beq_iff_eq, bne_iff_ne, Int.not_lt, Int.not_le, ne_eq] at hc33
                                      refine Sx.st_run hT rfl rfl rfl rfl (Sx.y_loadS hT rfl Tryd.underlying23 Tryd.ti23 rfl ((H.blk 0 rfl).seg (k := 3) rfl) (by rfl)) ?_
                                      clear hT; intro a hT
                                      refine Sx.st_run hT rfl rfl rfl rfl (Sx.y_loadS hT rfl Tryd.underlying23 Tryd.ti23 rfl ((H.blk 3 rfl).seg (k := 3) rfl) (by rfl)) ?_
                                      clear hT; intro a hT
                                      refine Sx.st_call hT rfl rfl rfl rfl rfl Tryd.can15 rfl (Compare_calls _ _ _ _ _ _ _) ?_
                                      rintro _ w28 ⟨rfl, E⟩
                                      refine ⟨_, rfl, ?_⟩
                                      clear hT; intro a hT
                                      replace H := H.pure E; clear E
                                      refine Sx.st_take hT rfl rfl rfl rfl ((fun w => Sx.x_ge w hT rfl rfl rfl)) ?_
                                      clear hT; intro a hT
                                      refine Sx.st_take hT rfl rfl rfl rfl (Sx.x_pick_t hT rfl rfl rfl) ?_
                                      clear hT; intro a hT
                                      refine Sx.st_take hT rfl rfl rfl rfl (Sx.x_assign hT rfl rfl) ?_
                                      clear hT; intro a hT
                                      replace hT := hT.keep [4, 11, 10, 9, 8, 7, 56, 39, 27, 6, 5, 13, 3, 2, 0, 1] rfl
                                      refine Sx.ser_nil ?_
                                      refine Sx.then_normal (hK27 _ _ ?_)
                                      clear hK27
                                      refine wp_ret ?_
                                      refine Sx.done1 (fn := Tryd.f9) hT rfl (.tmp (hT.get 4 _ rfl)) ?_
                                      first | exact ⟨rfl, H.ext⟩ | exact ⟨ret_b (by first | (simp; done) | (simp only [decide_eq_true_eq]; omega)), H.ext⟩
                                    · exfalso
                                      try simp only [decide_eq_true_eq, decide_eq_false_iff_not, Bool.not_eq_true', Bool.not_eq_false', Bool.not_eq_true, Bool.not_eq_false, Bool.and_eq_true, Bool.or_eq_false_iff, beq_iff_eq, bne_iff_ne, Int.not_lt, Int.not_le, ne_eq] at hc33
                                      first | (simp at hc33; done) | omega | (simp at hc33; omega) | (simp [hm] at hc33; done) | (rw [hnzb] at hc33; simp at hc33; done) | (simp only [hzz] at hc33; simp at hc33; done) | (rw [hm] at hc33; simp at hc33; done)
                                  · exfalso
                                    try simp only [decide_eq_true_eq, decide_eq_false_iff_not, Bool.not_eq_true', Bool.not_eq_false', Bool.not_eq_true, Bool.not_eq_false, Bool.and_eq_true, Bool.or_eq_false_iff, beq_iff_eq, bne_iff_ne, Int.not_lt, Int.not_le, ne_eq] at hc32
                                    first | (simp at hc32; done) | omega | (simp at hc32; omega) | (simp [hm] at hc32; done) | (rw [hnzb] at hc32; simp at hc32; done) | (simp only [hzz] at hc32; simp at hc32; done) | (rw [hm] at hc32; simp at hc32; done)
                              · exfalso
                                try simp only [decide_eq_true_eq, decide_eq_false_iff_not, Bool.not_eq_true', Bool.not_eq_false', Bool.not_eq_true, Bool.not_eq_false, Bool.and_eq_true, Bool.or_eq_false_iff, beq_iff_eq, bne_iff_ne, Int.not_lt, Int.not_le, ne_eq] at hc29
                                first | (simp at hc29; done) | omega | (simp at hc29; omega) | (simp [hm] at hc29; done) | (rw [hnzb] at hc29; simp at hc29; done) | (simp only [hzz] at hc29; simp at hc29; done) | (rw [hm] at hc29; simp at hc29; done)
                            · exfalso
                              try simp only [decide_eq_true_eq, decide_eq_false_iff_not, Bool.not_eq_true', Bool.not_eq_false', Bool.not_eq_true, Bool.not_eq_false, Bool.and_eq_true, Bool.or_eq_false_iff, beq_iff_eq, bne_iff_ne, Int.not_lt, Int.not_le, ne_eq] at hc28
                              first | (simp at hc28; done) | omega | (simp at hc28; omega) | (simp [hm] at hc28; done) | (rw [hnzb] at hc28; simp at hc28; done) | (simp only [hzz] at hc28; simp at hc28; done) | (rw [hm] at hc28; simp at hc28; done)
                          · skip
                            -- region 13 (law.go:155)
                            refine Sx.wp_text [(0, .run), (1, .run), (2, .run), (3, .run), (4, .run)] rfl ?_
                            refine Sx.st_run hT rfl rfl rfl rfl (Sx.y_loadS hT rfl Tryd.underlying23 Tryd.ti23 rfl ((H.blk 3 rfl).seg (k := 3) rfl) (by rfl)) ?_
                            clear hT; intro a hT
                            refine Sx.st_run hT rfl rfl rfl rfl (Sx.y_loadS hT rfl Tryd.underlying23 Tryd.ti23 rfl ((H.blk 2 rfl).seg (k := 3) rfl) (by rfl)) ?_
                            clear hT; intro a hT
                            refine Sx.st_call hT rfl rfl rfl rfl rfl Tryd.can17 rfl (Later_ge _ _ _ _ _ _ _ hlt) ?_
                            rintro _ w29 ⟨rfl, E⟩
                            refine ⟨_, rfl, ?_⟩
                            clear hT; intro a hT
                            replace H := H.pure E; clear E
                            refine Sx.st_eff hT rfl rfl rfl rfl (Sx.y_alloc hT rfl Tryd.ti23 rfl _) ?_
                            clear hT; rintro _ w30 ⟨b6, rfl, N⟩ a hT
                            replace H := H.new N; clear N
                            refine Sx.st_act hT rfl rfl rfl (Sx.y_storeS hT rfl Tryd.ti23 rfl rfl rfl rfl rfl (H.blk 0 rfl) rfl) ?_
                            rintro w31 ⟨hb, E, _⟩
                            replace H := H.setB 0 rfl hb E rfl; clear hb E
                            replace hT := hT.keep [11, 10, 9, 8, 7, 56, 39, 27, 6, 5, 13, 4, 3, 2, 0, 1] rfl
                            refine Sx.ser_nil ?_
                            refine Sx.then_normal (hK26 _ _ ?_)
                            clear hK26
                            refine wp_seq_k fun K34 hK34 => ?_
                            -- region 14 (law.go:156)
                            refine Sx.wp_text [(0, .run), (1, .take), (2, .take), (3, .take), (4, .take), (5, .take), (6, .take), (7, .take), (8, .run), (9, .run), (10, .take), (11, .take), (12, .run), (13, .run), (14, .take), (15, .take), (16, .take), (17, .take), (18, .run), (19, .run), (20, .run), (21, .take), (22, .take), (23, .take), (24, .run), (25, .run), (26, .run), (27, .take), (28, .take), (29, .take)] rfl ?_
                            refine Sx.st_call hT rfl rfl rfl rfl rfl Tryd.can10 rfl (first_calls _) ?_
                            rintro _ w32 ⟨rfl, E⟩
                            refine ⟨_, rfl, ?_⟩
                            clear hT; intro a hT
                            replace H := H.pure E; clear E
                            refine Sx.st_take hT rfl rfl rfl rfl (Sx.x_move hT rfl rfl) ?_
                            clear hT; intro a hT
                            refine Sx.st_take hT rfl rfl rfl rfl (Sx.x_move hT rfl rfl) ?_
                            clear hT; intro a hT
                            refine Sx.st_take hT rfl rfl rfl rfl (Sx.x_pick_t hT rfl rfl rfl) ?_
                            clear hT; intro a hT
                            refine Sx.st_take hT rfl rfl rfl rfl (Sx.x_move hT rfl rfl) ?_
                            clear hT; intro a hT
                            -- guard (14, 4)
                            refine Sx.Sl.two hT 102 rfl (fun hc35 hT => ?_) (fun hc35 hT => ?_)
                            · try simp only [decide_eq_true_eq, decide_eq_false_iff_not, Bool.not_eq_true', Bool.not_eq_false', Bool.not_eq_true, Bool.not_eq_false, Bool.and_eq_true, Bool.or_eq_false_iff, beq_iff_eq, bne_iff_ne, Int.not_lt, Int.not_le, ne_eq] at hc35
                              refine Sx.st_take hT rfl rfl rfl rfl (Sx.x_move hT rfl rfl) ?_
                              clear hT; intro a hT
                              refine Sx.st_take hT rfl rfl rfl rfl (Sx.x_pick_t hT rfl rfl rfl) ?_
                              clear hT; intro a hT
                              refine Sx.st_take hT rfl rfl rfl rfl (Sx.x_move hT rfl rfl) ?_
                              clear hT; intro a hT
                              -- guard (14, 7)
                              refine Sx.Sl.two hT 105 rfl (fun hc36 hT => ?_) (fun hc36 hT => ?_)
                              · try simp only [decide_eq_true_eq, decide_eq_false_iff_not, Bool.not_eq_true', Bool.not_eq_false', Bool.not_eq_true, Bool.not_eq_false, Bool.and_eq_true, Bool.or_eq_false_iff, beq_iff_eq, bne_iff_ne, Int.not_lt, Int.not_le, ne_eq] at hc36
                                refine Sx.st_run hT rfl rfl rfl rfl (Sx.y_loadS hT rfl Tryd.underlying23 Tryd.ti23 rfl ((H.blk 0 rfl).seg (k := 3) rfl) (by rfl)) ?_
                                clear hT; intro a hT
                                refine Sx.st_run hT rfl rfl rfl rfl (Sx.y_loadS hT rfl Tryd.underlying23 Tryd.ti23 rfl ((H.blk 4 rfl).seg (k := 3) rfl) (by rfl)) ?_
                                clear hT; intro a hT
                                refine Sx.st_take hT rfl rfl rfl rfl (Sx.x_eqS hT rfl (by kernel_rfl) (Tryd.eq23 _ _ _ _ _ _) rfl rfl rfl) ?_
                                clear hT; intro a hT
                                refine Sx.st_take hT rfl rfl rfl rfl (Sx.x_move hT rfl rfl) ?_
                                clear hT; intro a hT
                                -- guard (14, 11)
                                refine Sx.Sl.two hT 109 rfl (fun hc37 hT => ?_) (fun hc37 hT => ?_)
                                · try simp only [decide_eq_true_eq, decide_eq_false_iff_not, Bool.not_eq_true', Bool.not_eq_false', Bool.not_eq_true, Bool.not_eq_false, Bool.and_eq_true, Bool.or_eq_false_iff, beq_iff_eq, bne_iff_ne, Int.not_lt, Int.not_le, ne_eq] at hc37
                                  refine Sx.st_runskip hT rfl rfl rfl rfl ?_
                                  clear hT; intro a hT
                                  refine Sx.st_runskip hT rfl rfl rfl rfl ?_
                                  clear hT; intro a hT
                                  refine Sx.st_skip hT rfl rfl rfl rfl ?_
                                  clear hT; intro a hT
                                  refine Sx.st_take hT rfl rfl rfl rfl (Sx.x_pick_t hT rfl rfl rfl) ?_
                                  clear hT; intro a hT
                                  refine Sx.st_take hT rfl rfl rfl rfl (Sx.x_pick_t hT rfl rfl rfl) ?_
                                  clear hT; intro a hT
                                  refine Sx.st_take hT rfl rfl rfl rfl (Sx.x_move hT rfl rfl) ?_
                                  clear hT; intro a hT
                                  refine Sx.st_run hT rfl rfl rfl rfl (Sx.y_loadS hT rfl Tryd.underlying23 Tryd.ti23 rfl ((H.blk 0 rfl).seg (k := 3) rfl) (by rfl)) ?_
                                  clear hT; intro a hT
                                  refine Sx.st_run hT rfl rfl rfl rfl (Sx.y_loadS hT rfl Tryd.underlying23 Tryd.ti23 rfl ((H.blk 4 rfl).seg (k := 3) rfl) (by rfl)) ?_
                                  clear hT; intro a hT
                                  refine Sx.st_call hT rfl rfl rfl rfl rfl Tryd.can15 rfl (Compare_calls _ _ _ _ _ _ _) ?_
                                  rintro _ w33 ⟨rfl, E⟩
                                  refine ⟨_, rfl, ?_⟩
                                  clear hT; intro a hT
                                  replace H := H.pure E; clear E
                                  refine Sx.st_take hT rfl rfl rfl rfl ((fun w => Sx.x_ge w hT rfl rfl rfl)) ?_
                                  clear hT; intro a hT
                                  refine Sx.st_take hT rfl rfl rfl rfl (Sx.x_pick_t hT rfl rfl rfl) ?_
                                  clear hT; intro a hT
                                  refine Sx.st_take hT rfl rfl rfl rfl (Sx.x_move hT rfl rfl) ?_
                                  clear hT; intro a hT
                                  -- guard (14, 23)
                                  refine Sx.Sl.two hT 121 rfl (fun hc38 hT => ?_) (fun hc38 hT => ?_)
                                  · try simp only [decide_eq_true_eq, decide_eq_false_iff_not, Bool.not_eq_true', Bool.not_eq_false', Bool.not_eq_true, Bool.not_eq_false, Bool.and_eq_true, Bool.or_eq_false_iff, beq_iff_eq, bne_iff_ne, Int.not_lt, Int.not_le, ne_eq] at hc38
                                    refine Sx.st_run hT rfl rfl rfl rfl (Sx.y_loadS hT rfl Tryd.underlying23 Tryd.ti23 rfl ((H.blk 0 rfl).seg (k := 3) rfl) (by rfl)) ?_
                                    clear hT; intro a hT
                                    refine Sx.st_run hT rfl rfl rfl rfl (Sx.y_loadS hT rfl Tryd.underlying23 Tryd.ti23 rfl ((H.blk 3 rfl).seg (k := 3) rfl) (by rfl)) ?_
                                    clear hT; intro a hT
                                    refine Sx.st_call hT rfl rfl rfl rfl rfl Tryd.can15 rfl (Compare_calls _ _ _ _ _ _ _) ?_
                                    rintro _ w34 ⟨rfl, E⟩
                                    refine ⟨_, rfl, ?_⟩
                                    clear hT; intro a hT
                                    replace H := H.pure E; clear E
                                    refine Sx.st_take hT rfl rfl rfl rfl ((fun w => Sx.x_ge w hT rfl rfl rfl)) ?_
                                    clear hT; intro a hT
                                    refine Sx.st_take hT rfl rfl rfl rfl (Sx.x_pick_t hT rfl rfl rfl) ?_
                                    clear hT; intro a hT
                                    refine Sx.st_take hT rfl rfl rfl rfl (Sx.x_assign hT rfl rfl) ?_
                                    clear hT; intro a hT
                                    replace hT := hT.keep [4, 11, 10, 9, 8, 7, 56, 39, 27, 6, 5, 13, 3, 2, 0, 1] rfl
                                    refine Sx.ser_nil ?_
                                    refine Sx.then_normal (hK34 _ _ ?_)
                                    clear hK34
                                    refine wp_ret ?_
                                    refine Sx.done1 (fn := Tryd.f9) hT rfl (.tmp (hT.get 4 _ rfl)) ?_
                                    first | exact ⟨rfl, H.ext⟩ | exact ⟨ret_b (by first | (simp; done) | (simp only [decide_eq_true_eq]; omega)), H.ext⟩
                                  · exfalso
                                    try simp only [decide_eq_true_eq, decide_eq_false_iff_not, Bool.not_eq_true', Bool.not_eq_false', Bool.not_eq_true, Bool.not_eq_false, Bool.and_eq_true, Bool.or_eq_false_iff, beq_iff_eq, bne_iff_ne, Int.not_lt, Int.not_le, ne_eq] at hc38
                                    first | (simp at hc38; done) | omega | (simp at hc38; omega) | (simp [hm] at hc38; done) | (rw [hnzb] at hc38; simp at hc38; done) | (simp only [hzz] at hc38; simp at hc38; done) | (rw [hm] at hc38; simp at hc38; done)
                                · exfalso
                                  try simp only [decide_eq_true_eq, decide_eq_false_iff_not, Bool.not_eq_true', Bool.not_eq_false', Bool.not_eq_true, Bool.not_eq_false, Bool.and_eq_true, Bool.or_eq_false_iff, beq_iff_eq, bne_iff_ne, Int.not_lt, Int.not_le, ne_eq] at hc37
                                  first | (simp at hc37; done) | omega | (simp at hc37; omega) | (simp [hm] at hc37; done) | (rw [hnzb] at hc37; simp at hc37; done) | (simp only [hzz] at hc37; simp at hc37; done) | (rw [hm] at hc37; simp at hc37; done)
                              · exfalso
                                try simp only [decide_eq_true_eq, decide_eq_false_iff_not, Bool.not_eq_true', Bool.not_eq_false', Bool.not_eq_true, Bool.not_eq_false, Bool.and_eq_true, Bool.or_eq_false_iff, beq_iff_eq, bne_iff_ne, Int.not_lt, Int.not_le, ne_eq] at hc36
                                first | (simp at hc36; done) | omega | (simp at hc36; omega) | (simp [hm] at hc36; done) | (rw [hnzb] at hc36; simp at hc36; done) | (simp only [hzz] at hc36; simp at hc36; done) | (rw [hm] at hc36; simp at hc36; done)
                            · exfalso
                              try simp only [decide_eq_true_eq, decide_eq_false_iff_not, Bool.not_eq_true', Bool.not_eq_false', Bool.not_eq_true, Bool.not_eq_false, Bool.and_eq_true, Bool.or_eq_false_iff, beq_iff_eq, bne_iff_ne, Int.not_lt, Int.not_le, ne_eq] at hc35
                              first | (simp at hc35; done) | omega | (simp at hc35; omega) | (simp [hm] at hc35; done) | (rw [hnzb] at hc35; simp at hc35; done) | (simp only [hzz] at hc35; simp at hc35; done) | (rw [hm] at hc35; simp at hc35; done)
                        · exfalso
                          try simp only [decide_eq_true_eq, decide_eq_false_iff_not, Bool.not_eq_true', Bool.not_eq_false', Bool.not_eq_true, Bool.not_eq_false, Bool.and_eq_true, Bool.or_eq_false_iff, beq_iff_eq, bne_iff_ne, Int.not_lt, Int.not_le, ne_eq] at hc25
                          first | (simp at hc25; done) | omega | (simp at hc25; omega) | (simp [hm] at hc25; done) | (rw [hnzb] at hc25; simp at hc25; done) | (simp only [hzz] at hc25; simp at hc25; done) | (rw [hm] at hc25; simp at hc25; done)
                    · exfalso
                      try simp only [decide_eq_true_eq, decide_eq_false_iff_not, Bool.not_eq_true', Bool.not_eq_false', Bool.not_eq_true, Bool.not_eq_false, Bool.and_eq_true, Bool.or_eq_false_iff, beq_iff_eq, bne_iff_ne, Int.not_lt, Int.not_le, ne_eq] at hc22
                      first | (simp at hc22; done) | omega | (simp at hc22; omega) | (simp [hm] at hc22; done) | (rw [hnzb] at hc22; simp at hc22; done) | (simp only [hzz] at hc22; simp at hc22; done) | (rw [hm] at hc22; simp at hc22; done)
                · try simp only [decide_eq_true_eq, decide_eq_false_iff_not, Bool.not_eq_true', Bool.not_eq_false', Bool.not_eq_true, Bool.not_eq_false, Bool.and_eq_true, Bool.or_eq_false_iff, beq_iff_eq, bne_iff_ne, Int.not_lt, Int.not_le, ne_eq] at hc18
                  refine Sx.st_runskip hT rfl rfl rfl rfl ?_
                  clear hT; intro a hT
                  refine Sx.st_runskip hT rfl rfl rfl rfl ?_
                  clear hT; intro a hT
                  refine Sx.st_runskip hT rfl rfl rfl rfl ?_
                  clear hT; intro a hT
                  refine Sx.st_skip hT rfl rfl rfl rfl ?_
                  clear hT; intro a hT
                  refine Sx.st_take hT rfl rfl rfl rfl (Sx.x_pick_f hT rfl rfl rfl) ?_
                  clear hT; intro a hT
                  replace hT := hT.keep [56, 39, 27, 6, 5, 13, 4, 3, 2, 0, 1] rfl
                  refine Sx.ser_nil ?_
                  refine Sx.then_normal (hK15 _ _ ?_)
                  clear hK15
                  refine Sx.wp_if hT rfl (fun h => by cases h) (fun _ => ?_)
                  refine wp_skip ?_
                  refine Sx.then_normal (hK14 _ _ ?_)
                  clear hK14
                  refine wp_seq_k fun K39 hK39 => ?_
                  -- region 10 (law.go:152)
                  refine Sx.wp_text [(0, .run), (1, .run), (2, .run), (3, .take), (4, .take), (5, .take), (6, .run), (7, .run), (8, .take)] rfl ?_
                  refine Sx.st_run hT rfl rfl rfl rfl (Sx.y_loadS hT rfl Tryd.underlying23 Tryd.ti23 rfl ((H.blk 2 rfl).seg (k := 3) rfl) (by rfl)) ?_
                  clear hT; intro a hT
                  refine Sx.st_call hT rfl rfl rfl rfl rfl Tryd.can19 rfl (Print_calls x y z _ hx hy hz (RT.at H.ext)) ?_
                  rintro _ w35 ⟨rfl, E⟩
                  refine ⟨_, rfl, ?_⟩
                  clear hT; intro a hT
                  replace H := H.pure E; clear E
                  refine Sx.st_call hT rfl rfl rfl rfl rfl Tryd.can31 rfl (Parse_calls (printS ⟨x, y, z⟩) hlen _ (RT.at H.ext) (RE.at H.ext)) ?_
                  rintro _ w36 ⟨x1, y1, z1, r1, rfl, hp1, E⟩
                  refine ⟨_, rfl, ?_⟩
                  clear hT; intro a hT
                  replace H := H.pure E; clear E
                  obtain ⟨rfl, rfl, rfl, rfl⟩ := parsed_yes hx hy hz hm hp1
                  refine Sx.st_take hT rfl rfl rfl rfl (Sx.x_move hT rfl rfl) ?_
                  clear hT; intro a hT
                  refine Sx.st_take hT rfl rfl rfl rfl (Sx.x_extractL hT rfl rfl rfl) ?_
                  clear hT; intro a hT
                  refine Sx.st_take hT rfl rfl rfl rfl (Sx.x_extractL hT rfl rfl rfl) ?_
                  clear hT; intro a hT
                  refine Sx.st_eff hT rfl rfl rfl rfl (Sx.y_alloc hT rfl Tryd.ti23 rfl _) ?_
                  clear hT; rintro _ w37 ⟨b7, rfl, N⟩ a hT
                  replace H := H.new N; clear N
                  refine Sx.st_act hT rfl rfl rfl (Sx.y_storeS hT rfl Tryd.ti23 rfl rfl rfl rfl rfl (H.blk 0 rfl) rfl) ?_
                  rintro w38 ⟨hb, E, _⟩
                  replace H := H.setB 0 rfl hb E rfl; clear hb E
                  refine Sx.st_take hT rfl rfl rfl rfl (Sx.x_assign hT rfl rfl) ?_
                  clear hT; intro a hT
                  replace hT := hT.keep [8, 7, 56, 39, 27, 6, 5, 13, 4, 3, 2, 0, 1] rfl
                  refine Sx.ser_nil ?_
                  refine Sx.then_normal (hK39 _ _ ?_)
                  clear hK39
                  refine wp_seq_k fun K40 hK40 => ?_
                  -- region 11 (law.go:153)
                  refine Sx.wp_text [(0, .take), (1, .take), (2, .run), (3, .run), (4, .take), (5, .take), (6, .take), (7, .take), (8, .take), (9, .run), (10, .run), (11, .take), (12, .take), (13, .take), (14, .take)] rfl ?_
                  refine Sx.st_take hT rfl rfl rfl rfl (Sx.x_move hT rfl rfl) ?_
                  clear hT; intro a hT
                  refine Sx.st_take hT rfl rfl rfl rfl ((fun w => Sx.x_eq w hT rfl rfl rfl)) ?_
                  clear hT; intro a hT
                  refine Sx.st_run hT rfl rfl rfl rfl (Sx.y_loadS hT rfl Tryd.underlying23 Tryd.ti23 rfl ((H.blk 3 rfl).seg (k := 3) rfl) (by rfl)) ?_
                  clear hT; intro a hT
                  refine Sx.st_call hT rfl rfl rfl rfl rfl Tryd.can13 rfl (May_calls _ _ _ _) ?_
                  rintro _ w39 ⟨rfl, E⟩
                  refine ⟨_, rfl, ?_⟩
                  clear hT; intro a hT
                  replace H := H.pure E; clear E
                  refine Sx.st_take hT rfl rfl rfl rfl (Sx.x_eqb hT rfl Tryd.underlying4 rfl rfl) ?_
                  clear hT; intro a hT
                  refine Sx.st_take hT rfl rfl rfl rfl (Sx.x_move hT rfl rfl) ?_
                  clear hT; intro a hT
                  -- guard (11, 5)
                  refine Sx.Sl.two hT 68 rfl (fun hc41 hT => ?_) (fun hc41 hT => ?_)
                  · try simp only [decide_eq_true_eq, decide_eq_false_iff_not, Bool.not_eq_true', Bool.not_eq_false', Bool.not_eq_true, Bool.not_eq_false, Bool.and_eq_true, Bool.or_eq_false_iff, beq_iff_eq, bne_iff_ne, Int.not_lt, Int.not_le, ne_eq] at hc41
                    refine Sx.st_take hT rfl rfl rfl rfl (Sx.x_move hT rfl rfl) ?_
                    clear hT; intro a hT
                    refine Sx.st_take hT rfl rfl rfl rfl ((fun w => Sx.x_ne w hT rfl rfl rfl)) ?_
                    clear hT; intro a hT
                    refine Sx.st_take hT rfl rfl rfl rfl (Sx.x_move hT rfl rfl) ?_
                    clear hT; intro a hT
                    -- guard (11, 8)
                    refine Sx.Sl.two hT 71 rfl (fun hc42 hT => ?_) (fun hc42 hT => ?_)
                    · exfalso
                      try simp only [decide_eq_true_eq, decide_eq_false_iff_not, Bool.not_eq_true', Bool.not_eq_false', Bool.not_eq_true, Bool.not_eq_false, Bool.and_eq_true, Bool.or_eq_false_iff, beq_iff_eq, bne_iff_ne, Int.not_lt, Int.not_le, ne_eq] at hc42
                      first | (simp at hc42; done) | omega | (simp at hc42; omega) | (simp [hm] at hc42; done) | (rw [hnzb] at hc42; simp at hc42; done) | (simp only [hzz] at hc42; simp at hc42; done) | (rw [hm] at hc42; simp at hc42; done)
                    · try simp only [decide_eq_true_eq, decide_eq_false_iff_not, Bool.not_eq_true', Bool.not_eq_false', Bool.not_eq_true, Bool.not_eq_false, Bool.and_eq_true, Bool.or_eq_false_iff, beq_iff_eq, bne_iff_ne, Int.not_lt, Int.not_le, ne_eq] at hc42
                      refine Sx.st_run hT rfl rfl rfl rfl (Sx.y_loadS hT rfl Tryd.underlying23 Tryd.ti23 rfl ((H.blk 0 rfl).seg (k := 3) rfl) (by rfl)) ?_
                      clear hT; intro a hT
                      refine Sx.st_run hT rfl rfl rfl rfl (Sx.y_loadS hT rfl Tryd.underlying23 Tryd.ti23 rfl ((H.blk 3 rfl).seg (k := 3) rfl) (by rfl)) ?_
                      clear hT; intro a hT
                      refine Sx.st_take hT rfl rfl rfl rfl (Sx.x_eqS hT rfl (by kernel_rfl) (Tryd.eq23 _ _ _ _ _ _) rfl rfl rfl) ?_
                      clear hT; intro a hT
                      refine Sx.st_take hT rfl rfl rfl rfl (Sx.x_pick_f hT rfl rfl rfl) ?_
                      clear hT; intro a hT
                      refine Sx.st_take hT rfl rfl rfl rfl (Sx.x_pick_t hT rfl rfl rfl) ?_
                      clear hT; intro a hT
                      refine Sx.st_take hT rfl rfl rfl rfl (Sx.x_assign hT rfl rfl) ?_
                      clear hT; intro a hT
                      replace hT := hT.keep [9, 8, 7, 56, 39, 27, 6, 5, 13, 4, 3, 2, 0, 1] rfl
                      refine Sx.ser_nil ?_
                      refine Sx.then_normal (hK40 _ _ ?_)
                      clear hK40
                      refine wp_seq_k fun K43 hK43 => ?_
                      -- region 12 (law.go:154)
                      refine Sx.wp_draws (fun u => Sx.Ext (Sx.No) u) [(0, .held), (1, .held), (3, .held), (4, .held), (2, .keep), (5, .keep), (6, .take), (7, .take), (8, .take), (9, .held), (10, .held), (13, .held), (14, .held), (15, .take), (11, .keep), (12, .take), (16, .take), (17, .take), (18, .take)] (by kernel_rfl) (by kernel_rfl) (fun u E _ => ?_)
                      replace H := H.pure E; clear E
                      have hH : Sx.Ext (Sx.No) u u := Sx.Ext.refl _ _
                      have Hu := H
                      refine Sx.st_held hT rfl rfl rfl rfl hH (fun w' h' => Sx.y_loadS hT rfl Tryd.underlying23 Tryd.ti23 rfl ((Hu.heldB 3 rfl h' Sx.off_No).seg (k := 3) rfl) (by rfl)) ?_
                      clear hT; intro a hT
                      refine Sx.st_held hT rfl rfl rfl rfl hH (fun w' h' => Sx.y_loadS hT rfl Tryd.underlying23 Tryd.ti23 rfl ((Hu.heldB 2 rfl h' Sx.off_No).seg (k := 3) rfl) (by rfl)) ?_
                      clear hT; intro a hT
                      refine Sx.st_held hT rfl rfl rfl rfl hH (fun w' h' => Sx.y_loadS hT rfl Tryd.underlying23 Tryd.ti23 rfl ((Hu.heldB 2 rfl h' Sx.off_No).seg (k := 3) rfl) (by rfl)) ?_
                      clear hT; intro a hT
                      refine Sx.st_held hT rfl rfl rfl rfl hH (fun w' h' => Sx.y_loadS hT rfl Tryd.underlying23 Tryd.ti23 rfl ((Hu.heldB 3 rfl h' Sx.off_No).seg (k := 3) rfl) (by rfl)) ?_
                      clear hT; intro a hT
                      refine Sx.st_callkeep hT rfl rfl rfl rfl rfl Tryd.can15 rfl (Compare_calls _ _ _ _ _ _ _) ?_
                      rintro _ w40 ⟨rfl, E⟩
                      refine ⟨_, rfl, hH.step E, ?_⟩
                      replace hH := hH.step E
                      clear hT; intro a hT
                      replace H := H.pure E; clear E
                      refine Sx.st_callkeep hT rfl rfl rfl rfl rfl Tryd.can15 rfl (Compare_calls _ _ _ _ _ _ _) ?_
                      rintro _ w41 ⟨rfl, E⟩
                      refine ⟨_, rfl, hH.step E, ?_⟩
                      replace hH := hH.step E
                      clear hT; intro a hT
                      replace H := H.pure E; clear E
                      refine Sx.st_take hT rfl rfl rfl rfl ((fun w => Sx.x_neg w hT rfl rfl (Sx.wrap64 (by omega)))) ?_
                      clear hT; intro a hT
                      refine Sx.st_take hT rfl rfl rfl rfl ((fun w => Sx.x_eq w hT rfl rfl rfl)) ?_
                      clear hT; intro a hT
                      refine Sx.st_take hT rfl rfl rfl rfl (Sx.x_move hT rfl rfl) ?_
                      clear hT; intro a hT
                      -- guard (12, 8)
                      refine Sx.Sl.two hT 85 rfl (fun hc44 hT => ?_) (fun hc44 hT => ?_)
                      · try simp only [decide_eq_true_eq, decide_eq_false_iff_not, Bool.not_eq_true', Bool.not_eq_false', Bool.not_eq_true, Bool.not_eq_false, Bool.and_eq_true, Bool.or_eq_false_iff, beq_iff_eq, bne_iff_ne, Int.not_lt, Int.not_le, ne_eq] at hc44
                        refine Sx.st_held hT rfl rfl rfl rfl hH (fun w' h' => Sx.y_loadS hT rfl Tryd.underlying23 Tryd.ti23 rfl ((Hu.heldB 3 rfl h' Sx.off_No).seg (k := 3) rfl) (by rfl)) ?_
                        clear hT; intro a hT
                        refine Sx.st_held hT rfl rfl rfl rfl hH (fun w' h' => Sx.y_loadS hT rfl Tryd.underlying23 Tryd.ti23 rfl ((Hu.heldB 2 rfl h' Sx.off_No).seg (k := 3) rfl) (by rfl)) ?_
                        clear hT; intro a hT
                        refine Sx.st_held hT rfl rfl rfl rfl hH (fun w' h' => Sx.y_loadS hT rfl Tryd.underlying23 Tryd.ti23 rfl ((Hu.heldB 3 rfl h' Sx.off_No).seg (k := 3) rfl) (by rfl)) ?_
                        clear hT; intro a hT
                        refine Sx.st_held hT rfl rfl rfl rfl hH (fun w' h' => Sx.y_loadS hT rfl Tryd.underlying23 Tryd.ti23 rfl ((Hu.heldB 2 rfl h' Sx.off_No).seg (k := 3) rfl) (by rfl)) ?_
                        clear hT; intro a hT
                        refine Sx.st_take hT rfl rfl rfl rfl (Sx.x_eqS hT rfl (by kernel_rfl) (Tryd.eq23 _ _ _ _ _ _) rfl rfl rfl) ?_
                        clear hT; intro a hT
                        refine Sx.st_callkeep hT rfl rfl rfl rfl rfl Tryd.can15 rfl (Compare_calls _ _ _ _ _ _ _) ?_
                        rintro _ w42 ⟨rfl, E⟩
                        refine ⟨_, rfl, hH.step E, ?_⟩
                        replace hH := hH.step E
                        clear hT; intro a hT
                        replace H := H.pure E; clear E
                        refine Sx.st_take hT rfl rfl rfl rfl ((fun w => Sx.x_eq w hT rfl rfl rfl)) ?_
                        clear hT; intro a hT
                        refine Sx.st_take hT rfl rfl rfl rfl (Sx.x_eqb hT rfl Tryd.underlying4 rfl rfl) ?_
                        clear hT; intro a hT
                        refine Sx.st_take hT rfl rfl rfl rfl (Sx.x_pick_t hT rfl rfl rfl) ?_
                        clear hT; intro a hT
                        refine Sx.st_take hT rfl rfl rfl rfl (Sx.x_assign hT rfl rfl) ?_
                        clear hT; intro a hT
                        replace hT := hT.keep [10, 9, 8, 7, 56, 39, 27, 6, 5, 13, 4, 3, 2, 0, 1] rfl
                        clear Hu hH
                        refine Sx.ser_calm ?_
                        refine Sx.then_normal (hK43 _ _ ?_)
                        clear hK43
                        refine wp_seq_k fun K45 hK45 => ?_
                        by_cases hlt : cmp ⟨x, y, z⟩ ⟨p, q, r⟩ < 0
                        · skip
                          -- region 13 (law.go:155)
                          refine Sx.wp_text [(0, .run), (1, .run), (2, .run), (3, .run), (4, .run)] rfl ?_
                          refine Sx.st_run hT rfl rfl rfl rfl (Sx.y_loadS hT rfl Tryd.underlying23 Tryd.ti23 rfl ((H.blk 3 rfl).seg (k := 3) rfl) (by rfl)) ?_
                          clear hT; intro a hT
                          refine Sx.st_run hT rfl rfl rfl rfl (Sx.y_loadS hT rfl Tryd.underlying23 Tryd.ti23 rfl ((H.blk 2 rfl).seg (k := 3) rfl) (by rfl)) ?_
                          clear hT; intro a hT
                          refine Sx.st_call hT rfl rfl rfl rfl rfl Tryd.can17 rfl (Later_lt _ _ _ _ _ _ _ hlt) ?_
                          rintro _ w43 ⟨rfl, E⟩
                          refine ⟨_, rfl, ?_⟩
                          clear hT; intro a hT
                          replace H := H.pure E; clear E
                          refine Sx.st_eff hT rfl rfl rfl rfl (Sx.y_alloc hT rfl Tryd.ti23 rfl _) ?_
                          clear hT; rintro _ w44 ⟨b8, rfl, N⟩ a hT
                          replace H := H.new N; clear N
                          refine Sx.st_act hT rfl rfl rfl (Sx.y_storeS hT rfl Tryd.ti23 rfl rfl rfl rfl rfl (H.blk 0 rfl) rfl) ?_
                          rintro w45 ⟨hb, E, _⟩
                          replace H := H.setB 0 rfl hb E rfl; clear hb E
                          replace hT := hT.keep [11, 10, 9, 8, 7, 56, 39, 27, 6, 5, 13, 4, 3, 2, 0, 1] rfl
                          refine Sx.ser_nil ?_
                          refine Sx.then_normal (hK45 _ _ ?_)
                          clear hK45
                          refine wp_seq_k fun K46 hK46 => ?_
                          -- region 14 (law.go:156)
                          refine Sx.wp_text [(0, .run), (1, .take), (2, .take), (3, .take), (4, .take), (5, .take), (6, .take), (7, .take), (8, .run), (9, .run), (10, .take), (11, .take), (12, .run), (13, .run), (14, .take), (15, .take), (16, .take), (17, .take), (18, .run), (19, .run), (20, .run), (21, .take), (22, .take), (23, .take), (24, .run), (25, .run), (26, .run), (27, .take), (28, .take), (29, .take)] rfl ?_
                          refine Sx.st_call hT rfl rfl rfl rfl rfl Tryd.can10 rfl (first_calls _) ?_
                          rintro _ w46 ⟨rfl, E⟩
                          refine ⟨_, rfl, ?_⟩
                          clear hT; intro a hT
                          replace H := H.pure E; clear E
                          refine Sx.st_take hT rfl rfl rfl rfl (Sx.x_move hT rfl rfl) ?_
                          clear hT; intro a hT
                          refine Sx.st_take hT rfl rfl rfl rfl (Sx.x_move hT rfl rfl) ?_
                          clear hT; intro a hT
                          refine Sx.st_take hT rfl rfl rfl rfl (Sx.x_pick_t hT rfl rfl rfl) ?_
                          clear hT; intro a hT
                          refine Sx.st_take hT rfl rfl rfl rfl (Sx.x_move hT rfl rfl) ?_
                          clear hT; intro a hT
                          -- guard (14, 4)
                          refine Sx.Sl.two hT 102 rfl (fun hc47 hT => ?_) (fun hc47 hT => ?_)
                          · try simp only [decide_eq_true_eq, decide_eq_false_iff_not, Bool.not_eq_true', Bool.not_eq_false', Bool.not_eq_true, Bool.not_eq_false, Bool.and_eq_true, Bool.or_eq_false_iff, beq_iff_eq, bne_iff_ne, Int.not_lt, Int.not_le, ne_eq] at hc47
                            refine Sx.st_take hT rfl rfl rfl rfl (Sx.x_move hT rfl rfl) ?_
                            clear hT; intro a hT
                            refine Sx.st_take hT rfl rfl rfl rfl (Sx.x_pick_t hT rfl rfl rfl) ?_
                            clear hT; intro a hT
                            refine Sx.st_take hT rfl rfl rfl rfl (Sx.x_move hT rfl rfl) ?_
                            clear hT; intro a hT
                            -- guard (14, 7)
                            refine Sx.Sl.two hT 105 rfl (fun hc48 hT => ?_) (fun hc48 hT => ?_)
                            · try simp only [decide_eq_true_eq, decide_eq_false_iff_not, Bool.not_eq_true', Bool.not_eq_false', Bool.not_eq_true, Bool.not_eq_false, Bool.and_eq_true, Bool.or_eq_false_iff, beq_iff_eq, bne_iff_ne, Int.not_lt, Int.not_le, ne_eq] at hc48
                              refine Sx.st_run hT rfl rfl rfl rfl (Sx.y_loadS hT rfl Tryd.underlying23 Tryd.ti23 rfl ((H.blk 0 rfl).seg (k := 3) rfl) (by rfl)) ?_
                              clear hT; intro a hT
                              refine Sx.st_run hT rfl rfl rfl rfl (Sx.y_loadS hT rfl Tryd.underlying23 Tryd.ti23 rfl ((H.blk 4 rfl).seg (k := 3) rfl) (by rfl)) ?_
                              clear hT; intro a hT
                              refine Sx.st_take hT rfl rfl rfl rfl (Sx.x_eqS hT rfl (by kernel_rfl) (Tryd.eq23 _ _ _ _ _ _) rfl rfl rfl) ?_
                              clear hT; intro a hT
                              refine Sx.st_take hT rfl rfl rfl rfl (Sx.x_move hT rfl rfl) ?_
                              clear hT; intro a hT
                              -- guard (14, 11)
                              refine Sx.Sl.two hT 109 rfl (fun hc49 hT => ?_) (fun hc49 hT => ?_)
                              · try simp only [decide_eq_true_eq, decide_eq_false_iff_not, Bool.not_eq_true', Bool.not_eq_false', Bool.not_eq_true, Bool.not_eq_false, Bool.and_eq_true, Bool.or_eq_false_iff, beq_iff_eq, bne_iff_ne, Int.not_lt, Int.not_le, ne_eq] at hc49
                                refine Sx.st_runskip hT rfl rfl rfl rfl ?_
                                clear hT; intro a hT
                                refine Sx.st_runskip hT rfl rfl rfl rfl ?_
                                clear hT; intro a hT
                                refine Sx.st_skip hT rfl rfl rfl rfl ?_
                                clear hT; intro a hT
                                refine Sx.st_take hT rfl rfl rfl rfl (Sx.x_pick_t hT rfl rfl rfl) ?_
                                clear hT; intro a hT
                                refine Sx.st_take hT rfl rfl rfl rfl (Sx.x_pick_t hT rfl rfl rfl) ?_
                                clear hT; intro a hT
                                refine Sx.st_take hT rfl rfl rfl rfl (Sx.x_move hT rfl rfl) ?_
                                clear hT; intro a hT
                                refine Sx.st_run hT rfl rfl rfl rfl (Sx.y_loadS hT rfl Tryd.underlying23 Tryd.ti23 rfl ((H.blk 0 rfl).seg (k := 3) rfl) (by rfl)) ?_
                                clear hT; intro a hT
                                refine Sx.st_run hT rfl rfl rfl rfl (Sx.y_loadS hT rfl Tryd.underlying23 Tryd.ti23 rfl ((H.blk 4 rfl).seg (k := 3) rfl) (by rfl)) ?_
                                clear hT; intro a hT
                                refine Sx.st_call hT rfl rfl rfl rfl rfl Tryd.can15 rfl (Compare_calls _ _ _ _ _ _ _) ?_
                                rintro _ w47 ⟨rfl, E⟩
                                refine ⟨_, rfl, ?_⟩
                                clear hT; intro a hT
                                replace H := H.pure E; clear E
                                refine Sx.st_take hT rfl rfl rfl rfl ((fun w => Sx.x_ge w hT rfl rfl rfl)) ?_
                                clear hT; intro a hT
                                refine Sx.st_take hT rfl rfl rfl rfl (Sx.x_pick_t hT rfl rfl rfl) ?_
                                clear hT; intro a hT
                                refine Sx.st_take hT rfl rfl rfl rfl (Sx.x_move hT rfl rfl) ?_
                                clear hT; intro a hT
                                -- guard (14, 23)
                                refine Sx.Sl.two hT 121 rfl (fun hc50 hT => ?_) (fun hc50 hT => ?_)
                                · try simp only [decide_eq_true_eq, decide_eq_false_iff_not, Bool.not_eq_true', Bool.not_eq_false', Bool.not_eq_true, Bool.not_eq_false, Bool.and_eq_true, Bool.or_eq_false_iff, beq_iff_eq, bne_iff_ne, Int.not_lt, Int.not_le, ne_eq] at hc50
                                  refine Sx.st_run hT rfl rfl rfl rfl (Sx.y_loadS hT rfl Tryd.underlying23 Tryd.ti23 rfl ((H.blk 0 rfl).seg (k := 3) rfl) (by rfl)) ?_
                                  clear hT; intro a hT
                                  refine Sx.st_run hT rfl rfl rfl rfl (Sx.y_loadS hT rfl Tryd.underlying23 Tryd.ti23 rfl ((H.blk 3 rfl).seg (k := 3) rfl) (by rfl)) ?_
                                  clear hT; intro a hT
                                  refine Sx.st_call hT rfl rfl rfl rfl rfl Tryd.can15 rfl (Compare_calls _ _ _ _ _ _ _) ?_
                                  rintro _ w48 ⟨rfl, E⟩
                                  refine ⟨_, rfl, ?_⟩
                                  clear hT; intro a hT
                                  replace H := H.pure E; clear E
                                  refine Sx.st_take hT rfl rfl rfl rfl ((fun w => Sx.x_ge w hT rfl rfl rfl)) ?_
                                  clear hT; intro a hT
                                  refine Sx.st_take hT rfl rfl rfl rfl (Sx.x_pick_t hT rfl rfl rfl) ?_
                                  clear hT; intro a hT
                                  refine Sx.st_take hT rfl rfl rfl rfl (Sx.x_assign hT rfl rfl) ?_
                                  clear hT; intro a hT
                                  replace hT := hT.keep [4, 11, 10, 9, 8, 7, 56, 39, 27, 6, 5, 13, 3, 2, 0, 1] rfl
                                  refine Sx.ser_nil ?_
                                  refine Sx.then_normal (hK46 _ _ ?_)
                                  clear hK46
                                  refine wp_ret ?_
                                  refine Sx.done1 (fn := Tryd.f9) hT rfl (.tmp (hT.get 4 _ rfl)) ?_
                                  first | exact ⟨rfl, H.ext⟩ | exact ⟨ret_b (by first | (simp; done) | (simp only [decide_eq_true_eq]; omega)), H.ext⟩
                                · exfalso
                                  try simp only [decide_eq_true_eq, decide_eq_false_iff_not, Bool.not_eq_true', Bool.not_eq_false', Bool.not_eq_true, Bool.not_eq_false, Bool.and_eq_true, Bool.or_eq_false_iff, beq_iff_eq, bne_iff_ne, Int.not_lt, Int.not_le, ne_eq] at hc50
                                  first | (simp at hc50; done) | omega | (simp at hc50; omega) | (simp [hm] at hc50; done) | (rw [hnzb] at hc50; simp at hc50; done) | (simp only [hzz] at hc50; simp at hc50; done) | (rw [hm] at hc50; simp at hc50; done)
                              · try simp only [decide_eq_true_eq, decide_eq_false_iff_not, Bool.not_eq_true', Bool.not_eq_false', Bool.not_eq_true, Bool.not_eq_false, Bool.and_eq_true, Bool.or_eq_false_iff, beq_iff_eq, bne_iff_ne, Int.not_lt, Int.not_le, ne_eq] at hc49
                                refine Sx.st_run hT rfl rfl rfl rfl (Sx.y_loadS hT rfl Tryd.underlying23 Tryd.ti23 rfl ((H.blk 0 rfl).seg (k := 3) rfl) (by rfl)) ?_
                                clear hT; intro a hT
                                refine Sx.st_run hT rfl rfl rfl rfl (Sx.y_loadS hT rfl Tryd.underlying23 Tryd.ti23 rfl ((H.blk 3 rfl).seg (k := 3) rfl) (by rfl)) ?_
                                clear hT; intro a hT
                                refine Sx.st_take hT rfl rfl rfl rfl (Sx.x_eqS hT rfl (by kernel_rfl) (Tryd.eq23 _ _ _ _ _ _) rfl rfl rfl) ?_
                                clear hT; intro a hT
                                refine Sx.st_take hT rfl rfl rfl rfl (Sx.x_pick_f hT rfl rfl rfl) ?_
                                clear hT; intro a hT
                                refine Sx.st_take hT rfl rfl rfl rfl (Sx.x_pick_t hT rfl rfl rfl) ?_
                                clear hT; intro a hT
                                refine Sx.st_take hT rfl rfl rfl rfl (Sx.x_move hT rfl rfl) ?_
                                clear hT; intro a hT
                                -- guard (14, 17)
                                refine Sx.Sl.two hT 115 rfl (fun hc51 hT => ?_) (fun hc51 hT => ?_)
                                · try simp only [decide_eq_true_eq, decide_eq_false_iff_not, Bool.not_eq_true', Bool.not_eq_false', Bool.not_eq_true, Bool.not_eq_false, Bool.and_eq_true, Bool.or_eq_false_iff, beq_iff_eq, bne_iff_ne, Int.not_lt, Int.not_le, ne_eq] at hc51
                                  refine Sx.st_run hT rfl rfl rfl rfl (Sx.y_loadS hT rfl Tryd.underlying23 Tryd.ti23 rfl ((H.blk 0 rfl).seg (k := 3) rfl) (by rfl)) ?_
                                  clear hT; intro a hT
                                  refine Sx.st_run hT rfl rfl rfl rfl (Sx.y_loadS hT rfl Tryd.underlying23 Tryd.ti23 rfl ((H.blk 4 rfl).seg (k := 3) rfl) (by rfl)) ?_
                                  clear hT; intro a hT
                                  refine Sx.st_call hT rfl rfl rfl rfl rfl Tryd.can15 rfl (Compare_calls _ _ _ _ _ _ _) ?_
                                  rintro _ w49 ⟨rfl, E⟩
                                  refine ⟨_, rfl, ?_⟩
                                  clear hT; intro a hT
                                  replace H := H.pure E; clear E
                                  refine Sx.st_take hT rfl rfl rfl rfl ((fun w => Sx.x_ge w hT rfl rfl rfl)) ?_
                                  clear hT; intro a hT
                                  refine Sx.st_take hT rfl rfl rfl rfl (Sx.x_pick_t hT rfl rfl rfl) ?_
                                  clear hT; intro a hT
                                  refine Sx.st_take hT rfl rfl rfl rfl (Sx.x_move hT rfl rfl) ?_
                                  clear hT; intro a hT
                                  -- guard (14, 23)
                                  refine Sx.Sl.two hT 121 rfl (fun hc52 hT => ?_) (fun hc52 hT => ?_)
                                  · try simp only [decide_eq_true_eq, decide_eq_false_iff_not, Bool.not_eq_true', Bool.not_eq_false', Bool.not_eq_true, Bool.not_eq_false, Bool.and_eq_true, Bool.or_eq_false_iff, beq_iff_eq, bne_iff_ne, Int.not_lt, Int.not_le, ne_eq] at hc52
                                    refine Sx.st_run hT rfl rfl rfl rfl (Sx.y_loadS hT rfl Tryd.underlying23 Tryd.ti23 rfl ((H.blk 0 rfl).seg (k := 3) rfl) (by rfl)) ?_
                                    clear hT; intro a hT
                                    refine Sx.st_run hT rfl rfl rfl rfl (Sx.y_loadS hT rfl Tryd.underlying23 Tryd.ti23 rfl ((H.blk 3 rfl).seg (k := 3) rfl) (by rfl)) ?_
                                    clear hT; intro a hT
                                    refine Sx.st_call hT rfl rfl rfl rfl rfl Tryd.can15 rfl (Compare_calls _ _ _ _ _ _ _) ?_
                                    rintro _ w50 ⟨rfl, E⟩
                                    refine ⟨_, rfl, ?_⟩
                                    clear hT; intro a hT
                                    replace H := H.pure E; clear E
                                    refine Sx.st_take hT rfl rfl rfl rfl ((fun w => Sx.x_ge w hT rfl rfl rfl)) ?_
                                    clear hT; intro a hT
                                    refine Sx.st_take hT rfl rfl rfl rfl (Sx.x_pick_t hT rfl rfl rfl) ?_
                                    clear hT; intro a hT
                                    refine Sx.st_take hT rfl rfl rfl rfl (Sx.x_assign hT rfl rfl) ?_
                                    clear hT; intro a hT
                                    replace hT := hT.keep [4, 11, 10, 9, 8, 7, 56, 39, 27, 6, 5, 13, 3, 2, 0, 1] rfl
                                    refine Sx.ser_nil ?_
                                    refine Sx.then_normal (hK46 _ _ ?_)
                                    clear hK46
                                    refine wp_ret ?_
                                    refine Sx.done1 (fn := Tryd.f9) hT rfl (.tmp (hT.get 4 _ rfl)) ?_
                                    first | exact ⟨rfl, H.ext⟩ | exact ⟨ret_b (by first | (simp; done) | (simp only [decide_eq_true_eq]; omega)), H.ext⟩
                                  · exfalso
                                    try simp only [decide_eq_true_eq, decide_eq_false_iff_not, Bool.not_eq_true', Bool.not_eq_false', Bool.not_eq_true, Bool.not_eq_false, Bool.and_eq_true, Bool.or_eq_false_iff, beq_iff_eq, bne_iff_ne, Int.not_lt, Int.not_le, ne_eq] at hc52
                                    first | (simp at hc52; done) | omega | (simp at hc52; omega) | (simp [hm] at hc52; done) | (rw [hnzb] at hc52; simp at hc52; done) | (simp only [hzz] at hc52; simp at hc52; done) | (rw [hm] at hc52; simp at hc52; done)
                                · exfalso
                                  try simp only [decide_eq_true_eq, decide_eq_false_iff_not, Bool.not_eq_true', Bool.not_eq_false', Bool.not_eq_true, Bool.not_eq_false, Bool.and_eq_true, Bool.or_eq_false_iff, beq_iff_eq, bne_iff_ne, Int.not_lt, Int.not_le, ne_eq] at hc51
                                  first | (simp at hc51; done) | omega | (simp at hc51; omega) | (simp [hm] at hc51; done) | (rw [hnzb] at hc51; simp at hc51; done) | (simp only [hzz] at hc51; simp at hc51; done) | (rw [hm] at hc51; simp at hc51; done)
                            · exfalso
                              try simp only [decide_eq_true_eq, decide_eq_false_iff_not, Bool.not_eq_true', Bool.not_eq_false', Bool.not_eq_true, Bool.not_eq_false, Bool.and_eq_true, Bool.or_eq_false_iff, beq_iff_eq, bne_iff_ne, Int.not_lt, Int.not_le, ne_eq] at hc48
                              first | (simp at hc48; done) | omega | (simp at hc48; omega) | (simp [hm] at hc48; done) | (rw [hnzb] at hc48; simp at hc48; done) | (simp only [hzz] at hc48; simp at hc48; done) | (rw [hm] at hc48; simp at hc48; done)
                          · exfalso
                            try simp only [decide_eq_true_eq, decide_eq_false_iff_not, Bool.not_eq_true', Bool.not_eq_false', Bool.not_eq_true, Bool.not_eq_false, Bool.and_eq_true, Bool.or_eq_false_iff, beq_iff_eq, bne_iff_ne, Int.not_lt, Int.not_le, ne_eq] at hc47
                            first | (simp at hc47; done) | omega | (simp at hc47; omega) | (simp [hm] at hc47; done) | (rw [hnzb] at hc47; simp at hc47; done) | (simp only [hzz] at hc47; simp at hc47; done) | (rw [hm] at hc47; simp at hc47; done)
                        · skip
                          -- region 13 (law.go:155)
                          refine Sx.wp_text [(0, .run), (1, .run), (2, .run), (3, .run), (4, .run)] rfl ?_
                          refine Sx.st_run hT rfl rfl rfl rfl (Sx.y_loadS hT rfl Tryd.underlying23 Tryd.ti23 rfl ((H.blk 3 rfl).seg (k := 3) rfl) (by rfl)) ?_
                          clear hT; intro a hT
                          refine Sx.st_run hT rfl rfl rfl rfl (Sx.y_loadS hT rfl Tryd.underlying23 Tryd.ti23 rfl ((H.blk 2 rfl).seg (k := 3) rfl) (by rfl)) ?_
                          clear hT; intro a hT
                          refine Sx.st_call hT rfl rfl rfl rfl rfl Tryd.can17 rfl (Later_ge _ _ _ _ _ _ _ hlt) ?_
                          rintro _ w51 ⟨rfl, E⟩
                          refine ⟨_, rfl, ?_⟩
                          clear hT; intro a hT
                          replace H := H.pure E; clear E
                          refine Sx.st_eff hT rfl rfl rfl rfl (Sx.y_alloc hT rfl Tryd.ti23 rfl _) ?_
                          clear hT; rintro _ w52 ⟨b9, rfl, N⟩ a hT
                          replace H := H.new N; clear N
                          refine Sx.st_act hT rfl rfl rfl (Sx.y_storeS hT rfl Tryd.ti23 rfl rfl rfl rfl rfl (H.blk 0 rfl) rfl) ?_
                          rintro w53 ⟨hb, E, _⟩
                          replace H := H.setB 0 rfl hb E rfl; clear hb E
                          replace hT := hT.keep [11, 10, 9, 8, 7, 56, 39, 27, 6, 5, 13, 4, 3, 2, 0, 1] rfl
                          refine Sx.ser_nil ?_
                          refine Sx.then_normal (hK45 _ _ ?_)
                          clear hK45
                          refine wp_seq_k fun K53 hK53 => ?_
                          -- region 14 (law.go:156)
                          refine Sx.wp_text [(0, .run), (1, .take), (2, .take), (3, .take), (4, .take), (5, .take), (6, .take), (7, .take), (8, .run), (9, .run), (10, .take), (11, .take), (12, .run), (13, .run), (14, .take), (15, .take), (16, .take), (17, .take), (18, .run), (19, .run), (20, .run), (21, .take), (22, .take), (23, .take), (24, .run), (25, .run), (26, .run), (27, .take), (28, .take), (29, .take)] rfl ?_
                          refine Sx.st_call hT rfl rfl rfl rfl rfl Tryd.can10 rfl (first_calls _) ?_
                          rintro _ w54 ⟨rfl, E⟩
                          refine ⟨_, rfl, ?_⟩
                          clear hT; intro a hT
                          replace H := H.pure E; clear E
                          refine Sx.st_take hT rfl rfl rfl rfl (Sx.x_move hT rfl rfl) ?_
                          clear hT; intro a hT
                          refine Sx.st_take hT rfl rfl rfl rfl (Sx.x_move hT rfl rfl) ?_
                          clear hT; intro a hT
                          refine Sx.st_take hT rfl rfl rfl rfl (Sx.x_pick_t hT rfl rfl rfl) ?_
                          clear hT; intro a hT
                          refine Sx.st_take hT rfl rfl rfl rfl (Sx.x_move hT rfl rfl) ?_
                          clear hT; intro a hT
                          -- guard (14, 4)
                          refine Sx.Sl.two hT 102 rfl (fun hc54 hT => ?_) (fun hc54 hT => ?_)
                          · try simp only [decide_eq_true_eq, decide_eq_false_iff_not, Bool.not_eq_true', Bool.not_eq_false', Bool.not_eq_true, Bool.not_eq_false, Bool.and_eq_true, Bool.or_eq_false_iff, beq_iff_eq, bne_iff_ne, Int.not_lt, Int.not_le, ne_eq] at hc54
                            refine Sx.st_take hT rfl rfl rfl rfl (Sx.x_move hT rfl rfl) ?_
                            clear hT; intro a hT
                            refine Sx.st_take hT rfl rfl rfl rfl (Sx.x_pick_t hT rfl rfl rfl) ?_
                            clear hT; intro a hT
                            refine Sx.st_take hT rfl rfl rfl rfl (Sx.x_move hT rfl rfl) ?_
                            clear hT; intro a hT
                            -- guard (14, 7)
                            refine Sx.Sl.two hT 105 rfl (fun hc55 hT => ?_) (fun hc55 hT => ?_)
                            · try simp only [decide_eq_true_eq, decide_eq_false_iff_not, Bool.not_eq_true', Bool.not_eq_false', Bool.not_eq_true, Bool.not_eq_false, Bool.and_eq_true, Bool.or_eq_false_iff, beq_iff_eq, bne_iff_ne, Int.not_lt, Int.not_le, ne_eq] at hc55
                              refine Sx.st_run hT rfl rfl rfl rfl (Sx.y_loadS hT rfl Tryd.underlying23 Tryd.ti23 rfl ((H.blk 0 rfl).seg (k := 3) rfl) (by rfl)) ?_
                              clear hT; intro a hT
                              refine Sx.st_run hT rfl rfl rfl rfl (Sx.y_loadS hT rfl Tryd.underlying23 Tryd.ti23 rfl ((H.blk 4 rfl).seg (k := 3) rfl) (by rfl)) ?_
                              clear hT; intro a hT
                              refine Sx.st_take hT rfl rfl rfl rfl (Sx.x_eqS hT rfl (by kernel_rfl) (Tryd.eq23 _ _ _ _ _ _) rfl rfl rfl) ?_
                              clear hT; intro a hT
                              refine Sx.st_take hT rfl rfl rfl rfl (Sx.x_move hT rfl rfl) ?_
                              clear hT; intro a hT
                              -- guard (14, 11)
                              refine Sx.Sl.two hT 109 rfl (fun hc56 hT => ?_) (fun hc56 hT => ?_)
                              · try simp only [decide_eq_true_eq, decide_eq_false_iff_not, Bool.not_eq_true', Bool.not_eq_false', Bool.not_eq_true, Bool.not_eq_false, Bool.and_eq_true, Bool.or_eq_false_iff, beq_iff_eq, bne_iff_ne, Int.not_lt, Int.not_le, ne_eq] at hc56
                                refine Sx.st_runskip hT rfl rfl rfl rfl ?_
                                clear hT; intro a hT
                                refine Sx.st_runskip hT rfl rfl rfl rfl ?_
                                clear hT; intro a hT
                                refine Sx.st_skip hT rfl rfl rfl rfl ?_
                                clear hT; intro a hT
                                refine Sx.st_take hT rfl rfl rfl rfl (Sx.x_pick_t hT rfl rfl rfl) ?_
                                clear hT; intro a hT
                                refine Sx.st_take hT rfl rfl rfl rfl (Sx.x_pick_t hT rfl rfl rfl) ?_
                                clear hT; intro a hT
                                refine Sx.st_take hT rfl rfl rfl rfl (Sx.x_move hT rfl rfl) ?_
                                clear hT; intro a hT
                                refine Sx.st_run hT rfl rfl rfl rfl (Sx.y_loadS hT rfl Tryd.underlying23 Tryd.ti23 rfl ((H.blk 0 rfl).seg (k := 3) rfl) (by rfl)) ?_
                                clear hT; intro a hT
                                refine Sx.st_run hT rfl rfl rfl rfl (Sx.y_loadS hT rfl Tryd.underlying23 Tryd.ti23 rfl ((H.blk 4 rfl).seg (k := 3) rfl) (by rfl)) ?_
                                clear hT; intro a hT
                                refine Sx.st_call hT rfl rfl rfl rfl rfl Tryd.can15 rfl (Compare_calls _ _ _ _ _ _ _) ?_
                                rintro _ w55 ⟨rfl, E⟩
                                refine ⟨_, rfl, ?_⟩
                                clear hT; intro a hT
                                replace H := H.pure E; clear E
                                refine Sx.st_take hT rfl rfl rfl rfl ((fun w => Sx.x_ge w hT rfl rfl rfl)) ?_
                                clear hT; intro a hT
                                refine Sx.st_take hT rfl rfl rfl rfl (Sx.x_pick_t hT rfl rfl rfl) ?_
                                clear hT; intro a hT
                                refine Sx.st_take hT rfl rfl rfl rfl (Sx.x_move hT rfl rfl) ?_
                                clear hT; intro a hT
                                -- guard (14, 23)
                                refine Sx.Sl.two hT 121 rfl (fun hc57 hT => ?_) (fun hc57 hT => ?_)
                                · try simp only [decide_eq_true_eq, decide_eq_false_iff_not, Bool.not_eq_true', Bool.not_eq_false', Bool.not_eq_true, Bool.not_eq_false, Bool.and_eq_true, Bool.or_eq_false_iff, beq_iff_eq, bne_iff_ne, Int.not_lt, Int.not_le, ne_eq] at hc57
                                  refine Sx.st_run hT rfl rfl rfl rfl (Sx.y_loadS hT rfl Tryd.underlying23 Tryd.ti23 rfl ((H.blk 0 rfl).seg (k := 3) rfl) (by rfl)) ?_
                                  clear hT; intro a hT
                                  refine Sx.st_run hT rfl rfl rfl rfl (Sx.y_loadS hT rfl Tryd.underlying23 Tryd.ti23 rfl ((H.blk 3 rfl).seg (k := 3) rfl) (by rfl)) ?_
                                  clear hT; intro a hT
                                  refine Sx.st_call hT rfl rfl rfl rfl rfl Tryd.can15 rfl (Compare_calls _ _ _ _ _ _ _) ?_
                                  rintro _ w56 ⟨rfl, E⟩
                                  refine ⟨_, rfl, ?_⟩
                                  clear hT; intro a hT
                                  replace H := H.pure E; clear E
                                  refine Sx.st_take hT rfl rfl rfl rfl ((fun w => Sx.x_ge w hT rfl rfl rfl)) ?_
                                  clear hT; intro a hT
                                  refine Sx.st_take hT rfl rfl rfl rfl (Sx.x_pick_t hT rfl rfl rfl) ?_
                                  clear hT; intro a hT
                                  refine Sx.st_take hT rfl rfl rfl rfl (Sx.x_assign hT rfl rfl) ?_
                                  clear hT; intro a hT
                                  replace hT := hT.keep [4, 11, 10, 9, 8, 7, 56, 39, 27, 6, 5, 13, 3, 2, 0, 1] rfl
                                  refine Sx.ser_nil ?_
                                  refine Sx.then_normal (hK53 _ _ ?_)
                                  clear hK53
                                  refine wp_ret ?_
                                  refine Sx.done1 (fn := Tryd.f9) hT rfl (.tmp (hT.get 4 _ rfl)) ?_
                                  first | exact ⟨rfl, H.ext⟩ | exact ⟨ret_b (by first | (simp; done) | (simp only [decide_eq_true_eq]; omega)), H.ext⟩
                                · exfalso
                                  try simp only [decide_eq_true_eq, decide_eq_false_iff_not, Bool.not_eq_true', Bool.not_eq_false', Bool.not_eq_true, Bool.not_eq_false, Bool.and_eq_true, Bool.or_eq_false_iff, beq_iff_eq, bne_iff_ne, Int.not_lt, Int.not_le, ne_eq] at hc57
                                  first | (simp at hc57; done) | omega | (simp at hc57; omega) | (simp [hm] at hc57; done) | (rw [hnzb] at hc57; simp at hc57; done) | (simp only [hzz] at hc57; simp at hc57; done) | (rw [hm] at hc57; simp at hc57; done)
                              · exfalso
                                try simp only [decide_eq_true_eq, decide_eq_false_iff_not, Bool.not_eq_true', Bool.not_eq_false', Bool.not_eq_true, Bool.not_eq_false, Bool.and_eq_true, Bool.or_eq_false_iff, beq_iff_eq, bne_iff_ne, Int.not_lt, Int.not_le, ne_eq] at hc56
                                first | (simp at hc56; done) | omega | (simp at hc56; omega) | (simp [hm] at hc56; done) | (rw [hnzb] at hc56; simp at hc56; done) | (simp only [hzz] at hc56; simp at hc56; done) | (rw [hm] at hc56; simp at hc56; done)
                            · exfalso
                              try simp only [decide_eq_true_eq, decide_eq_false_iff_not, Bool.not_eq_true', Bool.not_eq_false', Bool.not_eq_true, Bool.not_eq_false, Bool.and_eq_true, Bool.or_eq_false_iff, beq_iff_eq, bne_iff_ne, Int.not_lt, Int.not_le, ne_eq] at hc55
                              first | (simp at hc55; done) | omega | (simp at hc55; omega) | (simp [hm] at hc55; done) | (rw [hnzb] at hc55; simp at hc55; done) | (simp only [hzz] at hc55; simp at hc55; done) | (rw [hm] at hc55; simp at hc55; done)
                          · exfalso
                            try simp only [decide_eq_true_eq, decide_eq_false_iff_not, Bool.not_eq_true', Bool.not_eq_false', Bool.not_eq_true, Bool.not_eq_false, Bool.and_eq_true, Bool.or_eq_false_iff, beq_iff_eq, bne_iff_ne, Int.not_lt, Int.not_le, ne_eq] at hc54
                            first | (simp at hc54; done) | omega | (simp at hc54; omega) | (simp [hm] at hc54; done) | (rw [hnzb] at hc54; simp at hc54; done) | (simp only [hzz] at hc54; simp at hc54; done) | (rw [hm] at hc54; simp at hc54; done)
                      · exfalso
                        try simp only [decide_eq_true_eq, decide_eq_false_iff_not, Bool.not_eq_true', Bool.not_eq_false', Bool.not_eq_true, Bool.not_eq_false, Bool.and_eq_true, Bool.or_eq_false_iff, beq_iff_eq, bne_iff_ne, Int.not_lt, Int.not_le, ne_eq] at hc44
                        first | (simp at hc44; done) | omega | (simp at hc44; omega) | (simp [hm] at hc44; done) | (rw [hnzb] at hc44; simp at hc44; done) | (simp only [hzz] at hc44; simp at hc44; done) | (rw [hm] at hc44; simp at hc44; done)
                  · exfalso
                    try simp only [decide_eq_true_eq, decide_eq_false_iff_not, Bool.not_eq_true', Bool.not_eq_false', Bool.not_eq_true, Bool.not_eq_false, Bool.and_eq_true, Bool.or_eq_false_iff, beq_iff_eq, bne_iff_ne, Int.not_lt, Int.not_le, ne_eq] at hc41
                    first | (simp at hc41; done) | omega | (simp at hc41; omega) | (simp [hm] at hc41; done) | (rw [hnzb] at hc41; simp at hc41; done) | (simp only [hzz] at hc41; simp at hc41; done) | (rw [hm] at hc41; simp at hc41; done)
              · try simp only [decide_eq_true_eq, decide_eq_false_iff_not, Bool.not_eq_true', Bool.not_eq_false', Bool.not_eq_true, Bool.not_eq_false, Bool.and_eq_true, Bool.or_eq_false_iff, beq_iff_eq, bne_iff_ne, Int.not_lt, Int.not_le, ne_eq] at hc17
                refine Sx.st_runskip hT rfl rfl rfl rfl ?_
                clear hT; intro a hT
                refine Sx.st_runskip hT rfl rfl rfl rfl ?_
                clear hT; intro a hT
                refine Sx.st_runskip hT rfl rfl rfl rfl ?_
                clear hT; intro a hT
                refine Sx.st_skip hT rfl rfl rfl rfl ?_
                clear hT; intro a hT
                refine Sx.st_take hT rfl rfl rfl rfl (Sx.x_pick_f hT rfl rfl rfl) ?_
                clear hT; intro a hT
                refine Sx.st_take hT rfl rfl rfl rfl (Sx.x_move hT rfl rfl) ?_
                clear hT; intro a hT
                refine Sx.st_runskip hT rfl rfl rfl rfl ?_
                clear hT; intro a hT
                refine Sx.st_runskip hT rfl rfl rfl rfl ?_
                clear hT; intro a hT
                refine Sx.st_runskip hT rfl rfl rfl rfl ?_
                clear hT; intro a hT
                refine Sx.st_skip hT rfl rfl rfl rfl ?_
                clear hT; intro a hT
                refine Sx.st_take hT rfl rfl rfl rfl (Sx.x_pick_f hT rfl rfl rfl) ?_
                clear hT; intro a hT
                replace hT := hT.keep [56, 39, 27, 6, 5, 13, 4, 3, 2, 0, 1] rfl
                refine Sx.ser_nil ?_
                refine Sx.then_normal (hK15 _ _ ?_)
                clear hK15
                refine Sx.wp_if hT rfl (fun h => by cases h) (fun _ => ?_)
                refine wp_skip ?_
                refine Sx.then_normal (hK14 _ _ ?_)
                clear hK14
                refine wp_seq_k fun K58 hK58 => ?_
                -- region 10 (law.go:152)
                refine Sx.wp_text [(0, .run), (1, .run), (2, .run), (3, .take), (4, .take), (5, .take), (6, .run), (7, .run), (8, .take)] rfl ?_
                refine Sx.st_run hT rfl rfl rfl rfl (Sx.y_loadS hT rfl Tryd.underlying23 Tryd.ti23 rfl ((H.blk 2 rfl).seg (k := 3) rfl) (by rfl)) ?_
                clear hT; intro a hT
                refine Sx.st_call hT rfl rfl rfl rfl rfl Tryd.can19 rfl (Print_calls x y z _ hx hy hz (RT.at H.ext)) ?_
                rintro _ w57 ⟨rfl, E⟩
                refine ⟨_, rfl, ?_⟩
                clear hT; intro a hT
                replace H := H.pure E; clear E
                refine Sx.st_call hT rfl rfl rfl rfl rfl Tryd.can31 rfl (Parse_calls (printS ⟨x, y, z⟩) hlen _ (RT.at H.ext) (RE.at H.ext)) ?_
                rintro _ w58 ⟨x1, y1, z1, r1, rfl, hp1, E⟩
                refine ⟨_, rfl, ?_⟩
                clear hT; intro a hT
                replace H := H.pure E; clear E
                obtain ⟨rfl, rfl, rfl, rfl⟩ := parsed_yes hx hy hz hm hp1
                refine Sx.st_take hT rfl rfl rfl rfl (Sx.x_move hT rfl rfl) ?_
                clear hT; intro a hT
                refine Sx.st_take hT rfl rfl rfl rfl (Sx.x_extractL hT rfl rfl rfl) ?_
                clear hT; intro a hT
                refine Sx.st_take hT rfl rfl rfl rfl (Sx.x_extractL hT rfl rfl rfl) ?_
                clear hT; intro a hT
                refine Sx.st_eff hT rfl rfl rfl rfl (Sx.y_alloc hT rfl Tryd.ti23 rfl _) ?_
                clear hT; rintro _ w59 ⟨b10, rfl, N⟩ a hT
                replace H := H.new N; clear N
                refine Sx.st_act hT rfl rfl rfl (Sx.y_storeS hT rfl Tryd.ti23 rfl rfl rfl rfl rfl (H.blk 0 rfl) rfl) ?_
                rintro w60 ⟨hb, E, _⟩
                replace H := H.setB 0 rfl hb E rfl; clear hb E
                refine Sx.st_take hT rfl rfl rfl rfl (Sx.x_assign hT rfl rfl) ?_
                clear hT; intro a hT
                replace hT := hT.keep [8, 7, 56, 39, 27, 6, 5, 13, 4, 3, 2, 0, 1] rfl
                refine Sx.ser_nil ?_
                refine Sx.then_normal (hK58 _ _ ?_)
                clear hK58
                refine wp_seq_k fun K59 hK59 => ?_
                -- region 11 (law.go:153)
                refine Sx.wp_text [(0, .take), (1, .take), (2, .run), (3, .run), (4, .take), (5, .take), (6, .take), (7, .take), (8, .take), (9, .run), (10, .run), (11, .take), (12, .take), (13, .take), (14, .take)] rfl ?_
                refine Sx.st_take hT rfl rfl rfl rfl (Sx.x_move hT rfl rfl) ?_
                clear hT; intro a hT
                refine Sx.st_take hT rfl rfl rfl rfl ((fun w => Sx.x_eq w hT rfl rfl rfl)) ?_
                clear hT; intro a hT
                refine Sx.st_run hT rfl rfl rfl rfl (Sx.y_loadS hT rfl Tryd.underlying23 Tryd.ti23 rfl ((H.blk 3 rfl).seg (k := 3) rfl) (by rfl)) ?_
                clear hT; intro a hT
                refine Sx.st_call hT rfl rfl rfl rfl rfl Tryd.can13 rfl (May_calls _ _ _ _) ?_
                rintro _ w61 ⟨rfl, E⟩
                refine ⟨_, rfl, ?_⟩
                clear hT; intro a hT
                replace H := H.pure E; clear E
                refine Sx.st_take hT rfl rfl rfl rfl (Sx.x_eqb hT rfl Tryd.underlying4 rfl rfl) ?_
                clear hT; intro a hT
                refine Sx.st_take hT rfl rfl rfl rfl (Sx.x_move hT rfl rfl) ?_
                clear hT; intro a hT
                -- guard (11, 5)
                refine Sx.Sl.two hT 68 rfl (fun hc60 hT => ?_) (fun hc60 hT => ?_)
                · try simp only [decide_eq_true_eq, decide_eq_false_iff_not, Bool.not_eq_true', Bool.not_eq_false', Bool.not_eq_true, Bool.not_eq_false, Bool.and_eq_true, Bool.or_eq_false_iff, beq_iff_eq, bne_iff_ne, Int.not_lt, Int.not_le, ne_eq] at hc60
                  refine Sx.st_take hT rfl rfl rfl rfl (Sx.x_move hT rfl rfl) ?_
                  clear hT; intro a hT
                  refine Sx.st_take hT rfl rfl rfl rfl ((fun w => Sx.x_ne w hT rfl rfl rfl)) ?_
                  clear hT; intro a hT
                  refine Sx.st_take hT rfl rfl rfl rfl (Sx.x_move hT rfl rfl) ?_
                  clear hT; intro a hT
                  -- guard (11, 8)
                  refine Sx.Sl.two hT 71 rfl (fun hc61 hT => ?_) (fun hc61 hT => ?_)
                  · exfalso
                    try simp only [decide_eq_true_eq, decide_eq_false_iff_not, Bool.not_eq_true', Bool.not_eq_false', Bool.not_eq_true, Bool.not_eq_false, Bool.and_eq_true, Bool.or_eq_false_iff, beq_iff_eq, bne_iff_ne, Int.not_lt, Int.not_le, ne_eq] at hc61
                    first | (simp at hc61; done) | omega | (simp at hc61; omega) | (simp [hm] at hc61; done) | (rw [hnzb] at hc61; simp at hc61; done) | (simp only [hzz] at hc61; simp at hc61; done) | (rw [hm] at hc61; simp at hc61; done)
                  · try simp only [decide_eq_true_eq, decide_eq_false_iff_not, Bool.not_eq_true', Bool.not_eq_false', Bool.not_eq_true, Bool.not_eq_false, Bool.and_eq_true, Bool.or_eq_false_iff, beq_iff_eq, bne_iff_ne, Int.not_lt, Int.not_le, ne_eq] at hc61
                    refine Sx.st_run hT rfl rfl rfl rfl (Sx.y_loadS hT rfl Tryd.underlying23 Tryd.ti23 rfl ((H.blk 0 rfl).seg (k := 3) rfl) (by rfl)) ?_
                    clear hT; intro a hT
                    refine Sx.st_run hT rfl rfl rfl rfl (Sx.y_loadS hT rfl Tryd.underlying23 Tryd.ti23 rfl ((H.blk 3 rfl).seg (k := 3) rfl) (by rfl)) ?_
                    clear hT; intro a hT
                    refine Sx.st_take hT rfl rfl rfl rfl (Sx.x_eqS hT rfl (by kernel_rfl) (Tryd.eq23 _ _ _ _ _ _) rfl rfl rfl) ?_
                    clear hT; intro a hT
                    refine Sx.st_take hT rfl rfl rfl rfl (Sx.x_pick_f hT rfl rfl rfl) ?_
                    clear hT; intro a hT
                    refine Sx.st_take hT rfl rfl rfl rfl (Sx.x_pick_t hT rfl rfl rfl) ?_
                    clear hT; intro a hT
                    refine Sx.st_take hT rfl rfl rfl rfl (Sx.x_assign hT rfl rfl) ?_
                    clear hT; intro a hT
                    replace hT := hT.keep [9, 8, 7, 56, 39, 27, 6, 5, 13, 4, 3, 2, 0, 1] rfl
                    refine Sx.ser_nil ?_
                    refine Sx.then_normal (hK59 _ _ ?_)
                    clear hK59
                    refine wp_seq_k fun K62 hK62 => ?_
                    -- region 12 (law.go:154)
                    refine Sx.wp_draws (fun u => Sx.Ext (Sx.No) u) [(0, .held), (1, .held), (3, .held), (4, .held), (2, .keep), (5, .keep), (6, .take), (7, .take), (8, .take), (9, .held), (10, .held), (13, .held), (14, .held), (15, .take), (11, .keep), (12, .take), (16, .take), (17, .take), (18, .take)] (by kernel_rfl) (by kernel_rfl) (fun u E _ => ?_)
                    replace H := H.pure E; clear E
                    have hH : Sx.Ext (Sx.No) u u := Sx.Ext.refl _ _
                    have Hu := H
                    refine Sx.st_held hT rfl rfl rfl rfl hH (fun w' h' => Sx.y_loadS hT rfl Tryd.underlying23 Tryd.ti23 rfl ((Hu.heldB 3 rfl h' Sx.off_No).seg (k := 3) rfl) (by rfl)) ?_
                    clear hT; intro a hT
                    refine Sx.st_held hT rfl rfl rfl rfl hH (fun w' h' => Sx.y_loadS hT rfl Tryd.underlying23 Tryd.ti23 rfl ((Hu.heldB 2 rfl h' Sx.off_No).seg (k := 3) rfl) (by rfl)) ?_
                    clear hT; intro a hT
                    refine Sx.st_held hT rfl rfl rfl rfl hH (fun w' h' => Sx.y_loadS hT rfl Tryd.underlying23 Tryd.ti23 rfl ((Hu.heldB 2 rfl h' Sx.off_No).seg (k := 3) rfl) (by rfl)) ?_
                    clear hT; intro a hT
                    refine Sx.st_held hT rfl rfl rfl rfl hH (fun w' h' => Sx.y_loadS hT rfl Tryd.underlying23 Tryd.ti23 rfl ((Hu.heldB 3 rfl h' Sx.off_No).seg (k := 3) rfl) (by rfl)) ?_
                    clear hT; intro a hT
                    refine Sx.st_callkeep hT rfl rfl rfl rfl rfl Tryd.can15 rfl (Compare_calls _ _ _ _ _ _ _) ?_
                    rintro _ w62 ⟨rfl, E⟩
                    refine ⟨_, rfl, hH.step E, ?_⟩
                    replace hH := hH.step E
                    clear hT; intro a hT
                    replace H := H.pure E; clear E
                    refine Sx.st_callkeep hT rfl rfl rfl rfl rfl Tryd.can15 rfl (Compare_calls _ _ _ _ _ _ _) ?_
                    rintro _ w63 ⟨rfl, E⟩
                    refine ⟨_, rfl, hH.step E, ?_⟩
                    replace hH := hH.step E
                    clear hT; intro a hT
                    replace H := H.pure E; clear E
                    refine Sx.st_take hT rfl rfl rfl rfl ((fun w => Sx.x_neg w hT rfl rfl (Sx.wrap64 (by omega)))) ?_
                    clear hT; intro a hT
                    refine Sx.st_take hT rfl rfl rfl rfl ((fun w => Sx.x_eq w hT rfl rfl rfl)) ?_
                    clear hT; intro a hT
                    refine Sx.st_take hT rfl rfl rfl rfl (Sx.x_move hT rfl rfl) ?_
                    clear hT; intro a hT
                    -- guard (12, 8)
                    refine Sx.Sl.two hT 85 rfl (fun hc63 hT => ?_) (fun hc63 hT => ?_)
                    · try simp only [decide_eq_true_eq, decide_eq_false_iff_not, Bool.not_eq_true', Bool.not_eq_false', Bool.not_eq_true, Bool.not_eq_false, Bool.and_eq_true, Bool.or_eq_false_iff, beq_iff_eq, bne_iff_ne, Int.not_lt, Int.not_le, ne_eq] at hc63
                      refine Sx.st_held hT rfl rfl rfl rfl hH (fun w' h' => Sx.y_loadS hT rfl Tryd.underlying23 Tryd.ti23 rfl ((Hu.heldB 3 rfl h' Sx.off_No).seg (k := 3) rfl) (by rfl)) ?_
                      clear hT; intro a hT
                      refine Sx.st_held hT rfl rfl rfl rfl hH (fun w' h' => Sx.y_loadS hT rfl Tryd.underlying23 Tryd.ti23 rfl ((Hu.heldB 2 rfl h' Sx.off_No).seg (k := 3) rfl) (by rfl)) ?_
                      clear hT; intro a hT
                      refine Sx.st_held hT rfl rfl rfl rfl hH (fun w' h' => Sx.y_loadS hT rfl Tryd.underlying23 Tryd.ti23 rfl ((Hu.heldB 3 rfl h' Sx.off_No).seg (k := 3) rfl) (by rfl)) ?_
                      clear hT; intro a hT
                      refine Sx.st_held hT rfl rfl rfl rfl hH (fun w' h' => Sx.y_loadS hT rfl Tryd.underlying23 Tryd.ti23 rfl ((Hu.heldB 2 rfl h' Sx.off_No).seg (k := 3) rfl) (by rfl)) ?_
                      clear hT; intro a hT
                      refine Sx.st_take hT rfl rfl rfl rfl (Sx.x_eqS hT rfl (by kernel_rfl) (Tryd.eq23 _ _ _ _ _ _) rfl rfl rfl) ?_
                      clear hT; intro a hT
                      refine Sx.st_callkeep hT rfl rfl rfl rfl rfl Tryd.can15 rfl (Compare_calls _ _ _ _ _ _ _) ?_
                      rintro _ w64 ⟨rfl, E⟩
                      refine ⟨_, rfl, hH.step E, ?_⟩
                      replace hH := hH.step E
                      clear hT; intro a hT
                      replace H := H.pure E; clear E
                      refine Sx.st_take hT rfl rfl rfl rfl ((fun w => Sx.x_eq w hT rfl rfl rfl)) ?_
                      clear hT; intro a hT
                      refine Sx.st_take hT rfl rfl rfl rfl (Sx.x_eqb hT rfl Tryd.underlying4 rfl rfl) ?_
                      clear hT; intro a hT
                      refine Sx.st_take hT rfl rfl rfl rfl (Sx.x_pick_t hT rfl rfl rfl) ?_
                      clear hT; intro a hT
                      refine Sx.st_take hT rfl rfl rfl rfl (Sx.x_assign hT rfl rfl) ?_
                      clear hT; intro a hT
                      replace hT := hT.keep [10, 9, 8, 7, 56, 39, 27, 6, 5, 13, 4, 3, 2, 0, 1] rfl
                      clear Hu hH
                      refine Sx.ser_calm ?_
                      refine Sx.then_normal (hK62 _ _ ?_)
                      clear hK62
                      refine wp_seq_k fun K64 hK64 => ?_
                      by_cases hlt : cmp ⟨x, y, z⟩ ⟨p, q, r⟩ < 0
                      · skip
                        -- region 13 (law.go:155)
                        refine Sx.wp_text [(0, .run), (1, .run), (2, .run), (3, .run), (4, .run)] rfl ?_
                        refine Sx.st_run hT rfl rfl rfl rfl (Sx.y_loadS hT rfl Tryd.underlying23 Tryd.ti23 rfl ((H.blk 3 rfl).seg (k := 3) rfl) (by rfl)) ?_
                        clear hT; intro a hT
                        refine Sx.st_run hT rfl rfl rfl rfl (Sx.y_loadS hT rfl Tryd.underlying23 Tryd.ti23 rfl ((H.blk 2 rfl).seg (k := 3) rfl) (by rfl)) ?_
                        clear hT; intro a hT
                        refine Sx.st_call hT rfl rfl rfl rfl rfl Tryd.can17 rfl (Later_lt _ _ _ _ _ _ _ hlt) ?_
                        rintro _ w65 ⟨rfl, E⟩
                        refine ⟨_, rfl, ?_⟩
                        clear hT; intro a hT
                        replace H := H.pure E; clear E
                        refine Sx.st_eff hT rfl rfl rfl rfl (Sx.y_alloc hT rfl Tryd.ti23 rfl _) ?_
                        clear hT; rintro _ w66 ⟨b11, rfl, N⟩ a hT
                        replace H := H.new N; clear N
                        refine Sx.st_act hT rfl rfl rfl (Sx.y_storeS hT rfl Tryd.ti23 rfl rfl rfl rfl rfl (H.blk 0 rfl) rfl) ?_
                        rintro w67 ⟨hb, E, _⟩
                        replace H := H.setB 0 rfl hb E rfl; clear hb E
                        replace hT := hT.keep [11, 10, 9, 8, 7, 56, 39, 27, 6, 5, 13, 4, 3, 2, 0, 1] rfl
                        refine Sx.ser_nil ?_
                        refine Sx.then_normal (hK64 _ _ ?_)
                        clear hK64
                        refine wp_seq_k fun K65 hK65 => ?_
                        -- region 14 (law.go:156)
                        refine Sx.wp_text [(0, .run), (1, .take), (2, .take), (3, .take), (4, .take), (5, .take), (6, .take), (7, .take), (8, .run), (9, .run), (10, .take), (11, .take), (12, .run), (13, .run), (14, .take), (15, .take), (16, .take), (17, .take), (18, .run), (19, .run), (20, .run), (21, .take), (22, .take), (23, .take), (24, .run), (25, .run), (26, .run), (27, .take), (28, .take), (29, .take)] rfl ?_
                        refine Sx.st_call hT rfl rfl rfl rfl rfl Tryd.can10 rfl (first_calls _) ?_
                        rintro _ w68 ⟨rfl, E⟩
                        refine ⟨_, rfl, ?_⟩
                        clear hT; intro a hT
                        replace H := H.pure E; clear E
                        refine Sx.st_take hT rfl rfl rfl rfl (Sx.x_move hT rfl rfl) ?_
                        clear hT; intro a hT
                        refine Sx.st_take hT rfl rfl rfl rfl (Sx.x_move hT rfl rfl) ?_
                        clear hT; intro a hT
                        refine Sx.st_take hT rfl rfl rfl rfl (Sx.x_pick_t hT rfl rfl rfl) ?_
                        clear hT; intro a hT
                        refine Sx.st_take hT rfl rfl rfl rfl (Sx.x_move hT rfl rfl) ?_
                        clear hT; intro a hT
                        -- guard (14, 4)
                        refine Sx.Sl.two hT 102 rfl (fun hc66 hT => ?_) (fun hc66 hT => ?_)
                        · try simp only [decide_eq_true_eq, decide_eq_false_iff_not, Bool.not_eq_true', Bool.not_eq_false', Bool.not_eq_true, Bool.not_eq_false, Bool.and_eq_true, Bool.or_eq_false_iff, beq_iff_eq, bne_iff_ne, Int.not_lt, Int.not_le, ne_eq] at hc66
                          refine Sx.st_take hT rfl rfl rfl rfl (Sx.x_move hT rfl rfl) ?_
                          clear hT; intro a hT
                          refine Sx.st_take hT rfl rfl rfl rfl (Sx.x_pick_t hT rfl rfl rfl) ?_
                          clear hT; intro a hT
                          refine Sx.st_take hT rfl rfl rfl rfl (Sx.x_move hT rfl rfl) ?_
                          clear hT; intro a hT
                          -- guard (14, 7)
                          refine Sx.Sl.two hT 105 rfl (fun hc67 hT => ?_) (fun hc67 hT => ?_)
                          · try simp only [decide_eq_true_eq, decide_eq_false_iff_not, Bool.not_eq_true', Bool.not_eq_false', Bool.not_eq_true, Bool.not_eq_false, Bool.and_eq_true, Bool.or_eq_false_iff, beq_iff_eq, bne_iff_ne, Int.not_lt, Int.not_le, ne_eq] at hc67
                            refine Sx.st_run hT rfl rfl rfl rfl (Sx.y_loadS hT rfl Tryd.underlying23 Tryd.ti23 rfl ((H.blk 0 rfl).seg (k := 3) rfl) (by rfl)) ?_
                            clear hT; intro a hT
                            refine Sx.st_run hT rfl rfl rfl rfl (Sx.y_loadS hT rfl Tryd.underlying23 Tryd.ti23 rfl ((H.blk 4 rfl).seg (k := 3) rfl) (by rfl)) ?_
                            clear hT; intro a hT
                            refine Sx.st_take hT rfl rfl rfl rfl (Sx.x_eqS hT rfl (by kernel_rfl) (Tryd.eq23 _ _ _ _ _ _) rfl rfl rfl) ?_
                            clear hT; intro a hT
                            refine Sx.st_take hT rfl rfl rfl rfl (Sx.x_move hT rfl rfl) ?_
                            clear hT; intro a hT
                            -- guard (14, 11)
                            refine Sx.Sl.two hT 109 rfl (fun hc68 hT => ?_) (fun hc68 hT => ?_)
                            · try simp only [decide_eq_true_eq, decide_eq_false_iff_not, Bool.not_eq_true', Bool.not_eq_false', Bool.not_eq_true, Bool.not_eq_false, Bool.and_eq_true, Bool.or_eq_false_iff, beq_iff_eq, bne_iff_ne, Int.not_lt, Int.not_le, ne_eq] at hc68
                              refine Sx.st_runskip hT rfl rfl rfl rfl ?_
                              clear hT; intro a hT
                              refine Sx.st_runskip hT rfl rfl rfl rfl ?_
                              clear hT; intro a hT
                              refine Sx.st_skip hT rfl rfl rfl rfl ?_
                              clear hT; intro a hT
                              refine Sx.st_take hT rfl rfl rfl rfl (Sx.x_pick_t hT rfl rfl rfl) ?_
                              clear hT; intro a hT
                              refine Sx.st_take hT rfl rfl rfl rfl (Sx.x_pick_t hT rfl rfl rfl) ?_
                              clear hT; intro a hT
                              refine Sx.st_take hT rfl rfl rfl rfl (Sx.x_move hT rfl rfl) ?_
                              clear hT; intro a hT
                              refine Sx.st_run hT rfl rfl rfl rfl (Sx.y_loadS hT rfl Tryd.underlying23 Tryd.ti23 rfl ((H.blk 0 rfl).seg (k := 3) rfl) (by rfl)) ?_
                              clear hT; intro a hT
                              refine Sx.st_run hT rfl rfl rfl rfl (Sx.y_loadS hT rfl Tryd.underlying23 Tryd.ti23 rfl ((H.blk 4 rfl).seg (k := 3) rfl) (by rfl)) ?_
                              clear hT; intro a hT
                              refine Sx.st_call hT rfl rfl rfl rfl rfl Tryd.can15 rfl (Compare_calls _ _ _ _ _ _ _) ?_
                              rintro _ w69 ⟨rfl, E⟩
                              refine ⟨_, rfl, ?_⟩
                              clear hT; intro a hT
                              replace H := H.pure E; clear E
                              refine Sx.st_take hT rfl rfl rfl rfl ((fun w => Sx.x_ge w hT rfl rfl rfl)) ?_
                              clear hT; intro a hT
                              refine Sx.st_take hT rfl rfl rfl rfl (Sx.x_pick_t hT rfl rfl rfl) ?_
                              clear hT; intro a hT
                              refine Sx.st_take hT rfl rfl rfl rfl (Sx.x_move hT rfl rfl) ?_
                              clear hT; intro a hT
                              -- guard (14, 23)
                              refine Sx.Sl.two hT 121 rfl (fun hc69 hT => ?_) (fun hc69 hT => ?_)
                              · try simp only [decide_eq_true_eq, decide_eq_false_iff_not, Bool.not_eq_true', Bool.not_eq_false', Bool.not_eq_true, Bool.not_eq_false, Bool.and_eq_true, Bool.or_eq_false_iff, beq_iff_eq, bne_iff_ne, Int.not_lt, Int.not_le, ne_eq] at hc69
                                refine Sx.st_run hT rfl rfl rfl rfl (Sx.y_loadS hT rfl Tryd.underlying23 Tryd.ti23 rfl ((H.blk 0 rfl).seg (k := 3) rfl) (by rfl)) ?_
                                clear hT; intro a hT
                                refine Sx.st_run hT rfl rfl rfl rfl (Sx.y_loadS hT rfl Tryd.underlying23 Tryd.ti23 rfl ((H.blk 3 rfl).seg (k := 3) rfl) (by rfl)) ?_
                                clear hT; intro a hT
                                refine Sx.st_call hT rfl rfl rfl rfl rfl Tryd.can15 rfl (Compare_calls _ _ _ _ _ _ _) ?_
                                rintro _ w70 ⟨rfl, E⟩
                                refine ⟨_, rfl, ?_⟩
                                clear hT; intro a hT
                                replace H := H.pure E; clear E
                                refine Sx.st_take hT rfl rfl rfl rfl ((fun w => Sx.x_ge w hT rfl rfl rfl)) ?_
                                clear hT; intro a hT
                                refine Sx.st_take hT rfl rfl rfl rfl (Sx.x_pick_t hT rfl rfl rfl) ?_
                                clear hT; intro a hT
                                refine Sx.st_take hT rfl rfl rfl rfl (Sx.x_assign hT rfl rfl) ?_
                                clear hT; intro a hT
                                replace hT := hT.keep [4, 11, 10, 9, 8, 7, 56, 39, 27, 6, 5, 13, 3, 2, 0, 1] rfl
                                refine Sx.ser_nil ?_
                                refine Sx.then_normal (hK65 _ _ ?_)
                                clear hK65
                                refine wp_ret ?_
                                refine Sx.done1 (fn := Tryd.f9) hT rfl (.tmp (hT.get 4 _ rfl)) ?_
                                first | exact ⟨rfl, H.ext⟩ | exact ⟨ret_b (by first | (simp; done) | (simp only [decide_eq_true_eq]; omega)), H.ext⟩
                              · exfalso
                                try simp only [decide_eq_true_eq, decide_eq_false_iff_not, Bool.not_eq_true', Bool.not_eq_false', Bool.not_eq_true, Bool.not_eq_false, Bool.and_eq_true, Bool.or_eq_false_iff, beq_iff_eq, bne_iff_ne, Int.not_lt, Int.not_le, ne_eq] at hc69
                                first | (simp at hc69; done) | omega | (simp at hc69; omega) | (simp [hm] at hc69; done) | (rw [hnzb] at hc69; simp at hc69; done) | (simp only [hzz] at hc69; simp at hc69; done) | (rw [hm] at hc69; simp at hc69; done)
                            · try simp only [decide_eq_true_eq, decide_eq_false_iff_not, Bool.not_eq_true', Bool.not_eq_false', Bool.not_eq_true, Bool.not_eq_false, Bool.and_eq_true, Bool.or_eq_false_iff, beq_iff_eq, bne_iff_ne, Int.not_lt, Int.not_le, ne_eq] at hc68
                              refine Sx.st_run hT rfl rfl rfl rfl (Sx.y_loadS hT rfl Tryd.underlying23 Tryd.ti23 rfl ((H.blk 0 rfl).seg (k := 3) rfl) (by rfl)) ?_
                              clear hT; intro a hT
                              refine Sx.st_run hT rfl rfl rfl rfl (Sx.y_loadS hT rfl Tryd.underlying23 Tryd.ti23 rfl ((H.blk 3 rfl).seg (k := 3) rfl) (by rfl)) ?_
                              clear hT; intro a hT
                              refine Sx.st_take hT rfl rfl rfl rfl (Sx.x_eqS hT rfl (by kernel_rfl) (Tryd.eq23 _ _ _ _ _ _) rfl rfl rfl) ?_
                              clear hT; intro a hT
                              refine Sx.st_take hT rfl rfl rfl rfl (Sx.x_pick_f hT rfl rfl rfl) ?_
                              clear hT; intro a hT
                              refine Sx.st_take hT rfl rfl rfl rfl (Sx.x_pick_t hT rfl rfl rfl) ?_
                              clear hT; intro a hT
                              refine Sx.st_take hT rfl rfl rfl rfl (Sx.x_move hT rfl rfl) ?_
                              clear hT; intro a hT
                              -- guard (14, 17)
                              refine Sx.Sl.two hT 115 rfl (fun hc70 hT => ?_) (fun hc70 hT => ?_)
                              · try simp only [decide_eq_true_eq, decide_eq_false_iff_not, Bool.not_eq_true', Bool.not_eq_false', Bool.not_eq_true, Bool.not_eq_false, Bool.and_eq_true, Bool.or_eq_false_iff, beq_iff_eq, bne_iff_ne, Int.not_lt, Int.not_le, ne_eq] at hc70
                                refine Sx.st_run hT rfl rfl rfl rfl (Sx.y_loadS hT rfl Tryd.underlying23 Tryd.ti23 rfl ((H.blk 0 rfl).seg (k := 3) rfl) (by rfl)) ?_
                                clear hT; intro a hT
                                refine Sx.st_run hT rfl rfl rfl rfl (Sx.y_loadS hT rfl Tryd.underlying23 Tryd.ti23 rfl ((H.blk 4 rfl).seg (k := 3) rfl) (by rfl)) ?_
                                clear hT; intro a hT
                                refine Sx.st_call hT rfl rfl rfl rfl rfl Tryd.can15 rfl (Compare_calls _ _ _ _ _ _ _) ?_
                                rintro _ w71 ⟨rfl, E⟩
                                refine ⟨_, rfl, ?_⟩
                                clear hT; intro a hT
                                replace H := H.pure E; clear E
                                refine Sx.st_take hT rfl rfl rfl rfl ((fun w => Sx.x_ge w hT rfl rfl rfl)) ?_
                                clear hT; intro a hT
                                refine Sx.st_take hT rfl rfl rfl rfl (Sx.x_pick_t hT rfl rfl rfl) ?_
                                clear hT; intro a hT
                                refine Sx.st_take hT rfl rfl rfl rfl (Sx.x_move hT rfl rfl) ?_
                                clear hT; intro a hT
                                -- guard (14, 23)
                                refine Sx.Sl.two hT 121 rfl (fun hc71 hT => ?_) (fun hc71 hT => ?_)
                                · try simp only [decide_eq_true_eq, decide_eq_false_iff_not, Bool.not_eq_true', Bool.not_eq_false', Bool.not_eq_true, Bool.not_eq_false, Bool.and_eq_true, Bool.or_eq_false_iff, beq_iff_eq, bne_iff_ne, Int.not_lt, Int.not_le, ne_eq] at hc71
                                  refine Sx.st_run hT rfl rfl rfl rfl (Sx.y_loadS hT rfl Tryd.underlying23 Tryd.ti23 rfl ((H.blk 0 rfl).seg (k := 3) rfl) (by rfl)) ?_
                                  clear hT; intro a hT
                                  refine Sx.st_run hT rfl rfl rfl rfl (Sx.y_loadS hT rfl Tryd.underlying23 Tryd.ti23 rfl ((H.blk 3 rfl).seg (k := 3) rfl) (by rfl)) ?_
                                  clear hT; intro a hT
                                  refine Sx.st_call hT rfl rfl rfl rfl rfl Tryd.can15 rfl (Compare_calls _ _ _ _ _ _ _) ?_
                                  rintro _ w72 ⟨rfl, E⟩
                                  refine ⟨_, rfl, ?_⟩
                                  clear hT; intro a hT
                                  replace H := H.pure E; clear E
                                  refine Sx.st_take hT rfl rfl rfl rfl ((fun w => Sx.x_ge w hT rfl rfl rfl)) ?_
                                  clear hT; intro a hT
                                  refine Sx.st_take hT rfl rfl rfl rfl (Sx.x_pick_t hT rfl rfl rfl) ?_
                                  clear hT; intro a hT
                                  refine Sx.st_take hT rfl rfl rfl rfl (Sx.x_assign hT rfl rfl) ?_
                                  clear hT; intro a hT
                                  replace hT := hT.keep [4, 11, 10, 9, 8, 7, 56, 39, 27, 6, 5, 13, 3, 2, 0, 1] rfl
                                  refine Sx.ser_nil ?_
                                  refine Sx.then_normal (hK65 _ _ ?_)
                                  clear hK65
                                  refine wp_ret ?_
                                  refine Sx.done1 (fn := Tryd.f9) hT rfl (.tmp (hT.get 4 _ rfl)) ?_
                                  first | exact ⟨rfl, H.ext⟩ | exact ⟨ret_b (by first | (simp; done) | (simp only [decide_eq_true_eq]; omega)), H.ext⟩
                                · exfalso
                                  try simp only [decide_eq_true_eq, decide_eq_false_iff_not, Bool.not_eq_true', Bool.not_eq_false', Bool.not_eq_true, Bool.not_eq_false, Bool.and_eq_true, Bool.or_eq_false_iff, beq_iff_eq, bne_iff_ne, Int.not_lt, Int.not_le, ne_eq] at hc71
                                  first | (simp at hc71; done) | omega | (simp at hc71; omega) | (simp [hm] at hc71; done) | (rw [hnzb] at hc71; simp at hc71; done) | (simp only [hzz] at hc71; simp at hc71; done) | (rw [hm] at hc71; simp at hc71; done)
                              · exfalso
                                try simp only [decide_eq_true_eq, decide_eq_false_iff_not, Bool.not_eq_true', Bool.not_eq_false', Bool.not_eq_true, Bool.not_eq_false, Bool.and_eq_true, Bool.or_eq_false_iff, beq_iff_eq, bne_iff_ne, Int.not_lt, Int.not_le, ne_eq] at hc70
                                first | (simp at hc70; done) | omega | (simp at hc70; omega) | (simp [hm] at hc70; done) | (rw [hnzb] at hc70; simp at hc70; done) | (simp only [hzz] at hc70; simp at hc70; done) | (rw [hm] at hc70; simp at hc70; done)
                          · exfalso
                            try simp only [decide_eq_true_eq, decide_eq_false_iff_not, Bool.not_eq_true', Bool.not_eq_false', Bool.not_eq_true, Bool.not_eq_false, Bool.and_eq_true, Bool.or_eq_false_iff, beq_iff_eq, bne_iff_ne, Int.not_lt, Int.not_le, ne_eq] at hc67
                            first | (simp at hc67; done) | omega | (simp at hc67; omega) | (simp [hm] at hc67; done) | (rw [hnzb] at hc67; simp at hc67; done) | (simp only [hzz] at hc67; simp at hc67; done) | (rw [hm] at hc67; simp at hc67; done)
                        · exfalso
                          try simp only [decide_eq_true_eq, decide_eq_false_iff_not, Bool.not_eq_true', Bool.not_eq_false', Bool.not_eq_true, Bool.not_eq_false, Bool.and_eq_true, Bool.or_eq_false_iff, beq_iff_eq, bne_iff_ne, Int.not_lt, Int.not_le, ne_eq] at hc66
                          first | (simp at hc66; done) | omega | (simp at hc66; omega) | (simp [hm] at hc66; done) | (rw [hnzb] at hc66; simp at hc66; done) | (simp only [hzz] at hc66; simp at hc66; done) | (rw [hm] at hc66; simp at hc66; done)
                      · skip
                        -- region 13 (law.go:155)
                        refine Sx.wp_text [(0, .run), (1, .run), (2, .run), (3, .run), (4, .run)] rfl ?_
                        refine Sx.st_run hT rfl rfl rfl rfl (Sx.y_loadS hT rfl Tryd.underlying23 Tryd.ti23 rfl ((H.blk 3 rfl).seg (k := 3) rfl) (by rfl)) ?_
                        clear hT; intro a hT
                        refine Sx.st_run hT rfl rfl rfl rfl (Sx.y_loadS hT rfl Tryd.underlying23 Tryd.ti23 rfl ((H.blk 2 rfl).seg (k := 3) rfl) (by rfl)) ?_
                        clear hT; intro a hT
                        refine Sx.st_call hT rfl rfl rfl rfl rfl Tryd.can17 rfl (Later_ge _ _ _ _ _ _ _ hlt) ?_
                        rintro _ w73 ⟨rfl, E⟩
                        refine ⟨_, rfl, ?_⟩
                        clear hT; intro a hT
                        replace H := H.pure E; clear E
                        refine Sx.st_eff hT rfl rfl rfl rfl (Sx.y_alloc hT rfl Tryd.ti23 rfl _) ?_
                        clear hT; rintro _ w74 ⟨b12, rfl, N⟩ a hT
                        replace H := H.new N; clear N
                        refine Sx.st_act hT rfl rfl rfl (Sx.y_storeS hT rfl Tryd.ti23 rfl rfl rfl rfl rfl (H.blk 0 rfl) rfl) ?_
                        rintro w75 ⟨hb, E, _⟩
                        replace H := H.setB 0 rfl hb E rfl; clear hb E
                        replace hT := hT.keep [11, 10, 9, 8, 7, 56, 39, 27, 6, 5, 13, 4, 3, 2, 0, 1] rfl
                        refine Sx.ser_nil ?_
                        refine Sx.then_normal (hK64 _ _ ?_)
                        clear hK64
                        refine wp_seq_k fun K72 hK72 => ?_
                        -- region 14 (law.go:156)
                        refine Sx.wp_text [(0, .run), (1, .take), (2, .take), (3, .take), (4, .take), (5, .take), (6, .take), (7, .take), (8, .run), (9, .run), (10, .take), (11, .take), (12, .run), (13, .run), (14, .take), (15, .take), (16, .take), (17, .take), (18, .run), (19, .run), (20, .run), (21, .take), (22, .take), (23, .take), (24, .run), (25, .run), (26, .run), (27, .take), (28, .take), (29, .take)] rfl ?_
                        refine Sx.st_call hT rfl rfl rfl rfl rfl Tryd.can10 rfl (first_calls _) ?_
                        rintro _ w76 ⟨rfl, E⟩
                        refine ⟨_, rfl, ?_⟩
                        clear hT; intro a hT
                        replace H := H.pure E; clear E
                        refine Sx.st_take hT rfl rfl rfl rfl (Sx.x_move hT rfl rfl) ?_
                        clear hT; intro a hT
                        refine Sx.st_take hT rfl rfl rfl rfl (Sx.x_move hT rfl rfl) ?_
                        clear hT; intro a hT
                        refine Sx.st_take hT rfl rfl rfl rfl (Sx.x_pick_t hT rfl rfl rfl) ?_
                        clear hT; intro a hT
                        refine Sx.st_take hT rfl rfl rfl rfl (Sx.x_move hT rfl rfl) ?_
                        clear hT; intro a hT
                        -- guard (14, 4)
                        refine Sx.Sl.two hT 102 rfl (fun hc73 hT => ?_) (fun hc73 hT => ?_)
                        · try simp only [decide_eq_true_eq, decide_eq_false_iff_not, Bool.not_eq_true', Bool.not_eq_false', Bool.not_eq_true, Bool.not_eq_false, Bool.and_eq_true, Bool.or_eq_false_iff, beq_iff_eq, bne_iff_ne, Int.not_lt, Int.not_le, ne_eq] at hc73
                          refine Sx.st_take hT rfl rfl rfl rfl (Sx.x_move hT rfl rfl) ?_
                          clear hT; intro a hT
                          refine Sx.st_take hT rfl rfl rfl rfl (Sx.x_pick_t hT rfl rfl rfl) ?_
                          clear hT; intro a hT
                          refine Sx.st_take hT rfl rfl rfl rfl (Sx.x_move hT rfl rfl) ?_
                          clear hT; intro a hT
                          -- guard (14, 7)
                          refine Sx.Sl.two hT 105 rfl (fun hc74 hT => ?_) (fun hc74 hT => ?_)
                          · try simp only [decide_eq_true_eq, decide_eq_false_iff_not, Bool.not_eq_true', Bool.not_eq_false', Bool.not_eq_true, Bool.not_eq_false, Bool.and_eq_true, Bool.or_eq_false_iff, beq_iff_eq, bne_iff_ne, Int.not_lt, Int.not_le, ne_eq] at hc74
                            refine Sx.st_run hT rfl rfl rfl rfl (Sx.y_loadS hT rfl Tryd.underlying23 Tryd.ti23 rfl ((H.blk 0 rfl).seg (k := 3) rfl) (by rfl)) ?_
                            clear hT; intro a hT
                            refine Sx.st_run hT rfl rfl rfl rfl (Sx.y_loadS hT rfl Tryd.underlying23 Tryd.ti23 rfl ((H.blk 4 rfl).seg (k := 3) rfl) (by rfl)) ?_
                            clear hT; intro a hT
                            refine Sx.st_take hT rfl rfl rfl rfl (Sx.x_eqS hT rfl (by kernel_rfl) (Tryd.eq23 _ _ _ _ _ _) rfl rfl rfl) ?_
                            clear hT; intro a hT
                            refine Sx.st_take hT rfl rfl rfl rfl (Sx.x_move hT rfl rfl) ?_
                            clear hT; intro a hT
                            -- guard (14, 11)
                            refine Sx.Sl.two hT 109 rfl (fun hc75 hT => ?_) (fun hc75 hT => ?_)
                            · try simp only [decide_eq_true_eq, decide_eq_false_iff_not, Bool.not_eq_true', Bool.not_eq_false', Bool.not_eq_true, Bool.not_eq_false, Bool.and_eq_true, Bool.or_eq_false_iff, beq_iff_eq, bne_iff_ne, Int.not_lt, Int.not_le, ne_eq] at hc75
                              refine Sx.st_runskip hT rfl rfl rfl rfl ?_
                              clear hT; intro a hT
                              refine Sx.st_runskip hT rfl rfl rfl rfl ?_
                              clear hT; intro a hT
                              refine Sx.st_skip hT rfl rfl rfl rfl ?_
                              clear hT; intro a hT
                              refine Sx.st_take hT rfl rfl rfl rfl (Sx.x_pick_t hT rfl rfl rfl) ?_
                              clear hT; intro a hT
                              refine Sx.st_take hT rfl rfl rfl rfl (Sx.x_pick_t hT rfl rfl rfl) ?_
                              clear hT; intro a hT
                              refine Sx.st_take hT rfl rfl rfl rfl (Sx.x_move hT rfl rfl) ?_
                              clear hT; intro a hT
                              refine Sx.st_run hT rfl rfl rfl rfl (Sx.y_loadS hT rfl Tryd.underlying23 Tryd.ti23 rfl ((H.blk 0 rfl).seg (k := 3) rfl) (by rfl)) ?_
                              clear hT; intro a hT
                              refine Sx.st_run hT rfl rfl rfl rfl (Sx.y_loadS hT rfl Tryd.underlying23 Tryd.ti23 rfl ((H.blk 4 rfl).seg (k := 3) rfl) (by rfl)) ?_
                              clear hT; intro a hT
                              refine Sx.st_call hT rfl rfl rfl rfl rfl Tryd.can15 rfl (Compare_calls _ _ _ _ _ _ _) ?_
                              rintro _ w77 ⟨rfl, E⟩
                              refine ⟨_, rfl, ?_⟩
                              clear hT; intro a hT
                              replace H := H.pure E; clear E
                              refine Sx.st_take hT rfl rfl rfl rfl ((fun w => Sx.x_ge w hT rfl rfl rfl)) ?_
                              clear hT; intro a hT
                              refine Sx.st_take hT rfl rfl rfl rfl (Sx.x_pick_t hT rfl rfl rfl) ?_
                              clear hT; intro a hT
                              refine Sx.st_take hT rfl rfl rfl rfl (Sx.x_move hT rfl rfl) ?_
                              clear hT; intro a hT
                              -- guard (14, 23)
                              refine Sx.Sl.two hT 121 rfl (fun hc76 hT => ?_) (fun hc76 hT => ?_)
                              · try simp only [decide_eq_true_eq, decide_eq_false_iff_not, Bool.not_eq_true', Bool.not_eq_false', Bool.not_eq_true, Bool.not_eq_false, Bool.and_eq_true, Bool.or_eq_false_iff, beq_iff_eq, bne_iff_ne, Int.not_lt, Int.not_le, ne_eq] at hc76
                                refine Sx.st_run hT rfl rfl rfl rfl (Sx.y_loadS hT rfl Tryd.underlying23 Tryd.ti23 rfl ((H.blk 0 rfl).seg (k := 3) rfl) (by rfl)) ?_
                                clear hT; intro a hT
                                refine Sx.st_run hT rfl rfl rfl rfl (Sx.y_loadS hT rfl Tryd.underlying23 Tryd.ti23 rfl ((H.blk 3 rfl).seg (k := 3) rfl) (by rfl)) ?_
                                clear hT; intro a hT
                                refine Sx.st_call hT rfl rfl rfl rfl rfl Tryd.can15 rfl (Compare_calls _ _ _ _ _ _ _) ?_
                                rintro _ w78 ⟨rfl, E⟩
                                refine ⟨_, rfl, ?_⟩
                                clear hT; intro a hT
                                replace H := H.pure E; clear E
                                refine Sx.st_take hT rfl rfl rfl rfl ((fun w => Sx.x_ge w hT rfl rfl rfl)) ?_
                                clear hT; intro a hT
                                refine Sx.st_take hT rfl rfl rfl rfl (Sx.x_pick_t hT rfl rfl rfl) ?_
                                clear hT; intro a hT
                                refine Sx.st_take hT rfl rfl rfl rfl (Sx.x_assign hT rfl rfl) ?_
                                clear hT; intro a hT
                                replace hT := hT.keep [4, 11, 10, 9, 8, 7, 56, 39, 27, 6, 5, 13, 3, 2, 0, 1] rfl
                                refine Sx.ser_nil ?_
                                refine Sx.then_normal (hK72 _ _ ?_)
                                clear hK72
                                refine wp_ret ?_
                                refine Sx.done1 (fn := Tryd.f9) hT rfl (.tmp (hT.get 4 _ rfl)) ?_
                                first | exact ⟨rfl, H.ext⟩ | exact ⟨ret_b (by first | (simp; done) | (simp only [decide_eq_true_eq]; omega)), H.ext⟩
                              · exfalso
                                try simp only [decide_eq_true_eq, decide_eq_false_iff_not, Bool.not_eq_true', Bool.not_eq_false', Bool.not_eq_true, Bool.not_eq_false, Bool.and_eq_true, Bool.or_eq_false_iff, beq_iff_eq, bne_iff_ne, Int.not_lt, Int.not_le, ne_eq] at hc76
                                first | (simp at hc76; done) | omega | (simp at hc76; omega) | (simp [hm] at hc76; done) | (rw [hnzb] at hc76; simp at hc76; done) | (simp only [hzz] at hc76; simp at hc76; done) | (rw [hm] at hc76; simp at hc76; done)
                            · exfalso
                              try simp only [decide_eq_true_eq, decide_eq_false_iff_not, Bool.not_eq_true', Bool.not_eq_false', Bool.not_eq_true, Bool.not_eq_false, Bool.and_eq_true, Bool.or_eq_false_iff, beq_iff_eq, bne_iff_ne, Int.not_lt, Int.not_le, ne_eq] at hc75
                              first | (simp at hc75; done) | omega | (simp at hc75; omega) | (simp [hm] at hc75; done) | (rw [hnzb] at hc75; simp at hc75; done) | (simp only [hzz] at hc75; simp at hc75; done) | (rw [hm] at hc75; simp at hc75; done)
                          · exfalso
                            try simp only [decide_eq_true_eq, decide_eq_false_iff_not, Bool.not_eq_true', Bool.not_eq_false', Bool.not_eq_true, Bool.not_eq_false, Bool.and_eq_true, Bool.or_eq_false_iff, beq_iff_eq, bne_iff_ne, Int.not_lt, Int.not_le, ne_eq] at hc74
                            first | (simp at hc74; done) | omega | (simp at hc74; omega) | (simp [hm] at hc74; done) | (rw [hnzb] at hc74; simp at hc74; done) | (simp only [hzz] at hc74; simp at hc74; done) | (rw [hm] at hc74; simp at hc74; done)
                        · exfalso
                          try simp only [decide_eq_true_eq, decide_eq_false_iff_not, Bool.not_eq_true', Bool.not_eq_false', Bool.not_eq_true, Bool.not_eq_false, Bool.and_eq_true, Bool.or_eq_false_iff, beq_iff_eq, bne_iff_ne, Int.not_lt, Int.not_le, ne_eq] at hc73
                          first | (simp at hc73; done) | omega | (simp at hc73; omega) | (simp [hm] at hc73; done) | (rw [hnzb] at hc73; simp at hc73; done) | (simp only [hzz] at hc73; simp at hc73; done) | (rw [hm] at hc73; simp at hc73; done)
                    · exfalso
                      try simp only [decide_eq_true_eq, decide_eq_false_iff_not, Bool.not_eq_true', Bool.not_eq_false', Bool.not_eq_true, Bool.not_eq_false, Bool.and_eq_true, Bool.or_eq_false_iff, beq_iff_eq, bne_iff_ne, Int.not_lt, Int.not_le, ne_eq] at hc63
                      first | (simp at hc63; done) | omega | (simp at hc63; omega) | (simp [hm] at hc63; done) | (rw [hnzb] at hc63; simp at hc63; done) | (simp only [hzz] at hc63; simp at hc63; done) | (rw [hm] at hc63; simp at hc63; done)
                · exfalso
                  try simp only [decide_eq_true_eq, decide_eq_false_iff_not, Bool.not_eq_true', Bool.not_eq_false', Bool.not_eq_true, Bool.not_eq_false, Bool.and_eq_true, Bool.or_eq_false_iff, beq_iff_eq, bne_iff_ne, Int.not_lt, Int.not_le, ne_eq] at hc60
                  first | (simp at hc60; done) | omega | (simp at hc60; omega) | (simp [hm] at hc60; done) | (rw [hnzb] at hc60; simp at hc60; done) | (simp only [hzz] at hc60; simp at hc60; done) | (rw [hm] at hc60; simp at hc60; done)
            · exfalso
              try simp only [decide_eq_true_eq, decide_eq_false_iff_not, Bool.not_eq_true', Bool.not_eq_false', Bool.not_eq_true, Bool.not_eq_false, Bool.and_eq_true, Bool.or_eq_false_iff, beq_iff_eq, bne_iff_ne, Int.not_lt, Int.not_le, ne_eq] at hc16
              first | (simp at hc16; done) | omega | (simp at hc16; omega) | (simp [hm] at hc16; done) | (rw [hnzb] at hc16; simp at hc16; done) | (simp only [hzz] at hc16; simp at hc16; done) | (rw [hm] at hc16; simp at hc16; done)
      · exfalso
        try simp only [decide_eq_true_eq, decide_eq_false_iff_not, Bool.not_eq_true', Bool.not_eq_false', Bool.not_eq_true, Bool.not_eq_false, Bool.and_eq_true, Bool.or_eq_false_iff, beq_iff_eq, bne_iff_ne, Int.not_lt, Int.not_le, ne_eq] at hc11
        first | (simp at hc11; done) | omega | (simp at hc11; omega) | (simp [hm] at hc11; done) | (rw [hnzb] at hc11; simp at hc11; done) | (simp only [hzz] at hc11; simp at hc11; done) | (rw [hm] at hc11; simp at hc11; done)
  · exfalso
    try simp only [decide_eq_true_eq, decide_eq_false_iff_not, Bool.not_eq_true', Bool.not_eq_false', Bool.not_eq_true, Bool.not_eq_false, Bool.and_eq_true, Bool.or_eq_false_iff, beq_iff_eq, bne_iff_ne, Int.not_lt, Int.not_le, ne_eq] at hc7
    first | (simp at hc7; done) | omega | (simp at hc7; omega) | (simp [hm] at hc7; done) | (rw [hnzb] at hc7; simp at hc7; done) | (simp only [hzz] at hc7; simp at hc7; done) | (rw [hm] at hc7; simp at hc7; done)

theorem Next_bad (x y z p q r : Int) (w : World) (hx : inInt x) (hy : inInt y) (hz : inInt z) (ht : Tab w) (he : Errs w) (hm : may ⟨x, y, z⟩ = false) : Calls Tryd.prog 9 #[.agg #[.int .i64 x, .int .i64 y, .int .i64 z], .agg #[.int .i64 p, .int .i64 q, .int .i64 r]] w fun e w' => e = .returned (.bool true) ∧ Ext No w w' := by
  have hpr := prior_bad x y z (.inl hm)
  have RT : Ro w No _ := Ro.of fun w' x => Tab.ext ht x
  have RE : Ro w No _ := Ro.of fun w' x => he.ext x
  have hanti := cmp_anti ⟨x, y, z⟩ ⟨p, q, r⟩
  have hbd := cmp_bd ⟨x, y, z⟩ ⟨p, q, r⟩
  have hsa : cmp ⟨x, y, z⟩ ⟨x, y, z⟩ = 0 := (cmp_zero _ _).2 ⟨rfl, rfl, rfl⟩
  have hsb : cmp ⟨p, q, r⟩ ⟨p, q, r⟩ = 0 := (cmp_zero _ _).2 ⟨rfl, rfl, rfl⟩
  have hzz := cmp_zero ⟨x, y, z⟩ ⟨p, q, r⟩
  simp only at hzz
  have hlen := print_len hx hy hz
  refine Sx.calls_into Tryd.func9 rfl Tryd.ntmps9 rfl fun a hT => ?_
  replace hT := hT.keep [0, 1] rfl
  have H : Sx.Hp w (Sx.No) w [] := Sx.Hp.start _ _
  refine wp_seq_k fun K1 hK1 => ?_
  -- region 0 (law.go:138)
  refine Sx.wp_text [(0, .run), (1, .run), (2, .take)] rfl ?_
  refine Sx.st_eff hT rfl rfl rfl rfl (Sx.y_box hT rfl rfl rfl _) ?_
  clear hT; rintro _ w1 ⟨b1, rfl, N⟩ a hT
  replace H := H.new N; clear N
  refine Sx.st_eff hT rfl rfl rfl rfl (Sx.y_box hT rfl rfl rfl _) ?_
  clear hT; rintro _ w2 ⟨b2, rfl, N⟩ a hT
  replace H := H.new N; clear N
  refine Sx.st_take hT rfl rfl rfl rfl (Sx.x_assign hT rfl rfl) ?_
  clear hT; intro a hT
  replace hT := hT.keep [4, 3, 2, 0, 1] rfl
  refine Sx.ser_nil ?_
  refine Sx.then_normal (hK1 _ _ ?_)
  clear hK1
  refine wp_seq_k fun K2 hK2 => ?_
  refine wp_seq_k fun K3 hK3 => ?_
  -- region 1 (law.go:139)
  refine Sx.wp_text [(0, .run), (1, .take)] rfl ?_
  refine Sx.st_call hT rfl rfl rfl rfl rfl Tryd.can10 rfl (first_calls _) ?_
  rintro _ w3 ⟨rfl, E⟩
  refine ⟨_, rfl, ?_⟩
  clear hT; intro a hT
  replace H := H.pure E; clear E
  refine Sx.st_take hT rfl rfl rfl rfl (Sx.x_not hT rfl rfl) ?_
  clear hT; intro a hT
  replace hT := hT.keep [13, 4, 3, 2, 0, 1] rfl
  refine Sx.ser_nil ?_
  refine Sx.then_normal (hK3 _ _ ?_)
  clear hK3
  refine Sx.wp_if hT rfl (fun h => by cases h) (fun _ => ?_)
  refine wp_skip ?_
  refine Sx.then_normal (hK2 _ _ ?_)
  clear hK2
  refine wp_seq_k fun K4 hK4 => ?_
  -- region 3 (law.go:142)
  refine Sx.wp_text [(0, .run), (1, .run), (2, .take), (3, .take), (4, .take), (5, .run), (6, .run), (7, .take)] rfl ?_
  refine Sx.st_run hT rfl rfl rfl rfl (Sx.y_loadS hT rfl Tryd.underlying23 Tryd.ti23 rfl ((H.blk 1 rfl).seg (k := 3) rfl) (by rfl)) ?_
  clear hT; intro a hT
  refine Sx.st_call hT rfl rfl rfl rfl rfl Tryd.can11 rfl (Prior_at x y z 0 0 0 false _ hx.1 hx.2 hy.2 hz.2 hpr) ?_
  rintro _ w4 ⟨rfl, E⟩
  refine ⟨_, rfl, ?_⟩
  clear hT; intro a hT
  replace H := H.pure E; clear E
  refine Sx.st_take hT rfl rfl rfl rfl (Sx.x_move hT rfl rfl) ?_
  clear hT; intro a hT
  refine Sx.st_take hT rfl rfl rfl rfl (Sx.x_extractL hT rfl rfl rfl) ?_
  clear hT; intro a hT
  refine Sx.st_take hT rfl rfl rfl rfl (Sx.x_extractL hT rfl rfl rfl) ?_
  clear hT; intro a hT
  refine Sx.st_eff hT rfl rfl rfl rfl (Sx.y_alloc hT rfl Tryd.ti23 rfl _) ?_
  clear hT; rintro _ w5 ⟨b3, rfl, N⟩ a hT
  replace H := H.new N; clear N
  refine Sx.st_act hT rfl rfl rfl (Sx.y_storeS hT rfl Tryd.ti23 rfl rfl rfl rfl rfl (H.blk 0 rfl) rfl) ?_
  rintro w6 ⟨hb, E, _⟩
  replace H := H.setB 0 rfl hb E rfl; clear hb E
  refine Sx.st_take hT rfl rfl rfl rfl (Sx.x_assign hT rfl rfl) ?_
  clear hT; intro a hT
  replace hT := hT.keep [6, 5, 13, 4, 3, 2, 0, 1] rfl
  refine Sx.ser_nil ?_
  refine Sx.then_normal (hK4 _ _ ?_)
  clear hK4
  refine wp_seq_k fun K5 hK5 => ?_
  refine wp_seq_k fun K6 hK6 => ?_
  -- region 4 (law.go:143)
  refine Sx.wp_text [(0, .take), (1, .run), (2, .run), (3, .take), (4, .run), (5, .take), (6, .take), (7, .take), (8, .take)] rfl ?_
  refine Sx.st_take hT rfl rfl rfl rfl (Sx.x_move hT rfl rfl) ?_
  clear hT; intro a hT
  refine Sx.st_run hT rfl rfl rfl rfl (Sx.y_loadS hT rfl Tryd.underlying23 Tryd.ti23 rfl ((H.blk 2 rfl).seg (k := 3) rfl) (by rfl)) ?_
  clear hT; intro a hT
  refine Sx.st_call hT rfl rfl rfl rfl rfl Tryd.can13 rfl (May_calls _ _ _ _) ?_
  rintro _ w7 ⟨rfl, E⟩
  refine ⟨_, rfl, ?_⟩
  clear hT; intro a hT
  replace H := H.pure E; clear E
  refine Sx.st_take hT rfl rfl rfl rfl (Sx.x_move hT rfl rfl) ?_
  clear hT; intro a hT
  -- guard (4, 3)
  refine Sx.Sl.two hT 22 rfl (fun hc7 hT => ?_) (fun hc7 hT => ?_)
  · exfalso
    try simp only [decide_eq_true_eq, decide_eq_false_iff_not, Bool.not_eq_true', Bool.not_eq_false', Bool.not_eq_true, Bool.not_eq_false, Bool.and_eq_true, Bool.or_eq_false_iff, beq_iff_eq, bne_iff_ne, Int.not_lt, Int.not_le, ne_eq] at hc7
    first | (simp at hc7; done) | omega | (simp at hc7; omega) | (simp [hm] at hc7; done) | (rw [hnzb] at hc7; simp at hc7; done) | (simp only [hzz] at hc7; simp at hc7; done) | (rw [hm] at hc7; simp at hc7; done)
  · try simp only [decide_eq_true_eq, decide_eq_false_iff_not, Bool.not_eq_true', Bool.not_eq_false', Bool.not_eq_true, Bool.not_eq_false, Bool.and_eq_true, Bool.or_eq_false_iff, beq_iff_eq, bne_iff_ne, Int.not_lt, Int.not_le, ne_eq] at hc7
    refine Sx.st_runskip hT rfl rfl rfl rfl ?_
    clear hT; intro a hT
    refine Sx.st_skip hT rfl rfl rfl rfl ?_
    clear hT; intro a hT
    refine Sx.st_skip hT rfl rfl rfl rfl ?_
    clear hT; intro a hT
    refine Sx.st_take hT rfl rfl rfl rfl (Sx.x_pick_f hT rfl rfl rfl) ?_
    clear hT; intro a hT
    refine Sx.st_take hT rfl rfl rfl rfl (Sx.x_neb hT rfl Tryd.underlying4 rfl rfl) ?_
    clear hT; intro a hT
    replace hT := hT.keep [27, 6, 5, 13, 4, 3, 2, 0, 1] rfl
    refine Sx.ser_nil ?_
    refine Sx.then_normal (hK6 _ _ ?_)
    clear hK6
    -- cond 1
    refine Sx.wp_if hT rfl (fun hc8 => ?_) (fun hc8 => ?_)
    · exfalso
      try simp only [decide_eq_true_eq, decide_eq_false_iff_not, Bool.not_eq_true', Bool.not_eq_false', Bool.not_eq_true, Bool.not_eq_false, Bool.and_eq_true, Bool.or_eq_false_iff, beq_iff_eq, bne_iff_ne, Int.not_lt, Int.not_le, ne_eq] at hc8
      first | (simp at hc8; done) | omega | (simp at hc8; omega) | (simp [hm] at hc8; done) | (rw [hnzb] at hc8; simp at hc8; done) | (simp only [hzz] at hc8; simp at hc8; done) | (rw [hm] at hc8; simp at hc8; done)
    · try simp only [decide_eq_true_eq, decide_eq_false_iff_not, Bool.not_eq_true', Bool.not_eq_false', Bool.not_eq_true, Bool.not_eq_false, Bool.and_eq_true, Bool.or_eq_false_iff, beq_iff_eq, bne_iff_ne, Int.not_lt, Int.not_le, ne_eq] at hc8
      refine wp_skip ?_
      refine Sx.then_normal (hK5 _ _ ?_)
      clear hK5
      refine wp_seq_k fun K9 hK9 => ?_
      refine wp_seq_k fun K10 hK10 => ?_
      -- region 6 (law.go:146)
      refine Sx.wp_text [(0, .take), (1, .take), (2, .run), (3, .run), (4, .run), (5, .take), (6, .take), (7, .run), (8, .run), (9, .take), (10, .take), (11, .take)] rfl ?_
      refine Sx.st_take hT rfl rfl rfl rfl (Sx.x_move hT rfl rfl) ?_
      clear hT; intro a hT
      refine Sx.st_take hT rfl rfl rfl rfl (Sx.x_move hT rfl rfl) ?_
      clear hT; intro a hT
      -- guard (6, 1)
      refine Sx.Sl.two hT 29 rfl (fun hc11 hT => ?_) (fun hc11 hT => ?_)
      · exfalso
        try simp only [decide_eq_true_eq, decide_eq_false_iff_not, Bool.not_eq_true', Bool.not_eq_false', Bool.not_eq_true, Bool.not_eq_false, Bool.and_eq_true, Bool.or_eq_false_iff, beq_iff_eq, bne_iff_ne, Int.not_lt, Int.not_le, ne_eq] at hc11
        first | (simp at hc11; done) | omega | (simp at hc11; omega) | (simp [hm] at hc11; done) | (rw [hnzb] at hc11; simp at hc11; done) | (simp only [hzz] at hc11; simp at hc11; done) | (rw [hm] at hc11; simp at hc11; done)
      · try simp only [decide_eq_true_eq, decide_eq_false_iff_not, Bool.not_eq_true', Bool.not_eq_false', Bool.not_eq_true, Bool.not_eq_false, Bool.and_eq_true, Bool.or_eq_false_iff, beq_iff_eq, bne_iff_ne, Int.not_lt, Int.not_le, ne_eq] at hc11
        refine Sx.st_runskip hT rfl rfl rfl rfl ?_
        clear hT; intro a hT
        refine Sx.st_runskip hT rfl rfl rfl rfl ?_
        clear hT; intro a hT
        refine Sx.st_runskip hT rfl rfl rfl rfl ?_
        clear hT; intro a hT
        refine Sx.st_skip hT rfl rfl rfl rfl ?_
        clear hT; intro a hT
        refine Sx.st_skip hT rfl rfl rfl rfl ?_
        clear hT; intro a hT
        refine Sx.st_runskip hT rfl rfl rfl rfl ?_
        clear hT; intro a hT
        refine Sx.st_runskip hT rfl rfl rfl rfl ?_
        clear hT; intro a hT
        refine Sx.st_skip hT rfl rfl rfl rfl ?_
        clear hT; intro a hT
        refine Sx.st_skip hT rfl rfl rfl rfl ?_
        clear hT; intro a hT
        refine Sx.st_take hT rfl rfl rfl rfl (Sx.x_pick_f hT rfl rfl rfl) ?_
        clear hT; intro a hT
        replace hT := hT.keep [39, 27, 6, 5, 13, 4, 3, 2, 0, 1] rfl
        refine Sx.ser_nil ?_
        refine Sx.then_normal (hK10 _ _ ?_)
        clear hK10
        refine Sx.wp_if hT rfl (fun h => by cases h) (fun _ => ?_)
        refine wp_skip ?_
        refine Sx.then_normal (hK9 _ _ ?_)
        clear hK9
        refine wp_seq_k fun K12 hK12 => ?_
        refine wp_seq_k fun K13 hK13 => ?_
        -- region 8 (law.go:149)
        refine Sx.wp_text [(0, .take), (1, .take), (2, .run), (3, .run), (4, .take), (5, .take), (6, .run), (7, .run), (8, .run), (9, .take), (10, .take), (11, .take), (12, .run), (13, .run), (14, .run), (15, .take), (16, .take)] rfl ?_
        refine Sx.st_take hT rfl rfl rfl rfl (Sx.x_move hT rfl rfl) ?_
        clear hT; intro a hT
        refine Sx.st_take hT rfl rfl rfl rfl (Sx.x_move hT rfl rfl) ?_
        clear hT; intro a hT
        -- guard (8, 1)
        refine Sx.Sl.two hT 41 rfl (fun hc14 hT => ?_) (fun hc14 hT => ?_)
        · exfalso
          try simp only [decide_eq_true_eq, decide_eq_false_iff_not, Bool.not_eq_true', Bool.not_eq_false', Bool.not_eq_true, Bool.not_eq_false, Bool.and_eq_true, Bool.or_eq_false_iff, beq_iff_eq, bne_iff_ne, Int.not_lt, Int.not_le, ne_eq] at hc14
          first | (simp at hc14; done) | omega | (simp at hc14; omega) | (simp [hm] at hc14; done) | (rw [hnzb] at hc14; simp at hc14; done) | (simp only [hzz] at hc14; simp at hc14; done) | (rw [hm] at hc14; simp at hc14; done)
        · try simp only [decide_eq_true_eq, decide_eq_false_iff_not, Bool.not_eq_true', Bool.not_eq_false', Bool.not_eq_true, Bool.not_eq_false, Bool.and_eq_true, Bool.or_eq_false_iff, beq_iff_eq, bne_iff_ne, Int.not_lt, Int.not_le, ne_eq] at hc14
          refine Sx.st_runskip hT rfl rfl rfl rfl ?_
          clear hT; intro a hT
          refine Sx.st_runskip hT rfl rfl rfl rfl ?_
          clear hT; intro a hT
          refine Sx.st_take hT rfl rfl rfl rfl (Sx.x_pick_f hT rfl rfl rfl) ?_
          clear hT; intro a hT
          refine Sx.st_take hT rfl rfl rfl rfl (Sx.x_move hT rfl rfl) ?_
          clear hT; intro a hT
          refine Sx.st_runskip hT rfl rfl rfl rfl ?_
          clear hT; intro a hT
          refine Sx.st_runskip hT rfl rfl rfl rfl ?_
          clear hT; intro a hT
          refine Sx.st_runskip hT rfl rfl rfl rfl ?_
          clear hT; intro a hT
          refine Sx.st_skip hT rfl rfl rfl rfl ?_
          clear hT; intro a hT
          refine Sx.st_take hT rfl rfl rfl rfl (Sx.x_pick_f hT rfl rfl rfl) ?_
          clear hT; intro a hT
          refine Sx.st_take hT rfl rfl rfl rfl (Sx.x_move hT rfl rfl) ?_
          clear hT; intro a hT
          refine Sx.st_runskip hT rfl rfl rfl rfl ?_
          clear hT; intro a hT
          refine Sx.st_runskip hT rfl rfl rfl rfl ?_
          clear hT; intro a hT
          refine Sx.st_runskip hT rfl rfl rfl rfl ?_
          clear hT; intro a hT
          refine Sx.st_skip hT rfl rfl rfl rfl ?_
          clear hT; intro a hT
          refine Sx.st_take hT rfl rfl rfl rfl (Sx.x_pick_f hT rfl rfl rfl) ?_
          clear hT; intro a hT
          replace hT := hT.keep [56, 39, 27, 6, 5, 13, 4, 3, 2, 0, 1] rfl
          refine Sx.ser_nil ?_
          refine Sx.then_normal (hK13 _ _ ?_)
          clear hK13
          refine Sx.wp_if hT rfl (fun h => by cases h) (fun _ => ?_)
          refine wp_skip ?_
          refine Sx.then_normal (hK12 _ _ ?_)
          clear hK12
          refine wp_seq_k fun K15 hK15 => ?_
          -- region 10 (law.go:152)
          refine Sx.wp_text [(0, .run), (1, .run), (2, .run), (3, .take), (4, .take), (5, .take), (6, .run), (7, .run), (8, .take)] rfl ?_
          refine Sx.st_run hT rfl rfl rfl rfl (Sx.y_loadS hT rfl Tryd.underlying23 Tryd.ti23 rfl ((H.blk 2 rfl).seg (k := 3) rfl) (by rfl)) ?_
          clear hT; intro a hT
          refine Sx.st_call hT rfl rfl rfl rfl rfl Tryd.can19 rfl (Print_calls x y z _ hx hy hz (RT.at H.ext)) ?_
          rintro _ w8 ⟨rfl, E⟩
          refine ⟨_, rfl, ?_⟩
          clear hT; intro a hT
          replace H := H.pure E; clear E
          refine Sx.st_call hT rfl rfl rfl rfl rfl Tryd.can31 rfl (Parse_calls (printS ⟨x, y, z⟩) hlen _ (RT.at H.ext) (RE.at H.ext)) ?_
          rintro _ w9 ⟨x1, y1, z1, r1, rfl, hp1, E⟩
          refine ⟨_, rfl, ?_⟩
          clear hT; intro a hT
          replace H := H.pure E; clear E
          obtain rfl := parsed_no hx hy hz hm hp1
          refine Sx.st_take hT rfl rfl rfl rfl (Sx.x_move hT rfl rfl) ?_
          clear hT; intro a hT
          refine Sx.st_take hT rfl rfl rfl rfl (Sx.x_extractL hT rfl rfl rfl) ?_
          clear hT; intro a hT
          refine Sx.st_take hT rfl rfl rfl rfl (Sx.x_extractL hT rfl rfl rfl) ?_
          clear hT; intro a hT
          refine Sx.st_eff hT rfl rfl rfl rfl (Sx.y_alloc hT rfl Tryd.ti23 rfl _) ?_
          clear hT; rintro _ w10 ⟨b4, rfl, N⟩ a hT
          replace H := H.new N; clear N
          refine Sx.st_act hT rfl rfl rfl (Sx.y_storeS hT rfl Tryd.ti23 rfl rfl rfl rfl rfl (H.blk 0 rfl) rfl) ?_
          rintro w11 ⟨hb, E, _⟩
          replace H := H.setB 0 rfl hb E rfl; clear hb E
          refine Sx.st_take hT rfl rfl rfl rfl (Sx.x_assign hT rfl rfl) ?_
          clear hT; intro a hT
          replace hT := hT.keep [8, 7, 56, 39, 27, 6, 5, 13, 4, 3, 2, 0, 1] rfl
          refine Sx.ser_nil ?_
          refine Sx.then_normal (hK15 _ _ ?_)
          clear hK15
          refine wp_seq_k fun K16 hK16 => ?_
          -- region 11 (law.go:153)
          refine Sx.wp_text [(0, .take), (1, .take), (2, .run), (3, .run), (4, .take), (5, .take), (6, .take), (7, .take), (8, .take), (9, .run), (10, .run), (11, .take), (12, .take), (13, .take), (14, .take)] rfl ?_
          refine Sx.st_take hT rfl rfl rfl rfl (Sx.x_move hT rfl rfl) ?_
          clear hT; intro a hT
          refine Sx.st_take hT rfl rfl rfl rfl ((fun w => Sx.x_eq w hT rfl rfl rfl)) ?_
          clear hT; intro a hT
          refine Sx.st_run hT rfl rfl rfl rfl (Sx.y_loadS hT rfl Tryd.underlying23 Tryd.ti23 rfl ((H.blk 3 rfl).seg (k := 3) rfl) (by rfl)) ?_
          clear hT; intro a hT
          refine Sx.st_call hT rfl rfl rfl rfl rfl Tryd.can13 rfl (May_calls _ _ _ _) ?_
          rintro _ w12 ⟨rfl, E⟩
          refine ⟨_, rfl, ?_⟩
          clear hT; intro a hT
          replace H := H.pure E; clear E
          refine Sx.st_take hT rfl rfl rfl rfl (Sx.x_eqb hT rfl Tryd.underlying4 rfl rfl) ?_
          clear hT; intro a hT
          refine Sx.st_take hT rfl rfl rfl rfl (Sx.x_move hT rfl rfl) ?_
          clear hT; intro a hT
          -- guard (11, 5)
          refine Sx.Sl.two hT 68 rfl (fun hc17 hT => ?_) (fun hc17 hT => ?_)
          · try simp only [decide_eq_true_eq, decide_eq_false_iff_not, Bool.not_eq_true', Bool.not_eq_false', Bool.not_eq_true, Bool.not_eq_false, Bool.and_eq_true, Bool.or_eq_false_iff, beq_iff_eq, bne_iff_ne, Int.not_lt, Int.not_le, ne_eq] at hc17
            refine Sx.st_take hT rfl rfl rfl rfl (Sx.x_move hT rfl rfl) ?_
            clear hT; intro a hT
            refine Sx.st_take hT rfl rfl rfl rfl ((fun w => Sx.x_ne w hT rfl rfl rfl)) ?_
            clear hT; intro a hT
            refine Sx.st_take hT rfl rfl rfl rfl (Sx.x_move hT rfl rfl) ?_
            clear hT; intro a hT
            -- guard (11, 8)
            refine Sx.Sl.two hT 71 rfl (fun hc18 hT => ?_) (fun hc18 hT => ?_)
            · try simp only [decide_eq_true_eq, decide_eq_false_iff_not, Bool.not_eq_true', Bool.not_eq_false', Bool.not_eq_true, Bool.not_eq_false, Bool.and_eq_true, Bool.or_eq_false_iff, beq_iff_eq, bne_iff_ne, Int.not_lt, Int.not_le, ne_eq] at hc18
              refine Sx.st_runskip hT rfl rfl rfl rfl ?_
              clear hT; intro a hT
              refine Sx.st_runskip hT rfl rfl rfl rfl ?_
              clear hT; intro a hT
              refine Sx.st_skip hT rfl rfl rfl rfl ?_
              clear hT; intro a hT
              refine Sx.st_take hT rfl rfl rfl rfl (Sx.x_pick_t hT rfl rfl rfl) ?_
              clear hT; intro a hT
              refine Sx.st_take hT rfl rfl rfl rfl (Sx.x_pick_t hT rfl rfl rfl) ?_
              clear hT; intro a hT
              refine Sx.st_take hT rfl rfl rfl rfl (Sx.x_assign hT rfl rfl) ?_
              clear hT; intro a hT
              replace hT := hT.keep [9, 8, 7, 56, 39, 27, 6, 5, 13, 4, 3, 2, 0, 1] rfl
              refine Sx.ser_nil ?_
              refine Sx.then_normal (hK16 _ _ ?_)
              clear hK16
              refine wp_seq_k fun K19 hK19 => ?_
              -- region 12 (law.go:154)
              refine Sx.wp_draws (fun u => Sx.Ext (Sx.No) u) [(0, .held), (1, .held), (3, .held), (4, .held), (2, .keep), (5, .keep), (6, .take), (7, .take), (8, .take), (9, .held), (10, .held), (13, .held), (14, .held), (15, .take), (11, .keep), (12, .take), (16, .take), (17, .take), (18, .take)] (by kernel_rfl) (by kernel_rfl) (fun u E _ => ?_)
              replace H := H.pure E; clear E
              have hH : Sx.Ext (Sx.No) u u := Sx.Ext.refl _ _
              have Hu := H
              refine Sx.st_held hT rfl rfl rfl rfl hH (fun w' h' => Sx.y_loadS hT rfl Tryd.underlying23 Tryd.ti23 rfl ((Hu.heldB 3 rfl h' Sx.off_No).seg (k := 3) rfl) (by rfl)) ?_
              clear hT; intro a hT
              refine Sx.st_held hT rfl rfl rfl rfl hH (fun w' h' => Sx.y_loadS hT rfl Tryd.underlying23 Tryd.ti23 rfl ((Hu.heldB 2 rfl h' Sx.off_No).seg (k := 3) rfl) (by rfl)) ?_
              clear hT; intro a hT
              refine Sx.st_held hT rfl rfl rfl rfl hH (fun w' h' => Sx.y_loadS hT rfl Tryd.underlying23 Tryd.ti23 rfl ((Hu.heldB 2 rfl h' Sx.off_No).seg (k := 3) rfl) (by rfl)) ?_
              clear hT; intro a hT
              refine Sx.st_held hT rfl rfl rfl rfl hH (fun w' h' => Sx.y_loadS hT rfl Tryd.underlying23 Tryd.ti23 rfl ((Hu.heldB 3 rfl h' Sx.off_No).seg (k := 3) rfl) (by rfl)) ?_
              clear hT; intro a hT
              refine Sx.st_callkeep hT rfl rfl rfl rfl rfl Tryd.can15 rfl (Compare_calls _ _ _ _ _ _ _) ?_
              rintro _ w13 ⟨rfl, E⟩
              refine ⟨_, rfl, hH.step E, ?_⟩
              replace hH := hH.step E
              clear hT; intro a hT
              replace H := H.pure E; clear E
              refine Sx.st_callkeep hT rfl rfl rfl rfl rfl Tryd.can15 rfl (Compare_calls _ _ _ _ _ _ _) ?_
              rintro _ w14 ⟨rfl, E⟩
              refine ⟨_, rfl, hH.step E, ?_⟩
              replace hH := hH.step E
              clear hT; intro a hT
              replace H := H.pure E; clear E
              refine Sx.st_take hT rfl rfl rfl rfl ((fun w => Sx.x_neg w hT rfl rfl (Sx.wrap64 (by omega)))) ?_
              clear hT; intro a hT
              refine Sx.st_take hT rfl rfl rfl rfl ((fun w => Sx.x_eq w hT rfl rfl rfl)) ?_
              clear hT; intro a hT
              refine Sx.st_take hT rfl rfl rfl rfl (Sx.x_move hT rfl rfl) ?_
              clear hT; intro a hT
              -- guard (12, 8)
              refine Sx.Sl.two hT 85 rfl (fun hc20 hT => ?_) (fun hc20 hT => ?_)
              · try simp only [decide_eq_true_eq, decide_eq_false_iff_not, Bool.not_eq_true', Bool.not_eq_false', Bool.not_eq_true, Bool.not_eq_false, Bool.and_eq_true, Bool.or_eq_false_iff, beq_iff_eq, bne_iff_ne, Int.not_lt, Int.not_le, ne_eq] at hc20
                refine Sx.st_held hT rfl rfl rfl rfl hH (fun w' h' => Sx.y_loadS hT rfl Tryd.underlying23 Tryd.ti23 rfl ((Hu.heldB 3 rfl h' Sx.off_No).seg (k := 3) rfl) (by rfl)) ?_
                clear hT; intro a hT
                refine Sx.st_held hT rfl rfl rfl rfl hH (fun w' h' => Sx.y_loadS hT rfl Tryd.underlying23 Tryd.ti23 rfl ((Hu.heldB 2 rfl h' Sx.off_No).seg (k := 3) rfl) (by rfl)) ?_
                clear hT; intro a hT
                refine Sx.st_held hT rfl rfl rfl rfl hH (fun w' h' => Sx.y_loadS hT rfl Tryd.underlying23 Tryd.ti23 rfl ((Hu.heldB 3 rfl h' Sx.off_No).seg (k := 3) rfl) (by rfl)) ?_
                clear hT; intro a hT
                refine Sx.st_held hT rfl rfl rfl rfl hH (fun w' h' => Sx.y_loadS hT rfl Tryd.underlying23 Tryd.ti23 rfl ((Hu.heldB 2 rfl h' Sx.off_No).seg (k := 3) rfl) (by rfl)) ?_
                clear hT; intro a hT
                refine Sx.st_take hT rfl rfl rfl rfl (Sx.x_eqS hT rfl (by kernel_rfl) (Tryd.eq23 _ _ _ _ _ _) rfl rfl rfl) ?_
                clear hT; intro a hT
                refine Sx.st_callkeep hT rfl rfl rfl rfl rfl Tryd.can15 rfl (Compare_calls _ _ _ _ _ _ _) ?_
                rintro _ w15 ⟨rfl, E⟩
                refine ⟨_, rfl, hH.step E, ?_⟩
                replace hH := hH.step E
                clear hT; intro a hT
                replace H := H.pure E; clear E
                refine Sx.st_take hT rfl rfl rfl rfl ((fun w => Sx.x_eq w hT rfl rfl rfl)) ?_
                clear hT; intro a hT
                refine Sx.st_take hT rfl rfl rfl rfl (Sx.x_eqb hT rfl Tryd.underlying4 rfl rfl) ?_
                clear hT; intro a hT
                refine Sx.st_take hT rfl rfl rfl rfl (Sx.x_pick_t hT rfl rfl rfl) ?_
                clear hT; intro a hT
                refine Sx.st_take hT rfl rfl rfl rfl (Sx.x_assign hT rfl rfl) ?_
                clear hT; intro a hT
                replace hT := hT.keep [10, 9, 8, 7, 56, 39, 27, 6, 5, 13, 4, 3, 2, 0, 1] rfl
                clear Hu hH
                refine Sx.ser_calm ?_
                refine Sx.then_normal (hK19 _ _ ?_)
                clear hK19
                refine wp_seq_k fun K21 hK21 => ?_
                by_cases hlt : cmp ⟨x, y, z⟩ ⟨p, q, r⟩ < 0
                · skip
                  -- region 13 (law.go:155)
                  refine Sx.wp_text [(0, .run), (1, .run), (2, .run), (3, .run), (4, .run)] rfl ?_
                  refine Sx.st_run hT rfl rfl rfl rfl (Sx.y_loadS hT rfl Tryd.underlying23 Tryd.ti23 rfl ((H.blk 3 rfl).seg (k := 3) rfl) (by rfl)) ?_
                  clear hT; intro a hT
                  refine Sx.st_run hT rfl rfl rfl rfl (Sx.y_loadS hT rfl Tryd.underlying23 Tryd.ti23 rfl ((H.blk 2 rfl).seg (k := 3) rfl) (by rfl)) ?_
                  clear hT; intro a hT
                  refine Sx.st_call hT rfl rfl rfl rfl rfl Tryd.can17 rfl (Later_lt _ _ _ _ _ _ _ hlt) ?_
                  rintro _ w16 ⟨rfl, E⟩
                  refine ⟨_, rfl, ?_⟩
                  clear hT; intro a hT
                  replace H := H.pure E; clear E
                  refine Sx.st_eff hT rfl rfl rfl rfl (Sx.y_alloc hT rfl Tryd.ti23 rfl _) ?_
                  clear hT; rintro _ w17 ⟨b5, rfl, N⟩ a hT
                  replace H := H.new N; clear N
                  refine Sx.st_act hT rfl rfl rfl (Sx.y_storeS hT rfl Tryd.ti23 rfl rfl rfl rfl rfl (H.blk 0 rfl) rfl) ?_
                  rintro w18 ⟨hb, E, _⟩
                  replace H := H.setB 0 rfl hb E rfl; clear hb E
                  replace hT := hT.keep [11, 10, 9, 8, 7, 56, 39, 27, 6, 5, 13, 4, 3, 2, 0, 1] rfl
                  refine Sx.ser_nil ?_
                  refine Sx.then_normal (hK21 _ _ ?_)
                  clear hK21
                  refine wp_seq_k fun K22 hK22 => ?_
                  -- region 14 (law.go:156)
                  refine Sx.wp_text [(0, .run), (1, .take), (2, .take), (3, .take), (4, .take), (5, .take), (6, .take), (7, .take), (8, .run), (9, .run), (10, .take), (11, .take), (12, .run), (13, .run), (14, .take), (15, .take), (16, .take), (17, .take), (18, .run), (19, .run), (20, .run), (21, .take), (22, .take), (23, .take), (24, .run), (25, .run), (26, .run), (27, .take), (28, .take), (29, .take)] rfl ?_
                  refine Sx.st_call hT rfl rfl rfl rfl rfl Tryd.can10 rfl (first_calls _) ?_
                  rintro _ w19 ⟨rfl, E⟩
                  refine ⟨_, rfl, ?_⟩
                  clear hT; intro a hT
                  replace H := H.pure E; clear E
                  refine Sx.st_take hT rfl rfl rfl rfl (Sx.x_move hT rfl rfl) ?_
                  clear hT; intro a hT
                  refine Sx.st_take hT rfl rfl rfl rfl (Sx.x_move hT rfl rfl) ?_
                  clear hT; intro a hT
                  refine Sx.st_take hT rfl rfl rfl rfl (Sx.x_pick_t hT rfl rfl rfl) ?_
                  clear hT; intro a hT
                  refine Sx.st_take hT rfl rfl rfl rfl (Sx.x_move hT rfl rfl) ?_
                  clear hT; intro a hT
                  refine Sx.st_take hT rfl rfl rfl rfl (Sx.x_move hT rfl rfl) ?_
                  clear hT; intro a hT
                  refine Sx.st_take hT rfl rfl rfl rfl (Sx.x_pick_t hT rfl rfl rfl) ?_
                  clear hT; intro a hT
                  refine Sx.st_take hT rfl rfl rfl rfl (Sx.x_move hT rfl rfl) ?_
                  clear hT; intro a hT
                  -- guard (14, 7)
                  refine Sx.Sl.two hT 105 rfl (fun hc23 hT => ?_) (fun hc23 hT => ?_)
                  · try simp only [decide_eq_true_eq, decide_eq_false_iff_not, Bool.not_eq_true', Bool.not_eq_false', Bool.not_eq_true, Bool.not_eq_false, Bool.and_eq_true, Bool.or_eq_false_iff, beq_iff_eq, bne_iff_ne, Int.not_lt, Int.not_le, ne_eq] at hc23
                    refine Sx.st_run hT rfl rfl rfl rfl (Sx.y_loadS hT rfl Tryd.underlying23 Tryd.ti23 rfl ((H.blk 0 rfl).seg (k := 3) rfl) (by rfl)) ?_
                    clear hT; intro a hT
                    refine Sx.st_run hT rfl rfl rfl rfl (Sx.y_loadS hT rfl Tryd.underlying23 Tryd.ti23 rfl ((H.blk 4 rfl).seg (k := 3) rfl) (by rfl)) ?_
                    clear hT; intro a hT
                    refine Sx.st_take hT rfl rfl rfl rfl (Sx.x_eqS hT rfl (by kernel_rfl) (Tryd.eq23 _ _ _ _ _ _) rfl rfl rfl) ?_
                    clear hT; intro a hT
                    refine Sx.st_take hT rfl rfl rfl rfl (Sx.x_move hT rfl rfl) ?_
                    clear hT; intro a hT
                    -- guard (14, 11)
                    refine Sx.Sl.two hT 109 rfl (fun hc24 hT => ?_) (fun hc24 hT => ?_)
                    · try simp only [decide_eq_true_eq, decide_eq_false_iff_not, Bool.not_eq_true', Bool.not_eq_false', Bool.not_eq_true, Bool.not_eq_false, Bool.and_eq_true, Bool.or_eq_false_iff, beq_iff_eq, bne_iff_ne, Int.not_lt, Int.not_le, ne_eq] at hc24
                      refine Sx.st_runskip hT rfl rfl rfl rfl ?_
                      clear hT; intro a hT
                      refine Sx.st_runskip hT rfl rfl rfl rfl ?_
                      clear hT; intro a hT
                      refine Sx.st_skip hT rfl rfl rfl rfl ?_
                      clear hT; intro a hT
                      refine Sx.st_take hT rfl rfl rfl rfl (Sx.x_pick_t hT rfl rfl rfl) ?_
                      clear hT; intro a hT
                      refine Sx.st_take hT rfl rfl rfl rfl (Sx.x_pick_t hT rfl rfl rfl) ?_
                      clear hT; intro a hT
                      refine Sx.st_take hT rfl rfl rfl rfl (Sx.x_move hT rfl rfl) ?_
                      clear hT; intro a hT
                      refine Sx.st_run hT rfl rfl rfl rfl (Sx.y_loadS hT rfl Tryd.underlying23 Tryd.ti23 rfl ((H.blk 0 rfl).seg (k := 3) rfl) (by rfl)) ?_
                      clear hT; intro a hT
                      refine Sx.st_run hT rfl rfl rfl rfl (Sx.y_loadS hT rfl Tryd.underlying23 Tryd.ti23 rfl ((H.blk 4 rfl).seg (k := 3) rfl) (by rfl)) ?_
                      clear hT; intro a hT
                      refine Sx.st_call hT rfl rfl rfl rfl rfl Tryd.can15 rfl (Compare_calls _ _ _ _ _ _ _) ?_
                      rintro _ w20 ⟨rfl, E⟩
                      refine ⟨_, rfl, ?_⟩
                      clear hT; intro a hT
                      replace H := H.pure E; clear E
                      refine Sx.st_take hT rfl rfl rfl rfl ((fun w => Sx.x_ge w hT rfl rfl rfl)) ?_
                      clear hT; intro a hT
                      refine Sx.st_take hT rfl rfl rfl rfl (Sx.x_pick_t hT rfl rfl rfl) ?_
                      clear hT; intro a hT
                      refine Sx.st_take hT rfl rfl rfl rfl (Sx.x_move hT rfl rfl) ?_
                      clear hT; intro a hT
                      -- guard (14, 23)
                      refine Sx.Sl.two hT 121 rfl (fun hc25 hT => ?_) (fun hc25 hT => ?_)
                      · try simp only [decide_eq_true_eq, decide_eq_false_iff_not, Bool.not_eq_true', Bool.not_eq_false', Bool.not_eq_true, Bool.not_eq_false, Bool.and_eq_true, Bool.or_eq_false_iff, beq_iff_eq, bne_iff_ne, Int.not_lt, Int.not_le, ne_eq] at hc25
                        refine Sx.st_run hT rfl rfl rfl rfl (Sx.y_loadS hT rfl Tryd.underlying23 Tryd.ti23 rfl ((H.blk 0 rfl).seg (k := 3) rfl) (by rfl)) ?_
                        clear hT; intro a hT
                        refine Sx.st_run hT rfl rfl rfl rfl (Sx.y_loadS hT rfl Tryd.underlying23 Tryd.ti23 rfl ((H.blk 3 rfl).seg (k := 3) rfl) (by rfl)) ?_
                        clear hT; intro a hT
                        refine Sx.st_call hT rfl rfl rfl rfl rfl Tryd.can15 rfl (Compare_calls _ _ _ _ _ _ _) ?_
                        rintro _ w21 ⟨rfl, E⟩
                        refine ⟨_, rfl, ?_⟩
                        clear hT; intro a hT
                        replace H := H.pure E; clear E
                        refine Sx.st_take hT rfl rfl rfl rfl ((fun w => Sx.x_ge w hT rfl rfl rfl)) ?_
                        clear hT; intro a hT
                        refine Sx.st_take hT rfl rfl rfl rfl (Sx.x_pick_t hT rfl rfl rfl) ?_
                        clear hT; intro a hT
                        refine Sx.st_take hT rfl rfl rfl rfl (Sx.x_assign hT rfl rfl) ?_
                        clear hT; intro a hT
                        replace hT := hT.keep [4, 11, 10, 9, 8, 7, 56, 39, 27, 6, 5, 13, 3, 2, 0, 1] rfl
                        refine Sx.ser_nil ?_
                        refine Sx.then_normal (hK22 _ _ ?_)
                        clear hK22
                        refine wp_ret ?_
                        refine Sx.done1 (fn := Tryd.f9) hT rfl (.tmp (hT.get 4 _ rfl)) ?_
                        first | exact ⟨rfl, H.ext⟩ | exact ⟨ret_b (by first | (simp; done) | (simp only [decide_eq_true_eq]; omega)), H.ext⟩
                      · exfalso
                        try simp only [decide_eq_true_eq, decide_eq_false_iff_not, Bool.not_eq_true', Bool.not_eq_false', Bool.not_eq_true, Bool.not_eq_false, Bool.and_eq_true, Bool.or_eq_false_iff, beq_iff_eq, bne_iff_ne, Int.not_lt, Int.not_le, ne_eq] at hc25
                        first | (simp at hc25; done) | omega | (simp at hc25; omega) | (simp [hm] at hc25; done) | (rw [hnzb] at hc25; simp at hc25; done) | (simp only [hzz] at hc25; simp at hc25; done) | (rw [hm] at hc25; simp at hc25; done)
                    · try simp only [decide_eq_true_eq, decide_eq_false_iff_not, Bool.not_eq_true', Bool.not_eq_false', Bool.not_eq_true, Bool.not_eq_false, Bool.and_eq_true, Bool.or_eq_false_iff, beq_iff_eq, bne_iff_ne, Int.not_lt, Int.not_le, ne_eq] at hc24
                      refine Sx.st_run hT rfl rfl rfl rfl (Sx.y_loadS hT rfl Tryd.underlying23 Tryd.ti23 rfl ((H.blk 0 rfl).seg (k := 3) rfl) (by rfl)) ?_
                      clear hT; intro a hT
                      refine Sx.st_run hT rfl rfl rfl rfl (Sx.y_loadS hT rfl Tryd.underlying23 Tryd.ti23 rfl ((H.blk 3 rfl).seg (k := 3) rfl) (by rfl)) ?_
                      clear hT; intro a hT
                      refine Sx.st_take hT rfl rfl rfl rfl (Sx.x_eqS hT rfl (by kernel_rfl) (Tryd.eq23 _ _ _ _ _ _) rfl rfl rfl) ?_
                      clear hT; intro a hT
                      refine Sx.st_take hT rfl rfl rfl rfl (Sx.x_pick_f hT rfl rfl rfl) ?_
                      clear hT; intro a hT
                      refine Sx.st_take hT rfl rfl rfl rfl (Sx.x_pick_t hT rfl rfl rfl) ?_
                      clear hT; intro a hT
                      refine Sx.st_take hT rfl rfl rfl rfl (Sx.x_move hT rfl rfl) ?_
                      clear hT; intro a hT
                      -- guard (14, 17)
                      refine Sx.Sl.two hT 115 rfl (fun hc26 hT => ?_) (fun hc26 hT => ?_)
                      · try simp only [decide_eq_true_eq, decide_eq_false_iff_not, Bool.not_eq_true', Bool.not_eq_false', Bool.not_eq_true, Bool.not_eq_false, Bool.and_eq_true, Bool.or_eq_false_iff, beq_iff_eq, bne_iff_ne, Int.not_lt, Int.not_le, ne_eq] at hc26
                        refine Sx.st_run hT rfl rfl rfl rfl (Sx.y_loadS hT rfl Tryd.underlying23 Tryd.ti23 rfl ((H.blk 0 rfl).seg (k := 3) rfl) (by rfl)) ?_
                        clear hT; intro a hT
                        refine Sx.st_run hT rfl rfl rfl rfl (Sx.y_loadS hT rfl Tryd.underlying23 Tryd.ti23 rfl ((H.blk 4 rfl).seg (k := 3) rfl) (by rfl)) ?_
                        clear hT; intro a hT
                        refine Sx.st_call hT rfl rfl rfl rfl rfl Tryd.can15 rfl (Compare_calls _ _ _ _ _ _ _) ?_
                        rintro _ w22 ⟨rfl, E⟩
                        refine ⟨_, rfl, ?_⟩
                        clear hT; intro a hT
                        replace H := H.pure E; clear E
                        refine Sx.st_take hT rfl rfl rfl rfl ((fun w => Sx.x_ge w hT rfl rfl rfl)) ?_
                        clear hT; intro a hT
                        refine Sx.st_take hT rfl rfl rfl rfl (Sx.x_pick_t hT rfl rfl rfl) ?_
                        clear hT; intro a hT
                        refine Sx.st_take hT rfl rfl rfl rfl (Sx.x_move hT rfl rfl) ?_
                        clear hT; intro a hT
                        -- guard (14, 23)
                        refine Sx.Sl.two hT 121 rfl (fun hc27 hT => ?_) (fun hc27 hT => ?_)
                        · try simp only [decide_eq_true_eq, decide_eq_false_iff_not, Bool.not_eq_true', Bool.not_eq_false', Bool.not_eq_true, Bool.not_eq_false, Bool.and_eq_true, Bool.or_eq_false_iff, beq_iff_eq, bne_iff_ne, Int.not_lt, Int.not_le, ne_eq] at hc27
                          refine Sx.st_run hT rfl rfl rfl rfl (Sx.y_loadS hT rfl Tryd.underlying23 Tryd.ti23 rfl ((H.blk 0 rfl).seg (k := 3) rfl) (by rfl)) ?_
                          clear hT; intro a hT
                          refine Sx.st_run hT rfl rfl rfl rfl (Sx.y_loadS hT rfl Tryd.underlying23 Tryd.ti23 rfl ((H.blk 3 rfl).seg (k := 3) rfl) (by rfl)) ?_
                          clear hT; intro a hT
                          refine Sx.st_call hT rfl rfl rfl rfl rfl Tryd.can15 rfl (Compare_calls _ _ _ _ _ _ _) ?_
                          rintro _ w23 ⟨rfl, E⟩
                          refine ⟨_, rfl, ?_⟩
                          clear hT; intro a hT
                          replace H := H.pure E; clear E
                          refine Sx.st_take hT rfl rfl rfl rfl ((fun w => Sx.x_ge w hT rfl rfl rfl)) ?_
                          clear hT; intro a hT
                          refine Sx.st_take hT rfl rfl rfl rfl (Sx.x_pick_t hT rfl rfl rfl) ?_
                          clear hT; intro a hT
                          refine Sx.st_take hT rfl rfl rfl rfl (Sx.x_assign hT rfl rfl) ?_
                          clear hT; intro a hT
                          replace hT := hT.keep [4, 11, 10, 9, 8, 7, 56, 39, 27, 6, 5, 13, 3, 2, 0, 1] rfl
                          refine Sx.ser_nil ?_
                          refine Sx.then_normal (hK22 _ _ ?_)
                          clear hK22
                          refine wp_ret ?_
                          refine Sx.done1 (fn := Tryd.f9) hT rfl (.tmp (hT.get 4 _ rfl)) ?_
                          first | exact ⟨rfl, H.ext⟩ | exact ⟨ret_b (by first | (simp; done) | (simp only [decide_eq_true_eq]; omega)), H.ext⟩
                        · exfalso
                          try simp only [decide_eq_true_eq, decide_eq_false_iff_not, Bool.not_eq_true', Bool.not_eq_false', Bool.not_eq_true, Bool.not_eq_false, Bool.and_eq_true, Bool.or_eq_false_iff, beq_iff_eq, bne_iff_ne, Int.not_lt, Int.not_le, ne_eq] at hc27
                          first | (simp at hc27; done) | omega | (simp at hc27; omega) | (simp [hm] at hc27; done) | (rw [hnzb] at hc27; simp at hc27; done) | (simp only [hzz] at hc27; simp at hc27; done) | (rw [hm] at hc27; simp at hc27; done)
                      · exfalso
                        try simp only [decide_eq_true_eq, decide_eq_false_iff_not, Bool.not_eq_true', Bool.not_eq_false', Bool.not_eq_true, Bool.not_eq_false, Bool.and_eq_true, Bool.or_eq_false_iff, beq_iff_eq, bne_iff_ne, Int.not_lt, Int.not_le, ne_eq] at hc26
                        first | (simp at hc26; done) | omega | (simp at hc26; omega) | (simp [hm] at hc26; done) | (rw [hnzb] at hc26; simp at hc26; done) | (simp only [hzz] at hc26; simp at hc26; done) | (rw [hm] at hc26; simp at hc26; done)
                  · exfalso
                    try simp only [decide_eq_true_eq, decide_eq_false_iff_not, Bool.not_eq_true', Bool.not_eq_false', Bool.not_eq_true, Bool.not_eq_false, Bool.and_eq_true, Bool.or_eq_false_iff, beq_iff_eq, bne_iff_ne, Int.not_lt, Int.not_le, ne_eq] at hc23
                    first | (simp at hc23; done) | omega | (simp at hc23; omega) | (simp [hm] at hc23; done) | (rw [hnzb] at hc23; simp at hc23; done) | (simp only [hzz] at hc23; simp at hc23; done) | (rw [hm] at hc23; simp at hc23; done)
                · skip
                  -- region 13 (law.go:155)
                  refine Sx.wp_text [(0, .run), (1, .run), (2, .run), (3, .run), (4, .run)] rfl ?_
                  refine Sx.st_run hT rfl rfl rfl rfl (Sx.y_loadS hT rfl Tryd.underlying23 Tryd.ti23 rfl ((H.blk 3 rfl).seg (k := 3) rfl) (by rfl)) ?_
                  clear hT; intro a hT
                  refine Sx.st_run hT rfl rfl rfl rfl (Sx.y_loadS hT rfl Tryd.underlying23 Tryd.ti23 rfl ((H.blk 2 rfl).seg (k := 3) rfl) (by rfl)) ?_
                  clear hT; intro a hT
                  refine Sx.st_call hT rfl rfl rfl rfl rfl Tryd.can17 rfl (Later_ge _ _ _ _ _ _ _ hlt) ?_
                  rintro _ w24 ⟨rfl, E⟩
                  refine ⟨_, rfl, ?_⟩
                  clear hT; intro a hT
                  replace H := H.pure E; clear E
                  refine Sx.st_eff hT rfl rfl rfl rfl (Sx.y_alloc hT rfl Tryd.ti23 rfl _) ?_
                  clear hT; rintro _ w25 ⟨b6, rfl, N⟩ a hT
                  replace H := H.new N; clear N
                  refine Sx.st_act hT rfl rfl rfl (Sx.y_storeS hT rfl Tryd.ti23 rfl rfl rfl rfl rfl (H.blk 0 rfl) rfl) ?_
                  rintro w26 ⟨hb, E, _⟩
                  replace H := H.setB 0 rfl hb E rfl; clear hb E
                  replace hT := hT.keep [11, 10, 9, 8, 7, 56, 39, 27, 6, 5, 13, 4, 3, 2, 0, 1] rfl
                  refine Sx.ser_nil ?_
                  refine Sx.then_normal (hK21 _ _ ?_)
                  clear hK21
                  refine wp_seq_k fun K28 hK28 => ?_
                  -- region 14 (law.go:156)
                  refine Sx.wp_text [(0, .run), (1, .take), (2, .take), (3, .take), (4, .take), (5, .take), (6, .take), (7, .take), (8, .run), (9, .run), (10, .take), (11, .take), (12, .run), (13, .run), (14, .take), (15, .take), (16, .take), (17, .take), (18, .run), (19, .run), (20, .run), (21, .take), (22, .take), (23, .take), (24, .run), (25, .run), (26, .run), (27, .take), (28, .take), (29, .take)] rfl ?_
                  refine Sx.st_call hT rfl rfl rfl rfl rfl Tryd.can10 rfl (first_calls _) ?_
                  rintro _ w27 ⟨rfl, E⟩
                  refine ⟨_, rfl, ?_⟩
                  clear hT; intro a hT
                  replace H := H.pure E; clear E
                  refine Sx.st_take hT rfl rfl rfl rfl (Sx.x_move hT rfl rfl) ?_
                  clear hT; intro a hT
                  refine Sx.st_take hT rfl rfl rfl rfl (Sx.x_move hT rfl rfl) ?_
                  clear hT; intro a hT
                  refine Sx.st_take hT rfl rfl rfl rfl (Sx.x_pick_t hT rfl rfl rfl) ?_
                  clear hT; intro a hT
                  refine Sx.st_take hT rfl rfl rfl rfl (Sx.x_move hT rfl rfl) ?_
                  clear hT; intro a hT
                  refine Sx.st_take hT rfl rfl rfl rfl (Sx.x_move hT rfl rfl) ?_
                  clear hT; intro a hT
                  refine Sx.st_take hT rfl rfl rfl rfl (Sx.x_pick_t hT rfl rfl rfl) ?_
                  clear hT; intro a hT
                  refine Sx.st_take hT rfl rfl rfl rfl (Sx.x_move hT rfl rfl) ?_
                  clear hT; intro a hT
                  -- guard (14, 7)
                  refine Sx.Sl.two hT 105 rfl (fun hc29 hT => ?_) (fun hc29 hT => ?_)
                  · try simp only [decide_eq_true_eq, decide_eq_false_iff_not, Bool.not_eq_true', Bool.not_eq_false', Bool.not_eq_true, Bool.not_eq_false, Bool.and_eq_true, Bool.or_eq_false_iff, beq_iff_eq, bne_iff_ne, Int.not_lt, Int.not_le, ne_eq] at hc29
                    refine Sx.st_run hT rfl rfl rfl rfl (Sx.y_loadS hT rfl Tryd.underlying23 Tryd.ti23 rfl ((H.blk 0 rfl).seg (k := 3) rfl) (by rfl)) ?_
                    clear hT; intro a hT
                    refine Sx.st_run hT rfl rfl rfl rfl (Sx.y_loadS hT rfl Tryd.underlying23 Tryd.ti23 rfl ((H.blk 4 rfl).seg (k := 3) rfl) (by rfl)) ?_
                    clear hT; intro a hT
                    refine Sx.st_take hT rfl rfl rfl rfl (Sx.x_eqS hT rfl (by kernel_rfl) (Tryd.eq23 _ _ _ _ _ _) rfl rfl rfl) ?_
                    clear hT; intro a hT
                    refine Sx.st_take hT rfl rfl rfl rfl (Sx.x_move hT rfl rfl) ?_
                    clear hT; intro a hT
                    -- guard (14, 11)
                    refine Sx.Sl.two hT 109 rfl (fun hc30 hT => ?_) (fun hc30 hT => ?_)
                    · try simp only [decide_eq_true_eq, decide_eq_false_iff_not, Bool.not_eq_true', Bool.not_eq_false', Bool.not_eq_true, Bool.not_eq_false, Bool.and_eq_true, Bool.or_eq_false_iff, beq_iff_eq, bne_iff_ne, Int.not_lt, Int.not_le, ne_eq] at hc30
                      refine Sx.st_runskip hT rfl rfl rfl rfl ?_
                      clear hT; intro a hT
                      refine Sx.st_runskip hT rfl rfl rfl rfl ?_
                      clear hT; intro a hT
                      refine Sx.st_skip hT rfl rfl rfl rfl ?_
                      clear hT; intro a hT
                      refine Sx.st_take hT rfl rfl rfl rfl (Sx.x_pick_t hT rfl rfl rfl) ?_
                      clear hT; intro a hT
                      refine Sx.st_take hT rfl rfl rfl rfl (Sx.x_pick_t hT rfl rfl rfl) ?_
                      clear hT; intro a hT
                      refine Sx.st_take hT rfl rfl rfl rfl (Sx.x_move hT rfl rfl) ?_
                      clear hT; intro a hT
                      refine Sx.st_run hT rfl rfl rfl rfl (Sx.y_loadS hT rfl Tryd.underlying23 Tryd.ti23 rfl ((H.blk 0 rfl).seg (k := 3) rfl) (by rfl)) ?_
                      clear hT; intro a hT
                      refine Sx.st_run hT rfl rfl rfl rfl (Sx.y_loadS hT rfl Tryd.underlying23 Tryd.ti23 rfl ((H.blk 4 rfl).seg (k := 3) rfl) (by rfl)) ?_
                      clear hT; intro a hT
                      refine Sx.st_call hT rfl rfl rfl rfl rfl Tryd.can15 rfl (Compare_calls _ _ _ _ _ _ _) ?_
                      rintro _ w28 ⟨rfl, E⟩
                      refine ⟨_, rfl, ?_⟩
                      clear hT; intro a hT
                      replace H := H.pure E; clear E
                      refine Sx.st_take hT rfl rfl rfl rfl ((fun w => Sx.x_ge w hT rfl rfl rfl)) ?_
                      clear hT; intro a hT
                      refine Sx.st_take hT rfl rfl rfl rfl (Sx.x_pick_t hT rfl rfl rfl) ?_
                      clear hT; intro a hT
                      refine Sx.st_take hT rfl rfl rfl rfl (Sx.x_move hT rfl rfl) ?_
                      clear hT; intro a hT
                      -- guard (14, 23)
                      refine Sx.Sl.two hT 121 rfl (fun hc31 hT => ?_) (fun hc31 hT => ?_)
                      · try simp only [decide_eq_true_eq, decide_eq_false_iff_not, Bool.not_eq_true', Bool.not_eq_false', Bool.not_eq_true, Bool.not_eq_false, Bool.and_eq_true, Bool.or_eq_false_iff, beq_iff_eq, bne_iff_ne, Int.not_lt, Int.not_le, ne_eq] at hc31
                        refine Sx.st_run hT rfl rfl rfl rfl (Sx.y_loadS hT rfl Tryd.underlying23 Tryd.ti23 rfl ((H.blk 0 rfl).seg (k := 3) rfl) (by rfl)) ?_
                        clear hT; intro a hT
                        refine Sx.st_run hT rfl rfl rfl rfl (Sx.y_loadS hT rfl Tryd.underlying23 Tryd.ti23 rfl ((H.blk 3 rfl).seg (k := 3) rfl) (by rfl)) ?_
                        clear hT; intro a hT
                        refine Sx.st_call hT rfl rfl rfl rfl rfl Tryd.can15 rfl (Compare_calls _ _ _ _ _ _ _) ?_
                        rintro _ w29 ⟨rfl, E⟩
                        refine ⟨_, rfl, ?_⟩
                        clear hT; intro a hT
                        replace H := H.pure E; clear E
                        refine Sx.st_take hT rfl rfl rfl rfl ((fun w => Sx.x_ge w hT rfl rfl rfl)) ?_
                        clear hT; intro a hT
                        refine Sx.st_take hT rfl rfl rfl rfl (Sx.x_pick_t hT rfl rfl rfl) ?_
                        clear hT; intro a hT
                        refine Sx.st_take hT rfl rfl rfl rfl (Sx.x_assign hT rfl rfl) ?_
                        clear hT; intro a hT
                        replace hT := hT.keep [4, 11, 10, 9, 8, 7, 56, 39, 27, 6, 5, 13, 3, 2, 0, 1] rfl
                        refine Sx.ser_nil ?_
                        refine Sx.then_normal (hK28 _ _ ?_)
                        clear hK28
                        refine wp_ret ?_
                        refine Sx.done1 (fn := Tryd.f9) hT rfl (.tmp (hT.get 4 _ rfl)) ?_
                        first | exact ⟨rfl, H.ext⟩ | exact ⟨ret_b (by first | (simp; done) | (simp only [decide_eq_true_eq]; omega)), H.ext⟩
                      · exfalso
                        try simp only [decide_eq_true_eq, decide_eq_false_iff_not, Bool.not_eq_true', Bool.not_eq_false', Bool.not_eq_true, Bool.not_eq_false, Bool.and_eq_true, Bool.or_eq_false_iff, beq_iff_eq, bne_iff_ne, Int.not_lt, Int.not_le, ne_eq] at hc31
                        first | (simp at hc31; done) | omega | (simp at hc31; omega) | (simp [hm] at hc31; done) | (rw [hnzb] at hc31; simp at hc31; done) | (simp only [hzz] at hc31; simp at hc31; done) | (rw [hm] at hc31; simp at hc31; done)
                    · exfalso
                      try simp only [decide_eq_true_eq, decide_eq_false_iff_not, Bool.not_eq_true', Bool.not_eq_false', Bool.not_eq_true, Bool.not_eq_false, Bool.and_eq_true, Bool.or_eq_false_iff, beq_iff_eq, bne_iff_ne, Int.not_lt, Int.not_le, ne_eq] at hc30
                      first | (simp at hc30; done) | omega | (simp at hc30; omega) | (simp [hm] at hc30; done) | (rw [hnzb] at hc30; simp at hc30; done) | (simp only [hzz] at hc30; simp at hc30; done) | (rw [hm] at hc30; simp at hc30; done)
                  · exfalso
                    try simp only [decide_eq_true_eq, decide_eq_false_iff_not, Bool.not_eq_true', Bool.not_eq_false', Bool.not_eq_true, Bool.not_eq_false, Bool.and_eq_true, Bool.or_eq_false_iff, beq_iff_eq, bne_iff_ne, Int.not_lt, Int.not_le, ne_eq] at hc29
                    first | (simp at hc29; done) | omega | (simp at hc29; omega) | (simp [hm] at hc29; done) | (rw [hnzb] at hc29; simp at hc29; done) | (simp only [hzz] at hc29; simp at hc29; done) | (rw [hm] at hc29; simp at hc29; done)
              · exfalso
                try simp only [decide_eq_true_eq, decide_eq_false_iff_not, Bool.not_eq_true', Bool.not_eq_false', Bool.not_eq_true, Bool.not_eq_false, Bool.and_eq_true, Bool.or_eq_false_iff, beq_iff_eq, bne_iff_ne, Int.not_lt, Int.not_le, ne_eq] at hc20
                first | (simp at hc20; done) | omega | (simp at hc20; omega) | (simp [hm] at hc20; done) | (rw [hnzb] at hc20; simp at hc20; done) | (simp only [hzz] at hc20; simp at hc20; done) | (rw [hm] at hc20; simp at hc20; done)
            · exfalso
              try simp only [decide_eq_true_eq, decide_eq_false_iff_not, Bool.not_eq_true', Bool.not_eq_false', Bool.not_eq_true, Bool.not_eq_false, Bool.and_eq_true, Bool.or_eq_false_iff, beq_iff_eq, bne_iff_ne, Int.not_lt, Int.not_le, ne_eq] at hc18
              first | (simp at hc18; done) | omega | (simp at hc18; omega) | (simp [hm] at hc18; done) | (rw [hnzb] at hc18; simp at hc18; done) | (simp only [hzz] at hc18; simp at hc18; done) | (rw [hm] at hc18; simp at hc18; done)
          · exfalso
            try simp only [decide_eq_true_eq, decide_eq_false_iff_not, Bool.not_eq_true', Bool.not_eq_false', Bool.not_eq_true, Bool.not_eq_false, Bool.and_eq_true, Bool.or_eq_false_iff, beq_iff_eq, bne_iff_ne, Int.not_lt, Int.not_le, ne_eq] at hc17
            first | (simp at hc17; done) | omega | (simp at hc17; omega) | (simp [hm] at hc17; done) | (rw [hnzb] at hc17; simp at hc17; done) | (simp only [hzz] at hc17; simp at hc17; done) | (rw [hm] at hc17; simp at hc17; done)

theorem Next_zero (p q r : Int) (w : World) (ht : Tab w) (he : Errs w) : Calls Tryd.prog 9 #[.agg #[.int .i64 0, .int .i64 0, .int .i64 0], .agg #[.int .i64 p, .int .i64 q, .int .i64 r]] w fun e w' => e = .returned (.bool true) ∧ Ext No w w' := by
  have hm : may ⟨0, 0, 0⟩ = true := by decide
  have RT : Ro w No _ := Ro.of fun w' x => Tab.ext ht x
  have RE : Ro w No _ := Ro.of fun w' x => he.ext x
  have hanti := cmp_anti ⟨0, 0, 0⟩ ⟨p, q, r⟩
  have hbd := cmp_bd ⟨0, 0, 0⟩ ⟨p, q, r⟩
  have hsa : cmp ⟨0, 0, 0⟩ ⟨0, 0, 0⟩ = 0 := (cmp_zero _ _).2 ⟨rfl, rfl, rfl⟩
  have hsb : cmp ⟨p, q, r⟩ ⟨p, q, r⟩ = 0 := (cmp_zero _ _).2 ⟨rfl, rfl, rfl⟩
  have hzz := cmp_zero ⟨0, 0, 0⟩ ⟨p, q, r⟩
  simp only at hzz
  have hlen := print_len (x := 0) (y := 0) (z := 0) (by unfold inInt; omega) (by unfold inInt; omega) (by unfold inInt; omega)
  refine Sx.calls_into Tryd.func9 rfl Tryd.ntmps9 rfl fun a hT => ?_
  replace hT := hT.keep [0, 1] rfl
  have H : Sx.Hp w (Sx.No) w [] := Sx.Hp.start _ _
  refine wp_seq_k fun K1 hK1 => ?_
  -- region 0 (law.go:138)
  refine Sx.wp_text [(0, .run), (1, .run), (2, .take)] rfl ?_
  refine Sx.st_eff hT rfl rfl rfl rfl (Sx.y_box hT rfl rfl rfl _) ?_
  clear hT; rintro _ w1 ⟨b1, rfl, N⟩ a hT
  replace H := H.new N; clear N
  refine Sx.st_eff hT rfl rfl rfl rfl (Sx.y_box hT rfl rfl rfl _) ?_
  clear hT; rintro _ w2 ⟨b2, rfl, N⟩ a hT
  replace H := H.new N; clear N
  refine Sx.st_take hT rfl rfl rfl rfl (Sx.x_assign hT rfl rfl) ?_
  clear hT; intro a hT
  replace hT := hT.keep [4, 3, 2, 0, 1] rfl
  refine Sx.ser_nil ?_
  refine Sx.then_normal (hK1 _ _ ?_)
  clear hK1
  refine wp_seq_k fun K2 hK2 => ?_
  refine wp_seq_k fun K3 hK3 => ?_
  -- region 1 (law.go:139)
  refine Sx.wp_text [(0, .run), (1, .take)] rfl ?_
  refine Sx.st_call hT rfl rfl rfl rfl rfl Tryd.can10 rfl (first_calls _) ?_
  rintro _ w3 ⟨rfl, E⟩
  refine ⟨_, rfl, ?_⟩
  clear hT; intro a hT
  replace H := H.pure E; clear E
  refine Sx.st_take hT rfl rfl rfl rfl (Sx.x_not hT rfl rfl) ?_
  clear hT; intro a hT
  replace hT := hT.keep [13, 4, 3, 2, 0, 1] rfl
  refine Sx.ser_nil ?_
  refine Sx.then_normal (hK3 _ _ ?_)
  clear hK3
  refine Sx.wp_if hT rfl (fun h => by cases h) (fun _ => ?_)
  refine wp_skip ?_
  refine Sx.then_normal (hK2 _ _ ?_)
  clear hK2
  refine wp_seq_k fun K4 hK4 => ?_
  -- region 3 (law.go:142)
  refine Sx.wp_text [(0, .run), (1, .run), (2, .take), (3, .take), (4, .take), (5, .run), (6, .run), (7, .take)] rfl ?_
  refine Sx.st_run hT rfl rfl rfl rfl (Sx.y_loadS hT rfl Tryd.underlying23 Tryd.ti23 rfl ((H.blk 1 rfl).seg (k := 3) rfl) (by rfl)) ?_
  clear hT; intro a hT
  refine Sx.st_call hT rfl rfl rfl rfl rfl Tryd.can11 rfl (Prior_at 0 0 0 0 0 0 false _ (by omega) (by omega) (by omega) (by omega) (by decide)) ?_
  rintro _ w4 ⟨rfl, E⟩
  refine ⟨_, rfl, ?_⟩
  clear hT; intro a hT
  replace H := H.pure E; clear E
  refine Sx.st_take hT rfl rfl rfl rfl (Sx.x_move hT rfl rfl) ?_
  clear hT; intro a hT
  refine Sx.st_take hT rfl rfl rfl rfl (Sx.x_extractL hT rfl rfl rfl) ?_
  clear hT; intro a hT
  refine Sx.st_take hT rfl rfl rfl rfl (Sx.x_extractL hT rfl rfl rfl) ?_
  clear hT; intro a hT
  refine Sx.st_eff hT rfl rfl rfl rfl (Sx.y_alloc hT rfl Tryd.ti23 rfl _) ?_
  clear hT; rintro _ w5 ⟨b3, rfl, N⟩ a hT
  replace H := H.new N; clear N
  refine Sx.st_act hT rfl rfl rfl (Sx.y_storeS hT rfl Tryd.ti23 rfl rfl rfl rfl rfl (H.blk 0 rfl) rfl) ?_
  rintro w6 ⟨hb, E, _⟩
  replace H := H.setB 0 rfl hb E rfl; clear hb E
  refine Sx.st_take hT rfl rfl rfl rfl (Sx.x_assign hT rfl rfl) ?_
  clear hT; intro a hT
  replace hT := hT.keep [6, 5, 13, 4, 3, 2, 0, 1] rfl
  refine Sx.ser_nil ?_
  refine Sx.then_normal (hK4 _ _ ?_)
  clear hK4
  refine wp_seq_k fun K5 hK5 => ?_
  refine wp_seq_k fun K6 hK6 => ?_
  -- region 4 (law.go:143)
  refine Sx.wp_text [(0, .take), (1, .run), (2, .run), (3, .take), (4, .run), (5, .take), (6, .take), (7, .take), (8, .take)] rfl ?_
  refine Sx.st_take hT rfl rfl rfl rfl (Sx.x_move hT rfl rfl) ?_
  clear hT; intro a hT
  refine Sx.st_run hT rfl rfl rfl rfl (Sx.y_loadS hT rfl Tryd.underlying23 Tryd.ti23 rfl ((H.blk 2 rfl).seg (k := 3) rfl) (by rfl)) ?_
  clear hT; intro a hT
  refine Sx.st_call hT rfl rfl rfl rfl rfl Tryd.can13 rfl (May_calls _ _ _ _) ?_
  rintro _ w7 ⟨rfl, E⟩
  refine ⟨_, rfl, ?_⟩
  clear hT; intro a hT
  replace H := H.pure E; clear E
  refine Sx.st_take hT rfl rfl rfl rfl (Sx.x_move hT rfl rfl) ?_
  clear hT; intro a hT
  -- guard (4, 3)
  refine Sx.Sl.two hT 22 rfl (fun hc7 hT => ?_) (fun hc7 hT => ?_)
  · try simp only [decide_eq_true_eq, decide_eq_false_iff_not, Bool.not_eq_true', Bool.not_eq_false', Bool.not_eq_true, Bool.not_eq_false, Bool.and_eq_true, Bool.or_eq_false_iff, beq_iff_eq, bne_iff_ne, Int.not_lt, Int.not_le, ne_eq] at hc7
    refine Sx.st_run hT rfl rfl rfl rfl (Sx.y_loadS hT rfl Tryd.underlying23 Tryd.ti23 rfl ((H.blk 2 rfl).seg (k := 3) rfl) (by rfl)) ?_
    clear hT; intro a hT
    refine Sx.st_take hT rfl rfl rfl rfl (Sx.x_bld hT rfl Tryd.bld23 rfl rfl) ?_
    clear hT; intro a hT
    refine Sx.st_take hT rfl rfl rfl rfl (Sx.x_neS hT rfl (by kernel_rfl) (Tryd.eq23 _ _ _ _ _ _) rfl rfl rfl) ?_
    clear hT; intro a hT
    refine Sx.st_take hT rfl rfl rfl rfl (Sx.x_pick_t hT rfl rfl rfl) ?_
    clear hT; intro a hT
    refine Sx.st_take hT rfl rfl rfl rfl (Sx.x_neb hT rfl Tryd.underlying4 rfl rfl) ?_
    clear hT; intro a hT
    replace hT := hT.keep [27, 6, 5, 13, 4, 3, 2, 0, 1] rfl
    refine Sx.ser_nil ?_
    refine Sx.then_normal (hK6 _ _ ?_)
    clear hK6
    -- cond 1
    refine Sx.wp_if hT rfl (fun hc8 => ?_) (fun hc8 => ?_)
    · exfalso
      try simp only [decide_eq_true_eq, decide_eq_false_iff_not, Bool.not_eq_true', Bool.not_eq_false', Bool.not_eq_true, Bool.not_eq_false, Bool.and_eq_true, Bool.or_eq_false_iff, beq_iff_eq, bne_iff_ne, Int.not_lt, Int.not_le, ne_eq] at hc8
      first | (simp at hc8; done) | omega | (simp at hc8; omega) | (simp [hm] at hc8; done) | (rw [hnzb] at hc8; simp at hc8; done) | (simp only [hzz] at hc8; simp at hc8; done) | (rw [hm] at hc8; simp at hc8; done)
    · try simp only [decide_eq_true_eq, decide_eq_false_iff_not, Bool.not_eq_true', Bool.not_eq_false', Bool.not_eq_true, Bool.not_eq_false, Bool.and_eq_true, Bool.or_eq_false_iff, beq_iff_eq, bne_iff_ne, Int.not_lt, Int.not_le, ne_eq] at hc8
      refine wp_skip ?_
      refine Sx.then_normal (hK5 _ _ ?_)
      clear hK5
      refine wp_seq_k fun K9 hK9 => ?_
      refine wp_seq_k fun K10 hK10 => ?_
      -- region 6 (law.go:146)
      refine Sx.wp_text [(0, .take), (1, .take), (2, .run), (3, .run), (4, .run), (5, .take), (6, .take), (7, .run), (8, .run), (9, .take), (10, .take), (11, .take)] rfl ?_
      refine Sx.st_take hT rfl rfl rfl rfl (Sx.x_move hT rfl rfl) ?_
      clear hT; intro a hT
      refine Sx.st_take hT rfl rfl rfl rfl (Sx.x_move hT rfl rfl) ?_
      clear hT; intro a hT
      -- guard (6, 1)
      refine Sx.Sl.two hT 29 rfl (fun hc11 hT => ?_) (fun hc11 hT => ?_)
      · exfalso
        try simp only [decide_eq_true_eq, decide_eq_false_iff_not, Bool.not_eq_true', Bool.not_eq_false', Bool.not_eq_true, Bool.not_eq_false, Bool.and_eq_true, Bool.or_eq_false_iff, beq_iff_eq, bne_iff_ne, Int.not_lt, Int.not_le, ne_eq] at hc11
        first | (simp at hc11; done) | omega | (simp at hc11; omega) | (simp [hm] at hc11; done) | (rw [hnzb] at hc11; simp at hc11; done) | (simp only [hzz] at hc11; simp at hc11; done) | (rw [hm] at hc11; simp at hc11; done)
      · try simp only [decide_eq_true_eq, decide_eq_false_iff_not, Bool.not_eq_true', Bool.not_eq_false', Bool.not_eq_true, Bool.not_eq_false, Bool.and_eq_true, Bool.or_eq_false_iff, beq_iff_eq, bne_iff_ne, Int.not_lt, Int.not_le, ne_eq] at hc11
        refine Sx.st_runskip hT rfl rfl rfl rfl ?_
        clear hT; intro a hT
        refine Sx.st_runskip hT rfl rfl rfl rfl ?_
        clear hT; intro a hT
        refine Sx.st_runskip hT rfl rfl rfl rfl ?_
        clear hT; intro a hT
        refine Sx.st_skip hT rfl rfl rfl rfl ?_
        clear hT; intro a hT
        refine Sx.st_skip hT rfl rfl rfl rfl ?_
        clear hT; intro a hT
        refine Sx.st_runskip hT rfl rfl rfl rfl ?_
        clear hT; intro a hT
        refine Sx.st_runskip hT rfl rfl rfl rfl ?_
        clear hT; intro a hT
        refine Sx.st_skip hT rfl rfl rfl rfl ?_
        clear hT; intro a hT
        refine Sx.st_skip hT rfl rfl rfl rfl ?_
        clear hT; intro a hT
        refine Sx.st_take hT rfl rfl rfl rfl (Sx.x_pick_f hT rfl rfl rfl) ?_
        clear hT; intro a hT
        replace hT := hT.keep [39, 27, 6, 5, 13, 4, 3, 2, 0, 1] rfl
        refine Sx.ser_nil ?_
        refine Sx.then_normal (hK10 _ _ ?_)
        clear hK10
        refine Sx.wp_if hT rfl (fun h => by cases h) (fun _ => ?_)
        refine wp_skip ?_
        refine Sx.then_normal (hK9 _ _ ?_)
        clear hK9
        refine wp_seq_k fun K12 hK12 => ?_
        refine wp_seq_k fun K13 hK13 => ?_
        -- region 8 (law.go:149)
        refine Sx.wp_text [(0, .take), (1, .take), (2, .run), (3, .run), (4, .take), (5, .take), (6, .run), (7, .run), (8, .run), (9, .take), (10, .take), (11, .take), (12, .run), (13, .run), (14, .run), (15, .take), (16, .take)] rfl ?_
        refine Sx.st_take hT rfl rfl rfl rfl (Sx.x_move hT rfl rfl) ?_
        clear hT; intro a hT
        refine Sx.st_take hT rfl rfl rfl rfl (Sx.x_move hT rfl rfl) ?_
        clear hT; intro a hT
        -- guard (8, 1)
        refine Sx.Sl.two hT 41 rfl (fun hc14 hT => ?_) (fun hc14 hT => ?_)
        · exfalso
          try simp only [decide_eq_true_eq, decide_eq_false_iff_not, Bool.not_eq_true', Bool.not_eq_false', Bool.not_eq_true, Bool.not_eq_false, Bool.and_eq_true, Bool.or_eq_false_iff, beq_iff_eq, bne_iff_ne, Int.not_lt, Int.not_le, ne_eq] at hc14
          first | (simp at hc14; done) | omega | (simp at hc14; omega) | (simp [hm] at hc14; done) | (rw [hnzb] at hc14; simp at hc14; done) | (simp only [hzz] at hc14; simp at hc14; done) | (rw [hm] at hc14; simp at hc14; done)
        · try simp only [decide_eq_true_eq, decide_eq_false_iff_not, Bool.not_eq_true', Bool.not_eq_false', Bool.not_eq_true, Bool.not_eq_false, Bool.and_eq_true, Bool.or_eq_false_iff, beq_iff_eq, bne_iff_ne, Int.not_lt, Int.not_le, ne_eq] at hc14
          refine Sx.st_runskip hT rfl rfl rfl rfl ?_
          clear hT; intro a hT
          refine Sx.st_runskip hT rfl rfl rfl rfl ?_
          clear hT; intro a hT
          refine Sx.st_take hT rfl rfl rfl rfl (Sx.x_pick_f hT rfl rfl rfl) ?_
          clear hT; intro a hT
          refine Sx.st_take hT rfl rfl rfl rfl (Sx.x_move hT rfl rfl) ?_
          clear hT; intro a hT
          refine Sx.st_runskip hT rfl rfl rfl rfl ?_
          clear hT; intro a hT
          refine Sx.st_runskip hT rfl rfl rfl rfl ?_
          clear hT; intro a hT
          refine Sx.st_runskip hT rfl rfl rfl rfl ?_
          clear hT; intro a hT
          refine Sx.st_skip hT rfl rfl rfl rfl ?_
          clear hT; intro a hT
          refine Sx.st_take hT rfl rfl rfl rfl (Sx.x_pick_f hT rfl rfl rfl) ?_
          clear hT; intro a hT
          refine Sx.st_take hT rfl rfl rfl rfl (Sx.x_move hT rfl rfl) ?_
          clear hT; intro a hT
          refine Sx.st_runskip hT rfl rfl rfl rfl ?_
          clear hT; intro a hT
          refine Sx.st_runskip hT rfl rfl rfl rfl ?_
          clear hT; intro a hT
          refine Sx.st_runskip hT rfl rfl rfl rfl ?_
          clear hT; intro a hT
          refine Sx.st_skip hT rfl rfl rfl rfl ?_
          clear hT; intro a hT
          refine Sx.st_take hT rfl rfl rfl rfl (Sx.x_pick_f hT rfl rfl rfl) ?_
          clear hT; intro a hT
          replace hT := hT.keep [56, 39, 27, 6, 5, 13, 4, 3, 2, 0, 1] rfl
          refine Sx.ser_nil ?_
          refine Sx.then_normal (hK13 _ _ ?_)
          clear hK13
          refine Sx.wp_if hT rfl (fun h => by cases h) (fun _ => ?_)
          refine wp_skip ?_
          refine Sx.then_normal (hK12 _ _ ?_)
          clear hK12
          refine wp_seq_k fun K15 hK15 => ?_
          -- region 10 (law.go:152)
          refine Sx.wp_text [(0, .run), (1, .run), (2, .run), (3, .take), (4, .take), (5, .take), (6, .run), (7, .run), (8, .take)] rfl ?_
          refine Sx.st_run hT rfl rfl rfl rfl (Sx.y_loadS hT rfl Tryd.underlying23 Tryd.ti23 rfl ((H.blk 2 rfl).seg (k := 3) rfl) (by rfl)) ?_
          clear hT; intro a hT
          refine Sx.st_call hT rfl rfl rfl rfl rfl Tryd.can19 rfl (Print_calls 0 0 0 _ (by omega) (by omega) (by omega) (RT.at H.ext)) ?_
          rintro _ w8 ⟨rfl, E⟩
          refine ⟨_, rfl, ?_⟩
          clear hT; intro a hT
          replace H := H.pure E; clear E
          refine Sx.st_call hT rfl rfl rfl rfl rfl Tryd.can31 rfl (Parse_calls (printS ⟨0, 0, 0⟩) hlen _ (RT.at H.ext) (RE.at H.ext)) ?_
          rintro _ w9 ⟨x1, y1, z1, r1, rfl, hp1, E⟩
          refine ⟨_, rfl, ?_⟩
          clear hT; intro a hT
          replace H := H.pure E; clear E
          obtain ⟨rfl, rfl, rfl, rfl⟩ := parsed_yes (by unfold inInt; omega) (by unfold inInt; omega) (by unfold inInt; omega) hm hp1
          refine Sx.st_take hT rfl rfl rfl rfl (Sx.x_move hT rfl rfl) ?_
          clear hT; intro a hT
          refine Sx.st_take hT rfl rfl rfl rfl (Sx.x_extractL hT rfl rfl rfl) ?_
          clear hT; intro a hT
          refine Sx.st_take hT rfl rfl rfl rfl (Sx.x_extractL hT rfl rfl rfl) ?_
          clear hT; intro a hT
          refine Sx.st_eff hT rfl rfl rfl rfl (Sx.y_alloc hT rfl Tryd.ti23 rfl _) ?_
          clear hT; rintro _ w10 ⟨b4, rfl, N⟩ a hT
          replace H := H.new N; clear N
          refine Sx.st_act hT rfl rfl rfl (Sx.y_storeS hT rfl Tryd.ti23 rfl rfl rfl rfl rfl (H.blk 0 rfl) rfl) ?_
          rintro w11 ⟨hb, E, _⟩
          replace H := H.setB 0 rfl hb E rfl; clear hb E
          refine Sx.st_take hT rfl rfl rfl rfl (Sx.x_assign hT rfl rfl) ?_
          clear hT; intro a hT
          replace hT := hT.keep [8, 7, 56, 39, 27, 6, 5, 13, 4, 3, 2, 0, 1] rfl
          refine Sx.ser_nil ?_
          refine Sx.then_normal (hK15 _ _ ?_)
          clear hK15
          refine wp_seq_k fun K16 hK16 => ?_
          -- region 11 (law.go:153)
          refine Sx.wp_text [(0, .take), (1, .take), (2, .run), (3, .run), (4, .take), (5, .take), (6, .take), (7, .take), (8, .take), (9, .run), (10, .run), (11, .take), (12, .take), (13, .take), (14, .take)] rfl ?_
          refine Sx.st_take hT rfl rfl rfl rfl (Sx.x_move hT rfl rfl) ?_
          clear hT; intro a hT
          refine Sx.st_take hT rfl rfl rfl rfl ((fun w => Sx.x_eq w hT rfl rfl rfl)) ?_
          clear hT; intro a hT
          refine Sx.st_run hT rfl rfl rfl rfl (Sx.y_loadS hT rfl Tryd.underlying23 Tryd.ti23 rfl ((H.blk 3 rfl).seg (k := 3) rfl) (by rfl)) ?_
          clear hT; intro a hT
          refine Sx.st_call hT rfl rfl rfl rfl rfl Tryd.can13 rfl (May_calls _ _ _ _) ?_
          rintro _ w12 ⟨rfl, E⟩
          refine ⟨_, rfl, ?_⟩
          clear hT; intro a hT
          replace H := H.pure E; clear E
          refine Sx.st_take hT rfl rfl rfl rfl (Sx.x_eqb hT rfl Tryd.underlying4 rfl rfl) ?_
          clear hT; intro a hT
          refine Sx.st_take hT rfl rfl rfl rfl (Sx.x_move hT rfl rfl) ?_
          clear hT; intro a hT
          -- guard (11, 5)
          refine Sx.Sl.two hT 68 rfl (fun hc17 hT => ?_) (fun hc17 hT => ?_)
          · try simp only [decide_eq_true_eq, decide_eq_false_iff_not, Bool.not_eq_true', Bool.not_eq_false', Bool.not_eq_true, Bool.not_eq_false, Bool.and_eq_true, Bool.or_eq_false_iff, beq_iff_eq, bne_iff_ne, Int.not_lt, Int.not_le, ne_eq] at hc17
            refine Sx.st_take hT rfl rfl rfl rfl (Sx.x_move hT rfl rfl) ?_
            clear hT; intro a hT
            refine Sx.st_take hT rfl rfl rfl rfl ((fun w => Sx.x_ne w hT rfl rfl rfl)) ?_
            clear hT; intro a hT
            refine Sx.st_take hT rfl rfl rfl rfl (Sx.x_move hT rfl rfl) ?_
            clear hT; intro a hT
            -- guard (11, 8)
            refine Sx.Sl.two hT 71 rfl (fun hc18 hT => ?_) (fun hc18 hT => ?_)
            · exfalso
              try simp only [decide_eq_true_eq, decide_eq_false_iff_not, Bool.not_eq_true', Bool.not_eq_false', Bool.not_eq_true, Bool.not_eq_false, Bool.and_eq_true, Bool.or_eq_false_iff, beq_iff_eq, bne_iff_ne, Int.not_lt, Int.not_le, ne_eq] at hc18
              first | (simp at hc18; done) | omega | (simp at hc18; omega) | (simp [hm] at hc18; done) | (rw [hnzb] at hc18; simp at hc18; done) | (simp only [hzz] at hc18; simp at hc18; done) | (rw [hm] at hc18; simp at hc18; done)
            · try simp only [decide_eq_true_eq, decide_eq_false_iff_not, Bool.not_eq_true', Bool.not_eq_false', Bool.not_eq_true, Bool.not_eq_false, Bool.and_eq_true, Bool.or_eq_false_iff, beq_iff_eq, bne_iff_ne, Int.not_lt, Int.not_le, ne_eq] at hc18
              refine Sx.st_run hT rfl rfl rfl rfl (Sx.y_loadS hT rfl Tryd.underlying23 Tryd.ti23 rfl ((H.blk 0 rfl).seg (k := 3) rfl) (by rfl)) ?_
              clear hT; intro a hT
              refine Sx.st_run hT rfl rfl rfl rfl (Sx.y_loadS hT rfl Tryd.underlying23 Tryd.ti23 rfl ((H.blk 3 rfl).seg (k := 3) rfl) (by rfl)) ?_
              clear hT; intro a hT
              refine Sx.st_take hT rfl rfl rfl rfl (Sx.x_eqS hT rfl (by kernel_rfl) (Tryd.eq23 _ _ _ _ _ _) rfl rfl rfl) ?_
              clear hT; intro a hT
              refine Sx.st_take hT rfl rfl rfl rfl (Sx.x_pick_f hT rfl rfl rfl) ?_
              clear hT; intro a hT
              refine Sx.st_take hT rfl rfl rfl rfl (Sx.x_pick_t hT rfl rfl rfl) ?_
              clear hT; intro a hT
              refine Sx.st_take hT rfl rfl rfl rfl (Sx.x_assign hT rfl rfl) ?_
              clear hT; intro a hT
              replace hT := hT.keep [9, 8, 7, 56, 39, 27, 6, 5, 13, 4, 3, 2, 0, 1] rfl
              refine Sx.ser_nil ?_
              refine Sx.then_normal (hK16 _ _ ?_)
              clear hK16
              refine wp_seq_k fun K19 hK19 => ?_
              -- region 12 (law.go:154)
              refine Sx.wp_draws (fun u => Sx.Ext (Sx.No) u) [(0, .held), (1, .held), (3, .held), (4, .held), (2, .keep), (5, .keep), (6, .take), (7, .take), (8, .take), (9, .held), (10, .held), (13, .held), (14, .held), (15, .take), (11, .keep), (12, .take), (16, .take), (17, .take), (18, .take)] (by kernel_rfl) (by kernel_rfl) (fun u E _ => ?_)
              replace H := H.pure E; clear E
              have hH : Sx.Ext (Sx.No) u u := Sx.Ext.refl _ _
              have Hu := H
              refine Sx.st_held hT rfl rfl rfl rfl hH (fun w' h' => Sx.y_loadS hT rfl Tryd.underlying23 Tryd.ti23 rfl ((Hu.heldB 3 rfl h' Sx.off_No).seg (k := 3) rfl) (by rfl)) ?_
              clear hT; intro a hT
              refine Sx.st_held hT rfl rfl rfl rfl hH (fun w' h' => Sx.y_loadS hT rfl Tryd.underlying23 Tryd.ti23 rfl ((Hu.heldB 2 rfl h' Sx.off_No).seg (k := 3) rfl) (by rfl)) ?_
              clear hT; intro a hT
              refine Sx.st_held hT rfl rfl rfl rfl hH (fun w' h' => Sx.y_loadS hT rfl Tryd.underlying23 Tryd.ti23 rfl ((Hu.heldB 2 rfl h' Sx.off_No).seg (k := 3) rfl) (by rfl)) ?_
              clear hT; intro a hT
              refine Sx.st_held hT rfl rfl rfl rfl hH (fun w' h' => Sx.y_loadS hT rfl Tryd.underlying23 Tryd.ti23 rfl ((Hu.heldB 3 rfl h' Sx.off_No).seg (k := 3) rfl) (by rfl)) ?_
              clear hT; intro a hT
              refine Sx.st_callkeep hT rfl rfl rfl rfl rfl Tryd.can15 rfl (Compare_calls _ _ _ _ _ _ _) ?_
              rintro _ w13 ⟨rfl, E⟩
              refine ⟨_, rfl, hH.step E, ?_⟩
              replace hH := hH.step E
              clear hT; intro a hT
              replace H := H.pure E; clear E
              refine Sx.st_callkeep hT rfl rfl rfl rfl rfl Tryd.can15 rfl (Compare_calls _ _ _ _ _ _ _) ?_
              rintro _ w14 ⟨rfl, E⟩
              refine ⟨_, rfl, hH.step E, ?_⟩
              replace hH := hH.step E
              clear hT; intro a hT
              replace H := H.pure E; clear E
              refine Sx.st_take hT rfl rfl rfl rfl ((fun w => Sx.x_neg w hT rfl rfl (Sx.wrap64 (by omega)))) ?_
              clear hT; intro a hT
              refine Sx.st_take hT rfl rfl rfl rfl ((fun w => Sx.x_eq w hT rfl rfl rfl)) ?_
              clear hT; intro a hT
              refine Sx.st_take hT rfl rfl rfl rfl (Sx.x_move hT rfl rfl) ?_
              clear hT; intro a hT
              -- guard (12, 8)
              refine Sx.Sl.two hT 85 rfl (fun hc20 hT => ?_) (fun hc20 hT => ?_)
              · try simp only [decide_eq_true_eq, decide_eq_false_iff_not, Bool.not_eq_true', Bool.not_eq_false', Bool.not_eq_true, Bool.not_eq_false, Bool.and_eq_true, Bool.or_eq_false_iff, beq_iff_eq, bne_iff_ne, Int.not_lt, Int.not_le, ne_eq] at hc20
                refine Sx.st_held hT rfl rfl rfl rfl hH (fun w' h' => Sx.y_loadS hT rfl Tryd.underlying23 Tryd.ti23 rfl ((Hu.heldB 3 rfl h' Sx.off_No).seg (k := 3) rfl) (by rfl)) ?_
                clear hT; intro a hT
                refine Sx.st_held hT rfl rfl rfl rfl hH (fun w' h' => Sx.y_loadS hT rfl Tryd.underlying23 Tryd.ti23 rfl ((Hu.heldB 2 rfl h' Sx.off_No).seg (k := 3) rfl) (by rfl)) ?_
                clear hT; intro a hT
                refine Sx.st_held hT rfl rfl rfl rfl hH (fun w' h' => Sx.y_loadS hT rfl Tryd.underlying23 Tryd.ti23 rfl ((Hu.heldB 3 rfl h' Sx.off_No).seg (k := 3) rfl) (by rfl)) ?_
                clear hT; intro a hT
                refine Sx.st_held hT rfl rfl rfl rfl hH (fun w' h' => Sx.y_loadS hT rfl Tryd.underlying23 Tryd.ti23 rfl ((Hu.heldB 2 rfl h' Sx.off_No).seg (k := 3) rfl) (by rfl)) ?_
                clear hT; intro a hT
                refine Sx.st_take hT rfl rfl rfl rfl (Sx.x_eqS hT rfl (by kernel_rfl) (Tryd.eq23 _ _ _ _ _ _) rfl rfl rfl) ?_
                clear hT; intro a hT
                refine Sx.st_callkeep hT rfl rfl rfl rfl rfl Tryd.can15 rfl (Compare_calls _ _ _ _ _ _ _) ?_
                rintro _ w15 ⟨rfl, E⟩
                refine ⟨_, rfl, hH.step E, ?_⟩
                replace hH := hH.step E
                clear hT; intro a hT
                replace H := H.pure E; clear E
                refine Sx.st_take hT rfl rfl rfl rfl ((fun w => Sx.x_eq w hT rfl rfl rfl)) ?_
                clear hT; intro a hT
                refine Sx.st_take hT rfl rfl rfl rfl (Sx.x_eqb hT rfl Tryd.underlying4 rfl rfl) ?_
                clear hT; intro a hT
                refine Sx.st_take hT rfl rfl rfl rfl (Sx.x_pick_t hT rfl rfl rfl) ?_
                clear hT; intro a hT
                refine Sx.st_take hT rfl rfl rfl rfl (Sx.x_assign hT rfl rfl) ?_
                clear hT; intro a hT
                replace hT := hT.keep [10, 9, 8, 7, 56, 39, 27, 6, 5, 13, 4, 3, 2, 0, 1] rfl
                clear Hu hH
                refine Sx.ser_calm ?_
                refine Sx.then_normal (hK19 _ _ ?_)
                clear hK19
                refine wp_seq_k fun K21 hK21 => ?_
                by_cases hlt : cmp ⟨0, 0, 0⟩ ⟨p, q, r⟩ < 0
                · skip
                  -- region 13 (law.go:155)
                  refine Sx.wp_text [(0, .run), (1, .run), (2, .run), (3, .run), (4, .run)] rfl ?_
                  refine Sx.st_run hT rfl rfl rfl rfl (Sx.y_loadS hT rfl Tryd.underlying23 Tryd.ti23 rfl ((H.blk 3 rfl).seg (k := 3) rfl) (by rfl)) ?_
                  clear hT; intro a hT
                  refine Sx.st_run hT rfl rfl rfl rfl (Sx.y_loadS hT rfl Tryd.underlying23 Tryd.ti23 rfl ((H.blk 2 rfl).seg (k := 3) rfl) (by rfl)) ?_
                  clear hT; intro a hT
                  refine Sx.st_call hT rfl rfl rfl rfl rfl Tryd.can17 rfl (Later_lt _ _ _ _ _ _ _ hlt) ?_
                  rintro _ w16 ⟨rfl, E⟩
                  refine ⟨_, rfl, ?_⟩
                  clear hT; intro a hT
                  replace H := H.pure E; clear E
                  refine Sx.st_eff hT rfl rfl rfl rfl (Sx.y_alloc hT rfl Tryd.ti23 rfl _) ?_
                  clear hT; rintro _ w17 ⟨b5, rfl, N⟩ a hT
                  replace H := H.new N; clear N
                  refine Sx.st_act hT rfl rfl rfl (Sx.y_storeS hT rfl Tryd.ti23 rfl rfl rfl rfl rfl (H.blk 0 rfl) rfl) ?_
                  rintro w18 ⟨hb, E, _⟩
                  replace H := H.setB 0 rfl hb E rfl; clear hb E
                  replace hT := hT.keep [11, 10, 9, 8, 7, 56, 39, 27, 6, 5, 13, 4, 3, 2, 0, 1] rfl
                  refine Sx.ser_nil ?_
                  refine Sx.then_normal (hK21 _ _ ?_)
                  clear hK21
                  refine wp_seq_k fun K22 hK22 => ?_
                  -- region 14 (law.go:156)
                  refine Sx.wp_text [(0, .run), (1, .take), (2, .take), (3, .take), (4, .take), (5, .take), (6, .take), (7, .take), (8, .run), (9, .run), (10, .take), (11, .take), (12, .run), (13, .run), (14, .take), (15, .take), (16, .take), (17, .take), (18, .run), (19, .run), (20, .run), (21, .take), (22, .take), (23, .take), (24, .run), (25, .run), (26, .run), (27, .take), (28, .take), (29, .take)] rfl ?_
                  refine Sx.st_call hT rfl rfl rfl rfl rfl Tryd.can10 rfl (first_calls _) ?_
                  rintro _ w19 ⟨rfl, E⟩
                  refine ⟨_, rfl, ?_⟩
                  clear hT; intro a hT
                  replace H := H.pure E; clear E
                  refine Sx.st_take hT rfl rfl rfl rfl (Sx.x_move hT rfl rfl) ?_
                  clear hT; intro a hT
                  refine Sx.st_take hT rfl rfl rfl rfl (Sx.x_move hT rfl rfl) ?_
                  clear hT; intro a hT
                  refine Sx.st_take hT rfl rfl rfl rfl (Sx.x_pick_t hT rfl rfl rfl) ?_
                  clear hT; intro a hT
                  refine Sx.st_take hT rfl rfl rfl rfl (Sx.x_move hT rfl rfl) ?_
                  clear hT; intro a hT
                  -- guard (14, 4)
                  refine Sx.Sl.two hT 102 rfl (fun hc23 hT => ?_) (fun hc23 hT => ?_)
                  · try simp only [decide_eq_true_eq, decide_eq_false_iff_not, Bool.not_eq_true', Bool.not_eq_false', Bool.not_eq_true, Bool.not_eq_false, Bool.and_eq_true, Bool.or_eq_false_iff, beq_iff_eq, bne_iff_ne, Int.not_lt, Int.not_le, ne_eq] at hc23
                    refine Sx.st_take hT rfl rfl rfl rfl (Sx.x_move hT rfl rfl) ?_
                    clear hT; intro a hT
                    refine Sx.st_take hT rfl rfl rfl rfl (Sx.x_pick_t hT rfl rfl rfl) ?_
                    clear hT; intro a hT
                    refine Sx.st_take hT rfl rfl rfl rfl (Sx.x_move hT rfl rfl) ?_
                    clear hT; intro a hT
                    -- guard (14, 7)
                    refine Sx.Sl.two hT 105 rfl (fun hc24 hT => ?_) (fun hc24 hT => ?_)
                    · try simp only [decide_eq_true_eq, decide_eq_false_iff_not, Bool.not_eq_true', Bool.not_eq_false', Bool.not_eq_true, Bool.not_eq_false, Bool.and_eq_true, Bool.or_eq_false_iff, beq_iff_eq, bne_iff_ne, Int.not_lt, Int.not_le, ne_eq] at hc24
                      refine Sx.st_run hT rfl rfl rfl rfl (Sx.y_loadS hT rfl Tryd.underlying23 Tryd.ti23 rfl ((H.blk 0 rfl).seg (k := 3) rfl) (by rfl)) ?_
                      clear hT; intro a hT
                      refine Sx.st_run hT rfl rfl rfl rfl (Sx.y_loadS hT rfl Tryd.underlying23 Tryd.ti23 rfl ((H.blk 4 rfl).seg (k := 3) rfl) (by rfl)) ?_
                      clear hT; intro a hT
                      refine Sx.st_take hT rfl rfl rfl rfl (Sx.x_eqS hT rfl (by kernel_rfl) (Tryd.eq23 _ _ _ _ _ _) rfl rfl rfl) ?_
                      clear hT; intro a hT
                      refine Sx.st_take hT rfl rfl rfl rfl (Sx.x_move hT rfl rfl) ?_
                      clear hT; intro a hT
                      -- guard (14, 11)
                      refine Sx.Sl.two hT 109 rfl (fun hc25 hT => ?_) (fun hc25 hT => ?_)
                      · try simp only [decide_eq_true_eq, decide_eq_false_iff_not, Bool.not_eq_true', Bool.not_eq_false', Bool.not_eq_true, Bool.not_eq_false, Bool.and_eq_true, Bool.or_eq_false_iff, beq_iff_eq, bne_iff_ne, Int.not_lt, Int.not_le, ne_eq] at hc25
                        refine Sx.st_runskip hT rfl rfl rfl rfl ?_
                        clear hT; intro a hT
                        refine Sx.st_runskip hT rfl rfl rfl rfl ?_
                        clear hT; intro a hT
                        refine Sx.st_skip hT rfl rfl rfl rfl ?_
                        clear hT; intro a hT
                        refine Sx.st_take hT rfl rfl rfl rfl (Sx.x_pick_t hT rfl rfl rfl) ?_
                        clear hT; intro a hT
                        refine Sx.st_take hT rfl rfl rfl rfl (Sx.x_pick_t hT rfl rfl rfl) ?_
                        clear hT; intro a hT
                        refine Sx.st_take hT rfl rfl rfl rfl (Sx.x_move hT rfl rfl) ?_
                        clear hT; intro a hT
                        refine Sx.st_run hT rfl rfl rfl rfl (Sx.y_loadS hT rfl Tryd.underlying23 Tryd.ti23 rfl ((H.blk 0 rfl).seg (k := 3) rfl) (by rfl)) ?_
                        clear hT; intro a hT
                        refine Sx.st_run hT rfl rfl rfl rfl (Sx.y_loadS hT rfl Tryd.underlying23 Tryd.ti23 rfl ((H.blk 4 rfl).seg (k := 3) rfl) (by rfl)) ?_
                        clear hT; intro a hT
                        refine Sx.st_call hT rfl rfl rfl rfl rfl Tryd.can15 rfl (Compare_calls _ _ _ _ _ _ _) ?_
                        rintro _ w20 ⟨rfl, E⟩
                        refine ⟨_, rfl, ?_⟩
                        clear hT; intro a hT
                        replace H := H.pure E; clear E
                        refine Sx.st_take hT rfl rfl rfl rfl ((fun w => Sx.x_ge w hT rfl rfl rfl)) ?_
                        clear hT; intro a hT
                        refine Sx.st_take hT rfl rfl rfl rfl (Sx.x_pick_t hT rfl rfl rfl) ?_
                        clear hT; intro a hT
                        refine Sx.st_take hT rfl rfl rfl rfl (Sx.x_move hT rfl rfl) ?_
                        clear hT; intro a hT
                        -- guard (14, 23)
                        refine Sx.Sl.two hT 121 rfl (fun hc26 hT => ?_) (fun hc26 hT => ?_)
                        · try simp only [decide_eq_true_eq, decide_eq_false_iff_not, Bool.not_eq_true', Bool.not_eq_false', Bool.not_eq_true, Bool.not_eq_false, Bool.and_eq_true, Bool.or_eq_false_iff, beq_iff_eq, bne_iff_ne, Int.not_lt, Int.not_le, ne_eq] at hc26
                          refine Sx.st_run hT rfl rfl rfl rfl (Sx.y_loadS hT rfl Tryd.underlying23 Tryd.ti23 rfl ((H.blk 0 rfl).seg (k := 3) rfl) (by rfl)) ?_
                          clear hT; intro a hT
                          refine Sx.st_run hT rfl rfl rfl rfl (Sx.y_loadS hT rfl Tryd.underlying23 Tryd.ti23 rfl ((H.blk 3 rfl).seg (k := 3) rfl) (by rfl)) ?_
                          clear hT; intro a hT
                          refine Sx.st_call hT rfl rfl rfl rfl rfl Tryd.can15 rfl (Compare_calls _ _ _ _ _ _ _) ?_
                          rintro _ w21 ⟨rfl, E⟩
                          refine ⟨_, rfl, ?_⟩
                          clear hT; intro a hT
                          replace H := H.pure E; clear E
                          refine Sx.st_take hT rfl rfl rfl rfl ((fun w => Sx.x_ge w hT rfl rfl rfl)) ?_
                          clear hT; intro a hT
                          refine Sx.st_take hT rfl rfl rfl rfl (Sx.x_pick_t hT rfl rfl rfl) ?_
                          clear hT; intro a hT
                          refine Sx.st_take hT rfl rfl rfl rfl (Sx.x_assign hT rfl rfl) ?_
                          clear hT; intro a hT
                          replace hT := hT.keep [4, 11, 10, 9, 8, 7, 56, 39, 27, 6, 5, 13, 3, 2, 0, 1] rfl
                          refine Sx.ser_nil ?_
                          refine Sx.then_normal (hK22 _ _ ?_)
                          clear hK22
                          refine wp_ret ?_
                          refine Sx.done1 (fn := Tryd.f9) hT rfl (.tmp (hT.get 4 _ rfl)) ?_
                          first | exact ⟨rfl, H.ext⟩ | exact ⟨ret_b (by first | (simp; done) | (simp only [decide_eq_true_eq]; omega)), H.ext⟩
                        · exfalso
                          try simp only [decide_eq_true_eq, decide_eq_false_iff_not, Bool.not_eq_true', Bool.not_eq_false', Bool.not_eq_true, Bool.not_eq_false, Bool.and_eq_true, Bool.or_eq_false_iff, beq_iff_eq, bne_iff_ne, Int.not_lt, Int.not_le, ne_eq] at hc26
                          first | (simp at hc26; done) | omega | (simp at hc26; omega) | (simp [hm] at hc26; done) | (rw [hnzb] at hc26; simp at hc26; done) | (simp only [hzz] at hc26; simp at hc26; done) | (rw [hm] at hc26; simp at hc26; done)
                      · try simp only [decide_eq_true_eq, decide_eq_false_iff_not, Bool.not_eq_true', Bool.not_eq_false', Bool.not_eq_true, Bool.not_eq_false, Bool.and_eq_true, Bool.or_eq_false_iff, beq_iff_eq, bne_iff_ne, Int.not_lt, Int.not_le, ne_eq] at hc25
                        refine Sx.st_run hT rfl rfl rfl rfl (Sx.y_loadS hT rfl Tryd.underlying23 Tryd.ti23 rfl ((H.blk 0 rfl).seg (k := 3) rfl) (by rfl)) ?_
                        clear hT; intro a hT
                        refine Sx.st_run hT rfl rfl rfl rfl (Sx.y_loadS hT rfl Tryd.underlying23 Tryd.ti23 rfl ((H.blk 3 rfl).seg (k := 3) rfl) (by rfl)) ?_
                        clear hT; intro a hT
                        refine Sx.st_take hT rfl rfl rfl rfl (Sx.x_eqS hT rfl (by kernel_rfl) (Tryd.eq23 _ _ _ _ _ _) rfl rfl rfl) ?_
                        clear hT; intro a hT
                        refine Sx.st_take hT rfl rfl rfl rfl (Sx.x_pick_f hT rfl rfl rfl) ?_
                        clear hT; intro a hT
                        refine Sx.st_take hT rfl rfl rfl rfl (Sx.x_pick_t hT rfl rfl rfl) ?_
                        clear hT; intro a hT
                        refine Sx.st_take hT rfl rfl rfl rfl (Sx.x_move hT rfl rfl) ?_
                        clear hT; intro a hT
                        -- guard (14, 17)
                        refine Sx.Sl.two hT 115 rfl (fun hc27 hT => ?_) (fun hc27 hT => ?_)
                        · try simp only [decide_eq_true_eq, decide_eq_false_iff_not, Bool.not_eq_true', Bool.not_eq_false', Bool.not_eq_true, Bool.not_eq_false, Bool.and_eq_true, Bool.or_eq_false_iff, beq_iff_eq, bne_iff_ne, Int.not_lt, Int.not_le, ne_eq] at hc27
                          refine Sx.st_run hT rfl rfl rfl rfl (Sx.y_loadS hT rfl Tryd.underlying23 Tryd.ti23 rfl ((H.blk 0 rfl).seg (k := 3) rfl) (by rfl)) ?_
                          clear hT; intro a hT
                          refine Sx.st_run hT rfl rfl rfl rfl (Sx.y_loadS hT rfl Tryd.underlying23 Tryd.ti23 rfl ((H.blk 4 rfl).seg (k := 3) rfl) (by rfl)) ?_
                          clear hT; intro a hT
                          refine Sx.st_call hT rfl rfl rfl rfl rfl Tryd.can15 rfl (Compare_calls _ _ _ _ _ _ _) ?_
                          rintro _ w22 ⟨rfl, E⟩
                          refine ⟨_, rfl, ?_⟩
                          clear hT; intro a hT
                          replace H := H.pure E; clear E
                          refine Sx.st_take hT rfl rfl rfl rfl ((fun w => Sx.x_ge w hT rfl rfl rfl)) ?_
                          clear hT; intro a hT
                          refine Sx.st_take hT rfl rfl rfl rfl (Sx.x_pick_t hT rfl rfl rfl) ?_
                          clear hT; intro a hT
                          refine Sx.st_take hT rfl rfl rfl rfl (Sx.x_move hT rfl rfl) ?_
                          clear hT; intro a hT
                          -- guard (14, 23)
                          refine Sx.Sl.two hT 121 rfl (fun hc28 hT => ?_) (fun hc28 hT => ?_)
                          · try simp only [decide_eq_true_eq, decide_eq_false_iff_not, Bool.not_eq_true', Bool.not_eq_false', Bool.not_eq_true, Bool.not_eq_false, Bool.and_eq_true, Bool.or_eq_false_iff, beq_iff_eq, bne_iff_ne, Int.not_lt, Int.not_le, ne_eq] at hc28
                            refine Sx.st_run hT rfl rfl rfl rfl (Sx.y_loadS hT rfl Tryd.underlying23 Tryd.ti23 rfl ((H.blk 0 rfl).seg (k := 3) rfl) (by rfl)) ?_
                            clear hT; intro a hT
                            refine Sx.st_run hT rfl rfl rfl rfl (Sx.y_loadS hT rfl Tryd.underlying23 Tryd.ti23 rfl ((H.blk 3 rfl).seg (k := 3) rfl) (by rfl)) ?_
                            clear hT; intro a hT
                            refine Sx.st_call hT rfl rfl rfl rfl rfl Tryd.can15 rfl (Compare_calls _ _ _ _ _ _ _) ?_
                            rintro _ w23 ⟨rfl, E⟩
                            refine ⟨_, rfl, ?_⟩
                            clear hT; intro a hT
                            replace H := H.pure E; clear E
                            refine Sx.st_take hT rfl rfl rfl rfl ((fun w => Sx.x_ge w hT rfl rfl rfl)) ?_
                            clear hT; intro a hT
                            refine Sx.st_take hT rfl rfl rfl rfl (Sx.x_pick_t hT rfl rfl rfl) ?_
                            clear hT; intro a hT
                            refine Sx.st_take hT rfl rfl rfl rfl (Sx.x_assign hT rfl rfl) ?_
                            clear hT; intro a hT
                            replace hT := hT.keep [4, 11, 10, 9, 8, 7, 56, 39, 27, 6, 5, 13, 3, 2, 0, 1] rfl
                            refine Sx.ser_nil ?_
                            refine Sx.then_normal (hK22 _ _ ?_)
                            clear hK22
                            refine wp_ret ?_
                            refine Sx.done1 (fn := Tryd.f9) hT rfl (.tmp (hT.get 4 _ rfl)) ?_
                            first | exact ⟨rfl, H.ext⟩ | exact ⟨ret_b (by first | (simp; done) | (simp only [decide_eq_true_eq]; omega)), H.ext⟩
                          · exfalso
                            try simp only [decide_eq_true_eq, decide_eq_false_iff_not, Bool.not_eq_true', Bool.not_eq_false', Bool.not_eq_true, Bool.not_eq_false, Bool.and_eq_true, Bool.or_eq_false_iff, beq_iff_eq, bne_iff_ne, Int.not_lt, Int.not_le, ne_eq] at hc28
                            first | (simp at hc28; done) | omega | (simp at hc28; omega) | (simp [hm] at hc28; done) | (rw [hnzb] at hc28; simp at hc28; done) | (simp only [hzz] at hc28; simp at hc28; done) | (rw [hm] at hc28; simp at hc28; done)
                        · exfalso
                          try simp only [decide_eq_true_eq, decide_eq_false_iff_not, Bool.not_eq_true', Bool.not_eq_false', Bool.not_eq_true, Bool.not_eq_false, Bool.and_eq_true, Bool.or_eq_false_iff, beq_iff_eq, bne_iff_ne, Int.not_lt, Int.not_le, ne_eq] at hc27
                          first | (simp at hc27; done) | omega | (simp at hc27; omega) | (simp [hm] at hc27; done) | (rw [hnzb] at hc27; simp at hc27; done) | (simp only [hzz] at hc27; simp at hc27; done) | (rw [hm] at hc27; simp at hc27; done)
                    · exfalso
                      try simp only [decide_eq_true_eq, decide_eq_false_iff_not, Bool.not_eq_true', Bool.not_eq_false', Bool.not_eq_true, Bool.not_eq_false, Bool.and_eq_true, Bool.or_eq_false_iff, beq_iff_eq, bne_iff_ne, Int.not_lt, Int.not_le, ne_eq] at hc24
                      first | (simp at hc24; done) | omega | (simp at hc24; omega) | (simp [hm] at hc24; done) | (rw [hnzb] at hc24; simp at hc24; done) | (simp only [hzz] at hc24; simp at hc24; done) | (rw [hm] at hc24; simp at hc24; done)
                  · exfalso
                    try simp only [decide_eq_true_eq, decide_eq_false_iff_not, Bool.not_eq_true', Bool.not_eq_false', Bool.not_eq_true, Bool.not_eq_false, Bool.and_eq_true, Bool.or_eq_false_iff, beq_iff_eq, bne_iff_ne, Int.not_lt, Int.not_le, ne_eq] at hc23
                    first | (simp at hc23; done) | omega | (simp at hc23; omega) | (simp [hm] at hc23; done) | (rw [hnzb] at hc23; simp at hc23; done) | (simp only [hzz] at hc23; simp at hc23; done) | (rw [hm] at hc23; simp at hc23; done)
                · skip
                  -- region 13 (law.go:155)
                  refine Sx.wp_text [(0, .run), (1, .run), (2, .run), (3, .run), (4, .run)] rfl ?_
                  refine Sx.st_run hT rfl rfl rfl rfl (Sx.y_loadS hT rfl Tryd.underlying23 Tryd.ti23 rfl ((H.blk 3 rfl).seg (k := 3) rfl) (by rfl)) ?_
                  clear hT; intro a hT
                  refine Sx.st_run hT rfl rfl rfl rfl (Sx.y_loadS hT rfl Tryd.underlying23 Tryd.ti23 rfl ((H.blk 2 rfl).seg (k := 3) rfl) (by rfl)) ?_
                  clear hT; intro a hT
                  refine Sx.st_call hT rfl rfl rfl rfl rfl Tryd.can17 rfl (Later_ge _ _ _ _ _ _ _ hlt) ?_
                  rintro _ w24 ⟨rfl, E⟩
                  refine ⟨_, rfl, ?_⟩
                  clear hT; intro a hT
                  replace H := H.pure E; clear E
                  refine Sx.st_eff hT rfl rfl rfl rfl (Sx.y_alloc hT rfl Tryd.ti23 rfl _) ?_
                  clear hT; rintro _ w25 ⟨b6, rfl, N⟩ a hT
                  replace H := H.new N; clear N
                  refine Sx.st_act hT rfl rfl rfl (Sx.y_storeS hT rfl Tryd.ti23 rfl rfl rfl rfl rfl (H.blk 0 rfl) rfl) ?_
                  rintro w26 ⟨hb, E, _⟩
                  replace H := H.setB 0 rfl hb E rfl; clear hb E
                  replace hT := hT.keep [11, 10, 9, 8, 7, 56, 39, 27, 6, 5, 13, 4, 3, 2, 0, 1] rfl
                  refine Sx.ser_nil ?_
                  refine Sx.then_normal (hK21 _ _ ?_)
                  clear hK21
                  refine wp_seq_k fun K29 hK29 => ?_
                  -- region 14 (law.go:156)
                  refine Sx.wp_text [(0, .run), (1, .take), (2, .take), (3, .take), (4, .take), (5, .take), (6, .take), (7, .take), (8, .run), (9, .run), (10, .take), (11, .take), (12, .run), (13, .run), (14, .take), (15, .take), (16, .take), (17, .take), (18, .run), (19, .run), (20, .run), (21, .take), (22, .take), (23, .take), (24, .run), (25, .run), (26, .run), (27, .take), (28, .take), (29, .take)] rfl ?_
                  refine Sx.st_call hT rfl rfl rfl rfl rfl Tryd.can10 rfl (first_calls _) ?_
                  rintro _ w27 ⟨rfl, E⟩
                  refine ⟨_, rfl, ?_⟩
                  clear hT; intro a hT
                  replace H := H.pure E; clear E
                  refine Sx.st_take hT rfl rfl rfl rfl (Sx.x_move hT rfl rfl) ?_
                  clear hT; intro a hT
                  refine Sx.st_take hT rfl rfl rfl rfl (Sx.x_move hT rfl rfl) ?_
                  clear hT; intro a hT
                  refine Sx.st_take hT rfl rfl rfl rfl (Sx.x_pick_t hT rfl rfl rfl) ?_
                  clear hT; intro a hT
                  refine Sx.st_take hT rfl rfl rfl rfl (Sx.x_move hT rfl rfl) ?_
                  clear hT; intro a hT
                  -- guard (14, 4)
                  refine Sx.Sl.two hT 102 rfl (fun hc30 hT => ?_) (fun hc30 hT => ?_)
                  · try simp only [decide_eq_true_eq, decide_eq_false_iff_not, Bool.not_eq_true', Bool.not_eq_false', Bool.not_eq_true, Bool.not_eq_false, Bool.and_eq_true, Bool.or_eq_false_iff, beq_iff_eq, bne_iff_ne, Int.not_lt, Int.not_le, ne_eq] at hc30
                    refine Sx.st_take hT rfl rfl rfl rfl (Sx.x_move hT rfl rfl) ?_
                    clear hT; intro a hT
                    refine Sx.st_take hT rfl rfl rfl rfl (Sx.x_pick_t hT rfl rfl rfl) ?_
                    clear hT; intro a hT
                    refine Sx.st_take hT rfl rfl rfl rfl (Sx.x_move hT rfl rfl) ?_
                    clear hT; intro a hT
                    -- guard (14, 7)
                    refine Sx.Sl.two hT 105 rfl (fun hc31 hT => ?_) (fun hc31 hT => ?_)
                    · try simp only [decide_eq_true_eq, decide_eq_false_iff_not, Bool.not_eq_true', Bool.not_eq_false', Bool.not_eq_true, Bool.not_eq_false, Bool.and_eq_true, Bool.or_eq_false_iff, beq_iff_eq, bne_iff_ne, Int.not_lt, Int.not_le, ne_eq] at hc31
                      refine Sx.st_run hT rfl rfl rfl rfl (Sx.y_loadS hT rfl Tryd.underlying23 Tryd.ti23 rfl ((H.blk 0 rfl).seg (k := 3) rfl) (by rfl)) ?_
                      clear hT; intro a hT
                      refine Sx.st_run hT rfl rfl rfl rfl (Sx.y_loadS hT rfl Tryd.underlying23 Tryd.ti23 rfl ((H.blk 4 rfl).seg (k := 3) rfl) (by rfl)) ?_
                      clear hT; intro a hT
                      refine Sx.st_take hT rfl rfl rfl rfl (Sx.x_eqS hT rfl (by kernel_rfl) (Tryd.eq23 _ _ _ _ _ _) rfl rfl rfl) ?_
                      clear hT; intro a hT
                      refine Sx.st_take hT rfl rfl rfl rfl (Sx.x_move hT rfl rfl) ?_
                      clear hT; intro a hT
                      -- guard (14, 11)
                      refine Sx.Sl.two hT 109 rfl (fun hc32 hT => ?_) (fun hc32 hT => ?_)
                      · try simp only [decide_eq_true_eq, decide_eq_false_iff_not, Bool.not_eq_true', Bool.not_eq_false', Bool.not_eq_true, Bool.not_eq_false, Bool.and_eq_true, Bool.or_eq_false_iff, beq_iff_eq, bne_iff_ne, Int.not_lt, Int.not_le, ne_eq] at hc32
                        refine Sx.st_runskip hT rfl rfl rfl rfl ?_
                        clear hT; intro a hT
                        refine Sx.st_runskip hT rfl rfl rfl rfl ?_
                        clear hT; intro a hT
                        refine Sx.st_skip hT rfl rfl rfl rfl ?_
                        clear hT; intro a hT
                        refine Sx.st_take hT rfl rfl rfl rfl (Sx.x_pick_t hT rfl rfl rfl) ?_
                        clear hT; intro a hT
                        refine Sx.st_take hT rfl rfl rfl rfl (Sx.x_pick_t hT rfl rfl rfl) ?_
                        clear hT; intro a hT
                        refine Sx.st_take hT rfl rfl rfl rfl (Sx.x_move hT rfl rfl) ?_
                        clear hT; intro a hT
                        refine Sx.st_run hT rfl rfl rfl rfl (Sx.y_loadS hT rfl Tryd.underlying23 Tryd.ti23 rfl ((H.blk 0 rfl).seg (k := 3) rfl) (by rfl)) ?_
                        clear hT; intro a hT
                        refine Sx.st_run hT rfl rfl rfl rfl (Sx.y_loadS hT rfl Tryd.underlying23 Tryd.ti23 rfl ((H.blk 4 rfl).seg (k := 3) rfl) (by rfl)) ?_
                        clear hT; intro a hT
                        refine Sx.st_call hT rfl rfl rfl rfl rfl Tryd.can15 rfl (Compare_calls _ _ _ _ _ _ _) ?_
                        rintro _ w28 ⟨rfl, E⟩
                        refine ⟨_, rfl, ?_⟩
                        clear hT; intro a hT
                        replace H := H.pure E; clear E
                        refine Sx.st_take hT rfl rfl rfl rfl ((fun w => Sx.x_ge w hT rfl rfl rfl)) ?_
                        clear hT; intro a hT
                        refine Sx.st_take hT rfl rfl rfl rfl (Sx.x_pick_t hT rfl rfl rfl) ?_
                        clear hT; intro a hT
                        refine Sx.st_take hT rfl rfl rfl rfl (Sx.x_move hT rfl rfl) ?_
                        clear hT; intro a hT
                        -- guard (14, 23)
                        refine Sx.Sl.two hT 121 rfl (fun hc33 hT => ?_) (fun hc33 hT => ?_)
                        · try simp only [decide_eq_true_eq, decide_eq_false_iff_not, Bool.not_eq_true', Bool.not_eq_false', Bool.not_eq_true, Bool.not_eq_false, Bool.and_eq_true, Bool.or_eq_false_iff, beq_iff_eq, bne_iff_ne, Int.not_lt, Int.not_le, ne_eq] at hc33
                          refine Sx.st_run hT rfl rfl rfl rfl (Sx.y_loadS hT rfl Tryd.underlying23 Tryd.ti23 rfl ((H.blk 0 rfl).seg (k := 3) rfl) (by rfl)) ?_
                          clear hT; intro a hT
                          refine Sx.st_run hT rfl rfl rfl rfl (Sx.y_loadS hT rfl Tryd.underlying23 Tryd.ti23 rfl ((H.blk 3 rfl).seg (k := 3) rfl) (by rfl)) ?_
                          clear hT; intro a hT
                          refine Sx.st_call hT rfl rfl rfl rfl rfl Tryd.can15 rfl (Compare_calls _ _ _ _ _ _ _) ?_
                          rintro _ w29 ⟨rfl, E⟩
                          refine ⟨_, rfl, ?_⟩
                          clear hT; intro a hT
                          replace H := H.pure E; clear E
                          refine Sx.st_take hT rfl rfl rfl rfl ((fun w => Sx.x_ge w hT rfl rfl rfl)) ?_
                          clear hT; intro a hT
                          refine Sx.st_take hT rfl rfl rfl rfl (Sx.x_pick_t hT rfl rfl rfl) ?_
                          clear hT; intro a hT
                          refine Sx.st_take hT rfl rfl rfl rfl (Sx.x_assign hT rfl rfl) ?_
                          clear hT; intro a hT
                          replace hT := hT.keep [4, 11, 10, 9, 8, 7, 56, 39, 27, 6, 5, 13, 3, 2, 0, 1] rfl
                          refine Sx.ser_nil ?_
                          refine Sx.then_normal (hK29 _ _ ?_)
                          clear hK29
                          refine wp_ret ?_
                          refine Sx.done1 (fn := Tryd.f9) hT rfl (.tmp (hT.get 4 _ rfl)) ?_
                          first | exact ⟨rfl, H.ext⟩ | exact ⟨ret_b (by first | (simp; done) | (simp only [decide_eq_true_eq]; omega)), H.ext⟩
                        · exfalso
                          try simp only [decide_eq_true_eq, decide_eq_false_iff_not, Bool.not_eq_true', Bool.not_eq_false', Bool.not_eq_true, Bool.not_eq_false, Bool.and_eq_true, Bool.or_eq_false_iff, beq_iff_eq, bne_iff_ne, Int.not_lt, Int.not_le, ne_eq] at hc33
                          first | (simp at hc33; done) | omega | (simp at hc33; omega) | (simp [hm] at hc33; done) | (rw [hnzb] at hc33; simp at hc33; done) | (simp only [hzz] at hc33; simp at hc33; done) | (rw [hm] at hc33; simp at hc33; done)
                      · exfalso
                        try simp only [decide_eq_true_eq, decide_eq_false_iff_not, Bool.not_eq_true', Bool.not_eq_false', Bool.not_eq_true, Bool.not_eq_false, Bool.and_eq_true, Bool.or_eq_false_iff, beq_iff_eq, bne_iff_ne, Int.not_lt, Int.not_le, ne_eq] at hc32
                        first | (simp at hc32; done) | omega | (simp at hc32; omega) | (simp [hm] at hc32; done) | (rw [hnzb] at hc32; simp at hc32; done) | (simp only [hzz] at hc32; simp at hc32; done) | (rw [hm] at hc32; simp at hc32; done)
                    · exfalso
                      try simp only [decide_eq_true_eq, decide_eq_false_iff_not, Bool.not_eq_true', Bool.not_eq_false', Bool.not_eq_true, Bool.not_eq_false, Bool.and_eq_true, Bool.or_eq_false_iff, beq_iff_eq, bne_iff_ne, Int.not_lt, Int.not_le, ne_eq] at hc31
                      first | (simp at hc31; done) | omega | (simp at hc31; omega) | (simp [hm] at hc31; done) | (rw [hnzb] at hc31; simp at hc31; done) | (simp only [hzz] at hc31; simp at hc31; done) | (rw [hm] at hc31; simp at hc31; done)
                  · exfalso
                    try simp only [decide_eq_true_eq, decide_eq_false_iff_not, Bool.not_eq_true', Bool.not_eq_false', Bool.not_eq_true, Bool.not_eq_false, Bool.and_eq_true, Bool.or_eq_false_iff, beq_iff_eq, bne_iff_ne, Int.not_lt, Int.not_le, ne_eq] at hc30
                    first | (simp at hc30; done) | omega | (simp at hc30; omega) | (simp [hm] at hc30; done) | (rw [hnzb] at hc30; simp at hc30; done) | (simp only [hzz] at hc30; simp at hc30; done) | (rw [hm] at hc30; simp at hc30; done)
              · exfalso
                try simp only [decide_eq_true_eq, decide_eq_false_iff_not, Bool.not_eq_true', Bool.not_eq_false', Bool.not_eq_true, Bool.not_eq_false, Bool.and_eq_true, Bool.or_eq_false_iff, beq_iff_eq, bne_iff_ne, Int.not_lt, Int.not_le, ne_eq] at hc20
                first | (simp at hc20; done) | omega | (simp at hc20; omega) | (simp [hm] at hc20; done) | (rw [hnzb] at hc20; simp at hc20; done) | (simp only [hzz] at hc20; simp at hc20; done) | (rw [hm] at hc20; simp at hc20; done)
          · exfalso
            try simp only [decide_eq_true_eq, decide_eq_false_iff_not, Bool.not_eq_true', Bool.not_eq_false', Bool.not_eq_true, Bool.not_eq_false, Bool.and_eq_true, Bool.or_eq_false_iff, beq_iff_eq, bne_iff_ne, Int.not_lt, Int.not_le, ne_eq] at hc17
            first | (simp at hc17; done) | omega | (simp at hc17; omega) | (simp [hm] at hc17; done) | (rw [hnzb] at hc17; simp at hc17; done) | (simp only [hzz] at hc17; simp at hc17; done) | (rw [hm] at hc17; simp at hc17; done)
  · exfalso
    try simp only [decide_eq_true_eq, decide_eq_false_iff_not, Bool.not_eq_true', Bool.not_eq_false', Bool.not_eq_true, Bool.not_eq_false, Bool.and_eq_true, Bool.or_eq_false_iff, beq_iff_eq, bne_iff_ne, Int.not_lt, Int.not_le, ne_eq] at hc7
    first | (simp at hc7; done) | omega | (simp at hc7; omega) | (simp [hm] at hc7; done) | (rw [hnzb] at hc7; simp at hc7; done) | (simp only [hzz] at hc7; simp at hc7; done) | (rw [hm] at hc7; simp at hc7; done)

end Go.Proofs.YtioebjimkainjaaDoor
