/- Walks: groups of pairs. -/
import Derived.Test.YtakjfnckbidbcaaV1
set_option linter.unusedSimpArgs false
set_option linter.unusedVariables false
namespace Go.Proofs.Ytakjfnckbidbcaa
open Sx
theorem Try.ti56 : Sx.TI Try.prog 56 (.agg #[.string .empty, .int .i64 0, .int .i64 0, .float .f64 0, .float .f64 0, .float .f64 0]) 6 56 := .mk' (by kernel_rfl)
theorem Try.ti69 : Sx.TI Try.prog 69 (.agg #[.string .empty, .int .i64 0, .float .f64 0, .string .empty]) 4 48 := .mk' (by kernel_rfl)
theorem Try.fa56_0 : Sx.FA Try.prog 56 0 0 := ⟨_, _, _, _, _, Try.underlying56, rfl, rfl, Try.ti9, by decide⟩
theorem Try.fa56_1 : Sx.FA Try.prog 56 1 1 := ⟨_, _, _, _, _, Try.underlying56, rfl, rfl, Try.ti3, by decide⟩
theorem Try.fa56_3 : Sx.FA Try.prog 56 3 3 := ⟨_, _, _, _, _, Try.underlying56, rfl, rfl, Try.ti46, by decide⟩
theorem Try.fa69_0 : Sx.FA Try.prog 69 0 0 := ⟨_, _, _, _, _, Try.underlying69, rfl, rfl, Try.ti9, by decide⟩
theorem Try.fa69_1 : Sx.FA Try.prog 69 1 1 := ⟨_, _, _, _, _, Try.underlying69, rfl, rfl, Try.ti48, by decide⟩
theorem Try.bld56 : Sx.Bld Try.prog 56 #[.string .empty, .int .i64 0, .int .i64 0, .float .f64 0, .float .f64 0, .float .f64 0] #[(0, 1), (1, 1), (2, 1), (3, 1), (4, 1), (5, 1)] := ⟨_, _, _, _, Try.ti56, rfl, Try.underlying56, fun w => by simp [Sx.placesOf, Sx.run_sizeOf Try.ti3, Sx.run_sizeOf Try.ti46, Sx.run_sizeOf Try.ti9]⟩
theorem Try.can41 : Sx.Can Try.prog 41 := ⟨_, Try.func41, by kernel_rfl, rfl⟩
set_option maxHeartbeats 1000000 in
theorem groups_calls {ad : Option Addr} {c : Nat} (l : List Wt) {w : World} (hs : Ss w ad Wt.cells 4 l) (cut : Nat) (hcut : cut ≤ 24) (hl : l.length ≤ 1000000) (hb : ∀ x ∈ l, x.key.length ≤ 140737488351232) : Calls Try.prog 41 #[.slice ad l.length c, .int .i64 (cut : Int)] w fun e w' => ∃ ad' c', e = .returned (.slice ad' (groupsF cut l).length c') ∧ Hp w No w' [cR 56 6 ad' (groupsF cut l).length c' ((groupsF cut l).flatMap G6.cells)] := by
  have R : Ro w No _ := Ro.of fun w' x => hs.ext_no x
  refine Sx.calls_into Try.func41 rfl Try.ntmps41 rfl fun a hT => ?_
  replace hT := hT.keep [0, 1] rfl
  have H : Sx.Hp w (Sx.No) w [] := Sx.Hp.start _ _
  refine wp_seq_k fun K1 hK1 => ?_
  -- region 0 (view.go:71)
  refine Sx.wp_text [(0, .take)] rfl ?_
  refine Sx.st_take hT rfl rfl rfl rfl (Sx.x_assign hT rfl rfl) ?_
  clear hT; intro a hT
  replace hT := hT.keep [4, 0, 1] rfl
  refine Sx.ser_nil ?_
  refine Sx.then_normal (hK1 _ _ ?_)
  clear hK1
  refine wp_seq_k fun K2 hK2 => ?_
  -- region 1 (view.go:72)
  refine Sx.wp_text [(0, .take)] rfl ?_
  refine Sx.st_take hT rfl rfl rfl rfl (Sx.x_assign hT rfl rfl) ?_
  clear hT; intro a hT
  replace hT := hT.keep [5, 4, 0, 1] rfl
  refine Sx.ser_nil ?_
  refine Sx.then_normal (hK2 _ _ ?_)
  clear hK2
  refine wp_seq_k fun K3 hK3 => ?_
  -- region 2 (view.go:73)
  refine Sx.wp_text [(0, .take)] rfl ?_
  refine Sx.st_take hT rfl rfl rfl rfl (Sx.x_assign hT rfl rfl) ?_
  clear hT; intro a hT
  replace hT := hT.keep [6, 5, 4, 0, 1] rfl
  refine Sx.ser_nil ?_
  refine Sx.then_normal (hK3 _ _ ?_)
  clear hK3
  refine wp_seq_k fun K4 hK4 => ?_
  refine wp_seq_k fun K5 hK5 => ?_
  -- region 3 (view.go:74)
  refine Sx.wp_text [(0, .take), (1, .take), (2, .take)] rfl ?_
  refine Sx.st_take hT rfl rfl rfl rfl (Sx.x_move hT rfl rfl) ?_
  clear hT; intro a hT
  refine Sx.st_take hT rfl rfl rfl rfl (Sx.x_len_slice hT rfl rfl Try.underlying33 rfl) ?_
  clear hT; intro a hT
  refine Sx.st_take hT rfl rfl rfl rfl (Sx.x_move hT rfl rfl) ?_
  clear hT; intro a hT
  replace hT := hT.keep [13, 12, 11, 6, 5, 4, 0, 1] rfl
  refine Sx.ser_nil ?_
  refine Sx.then_normal (hK5 _ _ ?_)
  clear hK5
  refine wp_block ?_
  replace H := H.nilR 56 6
  replace H := H.nilR 46 1
  -- loop 0
  refine Sx.wp_loopH (G := Nat × List G6 × Nat × List Nat × Option Addr × Nat × Option Addr × Nat) (fun ⟨k, L, m, ns, ad2, c2, ad3, c3⟩ => [(13, .int .i64 (k : Int)), (5, .slice ad2 m c2), (6, .slice ad3 ns.length c3)]) (fun ⟨k, L, m, ns, ad2, c2, ad3, c3⟩ => [cR 56 6 ad2 m c2 (L.flatMap G6.cells), cR 46 1 ad3 ns.length c3 (ns.flatMap fcell)]) (fun ⟨k, L, m, ns, ad2, c2, ad3, c3⟩ => k ≤ l.length ∧ (L, ns) = gfold cut (l.take k) ∧ m = L.length ∧ gbound k L ∧ (0 < k → L ≠ []) ∧ (k = 0 → L = []) ∧ m ≤ k ∧ ns.length ≤ k) (fun ⟨k, L, m, ns, ad2, c2, ad3, c3⟩ => l.length - k) (0, [], 0, [], none, 0, none, 0) (hT.keep [13, 5, 6, 12, 11, 4, 0, 1] rfl) (H.keep [1, 0] rfl rfl) (⟨Nat.zero_le _, (by rw [List.take_zero]; rfl), rfl, (fun g h => by cases h), (fun h => absurd h (by decide)), (fun _ => rfl), Nat.le_refl _, Nat.le_refl _⟩) ?_
  clear hT H
  rintro ⟨k, L, m, ns, ad2, c2, ad3, c3⟩ a w1 hJ hT H
  replace hT := hT.keep [13, 5, 6, 12, 11, 4, 0, 1] rfl
  replace H := H.keep [0, 1] rfl rfl
  obtain ⟨hk, hfold, hm, hgb, hLn, hLe, hmk, hnk⟩ := hJ
  refine wp_seq_k fun K6 hK6 => ?_
  -- region 4 (view.go:74)
  refine Sx.wp_text [(0, .take)] rfl ?_
  refine Sx.st_take hT rfl rfl rfl rfl ((fun w => Sx.x_lt w hT rfl rfl rfl)) ?_
  clear hT; intro a hT
  replace hT := hT.keep [14, 13, 5, 6, 12, 11, 4, 0, 1] rfl
  refine Sx.ser_nil ?_
  refine Sx.then_normal (hK6 _ _ ?_)
  clear hK6
  refine wp_seq_k fun K7 hK7 => ?_
  -- cond 0
  refine Sx.wp_if hT rfl (fun hc8 => ?_) (fun hc8 => ?_)
  · try simp only [decide_eq_true_eq, decide_eq_false_iff_not, Bool.not_eq_true', Bool.not_eq_false', Bool.not_eq_true, Bool.not_eq_false, Bool.and_eq_true, Bool.or_eq_false_iff, beq_iff_eq, bne_iff_ne, Int.not_lt, Int.not_le, ne_eq] at hc8
    obtain ⟨o, ho⟩ : ∃ o, l[k]? = some o := ⟨_, List.getElem?_eq_getElem (by omega)⟩
    have hob := hb o (List.mem_of_getElem? ho)
    refine wp_skip ?_
    refine Sx.then_normal (hK7 _ _ ?_)
    clear hK7
    refine wp_seq_k fun K9 hK9 => ?_
    refine wp_block ?_
    refine wp_seq_k fun K10 hK10 => ?_
    -- region 5 (view.go:74)
    refine Sx.wp_text [(0, .take), (1, .take), (2, .run), (3, .run), (4, .take), (5, .run)] rfl ?_
    refine Sx.st_take hT rfl rfl rfl rfl (Sx.x_move hT rfl rfl) ?_
    clear hT; intro a hT
    refine Sx.st_take hT rfl rfl rfl rfl (Sx.x_index (k := k) hT rfl Try.underlying33 Try.ti69 (R.at H.ext).sv rfl rfl (by first | rfl | omega) (by omega)) ?_
    clear hT; intro a hT
    refine Sx.st_run hT rfl rfl rfl rfl (Sx.y_loadS hT rfl Try.underlying69 Try.ti69 rfl ((R.at H.ext).cs Wt.len ho) (by rfl)) ?_
    clear hT; intro a hT
    refine Sx.st_eff hT rfl rfl rfl rfl (Sx.y_alloc hT rfl Try.ti69 rfl _) ?_
    clear hT; rintro _ w2 ⟨b1, rfl, N⟩ a hT
    replace H := H.new N; clear N
    refine Sx.st_take hT rfl rfl rfl rfl (Sx.x_assign hT rfl rfl) ?_
    clear hT; intro a hT
    refine Sx.st_act hT rfl rfl rfl (Sx.y_storeS hT rfl Try.ti69 rfl rfl rfl rfl rfl (H.blk 0 rfl) rfl) ?_
    rintro w3 ⟨hb, E, _⟩
    replace H := H.setB 0 rfl hb E rfl; clear hb E
    replace hT := hT.keep [7, 8, 14, 13, 5, 6, 12, 11, 4, 0, 1] rfl
    refine Sx.ser_nil ?_
    refine Sx.then_normal (hK10 _ _ ?_)
    clear hK10
    refine wp_seq_k fun K11 hK11 => ?_
    -- region 6 (view.go:75)
    refine Sx.wp_text [(0, .take), (1, .run), (2, .take), (3, .take), (4, .run), (5, .take), (6, .take), (7, .take), (8, .take)] rfl ?_
    refine Sx.st_take hT rfl rfl rfl rfl (Sx.x_fieldAddr hT rfl Try.fa69_0 rfl) ?_
    clear hT; intro a hT
    refine Sx.st_run hT rfl rfl rfl rfl (Sx.x_load1 hT rfl Try.fl9 rfl ((H.blk 0 rfl).nth rfl)) ?_
    clear hT; intro a hT
    refine Sx.st_take hT rfl rfl rfl rfl (Sx.x_move hT rfl rfl) ?_
    clear hT; intro a hT
    refine Sx.st_take hT rfl rfl rfl rfl (Sx.x_fieldAddr hT rfl Try.fa69_0 rfl) ?_
    clear hT; intro a hT
    refine Sx.st_run hT rfl rfl rfl rfl (Sx.x_load1 hT rfl Try.fl9 rfl ((H.blk 0 rfl).nth rfl)) ?_
    clear hT; intro a hT
    refine Sx.st_take hT rfl rfl rfl rfl (Sx.x_lenStr hT rfl rfl Try.underlying9 rfl) ?_
    clear hT; intro a hT
    refine Sx.st_take hT rfl rfl rfl rfl (Sx.x_min hT rfl rfl rfl) ?_
    clear hT; intro a hT
    rw [show min ((cut : Nat) : Int) ((o.key.length : Nat) : Int) = ((min cut o.key.length : Nat) : Int) from by omega] at hT
    refine Sx.st_take hT rfl rfl rfl rfl (Sx.x_sliceStr_h hT rfl Try.underlying9 rfl rfl rfl (by omega)) ?_
    clear hT; intro a hT
    rw [min_take] at hT
    refine Sx.st_take hT rfl rfl rfl rfl (Sx.x_assign hT rfl rfl) ?_
    clear hT; intro a hT
    replace hT := hT.keep [9, 7, 8, 14, 13, 5, 6, 12, 11, 4, 0, 1] rfl
    refine Sx.ser_nil ?_
    refine Sx.then_normal (hK11 _ _ ?_)
    clear hK11
    refine wp_seq_k fun K12 hK12 => ?_
    refine Sx.wp_join (G := List G6 × Nat × List Nat × Option Addr × Nat × Option Addr × Nat) (fun ⟨L1, m1, n1, ad4, c4, ad5, c5⟩ => [(5, .slice ad4 m1 c4), (6, .slice ad5 n1.length c5)]) (fun ⟨L1, m1, n1, ad4, c4, ad5, c5⟩ => [cR 56 6 ad4 m1 c4 (L1.flatMap G6.cells), cR 46 1 ad5 n1.length c5 (n1.flatMap fcell)]) (fun ⟨L1, m1, n1, ad4, c4, ad5, c5⟩ => (L1, n1) = s1F (L, ns) (o.key.take cut) ∧ m1 = L1.length ∧ m1 ≤ k + 1 ∧ n1.length ≤ k ∧ 0 < m1) (hT.keep [9, 7, 8, 14, 13, 12, 11, 4, 0, 1] rfl) (H.keep [0] rfl rfl) hK12 ?_ ?_
    · clear hT H hK12
      rintro ⟨L1, m1, n1, ad4, c4, ad5, c5⟩ a w4 hJ hT H
      replace hT := hT.keep [5, 6, 9, 7, 8, 14, 13, 12, 11, 4, 0, 1] rfl
      replace H := H.keep [0, 1, 2] rfl rfl
      obtain ⟨h1, hm1, hm1k, hn1k, hm1p⟩ := hJ
      obtain ⟨g, hg⟩ : ∃ o, L1[m1 - 1]? = some o := ⟨_, List.getElem?_eq_getElem (by omega)⟩
      have hb1 : gbound k L1 := by
        have h9 := gbound_s1 (nm := o.key.take cut) (s := (L, ns)) hgb
        rw [← h1] at h9
        exact h9
      obtain ⟨hgb1, hgb2, hgb3, hgb4⟩ := hb1 g (List.mem_of_getElem? hg)
      have hge := endsG_keep { g with keys := g.keys + 1 } o.v.num o.v.num
      have hge2 : (endsG { g with keys := g.keys + 1 } o.v.num o.v.num).nums = g.nums := hge.2.2.1
      refine wp_seq_k fun K13 hK13 => ?_
      -- region 10 (view.go:80)
      refine Sx.wp_text [(0, .take), (1, .take), (2, .take), (3, .take), (4, .take), (5, .take)] rfl ?_
      refine Sx.st_take hT rfl rfl rfl rfl (Sx.x_move hT rfl rfl) ?_
      clear hT; intro a hT
      refine Sx.st_take hT rfl rfl rfl rfl (Sx.x_move hT rfl rfl) ?_
      clear hT; intro a hT
      refine Sx.st_take hT rfl rfl rfl rfl (Sx.x_len_slice hT rfl rfl Try.underlying51 rfl) ?_
      clear hT; intro a hT
      refine Sx.st_take hT rfl rfl rfl rfl ((fun w => Sx.x_sub w hT rfl rfl rfl (Sx.wrap64 (by omega)))) ?_
      clear hT; intro a hT
      refine Sx.st_take hT rfl rfl rfl rfl (Sx.x_index (k := m1 - 1) hT rfl Try.underlying51 Try.ti56 (H.row 0 rfl).sv rfl rfl (by first | rfl | omega) (by omega)) ?_
      clear hT; intro a hT
      refine Sx.st_take hT rfl rfl rfl rfl (Sx.x_assign hT rfl rfl) ?_
      clear hT; intro a hT
      replace hT := hT.keep [10, 5, 6, 9, 7, 8, 14, 13, 12, 11, 4, 0, 1] rfl
      refine Sx.ser_nil ?_
      refine Sx.then_normal (hK13 _ _ ?_)
      clear hK13
      refine wp_seq_k fun K14 hK14 => ?_
      -- region 11 (view.go:81)
      refine Sx.wp_text [(0, .take), (1, .take), (2, .take), (3, .run), (4, .take), (5, .take), (6, .take), (7, .run)] rfl ?_
      refine Sx.st_take hT rfl rfl rfl rfl (Sx.x_move hT rfl rfl) ?_
      clear hT; intro a hT
      refine Sx.st_take hT rfl rfl rfl rfl (Sx.x_nilCheck hT rfl rfl) ?_
      clear hT; intro a hT
      refine Sx.st_take hT rfl rfl rfl rfl (Sx.x_fieldAddr hT rfl Try.fa56_1 rfl) ?_
      clear hT; intro a hT
      refine Sx.st_run hT rfl rfl rfl rfl (Sx.x_load1 hT rfl Try.fl3 rfl (by first | exact (((H.row 0 rfl).ssn hm).cell (j := 0) G6.len hg0 rfl) | exact (((H.row 0 rfl).ssn hm1).cell (j := 1) G6.len hg rfl) | exact (((H.row 0 rfl).ssn (by simp only [List.length_set]; exact hm1)).cell (j := 2) G6.len (set_at (set_at hg)) rfl))) ?_
      clear hT; intro a hT
      refine Sx.st_take hT rfl rfl rfl rfl ((fun w => Sx.x_add w hT rfl rfl rfl (Sx.wrap64 (by omega)))) ?_
      clear hT; intro a hT
      refine Sx.st_take hT rfl rfl rfl rfl (Sx.x_nilCheck hT rfl rfl) ?_
      clear hT; intro a hT
      refine Sx.st_take hT rfl rfl rfl rfl (Sx.x_fieldAddr hT rfl Try.fa56_1 rfl) ?_
      clear hT; intro a hT
      refine Sx.st_act hT rfl rfl rfl (Sx.x_storeRowF (k := m1 - 1) (j := 1) (enc := G6.cells) (xs := L1) (r := g) (r' := { g with keys := g.keys + 1 }) hT rfl Try.ti3 rfl rfl rfl G6.len (H.row 0 rfl) hg (by first | exact hm1 | (simp only [List.length_set]; exact hm1)) (by decide) rfl) ?_
      rintro w5 ⟨hr, E, _⟩
      replace H := H.setR 0 rfl hr E (fun _ hk => .inl hk) rfl; clear hr E
      replace hT := hT.keep [10, 5, 6, 9, 7, 8, 14, 13, 12, 11, 4, 0, 1] rfl
      refine Sx.ser_nil ?_
      refine Sx.then_normal (hK14 _ _ ?_)
      clear hK14
      refine wp_seq_k fun K15 hK15 => ?_
      -- region 12 (view.go:82)
      refine Sx.wp_text [(0, .take), (1, .take), (2, .run), (3, .take)] rfl ?_
      refine Sx.st_take hT rfl rfl rfl rfl (Sx.x_fieldAddr hT rfl Try.fa69_1 rfl) ?_
      clear hT; intro a hT
      refine Sx.st_take hT rfl rfl rfl rfl (Sx.x_fieldAddr hT rfl Try.fa48_0 rfl) ?_
      clear hT; intro a hT
      refine Sx.st_run hT rfl rfl rfl rfl (Sx.x_load1 hT rfl Try.fl3 rfl ((H.blk 2 rfl).nth rfl)) ?_
      clear hT; intro a hT
      refine Sx.st_take hT rfl rfl rfl rfl ((fun w => Sx.x_eq w hT rfl rfl rfl)) ?_
      clear hT; intro a hT
      replace hT := hT.keep [59, 10, 5, 6, 9, 7, 8, 14, 13, 12, 11, 4, 0, 1] rfl
      refine Sx.ser_nil ?_
      refine Sx.then_normal (hK15 _ _ ?_)
      clear hK15
      -- cond 2
      refine Sx.wp_if hT rfl (fun hc16 => ?_) (fun hc16 => ?_)
      · try simp only [decide_eq_true_eq, decide_eq_false_iff_not, Bool.not_eq_true', Bool.not_eq_false', Bool.not_eq_true, Bool.not_eq_false, Bool.and_eq_true, Bool.or_eq_false_iff, beq_iff_eq, bne_iff_ne, Int.not_lt, Int.not_le, ne_eq] at hc16
        have hk1 : o.v.k = 1 := by omega
        refine wp_seq_k fun K17 hK17 => ?_
        -- region 13 (view.go:83)
        refine Sx.wp_text [(0, .take), (1, .take), (2, .take), (3, .run), (4, .run), (5, .run), (6, .take)] rfl ?_
        refine Sx.st_take hT rfl rfl rfl rfl (Sx.x_move hT rfl rfl) ?_
        clear hT; intro a hT
        refine Sx.st_take hT rfl rfl rfl rfl (Sx.x_fieldAddr hT rfl Try.fa69_1 rfl) ?_
        clear hT; intro a hT
        refine Sx.st_take hT rfl rfl rfl rfl (Sx.x_fieldAddr hT rfl Try.fa48_1 rfl) ?_
        clear hT; intro a hT
        refine Sx.st_run hT rfl rfl rfl rfl (Sx.x_load1 hT rfl Try.fl46 rfl ((H.blk 2 rfl).nth rfl)) ?_
        clear hT; intro a hT
        refine Sx.st_eff hT rfl rfl rfl rfl (Sx.y_slice1 hT rfl Try.underlying101 Try.ti46 rfl rfl rfl rfl rfl rfl _) ?_
        clear hT; rintro _ w6 ⟨b2, rfl, N⟩ a hT
        replace H := H.new N; clear N
        refine Sx.st_eff hT rfl rfl rfl rfl (Sx.x_append hT rfl rfl Try.underlying101 Try.ti46 rfl (by decide) rfl rfl (H.row 2 rfl) ((H.blk 0 rfl).sv1 rfl) (by simp [Value.oneCell']) (fun h => by cases h) (by unfold maxLen; omega) (by omega)) ?_
        rintro _ w7 ⟨ad7, c7, rfl, hr, E, hown, -⟩
        clear hT; intro a hT
        replace H := H.setR 2 rfl hr E hown rfl; clear hr E hown
        rw [tk_f] at H
        rw [show n1.length + 1 = (n1 ++ [o.v.num]).length from by simp] at H hT
        refine Sx.st_take hT rfl rfl rfl rfl (Sx.x_assign hT rfl rfl) ?_
        clear hT; intro a hT
        replace hT := hT.keep [6, 59, 10, 5, 9, 7, 8, 14, 13, 12, 11, 4, 0, 1] rfl
        refine Sx.ser_nil ?_
        refine Sx.then_normal (hK17 _ _ ?_)
        clear hK17
        refine wp_seq_k fun K18 hK18 => ?_
        -- region 14 (view.go:84)
        refine Sx.wp_text [(0, .take), (1, .take), (2, .take), (3, .run), (4, .take), (5, .take), (6, .run), (7, .run)] rfl ?_
        refine Sx.st_take hT rfl rfl rfl rfl (Sx.x_move hT rfl rfl) ?_
        clear hT; intro a hT
        refine Sx.st_take hT rfl rfl rfl rfl (Sx.x_fieldAddr hT rfl Try.fa69_1 rfl) ?_
        clear hT; intro a hT
        refine Sx.st_take hT rfl rfl rfl rfl (Sx.x_fieldAddr hT rfl Try.fa48_1 rfl) ?_
        clear hT; intro a hT
        refine Sx.st_run hT rfl rfl rfl rfl (Sx.x_load1 hT rfl Try.fl46 rfl ((H.blk 3 rfl).nth rfl)) ?_
        clear hT; intro a hT
        refine Sx.st_take hT rfl rfl rfl rfl (Sx.x_fieldAddr hT rfl Try.fa69_1 rfl) ?_
        clear hT; intro a hT
        refine Sx.st_take hT rfl rfl rfl rfl (Sx.x_fieldAddr hT rfl Try.fa48_1 rfl) ?_
        clear hT; intro a hT
        refine Sx.st_run hT rfl rfl rfl rfl (Sx.x_load1 hT rfl Try.fl46 rfl ((H.blk 3 rfl).nth rfl)) ?_
        clear hT; intro a hT
        refine Sx.st_call hT rfl rfl rfl rfl rfl Try.can46 rfl (Ends_calls (k := m1 - 1) (L1.set (m1 - 1) { g with keys := g.keys + 1 }) o.v.num o.v.num (H.pre [1] rfl rfl) (set_at hg) (by rw [List.length_set]; exact hm1)) ?_
        rintro _ w8 ⟨rfl, K⟩
        refine ⟨_, rfl, ?_⟩
        clear hT; intro a hT
        replace H := H.back [1] [0, 2, 3] rfl rfl rfl K rfl; clear K
        replace hT := hT.keep [6, 59, 10, 5, 9, 7, 8, 14, 13, 12, 11, 4, 0, 1] rfl
        refine Sx.ser_nil ?_
        refine Sx.then_normal (hK18 _ _ ?_)
        clear hK18
        refine wp_seq_k fun K19 hK19 => ?_
        -- region 15 (view.go:85)
        refine Sx.wp_text [(0, .take), (1, .take), (2, .take), (3, .run), (4, .take), (5, .take), (6, .take), (7, .run)] rfl ?_
        refine Sx.st_take hT rfl rfl rfl rfl (Sx.x_move hT rfl rfl) ?_
        clear hT; intro a hT
        refine Sx.st_take hT rfl rfl rfl rfl (Sx.x_nilCheck hT rfl rfl) ?_
        clear hT; intro a hT
        refine Sx.st_take hT rfl rfl rfl rfl (Sx.x_fieldAddr hT rfl Try.fa56_2 rfl) ?_
        clear hT; intro a hT
        refine Sx.st_run hT rfl rfl rfl rfl (Sx.x_load1 hT rfl Try.fl3 rfl (by first | exact (((H.row 0 rfl).ssn hm).cell (j := 0) G6.len hg0 rfl) | exact (((H.row 0 rfl).ssn hm1).cell (j := 1) G6.len hg rfl) | exact (((H.row 0 rfl).ssn (by simp only [List.length_set]; exact hm1)).cell (j := 2) G6.len (set_at (set_at hg)) rfl))) ?_
        clear hT; intro a hT
        refine Sx.st_take hT rfl rfl rfl rfl ((fun w => Sx.x_add w hT rfl rfl rfl (Sx.wrap64 (by omega)))) ?_
        clear hT; intro a hT
        refine Sx.st_take hT rfl rfl rfl rfl (Sx.x_nilCheck hT rfl rfl) ?_
        clear hT; intro a hT
        refine Sx.st_take hT rfl rfl rfl rfl (Sx.x_fieldAddr hT rfl Try.fa56_2 rfl) ?_
        clear hT; intro a hT
        refine Sx.st_act hT rfl rfl rfl (Sx.x_storeRowF (k := m1 - 1) (j := 2) (enc := G6.cells) (xs := ((L1.set (m1 - 1) { g with keys := g.keys + 1 }).set (m1 - 1) (endsG { g with keys := g.keys + 1 } o.v.num o.v.num))) (r := (endsG { g with keys := g.keys + 1 } o.v.num o.v.num)) (r' := { (endsG { g with keys := g.keys + 1 } o.v.num o.v.num) with nums := (endsG { g with keys := g.keys + 1 } o.v.num o.v.num).nums + 1 }) hT rfl Try.ti3 rfl rfl rfl G6.len (H.row 0 rfl) (set_at (set_at hg)) (by first | exact hm1 | (simp only [List.length_set]; exact hm1)) (by decide) rfl) ?_
        rintro w9 ⟨hr, E, _⟩
        replace H := H.setR 0 rfl hr E (fun _ hk => .inl hk) rfl; clear hr E
        replace hT := hT.keep [6, 59, 10, 5, 9, 7, 8, 14, 13, 12, 11, 4, 0, 1] rfl
        refine Sx.ser_nil ?_
        refine Sx.then_normal (hK19 _ _ ?_)
        clear hK19
        -- region 16 (view.go:86)
        refine Sx.wp_text [(0, .take), (1, .take), (2, .run), (3, .take), (4, .take), (5, .run)] rfl ?_
        refine Sx.st_take hT rfl rfl rfl rfl (Sx.x_move hT rfl rfl) ?_
        clear hT; intro a hT
        refine Sx.st_take hT rfl rfl rfl rfl (Sx.x_move hT rfl rfl) ?_
        clear hT; intro a hT
        refine Sx.st_call hT rfl rfl rfl rfl rfl Try.can47 rfl (Sum_calls (n1 ++ [o.v.num]) ((H.row 2 rfl).ssn rfl) (by simp only [List.length_append, List.length_cons, List.length_nil]; omega)) ?_
        rintro _ w10 ⟨rfl, E⟩
        refine ⟨_, rfl, ?_⟩
        clear hT; intro a hT
        replace H := H.pure E; clear E
        refine Sx.st_take hT rfl rfl rfl rfl (Sx.x_nilCheck hT rfl rfl) ?_
        clear hT; intro a hT
        refine Sx.st_take hT rfl rfl rfl rfl (Sx.x_fieldAddr hT rfl Try.fa56_3 rfl) ?_
        clear hT; intro a hT
        refine Sx.st_act hT rfl rfl rfl (Sx.x_storeRowF (k := m1 - 1) (j := 3) (enc := G6.cells) (xs := (((L1.set (m1 - 1) { g with keys := g.keys + 1 }).set (m1 - 1) (endsG { g with keys := g.keys + 1 } o.v.num o.v.num)).set (m1 - 1) { (endsG { g with keys := g.keys + 1 } o.v.num o.v.num) with nums := (endsG { g with keys := g.keys + 1 } o.v.num o.v.num).nums + 1 })) (r := { (endsG { g with keys := g.keys + 1 } o.v.num o.v.num) with nums := (endsG { g with keys := g.keys + 1 } o.v.num o.v.num).nums + 1 }) (r' := { (endsG { g with keys := g.keys + 1 } o.v.num o.v.num) with nums := (endsG { g with keys := g.keys + 1 } o.v.num o.v.num).nums + 1, sum := fsum (n1 ++ [o.v.num]) }) hT rfl Try.ti46 rfl rfl rfl G6.len (H.row 0 rfl) (set_at (set_at (set_at hg))) (by first | exact hm1 | (simp only [List.length_set]; exact hm1)) (by decide) rfl) ?_
        rintro w11 ⟨hr, E, _⟩
        replace H := H.setR 0 rfl hr E (fun _ hk => .inl hk) rfl; clear hr E
        replace hT := hT.keep [6, 59, 10, 5, 9, 7, 8, 14, 13, 12, 11, 4, 0, 1] rfl
        refine Sx.ser_nil ?_
        refine Sx.block_normal ?_
        refine Sx.then_normal (hK9 _ _ ?_)
        clear hK9
        -- region 17 (view.go:74)
        refine Sx.wp_text [(0, .take), (1, .take)] rfl ?_
        refine Sx.st_take hT rfl rfl rfl rfl ((fun w => Sx.x_add w hT rfl rfl rfl (Sx.wrap64 (by omega)))) ?_
        clear hT; intro a hT
        refine Sx.st_take hT rfl rfl rfl rfl (Sx.x_move hT rfl rfl) ?_
        clear hT; intro a hT
        replace hT := hT.keep [13, 6, 59, 10, 5, 9, 7, 8, 14, 12, 11, 4, 0, 1] rfl
        refine Sx.ser_nil ?_
        refine Sx.then_normal ?_
        try simp only [List.set_set] at H
        have hup : updG g o.v (n1 ++ [o.v.num]) = { (endsG { g with keys := g.keys + 1 } o.v.num o.v.num) with nums := (endsG { g with keys := g.keys + 1 } o.v.num o.v.num).nums + 1, sum := fsum (n1 ++ [o.v.num]) } := by
          unfold updG
          rw [if_pos hk1, hge2]
        rw [← hup] at H
        have hfin : (L1.set (m1 - 1) (updG g o.v (n1 ++ [o.v.num])), (n1 ++ [o.v.num])) = gfold cut (l.take (k + 1)) := by
          rw [gfold_snoc ho, ← hfold, gst_eq h1 (by rw [← hm1]; exact hg), if_pos hk1, hm1]
        exact ⟨(k + 1, L1.set (m1 - 1) (updG g o.v (n1 ++ [o.v.num])), m1, (n1 ++ [o.v.num]), ad4, c4, ad7, c7), ⟨by show k + 1 ≤ _; omega, hfin, by show m1 = List.length (List.set _ _ _); rw [List.length_set]; exact hm1, gbound_set hb1 hg, fun _ h9 => (by have h8 := congrArg List.length h9; simp only [List.length_set, List.length_nil] at h8; omega), fun h9 => absurd h9 (Nat.succ_ne_zero k), by show m1 ≤ _; omega, by show List.length _ ≤ _; simp only [List.length_append, List.length_cons, List.length_nil]; omega⟩, (hT.keep [13, 5, 6, 12, 11, 4, 0, 1] rfl), (H.keep [0, 2] rfl rfl), by show _ - (k + 1) < _ - k; omega⟩
      · try simp only [decide_eq_true_eq, decide_eq_false_iff_not, Bool.not_eq_true', Bool.not_eq_false', Bool.not_eq_true, Bool.not_eq_false, Bool.and_eq_true, Bool.or_eq_false_iff, beq_iff_eq, bne_iff_ne, Int.not_lt, Int.not_le, ne_eq] at hc16
        have hk1 : ¬ o.v.k = 1 := by omega
        refine wp_skip ?_
        refine Sx.block_normal ?_
        refine Sx.then_normal (hK9 _ _ ?_)
        clear hK9
        -- region 17 (view.go:74)
        refine Sx.wp_text [(0, .take), (1, .take)] rfl ?_
        refine Sx.st_take hT rfl rfl rfl rfl ((fun w => Sx.x_add w hT rfl rfl rfl (Sx.wrap64 (by omega)))) ?_
        clear hT; intro a hT
        refine Sx.st_take hT rfl rfl rfl rfl (Sx.x_move hT rfl rfl) ?_
        clear hT; intro a hT
        replace hT := hT.keep [13, 59, 10, 5, 6, 9, 7, 8, 14, 12, 11, 4, 0, 1] rfl
        refine Sx.ser_nil ?_
        refine Sx.then_normal ?_
        try simp only [List.set_set] at H
        have hup : updG g o.v n1 = { g with keys := g.keys + 1 } := by
          unfold updG
          rw [if_neg hk1]
        rw [← hup] at H
        have hfin : (L1.set (m1 - 1) (updG g o.v n1), n1) = gfold cut (l.take (k + 1)) := by
          rw [gfold_snoc ho, ← hfold, gst_eq h1 (by rw [← hm1]; exact hg), if_neg hk1, hm1]
        exact ⟨(k + 1, L1.set (m1 - 1) (updG g o.v n1), m1, n1, ad4, c4, ad5, c5), ⟨by show k + 1 ≤ _; omega, hfin, by show m1 = List.length (List.set _ _ _); rw [List.length_set]; exact hm1, gbound_set hb1 hg, fun _ h9 => (by have h8 := congrArg List.length h9; simp only [List.length_set, List.length_nil] at h8; omega), fun h9 => absurd h9 (Nat.succ_ne_zero k), by show m1 ≤ _; omega, by show List.length _ ≤ _; omega⟩, (hT.keep [13, 5, 6, 12, 11, 4, 0, 1] rfl), (H.keep [0, 1] rfl rfl), by show _ - (k + 1) < _ - k; omega⟩
    · clear hK12; intro hJK12
      refine wp_seq_k fun K20 hK20 => ?_
      -- region 7 (view.go:76)
      refine Sx.wp_text [(0, .take), (1, .take), (2, .take), (3, .take), (4, .take), (5, .take), (6, .take), (7, .take), (8, .take), (9, .run), (10, .take), (11, .take), (12, .take)] rfl ?_
      refine Sx.st_take hT rfl rfl rfl rfl (Sx.x_move hT rfl rfl) ?_
      clear hT; intro a hT
      refine Sx.st_take hT rfl rfl rfl rfl ((fun w => Sx.x_eq w hT rfl rfl rfl)) ?_
      clear hT; intro a hT
      refine Sx.st_take hT rfl rfl rfl rfl (Sx.x_move hT rfl rfl) ?_
      clear hT; intro a hT
      -- guard (7, 2)
      refine Sx.Sl.two hT 28 rfl (fun hc21 hT => ?_) (fun hc21 hT => ?_)
      · try simp only [decide_eq_true_eq, decide_eq_false_iff_not, Bool.not_eq_true', Bool.not_eq_false', Bool.not_eq_true, Bool.not_eq_false, Bool.and_eq_true, Bool.or_eq_false_iff, beq_iff_eq, bne_iff_ne, Int.not_lt, Int.not_le, ne_eq] at hc21
        have hk0 : k = 0 := by omega
        refine Sx.st_skip hT rfl rfl rfl rfl ?_
        clear hT; intro a hT
        refine Sx.st_skip hT rfl rfl rfl rfl ?_
        clear hT; intro a hT
        refine Sx.st_skip hT rfl rfl rfl rfl ?_
        clear hT; intro a hT
        refine Sx.st_skip hT rfl rfl rfl rfl ?_
        clear hT; intro a hT
        refine Sx.st_skip hT rfl rfl rfl rfl ?_
        clear hT; intro a hT
        refine Sx.st_skip hT rfl rfl rfl rfl ?_
        clear hT; intro a hT
        refine Sx.st_runskip hT rfl rfl rfl rfl ?_
        clear hT; intro a hT
        refine Sx.st_skip hT rfl rfl rfl rfl ?_
        clear hT; intro a hT
        refine Sx.st_skip hT rfl rfl rfl rfl ?_
        clear hT; intro a hT
        refine Sx.st_take hT rfl rfl rfl rfl (Sx.x_pick_t hT rfl rfl rfl) ?_
        clear hT; intro a hT
        replace hT := hT.keep [38, 9, 7, 8, 14, 13, 5, 6, 12, 11, 4, 0, 1] rfl
        refine Sx.ser_nil ?_
        refine Sx.then_normal (hK20 _ _ ?_)
        clear hK20
        refine Sx.wp_if hT rfl (fun _ => ?_) (fun h => by cases h)
        have hnew : s1F (L, ns) (o.key.take cut) = (L ++ [g6new (o.key.take cut)], []) := s1_new (.inl (hLe hk0))
        refine wp_seq_k fun K22 hK22 => ?_
        -- region 8 (view.go:77)
        refine Sx.wp_text [(0, .take), (1, .take), (2, .take), (3, .run), (4, .run), (5, .take)] rfl ?_
        refine Sx.st_take hT rfl rfl rfl rfl (Sx.x_move hT rfl rfl) ?_
        clear hT; intro a hT
        refine Sx.st_take hT rfl rfl rfl rfl (Sx.x_move hT rfl rfl) ?_
        clear hT; intro a hT
        refine Sx.st_take hT rfl rfl rfl rfl (Sx.x_bld hT rfl Try.bld56 rfl rfl) ?_
        clear hT; intro a hT
        refine Sx.st_eff hT rfl rfl rfl rfl (Sx.y_slice1 hT rfl Try.underlying51 Try.ti56 rfl rfl rfl rfl rfl rfl _) ?_
        clear hT; rintro _ w12 ⟨b3, rfl, N⟩ a hT
        replace H := H.new N; clear N
        refine Sx.st_eff hT rfl rfl rfl rfl (Sx.x_append hT rfl rfl Try.underlying51 Try.ti56 rfl (by decide) rfl rfl (H.row 2 rfl) ((H.blk 0 rfl).sv1 rfl) (by simp [Value.oneCell']) (fun h => by cases h) (by unfold maxLen; omega) (by omega)) ?_
        rintro _ w13 ⟨ad13, c13, rfl, hr, E, hown, -⟩
        clear hT; intro a hT
        replace H := H.setR 2 rfl hr E hown rfl; clear hr E hown
        rw [tk_g] at H
        refine Sx.st_take hT rfl rfl rfl rfl (Sx.x_assign hT rfl rfl) ?_
        clear hT; intro a hT
        replace hT := hT.keep [5, 38, 9, 7, 8, 14, 13, 6, 12, 11, 4, 0, 1] rfl
        refine Sx.ser_nil ?_
        refine Sx.then_normal (hK22 _ _ ?_)
        clear hK22
        -- region 9 (view.go:78)
        replace H := H.nilR 46 1
        refine Sx.wp_text [(0, .take)] rfl ?_
        refine Sx.st_take hT rfl rfl rfl rfl (Sx.x_assign hT rfl rfl) ?_
        clear hT; intro a hT
        replace hT := hT.keep [6, 5, 38, 9, 7, 8, 14, 13, 12, 11, 4, 0, 1] rfl
        refine Sx.ser_nil ?_
        exact Sx.then_normal (hJK12 (L ++ [g6new (o.key.take cut)], m + 1, [], ad13, c13, none, 0) _ _ ⟨hnew.symm, by show m + 1 = _; simp; exact hm, by show m + 1 ≤ _; omega, Nat.zero_le _, Nat.succ_pos _⟩ (hT.keep [5, 6, 9, 7, 8, 14, 13, 12, 11, 4, 0, 1] rfl) (H.keep [3, 0, 2] rfl rfl))
      · try simp only [decide_eq_true_eq, decide_eq_false_iff_not, Bool.not_eq_true', Bool.not_eq_false', Bool.not_eq_true, Bool.not_eq_false, Bool.and_eq_true, Bool.or_eq_false_iff, beq_iff_eq, bne_iff_ne, Int.not_lt, Int.not_le, ne_eq] at hc21
        have hk0 : 0 < k := by omega
        have hmp : 0 < m := by rw [hm]; exact List.length_pos_iff.2 (hLn hk0)
        obtain ⟨g0, hg0⟩ : ∃ o, L[m - 1]? = some o := ⟨_, List.getElem?_eq_getElem (by omega)⟩
        refine Sx.st_take hT rfl rfl rfl rfl (Sx.x_move hT rfl rfl) ?_
        clear hT; intro a hT
        refine Sx.st_take hT rfl rfl rfl rfl (Sx.x_move hT rfl rfl) ?_
        clear hT; intro a hT
        refine Sx.st_take hT rfl rfl rfl rfl (Sx.x_len_slice hT rfl rfl Try.underlying51 rfl) ?_
        clear hT; intro a hT
        refine Sx.st_take hT rfl rfl rfl rfl ((fun w => Sx.x_sub w hT rfl rfl rfl (Sx.wrap64 (by omega)))) ?_
        clear hT; intro a hT
        refine Sx.st_take hT rfl rfl rfl rfl (Sx.x_index (k := m - 1) hT rfl Try.underlying51 Try.ti56 (H.row 1 rfl).sv rfl rfl (by first | rfl | omega) (by omega)) ?_
        clear hT; intro a hT
        refine Sx.st_take hT rfl rfl rfl rfl (Sx.x_fieldAddr hT rfl Try.fa56_0 rfl) ?_
        clear hT; intro a hT
        refine Sx.st_run hT rfl rfl rfl rfl (Sx.x_load1 hT rfl Try.fl9 rfl (by first | exact (((H.row 1 rfl).ssn hm).cell (j := 0) G6.len hg0 rfl) | exact (((H.row 1 rfl).ssn hm1).cell (j := 1) G6.len hg rfl) | exact (((H.row 1 rfl).ssn (by simp only [List.length_set]; exact hm1)).cell (j := 2) G6.len (set_at (set_at hg)) rfl))) ?_
        clear hT; intro a hT
        refine Sx.st_take hT rfl rfl rfl rfl (Sx.x_move hT rfl rfl) ?_
        clear hT; intro a hT
        refine Sx.st_take hT rfl rfl rfl rfl ((fun w => Sx.x_strne w hT rfl rfl rfl)) ?_
        clear hT; intro a hT
        refine Sx.st_take hT rfl rfl rfl rfl (Sx.x_pick_f hT rfl rfl rfl) ?_
        clear hT; intro a hT
        replace hT := hT.keep [38, 9, 7, 8, 14, 13, 5, 6, 12, 11, 4, 0, 1] rfl
        refine Sx.ser_nil ?_
        refine Sx.then_normal (hK20 _ _ ?_)
        clear hK20
        -- cond 1
        refine Sx.wp_if hT rfl (fun hc23 => ?_) (fun hc23 => ?_)
        · try simp only [decide_eq_true_eq, decide_eq_false_iff_not, Bool.not_eq_true', Bool.not_eq_false', Bool.not_eq_true, Bool.not_eq_false, Bool.and_eq_true, Bool.or_eq_false_iff, beq_iff_eq, bne_iff_ne, Int.not_lt, Int.not_le, ne_eq] at hc23
          have hnew : s1F (L, ns) (o.key.take cut) = (L ++ [g6new (o.key.take cut)], []) := s1_new (.inr ⟨g0, by rw [← hm]; exact hg0, hc23⟩)
          refine wp_seq_k fun K24 hK24 => ?_
          -- region 8 (view.go:77)
          refine Sx.wp_text [(0, .take), (1, .take), (2, .take), (3, .run), (4, .run), (5, .take)] rfl ?_
          refine Sx.st_take hT rfl rfl rfl rfl (Sx.x_move hT rfl rfl) ?_
          clear hT; intro a hT
          refine Sx.st_take hT rfl rfl rfl rfl (Sx.x_move hT rfl rfl) ?_
          clear hT; intro a hT
          refine Sx.st_take hT rfl rfl rfl rfl (Sx.x_bld hT rfl Try.bld56 rfl rfl) ?_
          clear hT; intro a hT
          refine Sx.st_eff hT rfl rfl rfl rfl (Sx.y_slice1 hT rfl Try.underlying51 Try.ti56 rfl rfl rfl rfl rfl rfl _) ?_
          clear hT; rintro _ w14 ⟨b4, rfl, N⟩ a hT
          replace H := H.new N; clear N
          refine Sx.st_eff hT rfl rfl rfl rfl (Sx.x_append hT rfl rfl Try.underlying51 Try.ti56 rfl (by decide) rfl rfl (H.row 2 rfl) ((H.blk 0 rfl).sv1 rfl) (by simp [Value.oneCell']) (fun h => by cases h) (by unfold maxLen; omega) (by omega)) ?_
          rintro _ w15 ⟨ad15, c15, rfl, hr, E, hown, -⟩
          clear hT; intro a hT
          replace H := H.setR 2 rfl hr E hown rfl; clear hr E hown
          rw [tk_g] at H
          refine Sx.st_take hT rfl rfl rfl rfl (Sx.x_assign hT rfl rfl) ?_
          clear hT; intro a hT
          replace hT := hT.keep [5, 38, 9, 7, 8, 14, 13, 6, 12, 11, 4, 0, 1] rfl
          refine Sx.ser_nil ?_
          refine Sx.then_normal (hK24 _ _ ?_)
          clear hK24
          -- region 9 (view.go:78)
          replace H := H.nilR 46 1
          refine Sx.wp_text [(0, .take)] rfl ?_
          refine Sx.st_take hT rfl rfl rfl rfl (Sx.x_assign hT rfl rfl) ?_
          clear hT; intro a hT
          replace hT := hT.keep [6, 5, 38, 9, 7, 8, 14, 13, 12, 11, 4, 0, 1] rfl
          refine Sx.ser_nil ?_
          exact Sx.then_normal (hJK12 (L ++ [g6new (o.key.take cut)], m + 1, [], ad15, c15, none, 0) _ _ ⟨hnew.symm, by show m + 1 = _; simp; exact hm, by show m + 1 ≤ _; omega, Nat.zero_le _, Nat.succ_pos _⟩ (hT.keep [5, 6, 9, 7, 8, 14, 13, 12, 11, 4, 0, 1] rfl) (H.keep [3, 0, 2] rfl rfl))
        · try simp only [decide_eq_true_eq, decide_eq_false_iff_not, Bool.not_eq_true', Bool.not_eq_false', Bool.not_eq_true, Bool.not_eq_false, Bool.and_eq_true, Bool.or_eq_false_iff, beq_iff_eq, bne_iff_ne, Int.not_lt, Int.not_le, ne_eq] at hc23
          have hsame : s1F (L, ns) (o.key.take cut) = (L, ns) := s1_same (by rw [← hm]; exact hg0) hc23
          refine wp_skip ?_
          exact Sx.then_normal (hJK12 (L, m, ns, ad2, c2, ad3, c3) _ _ ⟨hsame.symm, hm, by show m ≤ _; omega, hnk, hmp⟩ (hT.keep [5, 6, 9, 7, 8, 14, 13, 12, 11, 4, 0, 1] rfl) (H.keep [1, 2, 0] rfl rfl))
  · try simp only [decide_eq_true_eq, decide_eq_false_iff_not, Bool.not_eq_true', Bool.not_eq_false', Bool.not_eq_true, Bool.not_eq_false, Bool.and_eq_true, Bool.or_eq_false_iff, beq_iff_eq, bne_iff_ne, Int.not_lt, Int.not_le, ne_eq] at hc8
    have hkl : k = l.length := by omega
    rw [hkl, List.take_length] at hfold
    refine wp_exit ?_
    refine Sx.then_exit ?_
    refine Sx.then_exit ?_
    refine Sx.block_exit ?_
    refine Sx.then_normal (hK4 _ _ ?_)
    clear hK4
    refine wp_seq_k fun K25 hK25 => ?_
    -- region 18 (view.go:89)
    refine Sx.wp_text [(0, .take), (1, .take)] rfl ?_
    refine Sx.st_take hT rfl rfl rfl rfl (Sx.x_move hT rfl rfl) ?_
    clear hT; intro a hT
    refine Sx.st_take hT rfl rfl rfl rfl (Sx.x_assign hT rfl rfl) ?_
    clear hT; intro a hT
    replace hT := hT.keep [4, 14, 13, 5, 6, 12, 11, 0, 1] rfl
    refine Sx.ser_nil ?_
    refine Sx.then_normal (hK25 _ _ ?_)
    clear hK25
    refine wp_ret ?_
    refine Sx.done1 (fn := Try.f41) hT rfl (.tmp (hT.get 4 _ rfl)) ?_
    have hgf : groupsF cut l = L := by unfold groupsF; rw [← hfold]
    rw [hgf]
    subst hm
    exact ⟨_, _, rfl, H.keep [0] rfl rfl⟩

end Go.Proofs.Ytakjfnckbidbcaa
