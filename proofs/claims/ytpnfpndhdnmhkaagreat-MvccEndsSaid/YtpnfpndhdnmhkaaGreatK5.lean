/- Walks: a store made; transactions resolved. -/
import Derived.Test.YtpnfpndhdnmhkaaGreatK3
set_option linter.unusedSimpArgs false
set_option linter.unusedVariables false
namespace Go.Proofs.YtpnfpndhdnmhkaaGreat
open Sx
theorem Tryz.ti89 : Sx.TI Tryz.prog 89 (.agg #[.map none, .map none, .int .i64 0, .int .i64 0, .int .i64 0]) 5 40 := .mk' (by kernel_rfl)
theorem Tryz.fv36_3 : Sx.FV Tryz.prog 36 3 7 34 := ⟨_, _, Tryz.underlying36, rfl, rfl, rfl⟩
theorem Tryz.bld89 : Sx.Bld Tryz.prog 89 #[.map none, .map none, .int .i64 0, .int .i64 0, .int .i64 0] #[(0, 1), (1, 1), (2, 3)] := ⟨_, _, _, _, Tryz.ti89, rfl, Tryz.underlying89, fun w => by simp [Sx.placesOf, Sx.run_sizeOf Tryz.ti26, Sx.run_sizeOf Tryz.ti86, Sx.run_sizeOf Tryz.ti87]⟩
theorem Tryz.bld92 : Sx.Bld Tryz.prog 92 #[.int .i64 0, .int .i64 0, .int .i64 0, .int .i64 0, .float .f64 0, .string .empty] #[(0, 3), (3, 3)] := ⟨_, _, _, _, Tryz.ti92, rfl, Tryz.underlying92, fun w => by simp [Sx.placesOf, Sx.run_sizeOf Tryz.ti26, Sx.run_sizeOf Tryz.ti51]⟩
theorem Tryz.can10 : Sx.Can Tryz.prog 10 := ⟨_, Tryz.func10, by kernel_rfl, rfl⟩
theorem Tryz.can12 : Sx.Can Tryz.prog 12 := ⟨_, Tryz.func12, by kernel_rfl, rfl⟩
theorem Tryz.can39 : Sx.Can Tryz.prog 39 := ⟨_, Tryz.func39, by kernel_rfl, rfl⟩
/-- slices.Insert of one element. -/
theorem vrInsert (ad : Option Addr) (n c i bv : Nat) (xs vs : List Value) (w : World) (hr : Sx.Row w 92 6 ad n c xs) (hv : Sx.Blk w bv vs 92) (hvl : vs.length = 6) (h1 : ∀ u ∈ xs, u.oneCell' = true) (h1v : ∀ u ∈ vs, u.oneCell' = true)
    (hi : i ≤ n) (hne : ∀ k, Sx.Own ad k → k ≠ bv) (hby : (n + 1) * 56 ≤ 140737488355328) :
    Calls Tryz.prog 39 #[.slice ad n c, .int .i64 i, .slice (some ⟨bv, 0, none⟩) 1 1] w fun r w' => ∃ ad' c', r = .returned (.slice ad' (n + 1) c') ∧ Sx.Row w' 92 6 ad' (n + 1) c' (xs.take (i * 6) ++ vs ++ xs.drop (i * 6)) ∧ Sx.Ext (Sx.Own ad) w w' ∧
      (∀ k, Sx.Own ad' k → Sx.Own ad k ∨ w.heap.size ≤ k) := by
  have hle := hr.le
  have hm := hle.2
  unfold maxLen at hm
  have hxl := hr.len
  refine Sx.calls_into Tryz.func39 rfl Tryz.ntmps39 rfl fun a hT => ?_
  replace hT := hT.keep [0, 1, 2] rfl
  have X : Sx.Ext ((Sx.Own ad)) w w := Sx.Ext.refl _ _
  have X0 : Sx.Ext Sx.No w w := Sx.Ext.refl _ _
  have hbv := hv.lt
  refine wp_seq_k fun K1 hK1 => ?_
  -- region 0 (slices.go:136)
  refine Sx.wp_text [(0, .take)] rfl ?_
  refine Sx.st_take hT rfl rfl rfl rfl (Sx.x_assign hT rfl rfl) ?_
  clear hT; intro a hT
  replace hT := hT.keep [6, 0, 1, 2] rfl
  refine Sx.ser_nil ?_
  refine Sx.then_normal (hK1 _ _ ?_)
  clear hK1
  refine wp_seq_k fun K2 hK2 => ?_
  -- region 1 (slices.go:137)
  refine Sx.wp_text [(0, .take), (1, .take), (2, .take)] rfl ?_
  refine Sx.st_take hT rfl rfl rfl rfl (Sx.x_move hT rfl rfl) ?_
  clear hT; intro a hT
  refine Sx.st_take hT rfl rfl rfl rfl (Sx.x_move hT rfl rfl) ?_
  clear hT; intro a hT
  refine Sx.st_take hT rfl rfl rfl rfl (Sx.x_slice_l hT rfl Tryz.underlying90 Tryz.ti92 rfl rfl rfl hi) ?_
  clear hT; intro a hT
  replace hT := hT.keep [6, 0, 1, 2] rfl
  refine Sx.ser_nil ?_
  refine Sx.then_normal (hK2 _ _ ?_)
  clear hK2
  refine wp_seq_k fun K3 hK3 => ?_
  -- region 2 (slices.go:139)
  refine Sx.wp_text [(0, .take), (1, .take), (2, .take)] rfl ?_
  refine Sx.st_take hT rfl rfl rfl rfl (Sx.x_move hT rfl rfl) ?_
  clear hT; intro a hT
  refine Sx.st_take hT rfl rfl rfl rfl (Sx.x_len_slice hT rfl rfl Tryz.underlying90 rfl) ?_
  clear hT; intro a hT
  refine Sx.st_take hT rfl rfl rfl rfl (Sx.x_assign hT rfl rfl) ?_
  clear hT; intro a hT
  replace hT := hT.keep [7, 6, 0, 1, 2] rfl
  refine Sx.ser_nil ?_
  refine Sx.then_normal (hK3 _ _ ?_)
  clear hK3
  refine wp_seq_k fun K4 hK4 => ?_
  refine wp_seq_k fun K5 hK5 => ?_
  -- region 3 (slices.go:140)
  refine Sx.wp_text [(0, .take), (1, .take)] rfl ?_
  refine Sx.st_take hT rfl rfl rfl rfl (Sx.x_move hT rfl rfl) ?_
  clear hT; intro a hT
  refine Sx.st_take hT rfl rfl rfl rfl ((fun w => Sx.x_eq w hT rfl rfl rfl)) ?_
  clear hT; intro a hT
  replace hT := hT.keep [16, 7, 6, 0, 1, 2] rfl
  refine Sx.ser_nil ?_
  refine Sx.then_normal (hK5 _ _ ?_)
  clear hK5
  -- cond 0
  refine Sx.wp_if hT rfl (fun hc6 => ?_) (fun hc6 => ?_)
  · exfalso
    try simp only [decide_eq_true_eq, decide_eq_false_iff_not, Bool.not_eq_true', Bool.not_eq_false', Bool.not_eq_true, Bool.not_eq_false, Bool.and_eq_true, Bool.or_eq_false_iff, beq_iff_eq, bne_iff_ne, Int.not_lt, Int.not_le, ne_eq] at hc6
    first | omega | simp at hc6
  · try simp only [decide_eq_true_eq, decide_eq_false_iff_not, Bool.not_eq_true', Bool.not_eq_false', Bool.not_eq_true, Bool.not_eq_false, Bool.and_eq_true, Bool.or_eq_false_iff, beq_iff_eq, bne_iff_ne, Int.not_lt, Int.not_le, ne_eq] at hc6
    refine wp_skip ?_
    refine Sx.then_normal (hK4 _ _ ?_)
    clear hK4
    refine wp_seq_k fun K7 hK7 => ?_
    -- region 5 (slices.go:143)
    refine Sx.wp_text [(0, .take), (1, .take), (2, .take)] rfl ?_
    refine Sx.st_take hT rfl rfl rfl rfl (Sx.x_move hT rfl rfl) ?_
    clear hT; intro a hT
    refine Sx.st_take hT rfl rfl rfl rfl (Sx.x_len_slice hT rfl rfl Tryz.underlying90 rfl) ?_
    clear hT; intro a hT
    refine Sx.st_take hT rfl rfl rfl rfl (Sx.x_assign hT rfl rfl) ?_
    clear hT; intro a hT
    replace hT := hT.keep [8, 16, 7, 6, 0, 1, 2] rfl
    refine Sx.ser_nil ?_
    refine Sx.then_normal (hK7 _ _ ?_)
    clear hK7
    refine wp_seq_k fun K8 hK8 => ?_
    refine wp_seq_k fun K9 hK9 => ?_
    -- region 6 (slices.go:144)
    refine Sx.wp_text [(0, .take), (1, .take), (2, .take)] rfl ?_
    refine Sx.st_take hT rfl rfl rfl rfl (Sx.x_move hT rfl rfl) ?_
    clear hT; intro a hT
    refine Sx.st_take hT rfl rfl rfl rfl (Sx.x_move hT rfl rfl) ?_
    clear hT; intro a hT
    refine Sx.st_take hT rfl rfl rfl rfl ((fun w => Sx.x_eq w hT rfl rfl rfl)) ?_
    clear hT; intro a hT
    replace hT := hT.keep [22, 8, 16, 7, 6, 0, 1, 2] rfl
    refine Sx.ser_nil ?_
    refine Sx.then_normal (hK9 _ _ ?_)
    clear hK9
    -- cond 1
    refine Sx.wp_if hT rfl (fun hc10 => ?_) (fun hc10 => ?_)
    · try simp only [decide_eq_true_eq, decide_eq_false_iff_not, Bool.not_eq_true', Bool.not_eq_false', Bool.not_eq_true, Bool.not_eq_false, Bool.and_eq_true, Bool.or_eq_false_iff, beq_iff_eq, bne_iff_ne, Int.not_lt, Int.not_le, ne_eq] at hc10
      refine wp_seq_k fun K11 hK11 => ?_
      -- region 7 (slices.go:145)
      refine Sx.wp_text [(0, .take), (1, .take), (2, .run), (3, .take)] rfl ?_
      refine Sx.st_take hT rfl rfl rfl rfl (Sx.x_move hT rfl rfl) ?_
      clear hT; intro a hT
      refine Sx.st_take hT rfl rfl rfl rfl (Sx.x_move hT rfl rfl) ?_
      clear hT; intro a hT
      refine Sx.st_eff hT rfl rfl rfl rfl (Sx.x_append hT rfl rfl Tryz.underlying90 Tryz.ti92 rfl (by decide) rfl rfl hr (hv.sv1 hvl) h1v (fun h => by cases h) (by unfold maxLen; omega) (by omega)) ?_
      clear hT; rintro _ w1 ⟨ad2, c2, rfl, hr2, E, hown, -⟩ a hT
      replace X := X.same E
      refine Sx.st_take hT rfl rfl rfl rfl (Sx.x_assign hT rfl rfl) ?_
      clear hT; intro a hT
      replace hT := hT.keep [6, 22, 8, 16, 7, 0, 1, 2] rfl
      refine Sx.ser_nil ?_
      refine Sx.then_normal (hK11 _ _ ?_)
      clear hK11
      refine wp_ret ?_
      refine Sx.then_ret ?_
      refine Sx.done1 (fn := Tryz.f39) hT rfl (.tmp (hT.get 6 _ rfl)) ?_
      have hin2 : i = n := by omega
      subst hin2
      rw [List.take_of_length_le (by omega), List.drop_eq_nil_of_le (by omega), List.append_nil]
      exact ⟨_, _, rfl, hr2, X, hown⟩
    · try simp only [decide_eq_true_eq, decide_eq_false_iff_not, Bool.not_eq_true', Bool.not_eq_false', Bool.not_eq_true, Bool.not_eq_false, Bool.and_eq_true, Bool.or_eq_false_iff, beq_iff_eq, bne_iff_ne, Int.not_lt, Int.not_le, ne_eq] at hc10
      refine wp_skip ?_
      refine Sx.then_normal (hK8 _ _ ?_)
      clear hK8
      refine wp_seq_k fun K12 hK12 => ?_
      refine wp_seq_k fun K13 hK13 => ?_
      -- region 8 (slices.go:147)
      refine Sx.wp_text [(0, .take), (1, .take), (2, .take), (3, .take), (4, .take), (5, .take)] rfl ?_
      refine Sx.st_take hT rfl rfl rfl rfl (Sx.x_move hT rfl rfl) ?_
      clear hT; intro a hT
      refine Sx.st_take hT rfl rfl rfl rfl (Sx.x_move hT rfl rfl) ?_
      clear hT; intro a hT
      refine Sx.st_take hT rfl rfl rfl rfl ((fun w => Sx.x_add w hT rfl rfl rfl (Sx.wrap64 (by omega)))) ?_
      clear hT; intro a hT
      refine Sx.st_take hT rfl rfl rfl rfl (Sx.x_move hT rfl rfl) ?_
      clear hT; intro a hT
      refine Sx.st_take hT rfl rfl rfl rfl (Sx.x_cap hT rfl rfl Tryz.underlying90 rfl) ?_
      clear hT; intro a hT
      refine Sx.st_take hT rfl rfl rfl rfl ((fun w => Sx.x_gt w hT rfl rfl rfl)) ?_
      clear hT; intro a hT
      replace hT := hT.keep [31, 22, 8, 16, 7, 6, 0, 1, 2] rfl
      refine Sx.ser_nil ?_
      refine Sx.then_normal (hK13 _ _ ?_)
      clear hK13
      -- cond 2
      refine Sx.wp_if hT rfl (fun hc14 => ?_) (fun hc14 => ?_)
      · try simp only [decide_eq_true_eq, decide_eq_false_iff_not, Bool.not_eq_true', Bool.not_eq_false', Bool.not_eq_true, Bool.not_eq_false, Bool.and_eq_true, Bool.or_eq_false_iff, beq_iff_eq, bne_iff_ne, Int.not_lt, Int.not_le, ne_eq] at hc14
        refine wp_seq_k fun K15 hK15 => ?_
        -- region 9 (slices.go:152)
        refine Sx.wp_text [(0, .take), (1, .take), (2, .take), (3, .take), (4, .take), (5, .take), (6, .take), (7, .take), (8, .run), (9, .take)] rfl ?_
        refine Sx.st_take hT rfl rfl rfl rfl (Sx.x_move hT rfl rfl) ?_
        clear hT; intro a hT
        refine Sx.st_take hT rfl rfl rfl rfl (Sx.x_move hT rfl rfl) ?_
        clear hT; intro a hT
        refine Sx.st_take hT rfl rfl rfl rfl (Sx.x_slice_h hT rfl Tryz.underlying90 Tryz.ti92 rfl rfl rfl (by omega)) ?_
        clear hT; intro a hT
        refine Sx.st_take hT rfl rfl rfl rfl (Sx.x_move hT rfl rfl) ?_
        clear hT; intro a hT
        refine Sx.st_take hT rfl rfl rfl rfl (Sx.x_move hT rfl rfl) ?_
        clear hT; intro a hT
        refine Sx.st_take hT rfl rfl rfl rfl ((fun w => Sx.x_add w hT rfl rfl rfl (Sx.wrap64 (by omega)))) ?_
        clear hT; intro a hT
        refine Sx.st_take hT rfl rfl rfl rfl (Sx.x_move hT rfl rfl) ?_
        clear hT; intro a hT
        refine Sx.st_take hT rfl rfl rfl rfl ((fun w => Sx.x_sub w hT rfl rfl rfl (Sx.wrap64 (by omega)))) ?_
        clear hT; intro a hT
        refine Sx.st_eff hT rfl rfl rfl rfl (Sx.x_append_zeros (k := n + 1 - i) hT rfl rfl Tryz.underlying90 Tryz.underlying3 Tryz.ti92 rfl (by decide) rfl rfl (by omega) (hr.take hi) (by omega) (by omega) (by unfold maxLen; omega) (by omega)) ?_
        clear hT; rintro _ w1 ⟨b2, c2, rfl, hb2, hr2, E⟩ a hT
        replace X := X.step E
        have hq := hr.lt
        replace hr := hr.ext_no E
        replace hv := hv.ext_no E
        have hn2 : i + (n + 1 - i) = n + 1 := by omega
        rw [hn2] at hr2 hT
        have hle2 := hr2.le
        have hm2 := hle2.2
        unfold maxLen at hm2
        refine Sx.st_take hT rfl rfl rfl rfl (Sx.x_assign hT rfl rfl) ?_
        clear hT; intro a hT
        replace hT := hT.keep [9, 31, 22, 8, 16, 7, 6, 0, 1, 2] rfl
        refine Sx.ser_nil ?_
        refine Sx.then_normal (hK15 _ _ ?_)
        clear hK15
        refine wp_seq_k fun K16 hK16 => ?_
        -- region 10 (slices.go:153)
        refine Sx.wp_text [(0, .take), (1, .take), (2, .take), (3, .take), (4, .run)] rfl ?_
        refine Sx.st_take hT rfl rfl rfl rfl (Sx.x_move hT rfl rfl) ?_
        clear hT; intro a hT
        refine Sx.st_take hT rfl rfl rfl rfl (Sx.x_move hT rfl rfl) ?_
        clear hT; intro a hT
        refine Sx.st_take hT rfl rfl rfl rfl (Sx.x_slice_l hT rfl Tryz.underlying90 Tryz.ti92 rfl rfl rfl (by omega)) ?_
        clear hT; intro a hT
        refine Sx.st_take hT rfl rfl rfl rfl (Sx.x_move hT rfl rfl) ?_
        clear hT; intro a hT
        refine Sx.st_eff hT rfl rfl rfl rfl (Sx.x_copy (k := i) (m := n + 1) hT rfl rfl Tryz.underlying90 Tryz.ti92 rfl rfl rfl rfl rfl hr2 (by omega) (hv.sv1 hvl) (fun u hu => h1v u (List.mem_of_mem_take hu))) ?_
        clear hT; rintro _ w2 ⟨rfl, hr3, E, -⟩ a hT
        rw [Sx.Own.one] at E
        replace hv := hv.ext E (by unfold Sx.One; omega)
        replace X := X.fresh E (by omega)
        replace hr := hr.ext E (fun k hk h => by unfold Sx.One at h; have := hq k hk; omega)
        replace hr2 := hr3
        clear hr3
        rw [show Nat.min 1 (n + 1 - i) = 1 from by simp only [Nat.min_def]; split <;> omega, Nat.one_mul] at hr2
        replace hT := hT.keep [9, 31, 22, 8, 16, 7, 6, 0, 1, 2] rfl
        refine Sx.ser_nil ?_
        refine Sx.then_normal (hK16 _ _ ?_)
        clear hK16
        refine wp_seq_k fun K17 hK17 => ?_
        -- region 11 (slices.go:154)
        refine Sx.wp_draws (fun u => Sx.Ext Sx.No u) [(0, .take), (1, .take), (2, .take), (3, .take), (4, .take), (5, .take), (6, .take), (7, .take), (8, .run)] (by kernel_rfl) (by kernel_rfl) (fun u E z => ?_)
        replace X := X.step E
        replace hv := hv.ext_no E
        replace hr := hr.ext_no E
        replace hr2 := hr2.ext_no E
        have hH : Sx.Ext Sx.No u u := Sx.Ext.refl _ _
        refine Sx.st_take hT rfl rfl rfl rfl (Sx.x_move hT rfl rfl) ?_
        clear hT; intro a hT
        refine Sx.st_take hT rfl rfl rfl rfl (Sx.x_move hT rfl rfl) ?_
        clear hT; intro a hT
        refine Sx.st_take hT rfl rfl rfl rfl (Sx.x_move hT rfl rfl) ?_
        clear hT; intro a hT
        refine Sx.st_take hT rfl rfl rfl rfl ((fun w => Sx.x_add w hT rfl rfl rfl (Sx.wrap64 (by omega)))) ?_
        clear hT; intro a hT
        refine Sx.st_take hT rfl rfl rfl rfl (Sx.x_slice_l (p := i + 1) hT rfl Tryz.underlying90 Tryz.ti92 rfl rfl (by omega) (by omega)) ?_
        clear hT; intro a hT
        refine Sx.st_take hT rfl rfl rfl rfl (Sx.x_move hT rfl rfl) ?_
        clear hT; intro a hT
        refine Sx.st_take hT rfl rfl rfl rfl (Sx.x_move hT rfl rfl) ?_
        clear hT; intro a hT
        refine Sx.st_take hT rfl rfl rfl rfl (Sx.x_slice_l hT rfl Tryz.underlying90 Tryz.ti92 rfl rfl rfl hi) ?_
        clear hT; intro a hT
        refine Sx.st_eff hT rfl rfl rfl rfl (Sx.x_copy (k := i + 1) (m := n + 1) hT rfl rfl Tryz.underlying90 Tryz.ti92 rfl rfl rfl rfl rfl hr2 (by omega) (hr.sv.cut (lo := i) (hi := n) hi (Nat.le_refl _) hle.1) (fun u hu => h1 u (List.mem_of_mem_drop (List.mem_of_mem_take (List.mem_of_mem_take hu))))) ?_
        clear hT; rintro _ w3 ⟨rfl, hr3, E2, -⟩ a hT
        rw [Sx.Own.one] at E2
        replace X := X.fresh E2 (by omega)
        replace hr2 := hr3
        replace hv := hv.ext E2 (by unfold Sx.One; omega)
        replace hr := hr.ext E2 (fun k hk h => by unfold Sx.One at h; have := hq k hk; omega)
        clear hr3
        rw [show Nat.min (n - i) (n + 1 - (i + 1)) = n - i from by simp only [Nat.min_def]; split <;> omega, List.take_of_length_le (l := xs.drop (i * 6)) (i := (n - i) * 6) (by rw [List.length_drop, hxl]; omega)] at hr2
        replace hT := hT.keep [9, 31, 22, 8, 16, 7, 6, 0, 1, 2] rfl
        refine Sx.ser_calm ?_
        refine Sx.then_normal (hK17 _ _ ?_)
        clear hK17
        refine wp_seq_k fun K18 hK18 => ?_
        -- region 12 (slices.go:155)
        refine Sx.wp_text [(0, .take), (1, .take)] rfl ?_
        refine Sx.st_take hT rfl rfl rfl rfl (Sx.x_move hT rfl rfl) ?_
        clear hT; intro a hT
        refine Sx.st_take hT rfl rfl rfl rfl (Sx.x_assign hT rfl rfl) ?_
        clear hT; intro a hT
        replace hT := hT.keep [6, 9, 31, 22, 8, 16, 7, 0, 1, 2] rfl
        refine Sx.ser_nil ?_
        refine Sx.then_normal (hK18 _ _ ?_)
        clear hK18
        refine wp_ret ?_
        refine Sx.then_ret ?_
        refine Sx.done1 (fn := Tryz.f39) hT rfl (.tmp (hT.get 6 _ rfl)) ?_
        have hz1 : (Builtin.zeroCells (.agg #[.int .i64 0, .int .i64 0, .int .i64 0, .int .i64 0, .float .f64 0, .string .empty] : Value).cells (n + 1 - i)).toList.length = 6 + (n - i) * 6 := by
          rw [Array.length_toList, size_zeroCells, show (.agg #[.int .i64 0, .int .i64 0, .int .i64 0, .int .i64 0, .float .f64 0, .string .empty] : Value).cells.size = 6 from rfl]; omega
        have hA : (xs.take (i * 6)).length = i * 6 := by rw [List.length_take, hxl]; omega
        have hB : (xs.drop (i * 6)).length = (n - i) * 6 := by rw [List.length_drop, hxl]; omega
        have h9 := Sx.ins_grow hA hvl hB hz1
        simp only [show (i + 1) * 6 = i * 6 + 6 from by omega, show (i + 1 + (n - i)) * 6 = i * 6 + 6 + (n - i) * 6 from by omega] at hr2
        rw [List.take_of_length_le (l := vs) (by omega), List.take_of_length_le (l := xs.drop (i * 6)) (by omega), h9] at hr2
        exact ⟨_, _, rfl, hr2, X, fun k hk => .inr (by rw [Sx.Own.one] at hk; unfold Sx.One at hk; omega)⟩
      · try simp only [decide_eq_true_eq, decide_eq_false_iff_not, Bool.not_eq_true', Bool.not_eq_false', Bool.not_eq_true, Bool.not_eq_false, Bool.and_eq_true, Bool.or_eq_false_iff, beq_iff_eq, bne_iff_ne, Int.not_lt, Int.not_le, ne_eq] at hc14
        refine wp_skip ?_
        refine Sx.then_normal (hK12 _ _ ?_)
        clear hK12
        refine wp_seq_k fun K19 hK19 => ?_
        -- region 13 (slices.go:157)
        refine Sx.wp_text [(0, .take), (1, .take), (2, .take), (3, .take), (4, .take), (5, .take)] rfl ?_
        refine Sx.st_take hT rfl rfl rfl rfl (Sx.x_move hT rfl rfl) ?_
        clear hT; intro a hT
        refine Sx.st_take hT rfl rfl rfl rfl (Sx.x_move hT rfl rfl) ?_
        clear hT; intro a hT
        refine Sx.st_take hT rfl rfl rfl rfl (Sx.x_move hT rfl rfl) ?_
        clear hT; intro a hT
        refine Sx.st_take hT rfl rfl rfl rfl ((fun w => Sx.x_add w hT rfl rfl rfl (Sx.wrap64 (by omega)))) ?_
        clear hT; intro a hT
        refine Sx.st_take hT rfl rfl rfl rfl (Sx.x_slice_h (q := n + 1) hT rfl Tryz.underlying90 Tryz.ti92 rfl rfl rfl (by omega)) ?_
        clear hT; intro a hT
        obtain ⟨ys, hr2⟩ := hr.upto (q := n + 1) (by omega) (by omega)
        have hys : ys.length = 6 := by have := hr2.len; rw [List.length_append, hxl] at this; omega
        obtain ⟨junk, ha, hB, -⟩ := hr2.at_ (by omega)
        refine Sx.st_take hT rfl rfl rfl rfl (Sx.x_assign hT rfl rfl) ?_
        clear hT; intro a hT
        replace hT := hT.keep [0, 31, 22, 8, 16, 7, 6, 1, 2] rfl
        refine Sx.ser_nil ?_
        refine Sx.then_normal (hK19 _ _ ?_)
        clear hK19
        refine wp_seq_k fun K20 hK20 => ?_
        refine wp_seq_k fun K21 hK21 => ?_
        -- region 14 (slices.go:173)
        refine Sx.wp_text [(0, .take), (1, .take), (2, .take), (3, .take), (4, .take), (5, .take), (6, .run), (7, .take)] rfl ?_
        refine Sx.st_take hT rfl rfl rfl rfl (Sx.x_move hT rfl rfl) ?_
        clear hT; intro a hT
        refine Sx.st_take hT rfl rfl rfl rfl (Sx.x_move hT rfl rfl) ?_
        clear hT; intro a hT
        refine Sx.st_take hT rfl rfl rfl rfl (Sx.x_move hT rfl rfl) ?_
        clear hT; intro a hT
        refine Sx.st_take hT rfl rfl rfl rfl (Sx.x_move hT rfl rfl) ?_
        clear hT; intro a hT
        refine Sx.st_take hT rfl rfl rfl rfl ((fun w => Sx.x_add w hT rfl rfl rfl (Sx.wrap64 (by omega)))) ?_
        clear hT; intro a hT
        refine Sx.st_take hT rfl rfl rfl rfl (Sx.x_slice_l (p := i + 1) hT rfl Tryz.underlying90 Tryz.ti92 rfl rfl (by omega) (by omega)) ?_
        clear hT; intro a hT
        refine Sx.st_run hT rfl rfl rfl rfl (Sx.x_callext hT rfl rfl (Sx.run_overlaps (tR := 4) Tryz.func88 (by kernel_rfl) rfl (by kernel_rfl) (by kernel_rfl) Tryz.underlying90 Tryz.ti92 hv hB (fun h => hne (Sx.ab ad) (by rw [ha]; rfl) h.symm) (fun h => by have := congrArg List.length h; simp only [List.length_append, hys, List.length_nil] at this; omega) ⟨_, Sx.cutAt_row ha (by omega)⟩)) ?_
        clear hT; intro a hT
        refine Sx.st_take hT rfl rfl rfl rfl (Sx.x_not hT rfl rfl) ?_
        clear hT; intro a hT
        replace hT := hT.keep [68, 0, 31, 22, 8, 16, 7, 6, 1, 2] rfl
        refine Sx.ser_nil ?_
        refine Sx.then_normal (hK21 _ _ ?_)
        clear hK21
        refine Sx.wp_if hT rfl (fun _ => ?_) (fun h => by cases h)
        refine wp_seq_k fun K22 hK22 => ?_
        -- region 15 (slices.go:178)
        refine Sx.wp_draws (fun u => Sx.Ext Sx.No u) [(0, .take), (1, .take), (2, .take), (3, .take), (4, .take), (5, .take), (6, .take), (7, .take), (8, .run)] (by kernel_rfl) (by kernel_rfl) (fun u E z => ?_)
        replace X := X.step E
        replace hv := hv.ext_no E
        replace hr := hr.ext_no E
        replace hr2 := hr2.ext_no E
        have hH : Sx.Ext Sx.No u u := Sx.Ext.refl _ _
        refine Sx.st_take hT rfl rfl rfl rfl (Sx.x_move hT rfl rfl) ?_
        clear hT; intro a hT
        refine Sx.st_take hT rfl rfl rfl rfl (Sx.x_move hT rfl rfl) ?_
        clear hT; intro a hT
        refine Sx.st_take hT rfl rfl rfl rfl (Sx.x_move hT rfl rfl) ?_
        clear hT; intro a hT
        refine Sx.st_take hT rfl rfl rfl rfl ((fun w => Sx.x_add w hT rfl rfl rfl (Sx.wrap64 (by omega)))) ?_
        clear hT; intro a hT
        refine Sx.st_take hT rfl rfl rfl rfl (Sx.x_slice_l (p := i + 1) hT rfl Tryz.underlying90 Tryz.ti92 rfl rfl (by omega) (by omega)) ?_
        clear hT; intro a hT
        refine Sx.st_take hT rfl rfl rfl rfl (Sx.x_move hT rfl rfl) ?_
        clear hT; intro a hT
        refine Sx.st_take hT rfl rfl rfl rfl (Sx.x_move hT rfl rfl) ?_
        clear hT; intro a hT
        refine Sx.st_take hT rfl rfl rfl rfl (Sx.x_slice_l hT rfl Tryz.underlying90 Tryz.ti92 rfl rfl rfl (by omega)) ?_
        clear hT; intro a hT
        refine Sx.st_eff hT rfl rfl rfl rfl (Sx.x_copy (k := i + 1) (m := n + 1) hT rfl rfl Tryz.underlying90 Tryz.ti92 rfl rfl rfl rfl rfl hr2 (by omega) (hr2.sv.cut (lo := i) (hi := n + 1) (by omega) (Nat.le_refl _) (by omega)) (fun u hu => h1 u (by rw [show Nat.min (n + 1 - i) (n + 1 - (i + 1)) = n - i from by simp only [Nat.min_def]; split <;> omega, List.take_take, Nat.min_eq_left (by omega), List.drop_append_of_le_length (by omega), List.take_append_of_le_length (by rw [List.length_drop]; omega)] at hu; exact List.mem_of_mem_drop (List.mem_of_mem_take hu)))) ?_
        clear hT; rintro _ w1 ⟨rfl, hr3, E2, -⟩ a hT
        have hvb := hv
        replace hv := hv.ext E2 (fun h => hne _ h rfl)
        replace X := X.same E2
        replace hr2 := hr3
        clear hr3
        rw [show Nat.min (n + 1 - i) (n + 1 - (i + 1)) = n - i from by simp only [Nat.min_def]; split <;> omega, List.take_take, Nat.min_eq_left (by omega)] at hr2
        replace hT := hT.keep [68, 0, 31, 22, 8, 16, 7, 6, 1, 2] rfl
        refine Sx.ser_calm ?_
        refine Sx.then_normal (hK22 _ _ ?_)
        clear hK22
        refine wp_seq_k fun K23 hK23 => ?_
        -- region 16 (slices.go:186)
        refine Sx.wp_text [(0, .take), (1, .take), (2, .take), (3, .take), (4, .run)] rfl ?_
        refine Sx.st_take hT rfl rfl rfl rfl (Sx.x_move hT rfl rfl) ?_
        clear hT; intro a hT
        refine Sx.st_take hT rfl rfl rfl rfl (Sx.x_move hT rfl rfl) ?_
        clear hT; intro a hT
        refine Sx.st_take hT rfl rfl rfl rfl (Sx.x_slice_l hT rfl Tryz.underlying90 Tryz.ti92 rfl rfl rfl (by omega)) ?_
        clear hT; intro a hT
        refine Sx.st_take hT rfl rfl rfl rfl (Sx.x_move hT rfl rfl) ?_
        clear hT; intro a hT
        refine Sx.st_eff hT rfl rfl rfl rfl (Sx.x_copy (k := i) (m := n + 1) hT rfl rfl Tryz.underlying90 Tryz.ti92 rfl rfl rfl rfl rfl hr2 (by omega) (hv.sv1 hvl) (fun u hu => h1v u (List.mem_of_mem_take hu))) ?_
        clear hT; rintro _ w2 ⟨rfl, hr3, E3, -⟩ a hT
        replace X := X.same E3
        replace hr2 := hr3
        clear hr3
        rw [show Nat.min 1 (n + 1 - i) = 1 from by simp only [Nat.min_def]; split <;> omega, Nat.one_mul] at hr2
        replace hT := hT.keep [68, 0, 31, 22, 8, 16, 7, 6, 1, 2] rfl
        refine Sx.ser_nil ?_
        refine Sx.then_normal (hK23 _ _ ?_)
        clear hK23
        refine wp_seq_k fun K24 hK24 => ?_
        -- region 17 (slices.go:193)
        refine Sx.wp_text [(0, .take), (1, .take)] rfl ?_
        refine Sx.st_take hT rfl rfl rfl rfl (Sx.x_move hT rfl rfl) ?_
        clear hT; intro a hT
        refine Sx.st_take hT rfl rfl rfl rfl (Sx.x_assign hT rfl rfl) ?_
        clear hT; intro a hT
        replace hT := hT.keep [6, 68, 0, 31, 22, 8, 16, 7, 1, 2] rfl
        refine Sx.ser_nil ?_
        refine Sx.then_normal (hK24 _ _ ?_)
        clear hK24
        refine wp_ret ?_
        refine Sx.then_ret ?_
        refine Sx.done1 (fn := Tryz.f39) hT rfl (.tmp (hT.get 6 _ rfl)) ?_
        have hA : (xs.take (i * 6)).length = i * 6 := by rw [List.length_take, hxl]; omega
        have hB : (xs.drop (i * 6)).length = (n - i) * 6 := by rw [List.length_drop, hxl]; omega
        have h9 := Sx.ins_room hA hvl hB hys
        rw [List.take_append_drop] at h9
        simp only [show (i + 1) * 6 = i * 6 + 6 from by omega, show (i + 1 + (n - i)) * 6 = i * 6 + 6 + (n - i) * 6 from by omega] at hr2
        rw [List.take_of_length_le (l := vs) (by omega), h9] at hr2
        exact ⟨_, _, rfl, hr2, X, fun k hk => .inl hk⟩

theorem ins_cells {L : List Vr} {i : Nat} {x : Vr} (hi : i ≤ L.length) : (L.flatMap Vr.cells).take (i * 6) ++ x.cells ++ (L.flatMap Vr.cells).drop (i * 6) = (L.take i ++ x :: L.drop i).flatMap Vr.cells := by
  have h1 : (L.flatMap Vr.cells).take (i * 6) = (L.take i).flatMap Vr.cells := by
    have h2 : L.flatMap Vr.cells = (L.take i).flatMap Vr.cells ++ (L.drop i).flatMap Vr.cells := by rw [← List.flatMap_append, List.take_append_drop]
    rw [h2, List.take_append_of_le_length (by rw [flat_len Vr.len, List.length_take]; omega), List.take_of_length_le (by rw [flat_len Vr.len, List.length_take]; omega)]
  rw [h1, flat_drop Vr.len, List.flatMap_append, List.flatMap_cons, List.append_assoc]
theorem wld_some {H0 : List Hs} {P0 : List Pn} {low : Stp} {t : Tn} {commit : Bool} {at_ : Stp} (h : wldE ⟨H0.map Hs.p, P0.map Pn.p, low⟩ t commit at_ = 0) : ∃ x9, gtK slit kbn P0 (tb t) = some x9 ∧ ((findF (P0.map Pn.p) t).map Pp.ws).getD [] = x9.ws := by
  rw [find_gp]
  cases hg : gtK slit kbn P0 (tb t) with
  | some x => exact ⟨x, rfl, rfl⟩
  | none =>
    rw [wld_none (by show findF (P0.map Pn.p) t = none; rw [find_gp, hg]; rfl)] at h
    cases h
theorem com_step {H0 : List Hy} {H1 : List Hs} {l : List Wt} {k : Nat} {o : Wt} {at_ : Stp} (ho : l[k]? = some o) (h : H1.map Hs.p = comH H0 (l.take k) at_) (ad : Option Addr) (c : Nat) : (ptK slit Hs.key ⟨o.key, insV ⟨at_, o.v⟩ (gh H1 o.key).vs, ad, c⟩ H1).map Hs.p = comH H0 (l.take (k + 1)) at_ := by
  rw [put_map (κ := Hs.key) (κ' := Hy.key) (f := Hs.p) sO (fun _ => rfl)]
  unfold comH at *
  rw [take_app ho, List.foldl_append, ← h]
  show ptK slit Hy.key ⟨o.key, insV ⟨at_, o.v⟩ (gh H1 o.key).vs⟩ _ = putH (H1.map Hs.p) o.key ⟨at_, o.v⟩
  unfold putH
  rw [vsOf_gh]

theorem New_calls (w : World) : Calls Tryz.prog 10 #[] w fun e w' => ∃ p bk bp, e = .returned (.pointer (some ⟨p, 0, none⟩)) ∧ Hp w No w' [cB p [.map (some bk), .map (some bp), .int .i64 sz0.w, .int .i64 sz0.l, .int .i64 sz0.n] 89, cM Tryz.prog 9 bk (th []), cF 92 6 Hs.rw [], cM Tryz.prog 24 bp (tp []), cF 9 1 Pn.rr [], cF 65 4 Pn.rw []] := by
  refine Sx.calls_into Tryz.func10 rfl Tryz.ntmps10 rfl fun a hT => ?_; replace hT := hT.keep [] rfl; have H : Sx.Hp w (Sx.No) w [] := Sx.Hp.start _ _; refine wp_seq_k fun K1 hK1 => ?_; refine Sx.wp_text [(0, .take)] rfl ?_; refine st_take hT rfl rfl rfl rfl (x_assign hT rfl rfl) ?_; clear hT; intro a hT; replace hT := hT.keep [0] rfl; refine ser_nil ?_; refine Sx.then_normal (hK1 _ _ ?_); clear hK1; refine wp_seq_k fun K2 hK2 => ?_; refine Sx.wp_text [(0, .run), (1, .run), (2, .take), (3, .run), (4, .take)] rfl ?_; refine st_eff hT rfl rfl rfl rfl (x_makeMap 9 hT rfl _) ?_; rintro _ w1 ⟨bm3, rfl, N⟩; clear hT; intro a hT; replace H := H.newM N; clear N; refine st_eff hT rfl rfl rfl rfl (x_makeMap 24 hT rfl _) ?_; rintro _ w2 ⟨bm4, rfl, N⟩; clear hT; intro a hT; replace H := H.newM N; clear N; refine st_take hT rfl rfl rfl rfl (x_bld hT rfl Tryz.bld89 rfl rfl) ?_; clear hT; intro a hT; refine st_eff hT rfl rfl rfl rfl (y_box hT rfl rfl rfl _) ?_; clear hT; rintro _ w3 ⟨b1, rfl, N⟩ a hT; replace H := H.new N; clear N; refine st_take hT rfl rfl rfl rfl (x_assign hT rfl rfl) ?_; clear hT; intro a hT; replace hT := hT.keep [0] rfl; refine ser_nil ?_; refine Sx.then_normal (hK2 _ _ ?_); clear hK2; refine wp_ret ?_; refine Sx.done1 (fn := Tryz.f10) hT rfl (.tmp (hT.get 0 _ rfl)) ?_; exact ⟨_, _, _, rfl, (((H.keep [0, 2, 1] rfl rfl).famNil 65 4 Pn.rw).famNil 9 1 Pn.rr).famNil 92 6 Hs.rw |>.keep [3, 4, 0, 5, 1, 2] rfl rfl⟩

theorem Resolve_calls {S : Nat → Prop} {p bk bp : Nat} {low : Stp} {H0 : List Hs} {P0 : List Pn} (t : Tn) (ht : t.wf) (commit : Bool) (at_ : Stp) {w : World} (H : Hp w S w [cB p [.map (some bk), .map (some bp), .int .i64 low.w, .int .i64 low.l, .int .i64 low.n] 89, cM Tryz.prog 9 bk (th H0), cF 92 6 Hs.rw H0, cM Tryz.prog 24 bp (tp P0), cF 9 1 Pn.rr P0, cF 65 4 Pn.rw P0]) {n9 : Nat} (hB : Bd n9 H0 P0) (hn9 : n9 + 16 ≤ 1000000) : Calls Tryz.prog 12 #[.pointer (some ⟨p, 0, none⟩), .agg #[.int .i64 t.co, .int .i64 t.li, .int .i64 t.sq], .bool commit, .agg #[.int .i64 at_.w, .int .i64 at_.l, .int .i64 at_.n]] w fun e w' => ∃ H' P', e = .returned (.int .i64 (wldE ⟨H0.map Hs.p, P0.map Pn.p, low⟩ t commit at_)) ∧ Hp w S w' [cB p [.map (some bk), .map (some bp), .int .i64 low.w, .int .i64 low.l, .int .i64 low.n] 89, cM Tryz.prog 9 bk (th H'), cF 92 6 Hs.rw H', cM Tryz.prog 24 bp (tp P'), cF 9 1 Pn.rr P', cF 65 4 Pn.rw P'] ∧ (⟨H'.map Hs.p, P'.map Pn.p, low⟩ : Ms) = resM ⟨H0.map Hs.p, P0.map Pn.p, low⟩ t commit at_ ∧ Bd (n9 + 16) H' P' := by
  refine Sx.calls_into Tryz.func12 rfl Tryz.ntmps12 rfl fun a hT => ?_; replace hT := hT.keep [0, 1, 2, 3] rfl; refine wp_seq_k fun K1 hK1 => ?_; refine Sx.wp_text [(0, .run), (1, .run), (2, .take)] rfl ?_; refine st_eff hT rfl rfl rfl rfl (y_box hT rfl rfl rfl _) ?_; clear hT; rintro _ w1 ⟨b1, rfl, N⟩ a hT; replace H := H.new N; clear N; refine st_eff hT rfl rfl rfl rfl (y_box hT rfl rfl rfl _) ?_; clear hT; rintro _ w2 ⟨b2, rfl, N⟩ a hT; replace H := H.new N; clear N; refine st_take hT rfl rfl rfl rfl (x_assign hT rfl rfl) ?_; clear hT; intro a hT; replace hT := hT.keep [8, 7, 5, 0, 1, 2, 3] rfl; refine ser_nil ?_; refine Sx.then_normal (hK1 _ _ ?_); clear hK1; refine wp_seq_k fun K2 hK2 => ?_; refine wp_seq_k fun K3 hK3 => ?_; refine Sx.wp_text [(0, .take), (1, .run), (2, .take), (3, .run), (4, .run), (5, .take)] rfl ?_; refine st_take hT rfl rfl rfl rfl (x_move hT rfl rfl) ?_; clear hT; intro a hT; refine st_run hT rfl rfl rfl rfl (y_loadS hT rfl Tryz.underlying24 Tryz.ti24 rfl ((H.blk 1 rfl).seg (k := 3) rfl) (by rfl)) ?_; clear hT; intro a hT; refine st_take hT rfl rfl rfl rfl (x_move hT rfl rfl) ?_; clear hT; intro a hT; refine st_run hT rfl rfl rfl rfl (y_loadS hT rfl Tryz.underlying26 Tryz.ti26 rfl ((H.blk 0 rfl).seg (k := 3) rfl) (by rfl)) ?_; clear hT; intro a hT; refine st_call hT rfl rfl rfl rfl rfl Tryz.can37 rfl (Would_calls t ht commit at_ (⟨(H.blk 2 rfl), H.mp 3 rfl, H.fam 4 rfl, H.mp 5 rfl, H.fam 6 rfl, H.fam 7 rfl⟩ : Sto _ _ _ _ _ _ _) hB) ?_; rintro _ w3 ⟨rfl, E⟩
  refine ⟨_, rfl, ?_⟩; clear hT; intro a hT; replace H := H.pure E; clear E; refine st_take hT rfl rfl rfl rfl (x_assign hT rfl rfl) ?_; clear hT; intro a hT; replace hT := hT.keep [9, 8, 7, 5, 0, 1, 2, 3] rfl; refine ser_nil ?_; refine Sx.then_normal (hK3 _ _ ?_); clear hK3; refine wp_seq_k fun K4 hK4 => ?_; refine Sx.wp_text [(0, .take), (1, .take)] rfl ?_; refine st_take hT rfl rfl rfl rfl (x_move hT rfl rfl) ?_; clear hT; intro a hT; refine st_take hT rfl rfl rfl rfl ((fun w => x_ne w hT rfl rfl rfl)) ?_; clear hT; intro a hT; replace hT := hT.keep [20, 9, 8, 7, 5, 0, 1, 2, 3] rfl; refine ser_nil ?_; refine Sx.then_normal (hK4 _ _ ?_); clear hK4; refine Sx.wp_if hT rfl (fun hc5 => ?_) (fun hc5 => ?_)
  · try simp only [bq] at hc5
    have hne : ¬ wldE ⟨H0.map Hs.p, P0.map Pn.p, low⟩ t commit at_ = 0 := hc5; refine wp_seq_k fun K6 hK6 => ?_; refine Sx.wp_text [(0, .take), (1, .take)] rfl ?_; refine st_take hT rfl rfl rfl rfl (x_move hT rfl rfl) ?_; clear hT; intro a hT; refine st_take hT rfl rfl rfl rfl (x_assign hT rfl rfl) ?_; clear hT; intro a hT; replace hT := hT.keep [8, 20, 9, 7, 5, 0, 1, 2, 3] rfl; refine ser_nil ?_; refine Sx.then_normal (hK6 _ _ ?_); clear hK6; refine wp_ret ?_; refine Sx.then_ret ?_; refine Sx.done1 (fn := Tryz.f12) hT rfl (.tmp (hT.get 8 _ rfl)) ?_; refine ⟨H0, P0, rfl, H.keep [2, 3, 4, 5, 6, 7] rfl rfl, ?_, hB.up (by omega) hn9⟩; unfold resM; rw [if_neg hne]
  · try simp only [bq] at hc5
    have h0 : wldE ⟨H0.map Hs.p, P0.map Pn.p, low⟩ t commit at_ = 0 := by simpa using hc5
    obtain ⟨x9, hg, hfw⟩ := wld_some h0; have hgx : gp P0 t = x9 := by unfold gp; rw [hg]; rfl
    have hxm := (sO.get_some hg).1; have hwl := (hB.wl x9 hxm).2; refine wp_skip ?_; refine Sx.then_normal (hK2 _ _ ?_); clear hK2; refine wp_seq_k fun K7 hK7 => ?_; refine wp_seq_k fun K8 hK8 => ?_; refine Sx.wp_text [(0, .take)] rfl ?_; refine st_take hT rfl rfl rfl rfl (x_move hT rfl rfl) ?_; clear hT; intro a hT; replace hT := hT.keep [22, 20, 9, 8, 7, 5, 0, 1, 2, 3] rfl; refine ser_nil ?_; refine Sx.then_normal (hK8 _ _ ?_); clear hK8; refine Sx.wp_if hT rfl (fun hc9 => ?_) (fun hc9 => ?_)
    · try simp only [bq] at hc9
      have hcm : commit = true := hc9; refine wp_seq_k fun K10 hK10 => ?_; refine Sx.wp_draws (fun u => Sx.Ext (Sx.No) u) [(0, .take), (1, .take), (2, .take), (3, .held), (4, .held), (5, .held), (6, .take), (7, .take), (8, .take)] (by kernel_rfl) (by kernel_rfl) (fun u E _ => ?_); replace H := H.pure E; clear E; have hH : Sx.Ext (Sx.No) u u := Sx.Ext.refl _ _; have Hu := H; refine st_take hT rfl rfl rfl rfl (x_move hT rfl rfl) ?_; clear hT; intro a hT; refine st_take hT rfl rfl rfl rfl (x_nilCheck hT rfl rfl) ?_; clear hT; intro a hT; refine st_take hT rfl rfl rfl rfl (x_fieldAddr hT rfl Tryz.fa89_1 rfl) ?_; clear hT; intro a hT; refine st_held hT rfl rfl rfl rfl hH (fun w' h' => x_load1 hT rfl Tryz.fl87 rfl ((Hu.heldB 2 rfl h' Sx.off_No).nth rfl)) ?_; clear hT; intro a hT; refine st_held hT rfl rfl rfl rfl hH (fun w' h' => y_loadS hT rfl Tryz.underlying24 Tryz.ti24 rfl ((Hu.heldB 1 rfl h' Sx.off_No).seg (k := 3) rfl) (by rfl)) ?_; clear hT; intro a hT; refine st_held hT rfl rfl rfl rfl hH (fun w' h' => x_lookup hT rfl Tryz.underlying87 keyedTx Tryz.ti36 rfl rfl (key_txn t ht) (Hu.heldM 5 rfl h' Sx.off_No)) ?_; clear hT; intro a hT; rw [look_p, hgx] at hT; refine st_take hT rfl rfl rfl rfl (x_field1L hT rfl Tryz.fv36_3 Tryz.fl34 rfl rfl) ?_; clear hT; intro a hT; refine st_take hT rfl rfl rfl rfl (x_len_slice hT rfl rfl Tryz.underlying34 rfl) ?_; clear hT; intro a hT; refine st_take hT rfl rfl rfl rfl (x_move hT rfl rfl) ?_; clear hT; intro a hT; replace hT := hT.keep [31, 30, 29, 22, 20, 9, 8, 7, 5, 0, 1, 2, 3] rfl
      clear Hu hH; refine ser_calm ?_; refine Sx.then_normal (hK10 _ _ ?_); clear hK10; refine wp_block ?_; refine Sx.wp_loopH (G := Nat × List Hs) (fun ⟨k, H1⟩ => [(31, .int .i64 (k : Int))]) (fun ⟨k, H1⟩ => [cM Tryz.prog 9 bk (th H1), cF 92 6 Hs.rw H1]) (fun ⟨k, H1⟩ => k ≤ x9.ws.length ∧ H1.map Hs.p = comH (H0.map Hs.p) (x9.ws.take k) at_ ∧ Bd (n9 + k) H1 P0) (fun ⟨k, H1⟩ => x9.ws.length - k) (0, H0) (hT.keep [31, 30, 29, 22, 20, 9, 8, 7, 5, 0, 1, 2, 3] rfl) (H.keep [3, 4, 0, 1, 2, 5, 6, 7] rfl rfl) (⟨Nat.zero_le _, rfl, hB⟩) ?_; clear hT H; rintro ⟨k, H1⟩ a w4 hJ hT H; replace hT := hT.keep [31, 30, 29, 22, 20, 9, 8, 7, 5, 0, 1, 2, 3] rfl; replace H := H.keep [0, 1, 2, 3, 4, 5, 6, 7] rfl rfl; obtain ⟨hk, hH1, hB1⟩ := hJ; refine wp_seq_k fun K11 hK11 => ?_; refine Sx.wp_text [(0, .take)] rfl ?_; refine st_take hT rfl rfl rfl rfl ((fun w => x_lt w hT rfl rfl rfl)) ?_; clear hT; intro a hT; replace hT := hT.keep [32, 31, 30, 29, 22, 20, 9, 8, 7, 5, 0, 1, 2, 3] rfl; refine ser_nil ?_; refine Sx.then_normal (hK11 _ _ ?_); clear hK11; refine wp_seq_k fun K12 hK12 => ?_; refine Sx.wp_if hT rfl (fun hc13 => ?_) (fun hc13 => ?_)
      · try simp only [bq] at hc13
        obtain ⟨o, ho⟩ : ∃ q9, x9.ws[k]? = some q9 := ⟨_, List.getElem?_eq_getElem (by omega)⟩; have hok := hwl.2.2 o (List.mem_of_getElem? ho); have hgv := hB1.gv o.key; refine wp_skip ?_; refine Sx.then_normal (hK12 _ _ ?_); clear hK12; refine wp_seq_k fun K14 hK14 => ?_; refine wp_block ?_; refine wp_seq_k fun K15 hK15 => ?_; refine Sx.wp_text [(0, .take), (1, .run), (2, .run), (3, .run)] rfl ?_; refine st_take hT rfl rfl rfl rfl (x_index (k := k) hT rfl Tryz.underlying34 Tryz.ti65 (Row.ssn (xs := x9.ws) (enc := Wt.cells) ((H.fam 7 rfl).row x9 hxm) rfl).sv rfl rfl (by first | rfl | omega) (by omega)) ?_; clear hT; intro a hT; refine st_run hT rfl rfl rfl rfl (y_loadS hT rfl Tryz.underlying65 Tryz.ti65 rfl (by first | exact ((H.blk 2 rfl).seg (k := 4) rfl) | exact ((H.blk 3 rfl).seg (k := 4) rfl) | exact ((H.blk 4 rfl).seg (k := 4) rfl) | exact ((Row.ssn (xs := x9.ws) (enc := Wt.cells) ((H.fam 7 rfl).row x9 hxm) rfl).cs Wt.len ho)) (by rfl)) ?_; clear hT; intro a hT; refine st_eff hT rfl rfl rfl rfl (y_alloc hT rfl Tryz.ti65 rfl _) ?_; clear hT; rintro _ w5 ⟨b3, rfl, N⟩ a hT; replace H := H.new N; clear N; refine st_act hT rfl rfl rfl (y_storeS hT rfl Tryz.ti65 rfl rfl rfl rfl rfl (H.blk 0 rfl) rfl) ?_; rintro w6 ⟨hb, E, _⟩; replace H := H.setB 0 rfl hb E rfl; clear hb E; replace hT := hT.keep [11, 32, 31, 30, 29, 22, 20, 9, 8, 7, 5, 0, 1, 2, 3] rfl; refine ser_nil ?_; refine Sx.then_normal (hK15 _ _ ?_); clear hK15; refine wp_seq_k fun K16 hK16 => ?_; replace H := H.famLook sO hB1.hs 2 rfl o.key hz0 rfl rfl
        replace H : Sx.Hp w S w6 (cR 92 6 (gh H1 o.key).ad (gh H1 o.key).vs.length (gh H1 o.key).c ((gh H1 o.key).vs.flatMap Vr.cells) :: _) := H; refine Sx.wp_draws (fun u => Sx.Ext (Sx.No) u) [(0, .take), (1, .take), (2, .take), (3, .held), (4, .take), (5, .held), (6, .held), (7, .take)] (by kernel_rfl) (by kernel_rfl) (fun u E _ => ?_); replace H := H.pure E; clear E; have hH : Sx.Ext (Sx.No) u u := Sx.Ext.refl _ _; have Hu := H; refine st_take hT rfl rfl rfl rfl (x_move hT rfl rfl) ?_; clear hT; intro a hT; refine st_take hT rfl rfl rfl rfl (x_nilCheck hT rfl rfl) ?_; clear hT; intro a hT; refine st_take hT rfl rfl rfl rfl (x_fieldAddr hT rfl Tryz.fa89_0 rfl) ?_; clear hT; intro a hT; refine st_held hT rfl rfl rfl rfl hH (fun w' h' => x_load1 hT rfl Tryz.fl86 rfl ((Hu.heldB 6 rfl h' Sx.off_No).nth rfl)) ?_; clear hT; intro a hT; refine st_take hT rfl rfl rfl rfl (x_fieldAddr hT rfl Tryz.fa65_0 rfl) ?_; clear hT; intro a hT; refine st_held hT rfl rfl rfl rfl hH (fun w' h' => x_load1 hT rfl Tryz.fl9 rfl ((Hu.heldB 1 rfl h' Sx.off_No).nth rfl)) ?_; clear hT; intro a hT; refine st_held hT rfl rfl rfl rfl hH (fun w' h' => x_lookup hT rfl Tryz.underlying86 (Go.Maps.string_keyed Tryz.underlying9) Tryz.ti90 rfl rfl (key_str Tryz.underlying9 o.key hok) (Hu.heldM 2 rfl h' Sx.off_No)) ?_; clear hT; intro a hT; rw [look_h] at hT; refine st_take hT rfl rfl rfl rfl (x_assign hT rfl rfl) ?_; clear hT; intro a hT; replace hT := hT.keep [12, 11, 32, 31, 30, 29, 22, 20, 9, 8, 7, 5, 0, 1, 2, 3] rfl
        clear Hu hH; refine ser_calm ?_; refine Sx.then_normal (hK16 _ _ ?_); clear hK16; refine wp_seq_k fun K17 hK17 => ?_; refine Sx.wp_text [(0, .take), (1, .take), (2, .take)] rfl ?_; refine st_take hT rfl rfl rfl rfl (x_move hT rfl rfl) ?_; clear hT; intro a hT; refine st_take hT rfl rfl rfl rfl (x_len_slice hT rfl rfl Tryz.underlying90 rfl) ?_; clear hT; intro a hT; refine st_take hT rfl rfl rfl rfl (x_assign hT rfl rfl) ?_; clear hT; intro a hT; replace hT := hT.keep [13, 12, 11, 32, 31, 30, 29, 22, 20, 9, 8, 7, 5, 0, 1, 2, 3] rfl; refine ser_nil ?_; refine Sx.then_normal (hK17 _ _ ?_); clear hK17; refine wp_seq_k fun K18 hK18 => ?_; refine wp_block ?_; refine Sx.wp_loopH (G := Nat) (fun i => [(13, .int .i64 (i : Int))]) (fun i => []) (fun i => i ≤ (gh H1 o.key).vs.length ∧ ∀ (t : Nat) q, i ≤ t → (gh H1 o.key).vs[t]? = some q → 0 < cmpS q.s at_) (fun i => i) (gh H1 o.key).vs.length (hT.keep [13, 12, 11, 32, 31, 30, 29, 22, 20, 9, 8, 7, 5, 0, 1, 2, 3] rfl) (H.keep [0, 1, 2, 3, 4, 5, 6, 7, 8, 9] rfl rfl) (⟨Nat.le_refl _, fun t q h1 h2 => by have := (List.getElem?_eq_some_iff.1 h2).1; omega⟩) ?_; clear hT H; rintro i a w7 hJ hT H; replace hT := hT.keep [13, 12, 11, 32, 31, 30, 29, 22, 20, 9, 8, 7, 5, 0, 1, 2, 3] rfl; replace H := H.keep [0, 1, 2, 3, 4, 5, 6, 7, 8, 9] rfl rfl; obtain ⟨hi, htl⟩ := hJ; refine wp_seq_k fun K19 hK19 => ?_; refine wp_seq_k fun K20 hK20 => ?_; refine Sx.wp_draws (fun u => Sx.Ext (Sx.No) u) [(0, .take), (1, .take), (2, .take), (3, .take), (4, .take), (5, .take), (6, .take), (7, .take), (8, .held), (9, .held), (10, .run), (11, .take), (12, .take)] (by kernel_rfl) (by kernel_rfl) (fun u E _ => ?_)
        replace H := H.pure E; clear E; have hH : Sx.Ext (Sx.No) u u := Sx.Ext.refl _ _; have Hu := H; refine st_take hT rfl rfl rfl rfl (x_move hT rfl rfl) ?_; clear hT; intro a hT; refine st_take hT rfl rfl rfl rfl ((fun w => x_gt w hT rfl rfl rfl)) ?_; clear hT; intro a hT; refine st_take hT rfl rfl rfl rfl (x_move hT rfl rfl) ?_; clear hT; intro a hT; refine Sx.Sl.two hT 46 rfl (fun hc21 hT => ?_) (fun hc21 hT => ?_)
        · try simp only [bq] at hc21
          have hi0 : 0 < i := by omega
          obtain ⟨q9, hq9⟩ : ∃ q9, (gh H1 o.key).vs[i - 1]? = some q9 := ⟨_, List.getElem?_eq_getElem (by omega)⟩; refine st_take hT rfl rfl rfl rfl (x_move hT rfl rfl) ?_; clear hT; intro a hT; refine st_take hT rfl rfl rfl rfl (x_move hT rfl rfl) ?_; clear hT; intro a hT; refine st_take hT rfl rfl rfl rfl ((fun w => x_sub w hT rfl rfl rfl (wrap64 (by omega)))) ?_; clear hT; intro a hT; refine st_take hT rfl rfl rfl rfl (x_index (k := i - 1) hT rfl Tryz.underlying90 Tryz.ti92 (H.row 0 rfl).sv rfl rfl (by first | rfl | omega) (by omega)) ?_; clear hT; intro a hT; refine st_take hT rfl rfl rfl rfl (x_fieldAddr hT rfl Tryz.fa92_0 rfl) ?_; clear hT; intro a hT; refine st_held hT rfl rfl rfl rfl hH (fun w' h' => y_loadS hT rfl Tryz.underlying26 Tryz.ti26 rfl ((((Hu.heldR 0 rfl h' Sx.off_No).ssn rfl).cs Vr.len hq9).seg (i := 0) (k := 3) rfl) (by rfl)) ?_; clear hT; intro a hT; refine st_held hT rfl rfl rfl rfl hH (fun w' h' => y_loadS hT rfl Tryz.underlying26 Tryz.ti26 rfl ((Hu.heldB 4 rfl h' Sx.off_No).seg (k := 3) rfl) (by rfl)) ?_; clear hT; intro a hT; refine st_call hT rfl rfl rfl rfl rfl Tryz.can38 rfl (Compare_calls q9.s at_ _) ?_; rintro _ w8 ⟨rfl, E⟩; refine ⟨_, rfl, ?_⟩; clear hT; intro a hT; replace H := H.pure E; clear E; refine st_take hT rfl rfl rfl rfl ((fun w => x_gt w hT rfl rfl rfl)) ?_; clear hT; intro a hT; refine st_take hT rfl rfl rfl rfl (x_pick_t hT rfl rfl rfl) ?_; clear hT; intro a hT; replace hT := hT.keep [56, 13, 12, 11, 32, 31, 30, 29, 22, 20, 9, 8, 7, 5, 0, 1, 2, 3] rfl
          clear Hu hH; refine ser_calm ?_; refine Sx.then_normal (hK20 _ _ ?_); clear hK20; refine Sx.wp_if hT rfl (fun hc22 => ?_) (fun hc22 => ?_)
          · try simp only [bq] at hc22
            have hgt9 : 0 < cmpS q9.s at_ := by omega
            refine wp_skip ?_; refine Sx.then_normal (hK19 _ _ ?_); clear hK19; refine wp_block ?_; refine Sx.wp_text [(0, .take), (1, .take), (2, .take)] rfl ?_; refine st_take hT rfl rfl rfl rfl (x_move hT rfl rfl) ?_; clear hT; intro a hT; refine st_take hT rfl rfl rfl rfl ((fun w => x_sub w hT rfl rfl rfl (wrap64 (by omega)))) ?_; clear hT; intro a hT; refine st_take hT rfl rfl rfl rfl (x_assign hT rfl rfl) ?_; clear hT; intro a hT; replace hT := hT.keep [13, 56, 12, 11, 32, 31, 30, 29, 22, 20, 9, 8, 7, 5, 0, 1, 2, 3] rfl; refine ser_nil ?_; refine Sx.block_normal ?_; refine Sx.then_normal ?_; exact ⟨i - 1, ⟨by omega, fun t q h1 h2 => by rcases Nat.lt_or_ge t i with h3 | h3; obtain rfl : t = i - 1 := (by omega); rw [hq9] at h2; cases h2; exact hgt9; exact htl t q h3 h2⟩, ((hT.keep [13, 12, 11, 32, 31, 30, 29, 22, 20, 9, 8, 7, 5, 0, 1, 2, 3] rfl).conv (by rw [show ((i - 1 : Nat) : Int) = (i : Int) - 1 from by omega]; rfl)), (H.keep [0, 1, 2, 3, 4, 5, 6, 7, 8, 9] rfl rfl), by omega⟩
          · try simp only [bq] at hc22
            have hti := tail_eq hi htl (.inr ⟨q9, hq9, by omega⟩); refine wp_exit ?_; refine Sx.then_exit ?_; refine Sx.then_exit ?_; refine Sx.block_exit ?_; refine Sx.then_normal (hK18 _ _ ?_); clear hK18; refine Sx.wp_draws (fun u => Sx.Ext ((fun k => Sx.Own (gh H1 o.key).ad k ∨ Sx.One bk k)) u) [(0, .take), (1, .take), (2, .take), (3, .held), (4, .take), (5, .held), (6, .take), (7, .take), (8, .held), (9, .take), (10, .held), (11, .take), (12, .keep), (13, .keep), (14, .run)] (by kernel_rfl) (by kernel_rfl) (fun u E _ => ?_); replace H := H.pure E; clear E; have hH : Sx.Ext ((fun k => Sx.Own (gh H1 o.key).ad k ∨ Sx.One bk k)) u u := Sx.Ext.refl _ _; have Hu := H; refine st_take hT rfl rfl rfl rfl (x_move hT rfl rfl) ?_; clear hT; intro a hT; refine st_take hT rfl rfl rfl rfl (x_nilCheck hT rfl rfl) ?_; clear hT; intro a hT; refine st_take hT rfl rfl rfl rfl (x_fieldAddr hT rfl Tryz.fa89_0 rfl) ?_; clear hT; intro a hT; refine st_held hT rfl rfl rfl rfl hH (fun w' h' => x_load1 hT rfl Tryz.fl86 rfl ((Hu.heldB 6 rfl h' (Hu.off2 (i := 6) (j := 0) (k9 := 2) rfl rfl rfl rfl rfl)).nth rfl)) ?_; clear hT; intro a hT; refine st_take hT rfl rfl rfl rfl (x_fieldAddr hT rfl Tryz.fa65_0 rfl) ?_; clear hT; intro a hT; refine st_held hT rfl rfl rfl rfl hH (fun w' h' => x_load1 hT rfl Tryz.fl9 rfl ((Hu.heldB 1 rfl h' (Hu.off2 (i := 1) (j := 0) (k9 := 2) rfl rfl rfl rfl rfl)).nth rfl)) ?_; clear hT; intro a hT; refine st_take hT rfl rfl rfl rfl (x_move hT rfl rfl) ?_; clear hT; intro a hT; refine st_take hT rfl rfl rfl rfl (x_move hT rfl rfl) ?_
            clear hT; intro a hT; refine st_held hT rfl rfl rfl rfl hH (fun w' h' => y_loadS hT rfl Tryz.underlying26 Tryz.ti26 rfl ((Hu.heldB 4 rfl h' (Hu.off2 (i := 4) (j := 0) (k9 := 2) rfl rfl rfl rfl rfl)).seg (k := 3) rfl) (by rfl)) ?_; clear hT; intro a hT; refine st_take hT rfl rfl rfl rfl (x_fieldAddr hT rfl Tryz.fa65_1 rfl) ?_; clear hT; intro a hT; refine st_held hT rfl rfl rfl rfl hH (fun w' h' => y_loadS hT rfl Tryz.underlying51 Tryz.ti51 rfl ((Hu.heldB 1 rfl h' (Hu.off2 (i := 1) (j := 0) (k9 := 2) rfl rfl rfl rfl rfl)).seg (k := 3) rfl) (by rfl)) ?_; clear hT; intro a hT; refine st_take hT rfl rfl rfl rfl (x_bld hT rfl Tryz.bld92 rfl rfl) ?_; clear hT; intro a hT; refine st_effkeep hT rfl rfl rfl rfl (y_slice1 hT rfl Tryz.underlying90 Tryz.ti92 rfl rfl rfl rfl rfl rfl _) ?_; rintro _ w9 ⟨b4, rfl, N⟩; have q_b4 : u.heap.size ≤ b4 := by have h8 := hH.size; have h9 := N.at_; omega
            refine ⟨hH.step N.ext, ?_⟩; replace hH := hH.step N.ext; clear hT; intro a hT; replace H := H.new N; clear N; refine st_callkeep hT rfl rfl rfl rfl rfl Tryz.can39 rfl (vrInsert (gh H1 o.key).ad (gh H1 o.key).vs.length (gh H1 o.key).c i b4 ((gh H1 o.key).vs.flatMap Vr.cells) (⟨at_, o.v⟩ : Vr).cells _ (H.row 1 rfl) (H.blk 0 rfl) rfl (fun u hu => flat_one Vr.one _ u hu) (Vr.one ⟨at_, o.v⟩) hi (fun k hk he => H.off 1 0 rfl rfl rfl k ((H.row 1 rfl).lt k hk) hk he) (by omega)) ?_; rintro _ w10 ⟨ad9, c9, rfl, hr, E, hown⟩; refine ⟨_, rfl, hH.same (E.mono fun _ _ h => .inl h), ?_⟩; replace hH := hH.same (E.mono fun _ _ h => .inl h); clear hT; intro a hT; replace H := H.setR 1 rfl hr E hown rfl; clear hr E hown; rw [ins_cells hi, ins_at (x := (⟨at_, o.v⟩ : Vr)) hti] at H; refine st_act hT rfl rfl rfl (x_mapUpdate hT rfl Tryz.underlying86 (Go.Maps.string_keyed Tryz.underlying9) rfl rfl rfl (key_str Tryz.underlying9 o.key hok) (H.mp 3 rfl) (by rw [th_size]; have h9 := hB1.hl; have h8 := hB1.nn; unfold maxLen; omega)) ?_; rintro w11 ⟨hm, E, _⟩; replace H := H.setM 3 rfl hm E rfl; clear hm E; have hpk : (th H1).put (slit o.key) (.held (⟨o.key, insV ⟨at_, o.v⟩ (gh H1 o.key).vs, ad9, c9⟩ : Hs).val) = th (ptK slit Hs.key (⟨o.key, insV ⟨at_, o.v⟩ (gh H1 o.key).vs, ad9, c9⟩ : Hs) H1) := putK (κ := Hs.key) (⟨o.key, insV ⟨at_, o.v⟩ (gh H1 o.key).vs, ad9, c9⟩ : Hs); have hlv : (⟨o.key, insV ⟨at_, o.v⟩ (gh H1 o.key).vs, ad9, c9⟩ : Hs).val = .slice ad9 ((gh H1 o.key).vs.length + 1) c9 := by show Value.slice ad9 (insV _ _).length c9 = _; rw [ins_len]
            rw [hlv] at hpk; rw [hpk] at H; clear hpk hlv; replace H := H.famPut (L' := ptK slit Hs.key (⟨o.key, insV ⟨at_, o.v⟩ (gh H1 o.key).vs, ad9, c9⟩ : Hs) H1) (x := (⟨o.key, insV ⟨at_, o.v⟩ (gh H1 o.key).vs, ad9, c9⟩ : Hs)) 4 1 rfl rfl (show Hs.rw (⟨o.key, insV ⟨at_, o.v⟩ (gh H1 o.key).vs, ad9, c9⟩ : Hs) = ⟨ad9, (gh H1 o.key).vs.length + 1, c9, _⟩ from by unfold Hs.rw; dsimp only; rw [ins_len]) rfl [0, 2, 3, 5, 6, 7, 8, 9, 10] rfl rfl (sO.put_perm (⟨o.key, insV ⟨at_, o.v⟩ (gh H1 o.key).vs, ad9, c9⟩ : Hs) H1); replace hT := hT.keep [56, 13, 12, 11, 32, 31, 30, 29, 22, 20, 9, 8, 7, 5, 0, 1, 2, 3] rfl; clear Hu hH; refine ser_calm ?_; refine Sx.block_normal ?_; refine Sx.then_normal (hK14 _ _ ?_); clear hK14; refine Sx.wp_text [(0, .take), (1, .take)] rfl ?_; refine st_take hT rfl rfl rfl rfl ((fun w => x_add w hT rfl rfl rfl (wrap64 (by omega)))) ?_; clear hT; intro a hT; refine st_take hT rfl rfl rfl rfl (x_move hT rfl rfl) ?_; clear hT; intro a hT; replace hT := hT.keep [31, 56, 13, 12, 11, 32, 30, 29, 22, 20, 9, 8, 7, 5, 0, 1, 2, 3] rfl; refine ser_nil ?_; refine Sx.then_normal ?_; exact ⟨(k + 1, ptK slit Hs.key (⟨o.key, insV ⟨at_, o.v⟩ (gh H1 o.key).vs, ad9, c9⟩ : Hs) H1), ⟨by show k + 1 ≤ _; omega, com_step ho hH1 ad9 c9, hB1.put (by omega) hok ⟨at_, o.v⟩ ad9 c9⟩, (hT.keep [31, 30, 29, 22, 20, 9, 8, 7, 5, 0, 1, 2, 3] rfl), (H.keep [3, 0, 4, 5, 6, 7, 8, 9] rfl rfl), by show _ - (k + 1) < _ - k; omega⟩
        · try simp only [bq] at hc21
          have hi0 : i = 0 := by omega
          refine st_skip hT rfl rfl rfl rfl ?_; clear hT; intro a hT; refine st_skip hT rfl rfl rfl rfl ?_; clear hT; intro a hT; refine st_skip hT rfl rfl rfl rfl ?_; clear hT; intro a hT; refine st_skip hT rfl rfl rfl rfl ?_; clear hT; intro a hT; refine st_skip hT rfl rfl rfl rfl ?_; clear hT; intro a hT; refine st_heldskip hT rfl rfl rfl rfl hH ?_; clear hT; intro a hT; refine st_heldskip hT rfl rfl rfl rfl hH ?_; clear hT; intro a hT; refine st_runskip hT rfl rfl rfl rfl ?_; clear hT; intro a hT; refine st_skip hT rfl rfl rfl rfl ?_; clear hT; intro a hT; refine st_take hT rfl rfl rfl rfl (x_pick_f hT rfl rfl rfl) ?_; clear hT; intro a hT; replace hT := hT.keep [56, 13, 12, 11, 32, 31, 30, 29, 22, 20, 9, 8, 7, 5, 0, 1, 2, 3] rfl; clear Hu hH; refine ser_calm ?_; refine Sx.then_normal (hK20 _ _ ?_); clear hK20; refine Sx.wp_if hT rfl (fun h => by cases h) (fun _ => ?_); have hti := tail_eq hi htl (.inl hi0); refine wp_exit ?_; refine Sx.then_exit ?_; refine Sx.then_exit ?_; refine Sx.block_exit ?_; refine Sx.then_normal (hK18 _ _ ?_); clear hK18; refine Sx.wp_draws (fun u => Sx.Ext ((fun k => Sx.Own (gh H1 o.key).ad k ∨ Sx.One bk k)) u) [(0, .take), (1, .take), (2, .take), (3, .held), (4, .take), (5, .held), (6, .take), (7, .take), (8, .held), (9, .take), (10, .held), (11, .take), (12, .keep), (13, .keep), (14, .run)] (by kernel_rfl) (by kernel_rfl) (fun u E _ => ?_); replace H := H.pure E; clear E; have hH : Sx.Ext ((fun k => Sx.Own (gh H1 o.key).ad k ∨ Sx.One bk k)) u u := Sx.Ext.refl _ _
          have Hu := H; refine st_take hT rfl rfl rfl rfl (x_move hT rfl rfl) ?_; clear hT; intro a hT; refine st_take hT rfl rfl rfl rfl (x_nilCheck hT rfl rfl) ?_; clear hT; intro a hT; refine st_take hT rfl rfl rfl rfl (x_fieldAddr hT rfl Tryz.fa89_0 rfl) ?_; clear hT; intro a hT; refine st_held hT rfl rfl rfl rfl hH (fun w' h' => x_load1 hT rfl Tryz.fl86 rfl ((Hu.heldB 6 rfl h' (Hu.off2 (i := 6) (j := 0) (k9 := 2) rfl rfl rfl rfl rfl)).nth rfl)) ?_; clear hT; intro a hT; refine st_take hT rfl rfl rfl rfl (x_fieldAddr hT rfl Tryz.fa65_0 rfl) ?_; clear hT; intro a hT; refine st_held hT rfl rfl rfl rfl hH (fun w' h' => x_load1 hT rfl Tryz.fl9 rfl ((Hu.heldB 1 rfl h' (Hu.off2 (i := 1) (j := 0) (k9 := 2) rfl rfl rfl rfl rfl)).nth rfl)) ?_; clear hT; intro a hT; refine st_take hT rfl rfl rfl rfl (x_move hT rfl rfl) ?_; clear hT; intro a hT; refine st_take hT rfl rfl rfl rfl (x_move hT rfl rfl) ?_; clear hT; intro a hT; refine st_held hT rfl rfl rfl rfl hH (fun w' h' => y_loadS hT rfl Tryz.underlying26 Tryz.ti26 rfl ((Hu.heldB 4 rfl h' (Hu.off2 (i := 4) (j := 0) (k9 := 2) rfl rfl rfl rfl rfl)).seg (k := 3) rfl) (by rfl)) ?_; clear hT; intro a hT; refine st_take hT rfl rfl rfl rfl (x_fieldAddr hT rfl Tryz.fa65_1 rfl) ?_; clear hT; intro a hT; refine st_held hT rfl rfl rfl rfl hH (fun w' h' => y_loadS hT rfl Tryz.underlying51 Tryz.ti51 rfl ((Hu.heldB 1 rfl h' (Hu.off2 (i := 1) (j := 0) (k9 := 2) rfl rfl rfl rfl rfl)).seg (k := 3) rfl) (by rfl)) ?_; clear hT; intro a hT; refine st_take hT rfl rfl rfl rfl (x_bld hT rfl Tryz.bld92 rfl rfl) ?_
          clear hT; intro a hT; refine st_effkeep hT rfl rfl rfl rfl (y_slice1 hT rfl Tryz.underlying90 Tryz.ti92 rfl rfl rfl rfl rfl rfl _) ?_; rintro _ w12 ⟨b5, rfl, N⟩; have q_b5 : u.heap.size ≤ b5 := by have h8 := hH.size; have h9 := N.at_; omega
          refine ⟨hH.step N.ext, ?_⟩; replace hH := hH.step N.ext; clear hT; intro a hT; replace H := H.new N; clear N; refine st_callkeep hT rfl rfl rfl rfl rfl Tryz.can39 rfl (vrInsert (gh H1 o.key).ad (gh H1 o.key).vs.length (gh H1 o.key).c i b5 ((gh H1 o.key).vs.flatMap Vr.cells) (⟨at_, o.v⟩ : Vr).cells _ (H.row 1 rfl) (H.blk 0 rfl) rfl (fun u hu => flat_one Vr.one _ u hu) (Vr.one ⟨at_, o.v⟩) hi (fun k hk he => H.off 1 0 rfl rfl rfl k ((H.row 1 rfl).lt k hk) hk he) (by omega)) ?_; rintro _ w13 ⟨ad9, c9, rfl, hr, E, hown⟩; refine ⟨_, rfl, hH.same (E.mono fun _ _ h => .inl h), ?_⟩; replace hH := hH.same (E.mono fun _ _ h => .inl h); clear hT; intro a hT; replace H := H.setR 1 rfl hr E hown rfl; clear hr E hown; rw [ins_cells hi, ins_at (x := (⟨at_, o.v⟩ : Vr)) hti] at H; refine st_act hT rfl rfl rfl (x_mapUpdate hT rfl Tryz.underlying86 (Go.Maps.string_keyed Tryz.underlying9) rfl rfl rfl (key_str Tryz.underlying9 o.key hok) (H.mp 3 rfl) (by rw [th_size]; have h9 := hB1.hl; have h8 := hB1.nn; unfold maxLen; omega)) ?_; rintro w14 ⟨hm, E, _⟩; replace H := H.setM 3 rfl hm E rfl; clear hm E; have hpk : (th H1).put (slit o.key) (.held (⟨o.key, insV ⟨at_, o.v⟩ (gh H1 o.key).vs, ad9, c9⟩ : Hs).val) = th (ptK slit Hs.key (⟨o.key, insV ⟨at_, o.v⟩ (gh H1 o.key).vs, ad9, c9⟩ : Hs) H1) := putK (κ := Hs.key) (⟨o.key, insV ⟨at_, o.v⟩ (gh H1 o.key).vs, ad9, c9⟩ : Hs); have hlv : (⟨o.key, insV ⟨at_, o.v⟩ (gh H1 o.key).vs, ad9, c9⟩ : Hs).val = .slice ad9 ((gh H1 o.key).vs.length + 1) c9 := by show Value.slice ad9 (insV _ _).length c9 = _; rw [ins_len]
          rw [hlv] at hpk; rw [hpk] at H; clear hpk hlv; replace H := H.famPut (L' := ptK slit Hs.key (⟨o.key, insV ⟨at_, o.v⟩ (gh H1 o.key).vs, ad9, c9⟩ : Hs) H1) (x := (⟨o.key, insV ⟨at_, o.v⟩ (gh H1 o.key).vs, ad9, c9⟩ : Hs)) 4 1 rfl rfl (show Hs.rw (⟨o.key, insV ⟨at_, o.v⟩ (gh H1 o.key).vs, ad9, c9⟩ : Hs) = ⟨ad9, (gh H1 o.key).vs.length + 1, c9, _⟩ from by unfold Hs.rw; dsimp only; rw [ins_len]) rfl [0, 2, 3, 5, 6, 7, 8, 9, 10] rfl rfl (sO.put_perm (⟨o.key, insV ⟨at_, o.v⟩ (gh H1 o.key).vs, ad9, c9⟩ : Hs) H1); replace hT := hT.keep [56, 13, 12, 11, 32, 31, 30, 29, 22, 20, 9, 8, 7, 5, 0, 1, 2, 3] rfl; clear Hu hH; refine ser_calm ?_; refine Sx.block_normal ?_; refine Sx.then_normal (hK14 _ _ ?_); clear hK14; refine Sx.wp_text [(0, .take), (1, .take)] rfl ?_; refine st_take hT rfl rfl rfl rfl ((fun w => x_add w hT rfl rfl rfl (wrap64 (by omega)))) ?_; clear hT; intro a hT; refine st_take hT rfl rfl rfl rfl (x_move hT rfl rfl) ?_; clear hT; intro a hT; replace hT := hT.keep [31, 56, 13, 12, 11, 32, 30, 29, 22, 20, 9, 8, 7, 5, 0, 1, 2, 3] rfl; refine ser_nil ?_; refine Sx.then_normal ?_; exact ⟨(k + 1, ptK slit Hs.key (⟨o.key, insV ⟨at_, o.v⟩ (gh H1 o.key).vs, ad9, c9⟩ : Hs) H1), ⟨by show k + 1 ≤ _; omega, com_step ho hH1 ad9 c9, hB1.put (by omega) hok ⟨at_, o.v⟩ ad9 c9⟩, (hT.keep [31, 30, 29, 22, 20, 9, 8, 7, 5, 0, 1, 2, 3] rfl), (H.keep [3, 0, 4, 5, 6, 7, 8, 9] rfl rfl), by show _ - (k + 1) < _ - k; omega⟩
      · try simp only [bq] at hc13
        have hkl : k = x9.ws.length := by omega
        rw [hkl, List.take_length] at hH1; refine wp_exit ?_; refine Sx.then_exit ?_; refine Sx.then_exit ?_; refine Sx.block_exit ?_; refine Sx.then_normal (hK7 _ _ ?_); clear hK7; refine wp_seq_k fun K23 hK23 => ?_; refine Sx.wp_draws (fun u => Sx.Ext (Sx.One bp) u) [(0, .take), (1, .take), (2, .take), (3, .held), (4, .held), (5, .run)] (by kernel_rfl) (by kernel_rfl) (fun u E _ => ?_); replace H := H.pure E; clear E; have hH : Sx.Ext (Sx.One bp) u u := Sx.Ext.refl _ _; have Hu := H; refine st_take hT rfl rfl rfl rfl (x_move hT rfl rfl) ?_; clear hT; intro a hT; refine st_take hT rfl rfl rfl rfl (x_nilCheck hT rfl rfl) ?_; clear hT; intro a hT; refine st_take hT rfl rfl rfl rfl (x_fieldAddr hT rfl Tryz.fa89_1 rfl) ?_; clear hT; intro a hT; refine st_held hT rfl rfl rfl rfl hH (fun w' h' => x_load1 hT rfl Tryz.fl87 rfl ((Hu.heldB 4 rfl h' (Hu.off 4 5 rfl rfl rfl)).nth rfl)) ?_; clear hT; intro a hT; refine st_held hT rfl rfl rfl rfl hH (fun w' h' => y_loadS hT rfl Tryz.underlying24 Tryz.ti24 rfl ((Hu.heldB 3 rfl h' (Hu.off 3 5 rfl rfl rfl)).seg (k := 3) rfl) (by rfl)) ?_; clear hT; intro a hT; refine st_drop hT rfl rfl rfl (x_delete hT rfl rfl Tryz.underlying87 keyedTx rfl rfl (key_txn t ht) (H.mp 5 rfl)) ?_; rintro _ w15 ⟨rfl, hm, E, _⟩; replace H := H.setM 5 rfl hm E rfl; clear hm E; rw [show (tp P0).del (slit (tb t)) = tp (dlK kbn (tb t) P0) from delK (κ := kbn) sO (tb t)] at H; replace H := H.famSub (L' := dlK kbn (tb t) P0) (M := [x9]) 6 rfl ((sO.del_perm hB.ps hg).trans (List.perm_append_comm (l₁ := [x9]))) rfl
        replace H := H.famSub (L' := dlK kbn (tb t) P0) (M := [x9]) 7 rfl ((sO.del_perm hB.ps hg).trans (List.perm_append_comm (l₁ := [x9]))) rfl; replace hT := hT.keep [32, 31, 30, 29, 22, 20, 9, 8, 7, 5, 0, 1, 2, 3] rfl; clear Hu hH; refine ser_calm ?_; refine Sx.then_normal (hK23 _ _ ?_); clear hK23; refine wp_seq_k fun K24 hK24 => ?_; refine Sx.wp_text [(0, .take)] rfl ?_; refine st_take hT rfl rfl rfl rfl (x_assign hT rfl rfl) ?_; clear hT; intro a hT; replace hT := hT.keep [8, 32, 31, 30, 29, 22, 20, 9, 7, 5, 0, 1, 2, 3] rfl; refine ser_nil ?_; refine Sx.then_normal (hK24 _ _ ?_); clear hK24; refine wp_ret ?_; refine Sx.done1 (fn := Tryz.f12) hT rfl (.tmp (hT.get 8 _ rfl)) ?_; refine ⟨H1, dlK kbn (tb t) P0, by rw [h0], H.keep [4, 0, 1, 5, 6, 7] rfl rfl, ?_, (hB1.del (tb t)).up (by omega) hn9⟩; unfold resM; rw [if_pos h0, hcm, if_pos rfl, hfw, ← hH1]; rw [del_map (κ := kbn) (κ' := kbp) (f := Pn.p) (fun _ => rfl)]
    · try simp only [bq] at hc9
      have hcm : commit = false := hc9; refine wp_skip ?_; refine Sx.then_normal (hK7 _ _ ?_); clear hK7; refine wp_seq_k fun K25 hK25 => ?_; refine Sx.wp_draws (fun u => Sx.Ext (Sx.One bp) u) [(0, .take), (1, .take), (2, .take), (3, .held), (4, .held), (5, .run)] (by kernel_rfl) (by kernel_rfl) (fun u E _ => ?_); replace H := H.pure E; clear E; have hH : Sx.Ext (Sx.One bp) u u := Sx.Ext.refl _ _; have Hu := H; refine st_take hT rfl rfl rfl rfl (x_move hT rfl rfl) ?_; clear hT; intro a hT; refine st_take hT rfl rfl rfl rfl (x_nilCheck hT rfl rfl) ?_; clear hT; intro a hT; refine st_take hT rfl rfl rfl rfl (x_fieldAddr hT rfl Tryz.fa89_1 rfl) ?_; clear hT; intro a hT; refine st_held hT rfl rfl rfl rfl hH (fun w' h' => x_load1 hT rfl Tryz.fl87 rfl ((Hu.heldB 2 rfl h' (Hu.off 2 5 rfl rfl rfl)).nth rfl)) ?_; clear hT; intro a hT; refine st_held hT rfl rfl rfl rfl hH (fun w' h' => y_loadS hT rfl Tryz.underlying24 Tryz.ti24 rfl ((Hu.heldB 1 rfl h' (Hu.off 1 5 rfl rfl rfl)).seg (k := 3) rfl) (by rfl)) ?_; clear hT; intro a hT; refine st_drop hT rfl rfl rfl (x_delete hT rfl rfl Tryz.underlying87 keyedTx rfl rfl (key_txn t ht) (H.mp 5 rfl)) ?_; rintro _ w16 ⟨rfl, hm, E, _⟩; replace H := H.setM 5 rfl hm E rfl; clear hm E; rw [show (tp P0).del (slit (tb t)) = tp (dlK kbn (tb t) P0) from delK (κ := kbn) sO (tb t)] at H; replace H := H.famSub (L' := dlK kbn (tb t) P0) (M := [x9]) 6 rfl ((sO.del_perm hB.ps hg).trans (List.perm_append_comm (l₁ := [x9]))) rfl; replace H := H.famSub (L' := dlK kbn (tb t) P0) (M := [x9]) 7 rfl ((sO.del_perm hB.ps hg).trans (List.perm_append_comm (l₁ := [x9]))) rfl
      replace hT := hT.keep [22, 20, 9, 8, 7, 5, 0, 1, 2, 3] rfl; clear Hu hH; refine ser_calm ?_; refine Sx.then_normal (hK25 _ _ ?_); clear hK25; refine wp_seq_k fun K26 hK26 => ?_; refine Sx.wp_text [(0, .take)] rfl ?_; refine st_take hT rfl rfl rfl rfl (x_assign hT rfl rfl) ?_; clear hT; intro a hT; replace hT := hT.keep [8, 22, 20, 9, 7, 5, 0, 1, 2, 3] rfl; refine ser_nil ?_; refine Sx.then_normal (hK26 _ _ ?_); clear hK26; refine wp_ret ?_; refine Sx.done1 (fn := Tryz.f12) hT rfl (.tmp (hT.get 8 _ rfl)) ?_; refine ⟨H0, dlK kbn (tb t) P0, by rw [h0], H.keep [2, 3, 4, 5, 6, 7] rfl rfl, ?_, (hB.del (tb t)).up (by omega) hn9⟩; unfold resM; rw [if_pos h0, hcm, if_neg (by decide)]; rw [del_map (κ := kbn) (κ' := kbp) (f := Pn.p) (fun _ => rfl)]

end Go.Proofs.YtpnfpndhdnmhkaaGreat
