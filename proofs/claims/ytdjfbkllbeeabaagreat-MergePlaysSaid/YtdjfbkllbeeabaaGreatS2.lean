/- Walks: fragments put in, and taken out. -/
import Derived.Test.YtdjfbkllbeeabaaGreatS1
set_option linter.unusedSimpArgs false
set_option linter.unusedVariables false
namespace Go.Proofs.YtdjfbkllbeeabaaGreat
open Sx
theorem Tryz.can38 : Sx.Can Tryz.prog 38 := ⟨_, Tryz.func38, by kernel_rfl, rfl⟩
theorem Tryz.can54 : Sx.Can Tryz.prog 54 := ⟨_, Tryz.func54, by kernel_rfl, rfl⟩
theorem Tryz.can56 : Sx.Can Tryz.prog 56 := ⟨_, Tryz.func56, by kernel_rfl, rfl⟩
theorem Tryz.can62 : Sx.Can Tryz.prog 62 := ⟨_, Tryz.func62, by kernel_rfl, rfl⟩
/-- slices.Insert of one element. -/
theorem frInsert (ad : Option Addr) (n c i bv : Nat) (xs vs : List Value) (w : World) (hr : Sx.Row w 38 9 ad n c xs) (hv : Sx.Blk w bv vs 38) (hvl : vs.length = 9) (h1 : ∀ u ∈ xs, u.oneCell' = true) (h1v : ∀ u ∈ vs, u.oneCell' = true)
    (hi : i ≤ n) (hne : ∀ k, Sx.Own ad k → k ≠ bv) (hby : (n + 1) * 88 ≤ 140737488355328) :
    Calls Tryz.prog 56 #[.slice ad n c, .int .i64 i, .slice (some ⟨bv, 0, none⟩) 1 1] w fun r w' => ∃ ad' c', r = .returned (.slice ad' (n + 1) c') ∧ Sx.Row w' 38 9 ad' (n + 1) c' (xs.take (i * 9) ++ vs ++ xs.drop (i * 9)) ∧ Sx.Ext (Sx.Own ad) w w' ∧
      (∀ k, Sx.Own ad' k → Sx.Own ad k ∨ w.heap.size ≤ k) := by
  have hle := hr.le
  have hm := hle.2
  unfold maxLen at hm
  have hxl := hr.len
  refine Sx.calls_into Tryz.func56 rfl Tryz.ntmps56 rfl fun a hT => ?_
  replace hT := hT.keep [0, 1, 2] rfl
  have X : Sx.Ext ((Sx.Own ad)) w w := Sx.Ext.refl _ _
  have X0 : Sx.Ext Sx.No w w := Sx.Ext.refl _ _
  have hbv := hv.lt
  refine wp_seq_k fun K1 hK1 => ?_
  -- region 0 (slices.go:136)
  refine Sx.wp_text [(0, .take)] rfl ?_
  refine Sx.st_take hT rfl rfl rfl rfl (Sx.x_assign hT rfl rfl) ?_
  clear hT; intro a hT
  replace hT := hT.keep [6, 0, 1, 2] rfl
  refine Sx.ser_nil ?_
  refine Sx.then_normal (hK1 _ _ ?_)
  clear hK1
  refine wp_seq_k fun K2 hK2 => ?_
  -- region 1 (slices.go:137)
  refine Sx.wp_text [(0, .take), (1, .take), (2, .take)] rfl ?_
  refine Sx.st_take hT rfl rfl rfl rfl (Sx.x_move hT rfl rfl) ?_
  clear hT; intro a hT
  refine Sx.st_take hT rfl rfl rfl rfl (Sx.x_move hT rfl rfl) ?_
  clear hT; intro a hT
  refine Sx.st_take hT rfl rfl rfl rfl (Sx.x_slice_l hT rfl Tryz.underlying56 Tryz.ti38 rfl rfl rfl hi) ?_
  clear hT; intro a hT
  replace hT := hT.keep [6, 0, 1, 2] rfl
  refine Sx.ser_nil ?_
  refine Sx.then_normal (hK2 _ _ ?_)
  clear hK2
  refine wp_seq_k fun K3 hK3 => ?_
  -- region 2 (slices.go:139)
  refine Sx.wp_text [(0, .take), (1, .take), (2, .take)] rfl ?_
  refine Sx.st_take hT rfl rfl rfl rfl (Sx.x_move hT rfl rfl) ?_
  clear hT; intro a hT
  refine Sx.st_take hT rfl rfl rfl rfl (Sx.x_len_slice hT rfl rfl Tryz.underlying56 rfl) ?_
  clear hT; intro a hT
  refine Sx.st_take hT rfl rfl rfl rfl (Sx.x_assign hT rfl rfl) ?_
  clear hT; intro a hT
  replace hT := hT.keep [7, 6, 0, 1, 2] rfl
  refine Sx.ser_nil ?_
  refine Sx.then_normal (hK3 _ _ ?_)
  clear hK3
  refine wp_seq_k fun K4 hK4 => ?_
  refine wp_seq_k fun K5 hK5 => ?_
  -- region 3 (slices.go:140)
  refine Sx.wp_text [(0, .take), (1, .take)] rfl ?_
  refine Sx.st_take hT rfl rfl rfl rfl (Sx.x_move hT rfl rfl) ?_
  clear hT; intro a hT
  refine Sx.st_take hT rfl rfl rfl rfl ((fun w => Sx.x_eq w hT rfl rfl rfl)) ?_
  clear hT; intro a hT
  replace hT := hT.keep [16, 7, 6, 0, 1, 2] rfl
  refine Sx.ser_nil ?_
  refine Sx.then_normal (hK5 _ _ ?_)
  clear hK5
  -- cond 0
  refine Sx.wp_if hT rfl (fun hc6 => ?_) (fun hc6 => ?_)
  · exfalso
    try simp only [decide_eq_true_eq, decide_eq_false_iff_not, Bool.not_eq_true', Bool.not_eq_false', Bool.not_eq_true, Bool.not_eq_false, Bool.and_eq_true, Bool.or_eq_false_iff, beq_iff_eq, bne_iff_ne, Int.not_lt, Int.not_le, ne_eq] at hc6
    first | omega | simp at hc6
  · try simp only [decide_eq_true_eq, decide_eq_false_iff_not, Bool.not_eq_true', Bool.not_eq_false', Bool.not_eq_true, Bool.not_eq_false, Bool.and_eq_true, Bool.or_eq_false_iff, beq_iff_eq, bne_iff_ne, Int.not_lt, Int.not_le, ne_eq] at hc6
    refine wp_skip ?_
    refine Sx.then_normal (hK4 _ _ ?_)
    clear hK4
    refine wp_seq_k fun K7 hK7 => ?_
    -- region 5 (slices.go:143)
    refine Sx.wp_text [(0, .take), (1, .take), (2, .take)] rfl ?_
    refine Sx.st_take hT rfl rfl rfl rfl (Sx.x_move hT rfl rfl) ?_
    clear hT; intro a hT
    refine Sx.st_take hT rfl rfl rfl rfl (Sx.x_len_slice hT rfl rfl Tryz.underlying56 rfl) ?_
    clear hT; intro a hT
    refine Sx.st_take hT rfl rfl rfl rfl (Sx.x_assign hT rfl rfl) ?_
    clear hT; intro a hT
    replace hT := hT.keep [8, 16, 7, 6, 0, 1, 2] rfl
    refine Sx.ser_nil ?_
    refine Sx.then_normal (hK7 _ _ ?_)
    clear hK7
    refine wp_seq_k fun K8 hK8 => ?_
    refine wp_seq_k fun K9 hK9 => ?_
    -- region 6 (slices.go:144)
    refine Sx.wp_text [(0, .take), (1, .take), (2, .take)] rfl ?_
    refine Sx.st_take hT rfl rfl rfl rfl (Sx.x_move hT rfl rfl) ?_
    clear hT; intro a hT
    refine Sx.st_take hT rfl rfl rfl rfl (Sx.x_move hT rfl rfl) ?_
    clear hT; intro a hT
    refine Sx.st_take hT rfl rfl rfl rfl ((fun w => Sx.x_eq w hT rfl rfl rfl)) ?_
    clear hT; intro a hT
    replace hT := hT.keep [22, 8, 16, 7, 6, 0, 1, 2] rfl
    refine Sx.ser_nil ?_
    refine Sx.then_normal (hK9 _ _ ?_)
    clear hK9
    -- cond 1
    refine Sx.wp_if hT rfl (fun hc10 => ?_) (fun hc10 => ?_)
    · try simp only [decide_eq_true_eq, decide_eq_false_iff_not, Bool.not_eq_true', Bool.not_eq_false', Bool.not_eq_true, Bool.not_eq_false, Bool.and_eq_true, Bool.or_eq_false_iff, beq_iff_eq, bne_iff_ne, Int.not_lt, Int.not_le, ne_eq] at hc10
      refine wp_seq_k fun K11 hK11 => ?_
      -- region 7 (slices.go:145)
      refine Sx.wp_text [(0, .take), (1, .take), (2, .run), (3, .take)] rfl ?_
      refine Sx.st_take hT rfl rfl rfl rfl (Sx.x_move hT rfl rfl) ?_
      clear hT; intro a hT
      refine Sx.st_take hT rfl rfl rfl rfl (Sx.x_move hT rfl rfl) ?_
      clear hT; intro a hT
      refine Sx.st_eff hT rfl rfl rfl rfl (Sx.x_append hT rfl rfl Tryz.underlying56 Tryz.ti38 rfl (by decide) rfl rfl hr (hv.sv1 hvl) h1v (fun h => by cases h) (by unfold maxLen; omega) (by omega)) ?_
      clear hT; rintro _ w1 ⟨ad2, c2, rfl, hr2, E, hown, -⟩ a hT
      replace X := X.same E
      refine Sx.st_take hT rfl rfl rfl rfl (Sx.x_assign hT rfl rfl) ?_
      clear hT; intro a hT
      replace hT := hT.keep [6, 22, 8, 16, 7, 0, 1, 2] rfl
      refine Sx.ser_nil ?_
      refine Sx.then_normal (hK11 _ _ ?_)
      clear hK11
      refine wp_ret ?_
      refine Sx.then_ret ?_
      refine Sx.done1 (fn := Tryz.f56) hT rfl (.tmp (hT.get 6 _ rfl)) ?_
      have hin2 : i = n := by omega
      subst hin2
      rw [List.take_of_length_le (by omega), List.drop_eq_nil_of_le (by omega), List.append_nil]
      exact ⟨_, _, rfl, hr2, X, hown⟩
    · try simp only [decide_eq_true_eq, decide_eq_false_iff_not, Bool.not_eq_true', Bool.not_eq_false', Bool.not_eq_true, Bool.not_eq_false, Bool.and_eq_true, Bool.or_eq_false_iff, beq_iff_eq, bne_iff_ne, Int.not_lt, Int.not_le, ne_eq] at hc10
      refine wp_skip ?_
      refine Sx.then_normal (hK8 _ _ ?_)
      clear hK8
      refine wp_seq_k fun K12 hK12 => ?_
      refine wp_seq_k fun K13 hK13 => ?_
      -- region 8 (slices.go:147)
      refine Sx.wp_text [(0, .take), (1, .take), (2, .take), (3, .take), (4, .take), (5, .take)] rfl ?_
      refine Sx.st_take hT rfl rfl rfl rfl (Sx.x_move hT rfl rfl) ?_
      clear hT; intro a hT
      refine Sx.st_take hT rfl rfl rfl rfl (Sx.x_move hT rfl rfl) ?_
      clear hT; intro a hT
      refine Sx.st_take hT rfl rfl rfl rfl ((fun w => Sx.x_add w hT rfl rfl rfl (Sx.wrap64 (by omega)))) ?_
      clear hT; intro a hT
      refine Sx.st_take hT rfl rfl rfl rfl (Sx.x_move hT rfl rfl) ?_
      clear hT; intro a hT
      refine Sx.st_take hT rfl rfl rfl rfl (Sx.x_cap hT rfl rfl Tryz.underlying56 rfl) ?_
      clear hT; intro a hT
      refine Sx.st_take hT rfl rfl rfl rfl ((fun w => Sx.x_gt w hT rfl rfl rfl)) ?_
      clear hT; intro a hT
      replace hT := hT.keep [31, 22, 8, 16, 7, 6, 0, 1, 2] rfl
      refine Sx.ser_nil ?_
      refine Sx.then_normal (hK13 _ _ ?_)
      clear hK13
      -- cond 2
      refine Sx.wp_if hT rfl (fun hc14 => ?_) (fun hc14 => ?_)
      · try simp only [decide_eq_true_eq, decide_eq_false_iff_not, Bool.not_eq_true', Bool.not_eq_false', Bool.not_eq_true, Bool.not_eq_false, Bool.and_eq_true, Bool.or_eq_false_iff, beq_iff_eq, bne_iff_ne, Int.not_lt, Int.not_le, ne_eq] at hc14
        refine wp_seq_k fun K15 hK15 => ?_
        -- region 9 (slices.go:152)
        refine Sx.wp_text [(0, .take), (1, .take), (2, .take), (3, .take), (4, .take), (5, .take), (6, .take), (7, .take), (8, .run), (9, .take)] rfl ?_
        refine Sx.st_take hT rfl rfl rfl rfl (Sx.x_move hT rfl rfl) ?_
        clear hT; intro a hT
        refine Sx.st_take hT rfl rfl rfl rfl (Sx.x_move hT rfl rfl) ?_
        clear hT; intro a hT
        refine Sx.st_take hT rfl rfl rfl rfl (Sx.x_slice_h hT rfl Tryz.underlying56 Tryz.ti38 rfl rfl rfl (by omega)) ?_
        clear hT; intro a hT
        refine Sx.st_take hT rfl rfl rfl rfl (Sx.x_move hT rfl rfl) ?_
        clear hT; intro a hT
        refine Sx.st_take hT rfl rfl rfl rfl (Sx.x_move hT rfl rfl) ?_
        clear hT; intro a hT
        refine Sx.st_take hT rfl rfl rfl rfl ((fun w => Sx.x_add w hT rfl rfl rfl (Sx.wrap64 (by omega)))) ?_
        clear hT; intro a hT
        refine Sx.st_take hT rfl rfl rfl rfl (Sx.x_move hT rfl rfl) ?_
        clear hT; intro a hT
        refine Sx.st_take hT rfl rfl rfl rfl ((fun w => Sx.x_sub w hT rfl rfl rfl (Sx.wrap64 (by omega)))) ?_
        clear hT; intro a hT
        refine Sx.st_eff hT rfl rfl rfl rfl (Sx.x_append_zeros (k := n + 1 - i) hT rfl rfl Tryz.underlying56 Tryz.underlying3 Tryz.ti38 rfl (by decide) rfl rfl (by omega) (hr.take hi) (by omega) (by omega) (by unfold maxLen; omega) (by omega)) ?_
        clear hT; rintro _ w1 ⟨b2, c2, rfl, hb2, hr2, E⟩ a hT
        replace X := X.step E
        have hq := hr.lt
        replace hr := hr.ext_no E
        replace hv := hv.ext_no E
        have hn2 : i + (n + 1 - i) = n + 1 := by omega
        rw [hn2] at hr2 hT
        have hle2 := hr2.le
        have hm2 := hle2.2
        unfold maxLen at hm2
        refine Sx.st_take hT rfl rfl rfl rfl (Sx.x_assign hT rfl rfl) ?_
        clear hT; intro a hT
        replace hT := hT.keep [9, 31, 22, 8, 16, 7, 6, 0, 1, 2] rfl
        refine Sx.ser_nil ?_
        refine Sx.then_normal (hK15 _ _ ?_)
        clear hK15
        refine wp_seq_k fun K16 hK16 => ?_
        -- region 10 (slices.go:153)
        refine Sx.wp_text [(0, .take), (1, .take), (2, .take), (3, .take), (4, .run)] rfl ?_
        refine Sx.st_take hT rfl rfl rfl rfl (Sx.x_move hT rfl rfl) ?_
        clear hT; intro a hT
        refine Sx.st_take hT rfl rfl rfl rfl (Sx.x_move hT rfl rfl) ?_
        clear hT; intro a hT
        refine Sx.st_take hT rfl rfl rfl rfl (Sx.x_slice_l hT rfl Tryz.underlying56 Tryz.ti38 rfl rfl rfl (by omega)) ?_
        clear hT; intro a hT
        refine Sx.st_take hT rfl rfl rfl rfl (Sx.x_move hT rfl rfl) ?_
        clear hT; intro a hT
        refine Sx.st_eff hT rfl rfl rfl rfl (Sx.x_copy (k := i) (m := n + 1) hT rfl rfl Tryz.underlying56 Tryz.ti38 rfl rfl rfl rfl rfl hr2 (by omega) (hv.sv1 hvl) (fun u hu => h1v u (List.mem_of_mem_take hu))) ?_
        clear hT; rintro _ w2 ⟨rfl, hr3, E, -⟩ a hT
        rw [Sx.Own.one] at E
        replace hv := hv.ext E (by unfold Sx.One; omega)
        replace X := X.fresh E (by omega)
        replace hr := hr.ext E (fun k hk h => by unfold Sx.One at h; have := hq k hk; omega)
        replace hr2 := hr3
        clear hr3
        rw [show Nat.min 1 (n + 1 - i) = 1 from by simp only [Nat.min_def]; split <;> omega, Nat.one_mul] at hr2
        replace hT := hT.keep [9, 31, 22, 8, 16, 7, 6, 0, 1, 2] rfl
        refine Sx.ser_nil ?_
        refine Sx.then_normal (hK16 _ _ ?_)
        clear hK16
        refine wp_seq_k fun K17 hK17 => ?_
        -- region 11 (slices.go:154)
        refine Sx.wp_draws (fun u => Sx.Ext Sx.No u) [(0, .take), (1, .take), (2, .take), (3, .take), (4, .take), (5, .take), (6, .take), (7, .take), (8, .run)] (by kernel_rfl) (by kernel_rfl) (fun u E z => ?_)
        replace X := X.step E
        replace hv := hv.ext_no E
        replace hr := hr.ext_no E
        replace hr2 := hr2.ext_no E
        have hH : Sx.Ext Sx.No u u := Sx.Ext.refl _ _
        refine Sx.st_take hT rfl rfl rfl rfl (Sx.x_move hT rfl rfl) ?_
        clear hT; intro a hT
        refine Sx.st_take hT rfl rfl rfl rfl (Sx.x_move hT rfl rfl) ?_
        clear hT; intro a hT
        refine Sx.st_take hT rfl rfl rfl rfl (Sx.x_move hT rfl rfl) ?_
        clear hT; intro a hT
        refine Sx.st_take hT rfl rfl rfl rfl ((fun w => Sx.x_add w hT rfl rfl rfl (Sx.wrap64 (by omega)))) ?_
        clear hT; intro a hT
        refine Sx.st_take hT rfl rfl rfl rfl (Sx.x_slice_l (p := i + 1) hT rfl Tryz.underlying56 Tryz.ti38 rfl rfl (by omega) (by omega)) ?_
        clear hT; intro a hT
        refine Sx.st_take hT rfl rfl rfl rfl (Sx.x_move hT rfl rfl) ?_
        clear hT; intro a hT
        refine Sx.st_take hT rfl rfl rfl rfl (Sx.x_move hT rfl rfl) ?_
        clear hT; intro a hT
        refine Sx.st_take hT rfl rfl rfl rfl (Sx.x_slice_l hT rfl Tryz.underlying56 Tryz.ti38 rfl rfl rfl hi) ?_
        clear hT; intro a hT
        refine Sx.st_eff hT rfl rfl rfl rfl (Sx.x_copy (k := i + 1) (m := n + 1) hT rfl rfl Tryz.underlying56 Tryz.ti38 rfl rfl rfl rfl rfl hr2 (by omega) (hr.sv.cut (lo := i) (hi := n) hi (Nat.le_refl _) hle.1) (fun u hu => h1 u (List.mem_of_mem_drop (List.mem_of_mem_take (List.mem_of_mem_take hu))))) ?_
        clear hT; rintro _ w3 ⟨rfl, hr3, E2, -⟩ a hT
        rw [Sx.Own.one] at E2
        replace X := X.fresh E2 (by omega)
        replace hr2 := hr3
        replace hv := hv.ext E2 (by unfold Sx.One; omega)
        replace hr := hr.ext E2 (fun k hk h => by unfold Sx.One at h; have := hq k hk; omega)
        clear hr3
        rw [show Nat.min (n - i) (n + 1 - (i + 1)) = n - i from by simp only [Nat.min_def]; split <;> omega, List.take_of_length_le (l := xs.drop (i * 9)) (i := (n - i) * 9) (by rw [List.length_drop, hxl]; omega)] at hr2
        replace hT := hT.keep [9, 31, 22, 8, 16, 7, 6, 0, 1, 2] rfl
        refine Sx.ser_calm ?_
        refine Sx.then_normal (hK17 _ _ ?_)
        clear hK17
        refine wp_seq_k fun K18 hK18 => ?_
        -- region 12 (slices.go:155)
        refine Sx.wp_text [(0, .take), (1, .take)] rfl ?_
        refine Sx.st_take hT rfl rfl rfl rfl (Sx.x_move hT rfl rfl) ?_
        clear hT; intro a hT
        refine Sx.st_take hT rfl rfl rfl rfl (Sx.x_assign hT rfl rfl) ?_
        clear hT; intro a hT
        replace hT := hT.keep [6, 9, 31, 22, 8, 16, 7, 0, 1, 2] rfl
        refine Sx.ser_nil ?_
        refine Sx.then_normal (hK18 _ _ ?_)
        clear hK18
        refine wp_ret ?_
        refine Sx.then_ret ?_
        refine Sx.done1 (fn := Tryz.f56) hT rfl (.tmp (hT.get 6 _ rfl)) ?_
        have hz1 : (Builtin.zeroCells (.agg #[.int .i64 0, .int .i64 0, .int .i64 0, .int .i64 0, .int .i64 0, .int .i64 0, .int .i64 0, .int .i64 0, .slice none 0 0] : Value).cells (n + 1 - i)).toList.length = 9 + (n - i) * 9 := by
          rw [Array.length_toList, size_zeroCells, show (.agg #[.int .i64 0, .int .i64 0, .int .i64 0, .int .i64 0, .int .i64 0, .int .i64 0, .int .i64 0, .int .i64 0, .slice none 0 0] : Value).cells.size = 9 from rfl]; omega
        have hA : (xs.take (i * 9)).length = i * 9 := by rw [List.length_take, hxl]; omega
        have hB : (xs.drop (i * 9)).length = (n - i) * 9 := by rw [List.length_drop, hxl]; omega
        have h9 := Sx.ins_grow hA hvl hB hz1
        simp only [show (i + 1) * 9 = i * 9 + 9 from by omega, show (i + 1 + (n - i)) * 9 = i * 9 + 9 + (n - i) * 9 from by omega] at hr2
        rw [List.take_of_length_le (l := vs) (by omega), List.take_of_length_le (l := xs.drop (i * 9)) (by omega), h9] at hr2
        exact ⟨_, _, rfl, hr2, X, fun k hk => .inr (by rw [Sx.Own.one] at hk; unfold Sx.One at hk; omega)⟩
      · try simp only [decide_eq_true_eq, decide_eq_false_iff_not, Bool.not_eq_true', Bool.not_eq_false', Bool.not_eq_true, Bool.not_eq_false, Bool.and_eq_true, Bool.or_eq_false_iff, beq_iff_eq, bne_iff_ne, Int.not_lt, Int.not_le, ne_eq] at hc14
        refine wp_skip ?_
        refine Sx.then_normal (hK12 _ _ ?_)
        clear hK12
        refine wp_seq_k fun K19 hK19 => ?_
        -- region 13 (slices.go:157)
        refine Sx.wp_text [(0, .take), (1, .take), (2, .take), (3, .take), (4, .take), (5, .take)] rfl ?_
        refine Sx.st_take hT rfl rfl rfl rfl (Sx.x_move hT rfl rfl) ?_
        clear hT; intro a hT
        refine Sx.st_take hT rfl rfl rfl rfl (Sx.x_move hT rfl rfl) ?_
        clear hT; intro a hT
        refine Sx.st_take hT rfl rfl rfl rfl (Sx.x_move hT rfl rfl) ?_
        clear hT; intro a hT
        refine Sx.st_take hT rfl rfl rfl rfl ((fun w => Sx.x_add w hT rfl rfl rfl (Sx.wrap64 (by omega)))) ?_
        clear hT; intro a hT
        refine Sx.st_take hT rfl rfl rfl rfl (Sx.x_slice_h (q := n + 1) hT rfl Tryz.underlying56 Tryz.ti38 rfl rfl rfl (by omega)) ?_
        clear hT; intro a hT
        obtain ⟨ys, hr2⟩ := hr.upto (q := n + 1) (by omega) (by omega)
        have hys : ys.length = 9 := by have := hr2.len; rw [List.length_append, hxl] at this; omega
        obtain ⟨junk, ha, hB, -⟩ := hr2.at_ (by omega)
        refine Sx.st_take hT rfl rfl rfl rfl (Sx.x_assign hT rfl rfl) ?_
        clear hT; intro a hT
        replace hT := hT.keep [0, 31, 22, 8, 16, 7, 6, 1, 2] rfl
        refine Sx.ser_nil ?_
        refine Sx.then_normal (hK19 _ _ ?_)
        clear hK19
        refine wp_seq_k fun K20 hK20 => ?_
        refine wp_seq_k fun K21 hK21 => ?_
        -- region 14 (slices.go:173)
        refine Sx.wp_text [(0, .take), (1, .take), (2, .take), (3, .take), (4, .take), (5, .take), (6, .run), (7, .take)] rfl ?_
        refine Sx.st_take hT rfl rfl rfl rfl (Sx.x_move hT rfl rfl) ?_
        clear hT; intro a hT
        refine Sx.st_take hT rfl rfl rfl rfl (Sx.x_move hT rfl rfl) ?_
        clear hT; intro a hT
        refine Sx.st_take hT rfl rfl rfl rfl (Sx.x_move hT rfl rfl) ?_
        clear hT; intro a hT
        refine Sx.st_take hT rfl rfl rfl rfl (Sx.x_move hT rfl rfl) ?_
        clear hT; intro a hT
        refine Sx.st_take hT rfl rfl rfl rfl ((fun w => Sx.x_add w hT rfl rfl rfl (Sx.wrap64 (by omega)))) ?_
        clear hT; intro a hT
        refine Sx.st_take hT rfl rfl rfl rfl (Sx.x_slice_l (p := i + 1) hT rfl Tryz.underlying56 Tryz.ti38 rfl rfl (by omega) (by omega)) ?_
        clear hT; intro a hT
        refine Sx.st_run hT rfl rfl rfl rfl (Sx.x_callext hT rfl rfl (Sx.run_overlaps (tR := 4) Tryz.func80 (by kernel_rfl) rfl (by kernel_rfl) (by kernel_rfl) Tryz.underlying56 Tryz.ti38 hv hB (fun h => hne (Sx.ab ad) (by rw [ha]; rfl) h.symm) (fun h => by have := congrArg List.length h; simp only [List.length_append, hys, List.length_nil] at this; omega) ⟨_, Sx.cutAt_row ha (by omega)⟩)) ?_
        clear hT; intro a hT
        refine Sx.st_take hT rfl rfl rfl rfl (Sx.x_not hT rfl rfl) ?_
        clear hT; intro a hT
        replace hT := hT.keep [68, 0, 31, 22, 8, 16, 7, 6, 1, 2] rfl
        refine Sx.ser_nil ?_
        refine Sx.then_normal (hK21 _ _ ?_)
        clear hK21
        refine Sx.wp_if hT rfl (fun _ => ?_) (fun h => by cases h)
        refine wp_seq_k fun K22 hK22 => ?_
        -- region 15 (slices.go:178)
        refine Sx.wp_draws (fun u => Sx.Ext Sx.No u) [(0, .take), (1, .take), (2, .take), (3, .take), (4, .take), (5, .take), (6, .take), (7, .take), (8, .run)] (by kernel_rfl) (by kernel_rfl) (fun u E z => ?_)
        replace X := X.step E
        replace hv := hv.ext_no E
        replace hr := hr.ext_no E
        replace hr2 := hr2.ext_no E
        have hH : Sx.Ext Sx.No u u := Sx.Ext.refl _ _
        refine Sx.st_take hT rfl rfl rfl rfl (Sx.x_move hT rfl rfl) ?_
        clear hT; intro a hT
        refine Sx.st_take hT rfl rfl rfl rfl (Sx.x_move hT rfl rfl) ?_
        clear hT; intro a hT
        refine Sx.st_take hT rfl rfl rfl rfl (Sx.x_move hT rfl rfl) ?_
        clear hT; intro a hT
        refine Sx.st_take hT rfl rfl rfl rfl ((fun w => Sx.x_add w hT rfl rfl rfl (Sx.wrap64 (by omega)))) ?_
        clear hT; intro a hT
        refine Sx.st_take hT rfl rfl rfl rfl (Sx.x_slice_l (p := i + 1) hT rfl Tryz.underlying56 Tryz.ti38 rfl rfl (by omega) (by omega)) ?_
        clear hT; intro a hT
        refine Sx.st_take hT rfl rfl rfl rfl (Sx.x_move hT rfl rfl) ?_
        clear hT; intro a hT
        refine Sx.st_take hT rfl rfl rfl rfl (Sx.x_move hT rfl rfl) ?_
        clear hT; intro a hT
        refine Sx.st_take hT rfl rfl rfl rfl (Sx.x_slice_l hT rfl Tryz.underlying56 Tryz.ti38 rfl rfl rfl (by omega)) ?_
        clear hT; intro a hT
        refine Sx.st_eff hT rfl rfl rfl rfl (Sx.x_copy (k := i + 1) (m := n + 1) hT rfl rfl Tryz.underlying56 Tryz.ti38 rfl rfl rfl rfl rfl hr2 (by omega) (hr2.sv.cut (lo := i) (hi := n + 1) (by omega) (Nat.le_refl _) (by omega)) (fun u hu => h1 u (by rw [show Nat.min (n + 1 - i) (n + 1 - (i + 1)) = n - i from by simp only [Nat.min_def]; split <;> omega, List.take_take, Nat.min_eq_left (by omega), List.drop_append_of_le_length (by omega), List.take_append_of_le_length (by rw [List.length_drop]; omega)] at hu; exact List.mem_of_mem_drop (List.mem_of_mem_take hu)))) ?_
        clear hT; rintro _ w1 ⟨rfl, hr3, E2, -⟩ a hT
        have hvb := hv
        replace hv := hv.ext E2 (fun h => hne _ h rfl)
        replace X := X.same E2
        replace hr2 := hr3
        clear hr3
        rw [show Nat.min (n + 1 - i) (n + 1 - (i + 1)) = n - i from by simp only [Nat.min_def]; split <;> omega, List.take_take, Nat.min_eq_left (by omega)] at hr2
        replace hT := hT.keep [68, 0, 31, 22, 8, 16, 7, 6, 1, 2] rfl
        refine Sx.ser_calm ?_
        refine Sx.then_normal (hK22 _ _ ?_)
        clear hK22
        refine wp_seq_k fun K23 hK23 => ?_
        -- region 16 (slices.go:186)
        refine Sx.wp_text [(0, .take), (1, .take), (2, .take), (3, .take), (4, .run)] rfl ?_
        refine Sx.st_take hT rfl rfl rfl rfl (Sx.x_move hT rfl rfl) ?_
        clear hT; intro a hT
        refine Sx.st_take hT rfl rfl rfl rfl (Sx.x_move hT rfl rfl) ?_
        clear hT; intro a hT
        refine Sx.st_take hT rfl rfl rfl rfl (Sx.x_slice_l hT rfl Tryz.underlying56 Tryz.ti38 rfl rfl rfl (by omega)) ?_
        clear hT; intro a hT
        refine Sx.st_take hT rfl rfl rfl rfl (Sx.x_move hT rfl rfl) ?_
        clear hT; intro a hT
        refine Sx.st_eff hT rfl rfl rfl rfl (Sx.x_copy (k := i) (m := n + 1) hT rfl rfl Tryz.underlying56 Tryz.ti38 rfl rfl rfl rfl rfl hr2 (by omega) (hv.sv1 hvl) (fun u hu => h1v u (List.mem_of_mem_take hu))) ?_
        clear hT; rintro _ w2 ⟨rfl, hr3, E3, -⟩ a hT
        replace X := X.same E3
        replace hr2 := hr3
        clear hr3
        rw [show Nat.min 1 (n + 1 - i) = 1 from by simp only [Nat.min_def]; split <;> omega, Nat.one_mul] at hr2
        replace hT := hT.keep [68, 0, 31, 22, 8, 16, 7, 6, 1, 2] rfl
        refine Sx.ser_nil ?_
        refine Sx.then_normal (hK23 _ _ ?_)
        clear hK23
        refine wp_seq_k fun K24 hK24 => ?_
        -- region 17 (slices.go:193)
        refine Sx.wp_text [(0, .take), (1, .take)] rfl ?_
        refine Sx.st_take hT rfl rfl rfl rfl (Sx.x_move hT rfl rfl) ?_
        clear hT; intro a hT
        refine Sx.st_take hT rfl rfl rfl rfl (Sx.x_assign hT rfl rfl) ?_
        clear hT; intro a hT
        replace hT := hT.keep [6, 68, 0, 31, 22, 8, 16, 7, 1, 2] rfl
        refine Sx.ser_nil ?_
        refine Sx.then_normal (hK24 _ _ ?_)
        clear hK24
        refine wp_ret ?_
        refine Sx.then_ret ?_
        refine Sx.done1 (fn := Tryz.f56) hT rfl (.tmp (hT.get 6 _ rfl)) ?_
        have hA : (xs.take (i * 9)).length = i * 9 := by rw [List.length_take, hxl]; omega
        have hB : (xs.drop (i * 9)).length = (n - i) * 9 := by rw [List.length_drop, hxl]; omega
        have h9 := Sx.ins_room hA hvl hB hys
        rw [List.take_append_drop] at h9
        simp only [show (i + 1) * 9 = i * 9 + 9 from by omega, show (i + 1 + (n - i)) * 9 = i * 9 + 9 + (n - i) * 9 from by omega] at hr2
        rw [List.take_of_length_le (l := vs) (by omega), h9] at hr2
        exact ⟨_, _, rfl, hr2, X, fun k hk => .inl hk⟩

/-- slices.Delete: the elements from i to j are gone; all in place. -/
theorem frDelete (ad : Option Addr) (n c i j : Nat) (xs : List Value) (w : World) (hr : Sx.Row w 38 9 ad n c xs) (h1 : ∀ u ∈ xs, u.oneCell' = true) (hij : i ≤ j) (hj : j ≤ n) (hby : n * 88 ≤ 140737488355328) :
    Calls Tryz.prog 62 #[.slice ad n c, .int .i64 i, .int .i64 j] w fun r w' => r = .returned (.slice ad (i + (n - j)) c) ∧ Sx.Row w' 38 9 ad (i + (n - j)) c (xs.take (i * 9) ++ xs.drop (j * 9)) ∧ Sx.Ext (Sx.Own ad) w w' := by
  have hle := hr.le
  have hm := hle.2
  unfold maxLen at hm
  have hxl := hr.len
  refine Sx.calls_into Tryz.func62 rfl Tryz.ntmps62 rfl fun a hT => ?_
  replace hT := hT.keep [0, 1, 2] rfl
  have X : Sx.Ext ((Sx.Own ad)) w w := Sx.Ext.refl _ _
  refine wp_seq_k fun K1 hK1 => ?_
  -- region 0 (slices.go:224)
  refine Sx.wp_text [(0, .take)] rfl ?_
  refine Sx.st_take hT rfl rfl rfl rfl (Sx.x_assign hT rfl rfl) ?_
  clear hT; intro a hT
  replace hT := hT.keep [6, 0, 1, 2] rfl
  refine Sx.ser_nil ?_
  refine Sx.then_normal (hK1 _ _ ?_)
  clear hK1
  refine wp_seq_k fun K2 hK2 => ?_
  -- region 1 (slices.go:225)
  refine Sx.wp_text [(0, .take), (1, .take), (2, .take), (3, .take), (4, .take), (5, .take)] rfl ?_
  refine Sx.st_take hT rfl rfl rfl rfl (Sx.x_move hT rfl rfl) ?_
  clear hT; intro a hT
  refine Sx.st_take hT rfl rfl rfl rfl (Sx.x_move hT rfl rfl) ?_
  clear hT; intro a hT
  refine Sx.st_take hT rfl rfl rfl rfl (Sx.x_move hT rfl rfl) ?_
  clear hT; intro a hT
  refine Sx.st_take hT rfl rfl rfl rfl (Sx.x_move hT rfl rfl) ?_
  clear hT; intro a hT
  refine Sx.st_take hT rfl rfl rfl rfl (Sx.x_len_slice hT rfl rfl Tryz.underlying56 rfl) ?_
  clear hT; intro a hT
  refine Sx.st_take hT rfl rfl rfl rfl (Sx.x_slice_lhm hT rfl Tryz.underlying56 Tryz.ti38 rfl rfl rfl rfl rfl rfl rfl hij hj hle.1) ?_
  clear hT; intro a hT
  replace hT := hT.keep [6, 0, 1, 2] rfl
  refine Sx.ser_nil ?_
  refine Sx.then_normal (hK2 _ _ ?_)
  clear hK2
  refine wp_seq_k fun K3 hK3 => ?_
  refine wp_seq_k fun K4 hK4 => ?_
  -- region 2 (slices.go:227)
  refine Sx.wp_text [(0, .take), (1, .take), (2, .take)] rfl ?_
  refine Sx.st_take hT rfl rfl rfl rfl (Sx.x_move hT rfl rfl) ?_
  clear hT; intro a hT
  refine Sx.st_take hT rfl rfl rfl rfl (Sx.x_move hT rfl rfl) ?_
  clear hT; intro a hT
  refine Sx.st_take hT rfl rfl rfl rfl ((fun w => Sx.x_eq w hT rfl rfl rfl)) ?_
  clear hT; intro a hT
  replace hT := hT.keep [16, 6, 0, 1, 2] rfl
  refine Sx.ser_nil ?_
  refine Sx.then_normal (hK4 _ _ ?_)
  clear hK4
  -- cond 0
  refine Sx.wp_if hT rfl (fun hc5 => ?_) (fun hc5 => ?_)
  · try simp only [decide_eq_true_eq, decide_eq_false_iff_not, Bool.not_eq_true', Bool.not_eq_false', Bool.not_eq_true, Bool.not_eq_false, Bool.and_eq_true, Bool.or_eq_false_iff, beq_iff_eq, bne_iff_ne, Int.not_lt, Int.not_le, ne_eq] at hc5
    refine wp_seq_k fun K6 hK6 => ?_
    -- region 3 (slices.go:228)
    refine Sx.wp_text [(0, .take), (1, .take)] rfl ?_
    refine Sx.st_take hT rfl rfl rfl rfl (Sx.x_move hT rfl rfl) ?_
    clear hT; intro a hT
    refine Sx.st_take hT rfl rfl rfl rfl (Sx.x_assign hT rfl rfl) ?_
    clear hT; intro a hT
    replace hT := hT.keep [6, 16, 0, 1, 2] rfl
    refine Sx.ser_nil ?_
    refine Sx.then_normal (hK6 _ _ ?_)
    clear hK6
    refine wp_ret ?_
    refine Sx.then_ret ?_
    refine Sx.done1 (fn := Tryz.f62) hT rfl (.tmp (hT.get 6 _ rfl)) ?_
    have hij2 : i = j := by omega
    subst hij2
    rw [List.take_append_drop, show i + (n - i) = n from by omega]
    exact ⟨rfl, hr, X⟩
  · try simp only [decide_eq_true_eq, decide_eq_false_iff_not, Bool.not_eq_true', Bool.not_eq_false', Bool.not_eq_true, Bool.not_eq_false, Bool.and_eq_true, Bool.or_eq_false_iff, beq_iff_eq, bne_iff_ne, Int.not_lt, Int.not_le, ne_eq] at hc5
    refine wp_skip ?_
    refine Sx.then_normal (hK3 _ _ ?_)
    clear hK3
    refine wp_seq_k fun K7 hK7 => ?_
    -- region 4 (slices.go:231)
    refine Sx.wp_text [(0, .take), (1, .take), (2, .take)] rfl ?_
    refine Sx.st_take hT rfl rfl rfl rfl (Sx.x_move hT rfl rfl) ?_
    clear hT; intro a hT
    refine Sx.st_take hT rfl rfl rfl rfl (Sx.x_len_slice hT rfl rfl Tryz.underlying56 rfl) ?_
    clear hT; intro a hT
    refine Sx.st_take hT rfl rfl rfl rfl (Sx.x_assign hT rfl rfl) ?_
    clear hT; intro a hT
    replace hT := hT.keep [7, 16, 6, 0, 1, 2] rfl
    refine Sx.ser_nil ?_
    refine Sx.then_normal (hK7 _ _ ?_)
    clear hK7
    refine wp_seq_k fun K8 hK8 => ?_
    -- region 5 (slices.go:232)
    refine Sx.wp_draws (fun u => Sx.Ext Sx.No u) [(0, .take), (1, .take), (2, .take), (3, .take), (4, .take), (5, .take), (6, .run), (7, .take)] (by kernel_rfl) (by kernel_rfl) (fun u E z => ?_)
    replace X := X.step E
    replace hr := hr.ext_no E
    have hH : Sx.Ext Sx.No u u := Sx.Ext.refl _ _
    refine Sx.st_take hT rfl rfl rfl rfl (Sx.x_move hT rfl rfl) ?_
    clear hT; intro a hT
    refine Sx.st_take hT rfl rfl rfl rfl (Sx.x_move hT rfl rfl) ?_
    clear hT; intro a hT
    refine Sx.st_take hT rfl rfl rfl rfl (Sx.x_slice_h hT rfl Tryz.underlying56 Tryz.ti38 rfl rfl rfl (by omega)) ?_
    clear hT; intro a hT
    refine Sx.st_take hT rfl rfl rfl rfl (Sx.x_move hT rfl rfl) ?_
    clear hT; intro a hT
    refine Sx.st_take hT rfl rfl rfl rfl (Sx.x_move hT rfl rfl) ?_
    clear hT; intro a hT
    refine Sx.st_take hT rfl rfl rfl rfl (Sx.x_slice_l hT rfl Tryz.underlying56 Tryz.ti38 rfl rfl rfl hj) ?_
    clear hT; intro a hT
    refine Sx.st_eff hT rfl rfl rfl rfl (Sx.x_append hT rfl rfl Tryz.underlying56 Tryz.ti38 rfl (by decide) rfl rfl (hr.take (by omega)) (hr.sv.cut (lo := j) (hi := n) hj (Nat.le_refl _) hle.1) (fun u hu => h1 u (List.mem_of_mem_drop (List.mem_of_mem_take hu))) (fun h => hr.nilcut h) (by unfold maxLen; omega) (by omega)) ?_
    clear hT; rintro _ w1 ⟨ad2, c2, rfl, hr2, E, -, hin⟩ a hT
    obtain ⟨rfl, rfl⟩ := hin (by omega)
    replace X := X.same E
    rw [List.take_of_length_le (l := xs.drop (j * 9)) (i := (n - j) * 9) (by rw [List.length_drop, hxl]; omega)] at hr2
    replace hr := hr2
    clear hr2 E hin
    refine Sx.st_take hT rfl rfl rfl rfl (Sx.x_assign hT rfl rfl) ?_
    clear hT; intro a hT
    replace hT := hT.keep [0, 7, 16, 6, 1, 2] rfl
    refine Sx.ser_calm ?_
    refine Sx.then_normal (hK8 _ _ ?_)
    clear hK8
    refine wp_seq_k fun K9 hK9 => ?_
    -- region 6 (slices.go:233)
    refine Sx.wp_text [(0, .take), (1, .take), (2, .take), (3, .take), (4, .take), (5, .run)] rfl ?_
    refine Sx.st_take hT rfl rfl rfl rfl (Sx.x_move hT rfl rfl) ?_
    clear hT; intro a hT
    refine Sx.st_take hT rfl rfl rfl rfl (Sx.x_move hT rfl rfl) ?_
    clear hT; intro a hT
    refine Sx.st_take hT rfl rfl rfl rfl (Sx.x_len_slice hT rfl rfl Tryz.underlying56 rfl) ?_
    clear hT; intro a hT
    refine Sx.st_take hT rfl rfl rfl rfl (Sx.x_move hT rfl rfl) ?_
    clear hT; intro a hT
    refine Sx.st_take hT rfl rfl rfl rfl (Sx.x_slice_lh hT rfl Tryz.underlying56 Tryz.ti38 rfl rfl rfl rfl rfl (by omega) (by omega)) ?_
    clear hT; intro a hT
    refine Sx.st_clear hT rfl rfl rfl rfl rfl Tryz.underlying56 Tryz.ti38 rfl (by decide) rfl rfl rfl hr (by omega) ?_
    intro w9 hr2 E _
    replace X := X.same E
    replace hr := hr2
    clear hr2 E
    replace hT := hT.keep [0, 7, 16, 6, 1, 2] rfl
    refine Sx.ser_nil ?_
    refine Sx.then_normal (hK9 _ _ ?_)
    clear hK9
    refine wp_seq_k fun K10 hK10 => ?_
    -- region 7 (slices.go:234)
    refine Sx.wp_text [(0, .take), (1, .take)] rfl ?_
    refine Sx.st_take hT rfl rfl rfl rfl (Sx.x_move hT rfl rfl) ?_
    clear hT; intro a hT
    refine Sx.st_take hT rfl rfl rfl rfl (Sx.x_assign hT rfl rfl) ?_
    clear hT; intro a hT
    replace hT := hT.keep [6, 0, 7, 16, 1, 2] rfl
    refine Sx.ser_nil ?_
    refine Sx.then_normal (hK10 _ _ ?_)
    clear hK10
    refine wp_ret ?_
    refine Sx.done1 (fn := Tryz.f62) hT rfl (.tmp (hT.get 6 _ rfl)) ?_
    exact ⟨rfl, hr, X⟩

theorem BSearch_calls {ad : Option Addr} {c : Nat} (l : List Fr) (f : Fr) {g : FuncId} (cf : Fr → Int) {w : World} (hs : Ss w ad Fr.cells 9 l) (hl : l.length ≤ 1000000) (hc : Sx.Can Tryz.prog g) (hm : ∀ (t1 t2 : Nat) q1 q2, t1 < t2 → l[t1]? = some q1 → l[t2]? = some q2 → cf q2 < 0 → cf q1 < 0) (hp : ∀ x ∈ l, ∀ w1, Calls Tryz.prog g ([Value.agg (Fr.cells x).toArray, Value.agg #[.int .i64 f.rg, .int .i64 f.at_, .int .i64 f.t.co, .int .i64 f.t.li, .int .i64 f.t.sq, .int .i64 f.s.w, .int .i64 f.s.l, .int .i64 f.s.n, .slice f.ad f.ws.length f.c]] ++ []).toArray w1 fun e w2 => e = .returned (.int .i64 (cf x)) ∧ Ext No w1 w2) : Calls Tryz.prog 54 #[.slice ad l.length c, .agg #[.int .i64 f.rg, .int .i64 f.at_, .int .i64 f.t.co, .int .i64 f.t.li, .int .i64 f.t.sq, .int .i64 f.s.w, .int .i64 f.s.l, .int .i64 f.s.n, .slice f.ad f.ws.length f.c], .func (.func g) #[] #[]] w fun e w' => ∃ (i : Nat) (b : Bool), e = .returned (.tuple #[.int .i64 (i : Int), .bool b]) ∧ i ≤ l.length ∧ (∀ (t : Nat) q, t < i → l[t]? = some q → cf q < 0) ∧ (∀ q, l[i]? = some q → ¬ cf q < 0) ∧ Ext No w w' := by
  have R : Ro w No _ := Ro.of fun w' x => hs.ext_no x; refine Sx.calls_into Tryz.func54 rfl Tryz.ntmps54 rfl fun a hT => ?_; replace hT := hT.keep [0, 1, 2] rfl; have H : Sx.Hp w (Sx.No) w [] := Sx.Hp.start _ _; refine wp_seq_k fun K1 hK1 => ?_; refine Sx.wp_text [(0, .run), (1, .take), (2, .take)] rfl ?_; refine st_eff hT rfl rfl rfl rfl (y_box hT rfl rfl rfl _) ?_; clear hT; rintro _ w1 ⟨b1, rfl, N⟩ a hT; replace H := H.new N; clear N; refine st_take hT rfl rfl rfl rfl (x_assign hT rfl rfl) ?_; clear hT; intro a hT; refine st_take hT rfl rfl rfl rfl (x_assign hT rfl rfl) ?_; clear hT; intro a hT; replace hT := hT.keep [7, 6, 4, 0, 1, 2] rfl; refine ser_nil ?_; refine Sx.then_normal (hK1 _ _ ?_); clear hK1; refine wp_seq_k fun K2 hK2 => ?_; refine Sx.wp_text [(0, .take), (1, .take), (2, .take)] rfl ?_; refine st_take hT rfl rfl rfl rfl (x_move hT rfl rfl) ?_; clear hT; intro a hT; refine st_take hT rfl rfl rfl rfl (x_len_slice hT rfl rfl Tryz.underlying56 rfl) ?_; clear hT; intro a hT; refine st_take hT rfl rfl rfl rfl (x_assign hT rfl rfl) ?_; clear hT; intro a hT; replace hT := hT.keep [8, 7, 6, 4, 0, 1, 2] rfl; refine ser_nil ?_; refine Sx.then_normal (hK2 _ _ ?_); clear hK2; refine wp_seq_k fun K3 hK3 => ?_; refine Sx.wp_text [(0, .take), (1, .take), (2, .take)] rfl ?_; refine st_take hT rfl rfl rfl rfl (x_move hT rfl rfl) ?_; clear hT; intro a hT; refine st_take hT rfl rfl rfl rfl (x_assign hT rfl rfl) ?_; clear hT; intro a hT; refine st_take hT rfl rfl rfl rfl (x_assign hT rfl rfl) ?_
  clear hT; intro a hT; replace hT := hT.keep [10, 9, 8, 7, 6, 4, 0, 1, 2] rfl; refine ser_nil ?_; refine Sx.then_normal (hK3 _ _ ?_); clear hK3; refine wp_seq_k fun K4 hK4 => ?_; refine wp_block ?_; refine Sx.wp_loopH (G := Nat × Nat) (fun ⟨i, j⟩ => [(9, .int .i64 (i : Int)), (10, .int .i64 (j : Int))]) (fun ⟨i, j⟩ => []) (fun ⟨i, j⟩ => i ≤ j ∧ j ≤ l.length ∧ (∀ (t : Nat) q, t < i → l[t]? = some q → cf q < 0) ∧ (∀ (t : Nat) q, j ≤ t → l[t]? = some q → ¬ cf q < 0)) (fun ⟨i, j⟩ => j - i) (0, l.length) (hT.keep [9, 10, 8, 7, 6, 4, 0, 1, 2] rfl) (H.keep [0] rfl rfl) (⟨Nat.zero_le _, Nat.le_refl _, fun t q h => by omega, fun t q h h2 => by have := (List.getElem?_eq_some_iff.1 h2).1; omega⟩) ?_; clear hT H; rintro ⟨i, j⟩ a w2 hJ hT H; replace hT := hT.keep [9, 10, 8, 7, 6, 4, 0, 1, 2] rfl; replace H := H.keep [0] rfl rfl; obtain ⟨hij, hj, hlo, hhi⟩ := hJ; refine wp_seq_k fun K5 hK5 => ?_; refine wp_seq_k fun K6 hK6 => ?_; refine Sx.wp_text [(0, .take), (1, .take), (2, .take)] rfl ?_; refine st_take hT rfl rfl rfl rfl (x_move hT rfl rfl) ?_; clear hT; intro a hT; refine st_take hT rfl rfl rfl rfl (x_move hT rfl rfl) ?_; clear hT; intro a hT; refine st_take hT rfl rfl rfl rfl ((fun w => x_lt w hT rfl rfl rfl)) ?_; clear hT; intro a hT; replace hT := hT.keep [17, 9, 10, 8, 7, 6, 4, 0, 1, 2] rfl; refine ser_nil ?_; refine Sx.then_normal (hK6 _ _ ?_); clear hK6; refine Sx.wp_if hT rfl (fun hc7 => ?_) (fun hc7 => ?_)
  · try simp only [bq] at hc7
    obtain ⟨o, ho⟩ : ∃ q9, l[(i + j) / 2]? = some q9 := ⟨_, List.getElem?_eq_getElem (by omega)⟩; have hom := List.mem_of_getElem? ho; refine wp_skip ?_; refine Sx.then_normal (hK5 _ _ ?_); clear hK5; refine wp_block ?_; refine wp_seq_k fun K8 hK8 => ?_; refine Sx.wp_text [(0, .take), (1, .take), (2, .take), (3, .take), (4, .take), (5, .take), (6, .take)] rfl ?_; refine st_take hT rfl rfl rfl rfl (x_move hT rfl rfl) ?_; clear hT; intro a hT; refine st_take hT rfl rfl rfl rfl (x_move hT rfl rfl) ?_; clear hT; intro a hT; refine st_take hT rfl rfl rfl rfl ((fun w => x_add w hT rfl rfl rfl (wrap64 (by omega)))) ?_; clear hT; intro a hT; rw [show ((i : Int) + (j : Int)) = ((i + j : Nat) : Int) from by omega] at hT; refine st_take hT rfl rfl rfl rfl ((fun w => x_toint w hT rfl Tryz.underlying3 Tryz.underlying124 rfl (Sx.wrap_u64 (by omega) (by omega)))) ?_; clear hT; intro a hT; refine st_take hT rfl rfl rfl rfl (x_ushr (s := 1) hT rfl rfl rfl (by omega)) ?_; clear hT; intro a hT; rw [show (i + j) / 2 ^ 1 = (i + j) / 2 from rfl] at hT; refine st_take hT rfl rfl rfl rfl ((fun w => x_toint w hT rfl Tryz.underlying124 Tryz.underlying3 rfl (wrap64 (by omega)))) ?_; clear hT; intro a hT; refine st_take hT rfl rfl rfl rfl (x_assign hT rfl rfl) ?_; clear hT; intro a hT; replace hT := hT.keep [11, 17, 9, 10, 8, 7, 6, 4, 0, 1, 2] rfl; refine ser_nil ?_; refine Sx.then_normal (hK8 _ _ ?_); clear hK8; refine wp_seq_k fun K9 hK9 => ?_; refine Sx.wp_draws (fun u => Sx.Ext (Sx.No) u) [(0, .take), (1, .take), (2, .take), (3, .take), (4, .held), (5, .held), (6, .run), (7, .take)] (by kernel_rfl) (by kernel_rfl) (fun u E _ => ?_)
    replace H := H.pure E; clear E; have hH : Sx.Ext (Sx.No) u u := Sx.Ext.refl _ _; have Hu := H; refine st_take hT rfl rfl rfl rfl (x_move hT rfl rfl) ?_; clear hT; intro a hT; refine st_take hT rfl rfl rfl rfl (x_move hT rfl rfl) ?_; clear hT; intro a hT; refine st_take hT rfl rfl rfl rfl (x_move hT rfl rfl) ?_; clear hT; intro a hT; refine st_take hT rfl rfl rfl rfl (x_index (k := (i + j) / 2) hT rfl Tryz.underlying56 Tryz.ti38 (R.at H.ext).sv rfl rfl (by first | rfl | omega) (by omega)) ?_; clear hT; intro a hT; refine st_held hT rfl rfl rfl rfl hH (fun w' h' => y_loadS hT rfl Tryz.underlying38 Tryz.ti38 rfl (by first | exact ((Hu.heldB 0 rfl h' Sx.off_No).seg (k := 9) rfl) | exact ((R.at (Hu.ext.step h')).cs Fr.len ho)) (by rfl)) ?_; clear hT; intro a hT; refine st_held hT rfl rfl rfl rfl hH (fun w' h' => y_loadS hT rfl Tryz.underlying38 Tryz.ti38 rfl ((Hu.heldB 0 rfl h' Sx.off_No).seg (k := 9) rfl) (by rfl)) ?_; clear hT; intro a hT; refine st_callV hT rfl rfl rfl rfl rfl rfl hc rfl (hp o hom _) ?_; rintro _ w3 ⟨rfl, E⟩; refine ⟨_, rfl, ?_⟩; clear hT; intro a hT; replace H := H.pure E; clear E; refine st_take hT rfl rfl rfl rfl ((fun w => x_lt w hT rfl rfl rfl)) ?_; clear hT; intro a hT; replace hT := hT.keep [31, 11, 17, 9, 10, 8, 7, 6, 4, 0, 1, 2] rfl; clear Hu hH; refine ser_calm ?_; refine Sx.then_normal (hK9 _ _ ?_); clear hK9; refine Sx.wp_if hT rfl (fun hc10 => ?_) (fun hc10 => ?_)
    · try simp only [bq] at hc10
      have hneg : cf o < 0 := hc10; refine Sx.wp_text [(0, .take), (1, .take), (2, .take)] rfl ?_; refine st_take hT rfl rfl rfl rfl (x_move hT rfl rfl) ?_; clear hT; intro a hT; refine st_take hT rfl rfl rfl rfl ((fun w => x_add w hT rfl rfl rfl (wrap64 (by omega)))) ?_; clear hT; intro a hT; refine st_take hT rfl rfl rfl rfl (x_assign hT rfl rfl) ?_; clear hT; intro a hT; replace hT := hT.keep [9, 31, 11, 17, 10, 8, 7, 6, 4, 0, 1, 2] rfl; refine ser_nil ?_; refine Sx.block_normal ?_; refine Sx.then_normal ?_; exact ⟨((i + j) / 2 + 1, j), ⟨by show (i + j) / 2 + 1 ≤ j; omega, hj, fun t q h3 h4 => by rcases Nat.lt_or_ge t ((i + j) / 2) with h5 | h5; exact hm t _ q o h5 h4 ho hneg; obtain rfl : t = (i + j) / 2 := (by have : t < (i + j) / 2 + 1 := h3; omega); rw [ho] at h4; cases h4; exact hneg, hhi⟩, (hT.keep [9, 10, 8, 7, 6, 4, 0, 1, 2] rfl), (H.keep [0] rfl rfl), by show j - ((i + j) / 2 + 1) < j - i; omega⟩
    · try simp only [bq] at hc10
      have hneg : ¬ cf o < 0 := by omega
      refine Sx.wp_text [(0, .take), (1, .take)] rfl ?_; refine st_take hT rfl rfl rfl rfl (x_move hT rfl rfl) ?_; clear hT; intro a hT; refine st_take hT rfl rfl rfl rfl (x_assign hT rfl rfl) ?_; clear hT; intro a hT; replace hT := hT.keep [10, 31, 11, 17, 9, 8, 7, 6, 4, 0, 1, 2] rfl; refine ser_nil ?_; refine Sx.block_normal ?_; refine Sx.then_normal ?_; exact ⟨(i, (i + j) / 2), ⟨by show i ≤ (i + j) / 2; omega, by show (i + j) / 2 ≤ _; omega, hlo, fun t q h3 h4 h9 => by rcases Nat.lt_or_ge ((i + j) / 2) t with h5 | h5; exact hneg (hm _ t o q h5 ho h4 h9); obtain rfl : t = (i + j) / 2 := (by have : (i + j) / 2 ≤ t := h3; omega); rw [ho] at h4; cases h4; exact hneg h9⟩, (hT.keep [9, 10, 8, 7, 6, 4, 0, 1, 2] rfl), (H.keep [0] rfl rfl), by show (i + j) / 2 - i < j - i; omega⟩
  · try simp only [bq] at hc7
    have hije : i = j := by omega
    refine wp_exit ?_; refine Sx.then_exit ?_; refine Sx.then_exit ?_; refine Sx.block_exit ?_; refine Sx.then_normal (hK4 _ _ ?_); clear hK4; refine wp_seq_k fun K11 hK11 => ?_; refine Sx.wp_draws (fun u => Sx.Ext (Sx.No) u) [(0, .take), (1, .take), (2, .take), (3, .take), (4, .take), (5, .take), (6, .take), (7, .take), (8, .take), (9, .held), (10, .held), (11, .run), (12, .take), (13, .take), (14, .take), (15, .take)] (by kernel_rfl) (by kernel_rfl) (fun u E _ => ?_); replace H := H.pure E; clear E; have hH : Sx.Ext (Sx.No) u u := Sx.Ext.refl _ _; have Hu := H; refine st_take hT rfl rfl rfl rfl (x_move hT rfl rfl) ?_; clear hT; intro a hT; refine st_take hT rfl rfl rfl rfl (x_move hT rfl rfl) ?_; clear hT; intro a hT; refine st_take hT rfl rfl rfl rfl (x_move hT rfl rfl) ?_; clear hT; intro a hT; refine st_take hT rfl rfl rfl rfl ((fun w => x_lt w hT rfl rfl rfl)) ?_; clear hT; intro a hT; refine st_take hT rfl rfl rfl rfl (x_move hT rfl rfl) ?_; clear hT; intro a hT; refine Sx.Sl.two hT 39 rfl (fun hc12 hT => ?_) (fun hc12 hT => ?_)
    · try simp only [bq] at hc12
      obtain ⟨o, ho⟩ : ∃ q9, l[i]? = some q9 := ⟨_, List.getElem?_eq_getElem (by omega)⟩; have hom := List.mem_of_getElem? ho; refine st_take hT rfl rfl rfl rfl (x_move hT rfl rfl) ?_; clear hT; intro a hT; refine st_take hT rfl rfl rfl rfl (x_move hT rfl rfl) ?_; clear hT; intro a hT; refine st_take hT rfl rfl rfl rfl (x_move hT rfl rfl) ?_; clear hT; intro a hT; refine st_take hT rfl rfl rfl rfl (x_index (k := i) hT rfl Tryz.underlying56 Tryz.ti38 (R.at H.ext).sv rfl rfl (by first | rfl | omega) (by omega)) ?_; clear hT; intro a hT; refine st_held hT rfl rfl rfl rfl hH (fun w' h' => y_loadS hT rfl Tryz.underlying38 Tryz.ti38 rfl (by first | exact ((Hu.heldB 0 rfl h' Sx.off_No).seg (k := 9) rfl) | exact ((R.at (Hu.ext.step h')).cs Fr.len ho)) (by rfl)) ?_; clear hT; intro a hT; refine st_held hT rfl rfl rfl rfl hH (fun w' h' => y_loadS hT rfl Tryz.underlying38 Tryz.ti38 rfl ((Hu.heldB 0 rfl h' Sx.off_No).seg (k := 9) rfl) (by rfl)) ?_; clear hT; intro a hT; refine st_callV hT rfl rfl rfl rfl rfl rfl hc rfl (hp o hom _) ?_; rintro _ w4 ⟨rfl, E⟩; refine ⟨_, rfl, ?_⟩; clear hT; intro a hT; replace H := H.pure E; clear E; refine st_take hT rfl rfl rfl rfl ((fun w => x_eq w hT rfl rfl rfl)) ?_; clear hT; intro a hT; refine st_take hT rfl rfl rfl rfl (x_pick_t hT rfl rfl rfl) ?_; clear hT; intro a hT; refine st_take hT rfl rfl rfl rfl (x_assign hT rfl rfl) ?_; clear hT; intro a hT; refine st_take hT rfl rfl rfl rfl (x_assign hT rfl rfl) ?_; clear hT; intro a hT; replace hT := hT.keep [7, 6, 17, 9, 10, 8, 4, 0, 1, 2] rfl
      clear Hu hH; refine ser_calm ?_; refine Sx.then_normal (hK11 _ _ ?_); clear hK11; refine wp_ret ?_; refine Sx.done2 (fn := Tryz.f54) hT rfl (.tmp (hT.get 6 _ rfl)) (.tmp (hT.get 7 _ rfl)) ?_; exact ⟨i, _, rfl, by omega, hlo, fun q hq => hhi i q (by omega) hq, H.ext⟩
    · try simp only [bq] at hc12
      refine st_skip hT rfl rfl rfl rfl ?_; clear hT; intro a hT; refine st_skip hT rfl rfl rfl rfl ?_; clear hT; intro a hT; refine st_skip hT rfl rfl rfl rfl ?_; clear hT; intro a hT; refine st_skip hT rfl rfl rfl rfl ?_; clear hT; intro a hT; refine st_heldskip hT rfl rfl rfl rfl hH ?_; clear hT; intro a hT; refine st_heldskip hT rfl rfl rfl rfl hH ?_; clear hT; intro a hT; refine st_runskip hT rfl rfl rfl rfl ?_; clear hT; intro a hT; refine st_skip hT rfl rfl rfl rfl ?_; clear hT; intro a hT; refine st_take hT rfl rfl rfl rfl (x_pick_f hT rfl rfl rfl) ?_; clear hT; intro a hT; refine st_take hT rfl rfl rfl rfl (x_assign hT rfl rfl) ?_; clear hT; intro a hT; refine st_take hT rfl rfl rfl rfl (x_assign hT rfl rfl) ?_; clear hT; intro a hT; replace hT := hT.keep [7, 6, 17, 9, 10, 8, 4, 0, 1, 2] rfl; clear Hu hH; refine ser_calm ?_; refine Sx.then_normal (hK11 _ _ ?_); clear hK11; refine wp_ret ?_; refine Sx.done2 (fn := Tryz.f54) hT rfl (.tmp (hT.get 6 _ rfl)) (.tmp (hT.get 7 _ rfl)) ?_; exact ⟨i, _, rfl, by omega, hlo, fun q hq => hhi i q (by omega) hq, H.ext⟩

theorem ins_cells {L : List Fr} {i : Nat} {x : Fr} (hi : i ≤ L.length) : (L.flatMap Fr.cells).take (i * 9) ++ x.cells ++ (L.flatMap Fr.cells).drop (i * 9) = (L.take i ++ x :: L.drop i).flatMap Fr.cells := by
  have h1 : (L.flatMap Fr.cells).take (i * 9) = (L.take i).flatMap Fr.cells := by
    have h2 : L.flatMap Fr.cells = (L.take i).flatMap Fr.cells ++ (L.drop i).flatMap Fr.cells := by rw [← List.flatMap_append, List.take_append_drop]
    rw [h2, List.take_append_of_le_length (by rw [flat_len Fr.len, List.length_take]; omega), List.take_of_length_le (by rw [flat_len Fr.len, List.length_take]; omega)]
  rw [h1, flat_drop Fr.len, List.flatMap_append, List.flatMap_cons, List.append_assoc]
theorem held_mono {L : List Fr} (h : Held (L.map Fr.p)) (f : Fp) : ∀ (t1 t2 : Nat) q1 q2, t1 < t2 → L[t1]? = some q1 → L[t2]? = some q2 → lessI (Fr.p q2) f < 0 → lessI (Fr.p q1) f < 0 := fun t1 t2 q1 q2 ht h1 h2 h3 => by
  obtain ⟨g1, rfl⟩ := List.getElem?_eq_some_iff.1 h1
  obtain ⟨g2, rfl⟩ := List.getElem?_eq_some_iff.1 h2
  rw [lessF_iff] at h3 ⊢
  have := List.pairwise_iff_getElem.1 (List.pairwise_map.1 h.srt) t1 t2 g1 g2 ht
  exact ltF_tr this h3
theorem lead_map {L : List Fr} {f : Fp} {i : Nat} (hi : i ≤ L.length) (h1 : ∀ (t : Nat) q, t < i → L[t]? = some q → lessI (Fr.p q) f < 0) (h2 : ∀ q, L[i]? = some q → ¬ lessI (Fr.p q) f < 0) : leadF f (L.map Fr.p) = i := by
  refine leadF_eq (fun t q ht hq => ?_) (fun q hq => ?_) (by rw [List.length_map]; exact hi)
  · rw [List.getElem?_map] at hq
    cases h : L[t]? with
    | none => rw [h] at hq; cases hq
    | some y => rw [h] at hq; cases hq; exact (lessF_iff _ _).1 (h1 t y ht h)
  · rw [List.getElem?_map] at hq
    cases h : L[i]? with
    | none => rw [h] at hq; cases hq
    | some y => rw [h] at hq; cases hq; exact fun h9 => h2 y h ((lessF_iff _ _).2 h9)
theorem fam_fr {w : World} {L : List Fr} (h : Fam 49 4 Fr.rw w L) : ∀ x ∈ L, Ss w x.ad Wt.cells 4 x.ws := fun x hx => Row.ssn (xs := x.ws) (enc := Wt.cells) (h.row x hx) rfl

set_option maxHeartbeats 1000000 in
theorem Add_calls {S : Nat → Prop} {p : Nat} {ad : Option Addr} {c : Nat} {L : List Fr} (x : Fr) {w : World} (H : Hp w S w [cB p [.slice ad L.length c] 91, cR 38 9 ad (L).length c ((L).flatMap Fr.cells), cF 49 4 Fr.rw (L)]) (R : Ro w S fun u => Ss u x.ad Wt.cells 4 x.ws) (hn : x.ad = none → x.ws.length = 0 ∧ x.c = 0) (hl : x.ws.length ≤ 1000000) (hHd : Held (L.map Fr.p)) (hL : L.length ≤ 100000) : Calls Tryz.prog 38 #[.pointer (some ⟨p, 0, none⟩), .agg #[.int .i64 x.rg, .int .i64 x.at_, .int .i64 x.t.co, .int .i64 x.t.li, .int .i64 x.t.sq, .int .i64 x.s.w, .int .i64 x.s.l, .int .i64 x.s.n, .slice x.ad x.ws.length x.c]] w fun e w' => ∃ ad' c' L', e = .returned (.int .i64 (addE (L.map Fr.p) x.p)) ∧ Hp w S w' [cB p [.slice ad' (List.length L') c'] 91, cR 38 9 ad' (L').length c' ((L').flatMap Fr.cells), cF 49 4 Fr.rw (L')] ∧ L'.map Fr.p = addL (L.map Fr.p) x.p := by
  refine Sx.calls_into Tryz.func38 rfl Tryz.ntmps38 rfl fun a hT => ?_; replace hT := hT.keep [0, 1] rfl; refine wp_seq_k fun K1 hK1 => ?_; refine Sx.wp_text [(0, .run), (1, .take)] rfl ?_; refine st_eff hT rfl rfl rfl rfl (y_box hT rfl rfl rfl _) ?_; clear hT; rintro _ w1 ⟨b1, rfl, N⟩ a hT; replace H := H.new N; clear N; refine st_take hT rfl rfl rfl rfl (x_assign hT rfl rfl) ?_; clear hT; intro a hT; replace hT := hT.keep [4, 3, 0, 1] rfl; refine ser_nil ?_; refine Sx.then_normal (hK1 _ _ ?_); clear hK1; refine wp_seq_k fun K2 hK2 => ?_; refine wp_block ?_; refine wp_seq_k fun K3 hK3 => ?_; refine Sx.wp_text [(0, .run), (1, .run), (2, .take), (3, .take)] rfl ?_; refine st_run hT rfl rfl rfl rfl (y_loadS hT rfl Tryz.underlying38 Tryz.ti38 rfl ((H.blk 0 rfl).seg (k := 9) rfl) (by rfl)) ?_; clear hT; intro a hT; refine st_call hT rfl rfl rfl rfl rfl Tryz.can36 rfl (SMay_calls x (R.at H.ext) hl) ?_; rintro _ w2 ⟨rfl, E⟩; refine ⟨_, rfl, ?_⟩; clear hT; intro a hT; replace H := H.pure E; clear E; refine st_take hT rfl rfl rfl rfl (x_not hT rfl rfl) ?_; clear hT; intro a hT; refine st_take hT rfl rfl rfl rfl (x_assign hT rfl rfl) ?_; clear hT; intro a hT; replace hT := hT.keep [10, 4, 3, 0, 1] rfl; refine ser_nil ?_; refine Sx.then_normal (hK3 _ _ ?_); clear hK3; refine Sx.wp_if hT rfl (fun hc4 => ?_) (fun hc4 => ?_)
  · try simp only [bq] at hc4
    have hmy : mayF x.p = false := hc4; refine wp_seq_k fun K5 hK5 => ?_; refine Sx.wp_text [(0, .take)] rfl ?_; refine st_take hT rfl rfl rfl rfl (x_assign hT rfl rfl) ?_; clear hT; intro a hT; replace hT := hT.keep [4, 10, 3, 0, 1] rfl; refine ser_nil ?_; refine Sx.then_normal (hK5 _ _ ?_); clear hK5; refine wp_ret ?_; refine Sx.block_ret ?_; refine Sx.then_ret ?_; refine Sx.done1 (fn := Tryz.f38) hT rfl (.tmp (hT.get 4 _ rfl)) ?_; have hadd : addE (L.map Fr.p) x.p = 4 := by unfold addE; exact if_pos hmy
    refine ⟨_, _, L, ?_, H.keep [1, 2, 3] rfl rfl, ?_⟩
    · rw [hadd]
    · unfold addL; rw [if_neg (by rw [hadd]; decide)]
  · try simp only [bq] at hc4
    have hmy : mayF x.p = true := hc4; obtain ⟨hrx1, hrx2, hw1, hw16, hem⟩ := mayF_ok hmy; have hrx : 1 ≤ x.rg ∧ x.rg ≤ 12 := ⟨hrx1, hrx2⟩; have hrg : ∀ q ∈ L, 1 ≤ q.rg ∧ q.rg ≤ 12 := fun q hq => by have h9 := mayF_ok (hHd.may q.p (List.mem_map_of_mem hq)); exact ⟨h9.1, h9.2.1⟩
    have hwl : ∀ q ∈ L, q.ws.length ≤ 16 := fun q hq => (mayF_ok (hHd.may q.p (List.mem_map_of_mem hq))).2.2.2.1; refine wp_seq_k fun K6 hK6 => ?_; refine Sx.wp_text [(0, .take), (1, .take), (2, .run), (3, .take), (4, .run), (5, .run), (6, .take)] rfl ?_; refine st_take hT rfl rfl rfl rfl (x_move hT rfl rfl) ?_; clear hT; intro a hT; refine st_take hT rfl rfl rfl rfl (x_fieldAddr hT rfl Tryz.fa38_0 rfl) ?_; clear hT; intro a hT; refine st_run hT rfl rfl rfl rfl (x_load1 hT rfl Tryz.fl3 rfl ((H.blk 0 rfl).nth rfl)) ?_; clear hT; intro a hT; refine st_take hT rfl rfl rfl rfl (x_fieldAddr hT rfl Tryz.fa38_2 rfl) ?_; clear hT; intro a hT; refine st_run hT rfl rfl rfl rfl (y_loadS hT rfl Tryz.underlying35 Tryz.ti35 rfl ((H.blk 0 rfl).seg (k := 3) rfl) (by rfl)) ?_; clear hT; intro a hT; refine st_call hT rfl rfl rfl rfl rfl Tryz.can52 rfl (Has_calls L x.rg x.t (H.blk 1 rfl) ((H.row 2 rfl).ssn rfl) (by omega)) ?_; rintro _ w3 ⟨rfl, E⟩; refine ⟨_, rfl, ?_⟩; clear hT; intro a hT; replace H := H.pure E; clear E; refine st_take hT rfl rfl rfl rfl (x_assign hT rfl rfl) ?_; clear hT; intro a hT; replace hT := hT.keep [14, 10, 4, 3, 0, 1] rfl; refine ser_nil ?_; refine Sx.then_normal (hK6 _ _ ?_); clear hK6; refine Sx.wp_if hT rfl (fun hc7 => ?_) (fun hc7 => ?_)
    · try simp only [bq] at hc7
      have hhs : hasF (L.map Fr.p) x.rg x.t = true := hc7; refine wp_seq_k fun K8 hK8 => ?_; refine Sx.wp_text [(0, .take)] rfl ?_; refine st_take hT rfl rfl rfl rfl (x_assign hT rfl rfl) ?_; clear hT; intro a hT; replace hT := hT.keep [4, 14, 10, 3, 0, 1] rfl; refine ser_nil ?_; refine Sx.then_normal (hK8 _ _ ?_); clear hK8; refine wp_ret ?_; refine Sx.block_ret ?_; refine Sx.then_ret ?_; refine Sx.done1 (fn := Tryz.f38) hT rfl (.tmp (hT.get 4 _ rfl)) ?_; have hadd : addE (L.map Fr.p) x.p = 9 := by unfold addE; rw [if_neg (by rw [hmy]; decide)]; exact if_pos hhs
      refine ⟨_, _, L, ?_, H.keep [1, 2, 3] rfl rfl, ?_⟩
      · rw [hadd]
      · unfold addL; rw [if_neg (by rw [hadd]; decide)]
    · try simp only [bq] at hc7
      have hhs : hasF (L.map Fr.p) x.rg x.t = false := hc7; refine wp_skip ?_; refine Sx.block_normal ?_; refine Sx.then_normal (hK2 _ _ ?_); clear hK2; refine wp_seq_k fun K9 hK9 => ?_; refine Sx.wp_text [(0, .take)] rfl ?_; refine st_take hT rfl rfl rfl rfl (x_assign hT rfl rfl) ?_; clear hT; intro a hT; replace hT := hT.keep [5, 14, 10, 4, 3, 0, 1] rfl; refine ser_nil ?_; refine Sx.then_normal (hK9 _ _ ?_); clear hK9; refine wp_seq_k fun K10 hK10 => ?_; refine wp_seq_k fun K11 hK11 => ?_; refine Sx.wp_text [(0, .take), (1, .take), (2, .take), (3, .run), (4, .take), (5, .take)] rfl ?_; refine st_take hT rfl rfl rfl rfl (x_move hT rfl rfl) ?_; clear hT; intro a hT; refine st_take hT rfl rfl rfl rfl (x_nilCheck hT rfl rfl) ?_; clear hT; intro a hT; refine st_take hT rfl rfl rfl rfl (x_fieldAddr hT rfl Tryz.fa91_0 rfl) ?_; clear hT; intro a hT; refine st_run hT rfl rfl rfl rfl (x_load1 hT rfl Tryz.fl56 rfl ((H.blk 1 rfl).nth rfl)) ?_; clear hT; intro a hT; refine st_take hT rfl rfl rfl rfl (x_len_slice hT rfl rfl Tryz.underlying56 rfl) ?_; clear hT; intro a hT; refine st_take hT rfl rfl rfl rfl (x_move hT rfl rfl) ?_; clear hT; intro a hT; replace hT := hT.keep [26, 25, 24, 5, 14, 10, 4, 3, 0, 1] rfl; refine ser_nil ?_; refine Sx.then_normal (hK11 _ _ ?_); clear hK11; refine wp_block ?_; refine Sx.wp_loopH (G := Nat × Bool) (fun ⟨k, mt⟩ => [(26, .int .i64 (k : Int)), (5, .bool mt)]) (fun ⟨k, mt⟩ => []) (fun ⟨k, mt⟩ => k ≤ L.length ∧ (∀ (t : Nat) q, t < k → L[t]? = some q → unlike q.p x.p = false) ∧ mt = (L.take k).any fun h => decide (h.t = x.t) && meetF h.ws x.ws) (fun ⟨k, mt⟩ => L.length - k) (0, false) (hT.keep [26, 5, 25, 24, 14, 10, 3, 0, 1] rfl) (H.keep [0, 1, 2, 3] rfl rfl) (⟨Nat.zero_le _, (fun t q h => by omega), (by rw [List.take_zero]; rfl)⟩) ?_
      clear hT H; rintro ⟨k, mt⟩ a w4 hJ hT H; replace hT := hT.keep [26, 5, 25, 24, 14, 10, 3, 0, 1] rfl; replace H := H.keep [0, 1, 2, 3] rfl rfl; obtain ⟨hk, hnu, hmt0⟩ := hJ; refine wp_seq_k fun K12 hK12 => ?_; refine Sx.wp_text [(0, .take)] rfl ?_; refine st_take hT rfl rfl rfl rfl ((fun w => x_lt w hT rfl rfl rfl)) ?_; clear hT; intro a hT; replace hT := hT.keep [27, 26, 5, 25, 24, 14, 10, 3, 0, 1] rfl; refine ser_nil ?_; refine Sx.then_normal (hK12 _ _ ?_); clear hK12; refine wp_seq_k fun K13 hK13 => ?_; refine Sx.wp_if hT rfl (fun hc14 => ?_) (fun hc14 => ?_)
      · try simp only [bq] at hc14
        obtain ⟨o, ho⟩ : ∃ q9, L[k]? = some q9 := ⟨_, List.getElem?_eq_getElem (by omega)⟩; have hom := List.mem_of_getElem? ho; have how := hwl o hom; refine wp_skip ?_; refine Sx.then_normal (hK13 _ _ ?_); clear hK13; refine wp_seq_k fun K15 hK15 => ?_; refine wp_block ?_; refine wp_seq_k fun K16 hK16 => ?_; refine Sx.wp_text [(0, .take), (1, .run), (2, .run), (3, .run)] rfl ?_; refine st_take hT rfl rfl rfl rfl (x_index (k := k) hT rfl Tryz.underlying56 Tryz.ti38 (H.row 2 rfl).sv rfl rfl (by first | rfl | omega) (by omega)) ?_; clear hT; intro a hT; refine st_run hT rfl rfl rfl rfl (y_loadS hT rfl Tryz.underlying38 Tryz.ti38 rfl (((H.row 2 rfl).ssn rfl).cs Fr.len ho) (by rfl)) ?_; clear hT; intro a hT; refine st_eff hT rfl rfl rfl rfl (y_alloc hT rfl Tryz.ti38 rfl _) ?_; clear hT; rintro _ w5 ⟨b2, rfl, N⟩ a hT; replace H := H.new N; clear N; refine st_act hT rfl rfl rfl (y_storeS hT rfl Tryz.ti38 rfl rfl rfl rfl rfl (H.blk 0 rfl) rfl) ?_; rintro w6 ⟨hb, E, _⟩; replace H := H.setB 0 rfl hb E rfl; clear hb E; replace hT := hT.keep [7, 27, 26, 5, 25, 24, 14, 10, 3, 0, 1] rfl; refine ser_nil ?_; refine Sx.then_normal (hK16 _ _ ?_); clear hK16; refine wp_seq_k fun K17 hK17 => ?_; refine wp_seq_k fun K18 hK18 => ?_; refine Sx.wp_draws (fun u => Sx.Ext (Sx.No) u) [(0, .take), (1, .held), (2, .take), (3, .held), (4, .take), (5, .take), (6, .held), (7, .take), (8, .held), (9, .take), (10, .take)] (by kernel_rfl) (by kernel_rfl) (fun u E _ => ?_); replace H := H.pure E; clear E; have hH : Sx.Ext (Sx.No) u u := Sx.Ext.refl _ _
        have Hu := H; refine st_take hT rfl rfl rfl rfl (x_fieldAddr hT rfl Tryz.fa38_2 rfl) ?_; clear hT; intro a hT; refine st_held hT rfl rfl rfl rfl hH (fun w' h' => y_loadS hT rfl Tryz.underlying35 Tryz.ti35 rfl ((Hu.heldB 0 rfl h' Sx.off_No).seg (k := 3) rfl) (by rfl)) ?_; clear hT; intro a hT; refine st_take hT rfl rfl rfl rfl (x_fieldAddr hT rfl Tryz.fa38_2 rfl) ?_; clear hT; intro a hT; refine st_held hT rfl rfl rfl rfl hH (fun w' h' => y_loadS hT rfl Tryz.underlying35 Tryz.ti35 rfl ((Hu.heldB 1 rfl h' Sx.off_No).seg (k := 3) rfl) (by rfl)) ?_; clear hT; intro a hT; refine st_take hT rfl rfl rfl rfl (x_eqS hT rfl (by kernel_rfl) (Tryz.eq35 _ _ _ _ _ _) rfl rfl rfl) ?_; clear hT; intro a hT; refine st_take hT rfl rfl rfl rfl (x_fieldAddr hT rfl Tryz.fa38_3 rfl) ?_; clear hT; intro a hT; refine st_held hT rfl rfl rfl rfl hH (fun w' h' => y_loadS hT rfl Tryz.underlying23 Tryz.ti23 rfl ((Hu.heldB 0 rfl h' Sx.off_No).seg (k := 3) rfl) (by rfl)) ?_; clear hT; intro a hT; refine st_take hT rfl rfl rfl rfl (x_fieldAddr hT rfl Tryz.fa38_3 rfl) ?_; clear hT; intro a hT; refine st_held hT rfl rfl rfl rfl hH (fun w' h' => y_loadS hT rfl Tryz.underlying23 Tryz.ti23 rfl ((Hu.heldB 1 rfl h' Sx.off_No).seg (k := 3) rfl) (by rfl)) ?_; clear hT; intro a hT; refine st_take hT rfl rfl rfl rfl (x_eqS hT rfl (by kernel_rfl) (Tryz.eq23 _ _ _ _ _ _) rfl rfl rfl) ?_; clear hT; intro a hT; refine st_take hT rfl rfl rfl rfl (x_neb hT rfl Tryz.underlying4 rfl rfl) ?_; clear hT; intro a hT; replace hT := hT.keep [40, 7, 27, 26, 5, 25, 24, 14, 10, 3, 0, 1] rfl
        clear Hu hH; refine ser_calm ?_; refine Sx.then_normal (hK18 _ _ ?_); clear hK18; refine Sx.wp_if hT rfl (fun hc19 => ?_) (fun hc19 => ?_)
        · try simp only [bq] at hc19
          have hun : unlike o.p x.p = true := by rw [unl_eq]; simpa using hc19
          refine wp_seq_k fun K20 hK20 => ?_; refine Sx.wp_text [(0, .take)] rfl ?_; refine st_take hT rfl rfl rfl rfl (x_assign hT rfl rfl) ?_; clear hT; intro a hT; replace hT := hT.keep [4, 40, 7, 27, 26, 5, 25, 24, 14, 10, 3, 0, 1] rfl; refine ser_nil ?_; refine Sx.then_normal (hK20 _ _ ?_); clear hK20; refine wp_ret ?_; refine Sx.then_ret ?_; refine Sx.block_ret ?_; refine Sx.then_ret ?_; refine Sx.then_ret ?_; refine Sx.block_ret ?_; refine Sx.then_ret ?_; refine Sx.done1 (fn := Tryz.f38) hT rfl (.tmp (hT.get 4 _ rfl)) ?_; have hadd : addE (L.map Fr.p) x.p = 17 := by unfold addE; rw [if_neg (by rw [hmy]; decide), if_neg (by rw [show hasF (L.map Fr.p) x.p.rg x.p.t = false from hhs]; decide)]; exact if_pos (by rw [List.any_map]; exact List.any_eq_true.2 ⟨o, hom, hun⟩)
          refine ⟨_, _, L, ?_, H.keep [2, 3, 4] rfl rfl, ?_⟩
          · rw [hadd]
          · unfold addL; rw [if_neg (by rw [hadd]; decide)]
        · try simp only [bq] at hc19
          have hun : unlike o.p x.p = false := by rw [unl_eq]; simpa using hc19
          refine wp_skip ?_; refine Sx.then_normal (hK17 _ _ ?_); clear hK17; refine Sx.wp_text [(0, .take), (1, .take), (2, .take), (3, .run), (4, .take), (5, .run), (6, .take), (7, .take), (8, .take), (9, .run), (10, .take), (11, .run), (12, .run), (13, .take), (14, .take), (15, .take)] rfl ?_; refine st_take hT rfl rfl rfl rfl (x_move hT rfl rfl) ?_; clear hT; intro a hT; refine st_take hT rfl rfl rfl rfl (x_move hT rfl rfl) ?_; clear hT; intro a hT; refine Sx.Sl.two hT 42 rfl (fun hc21 hT => ?_) (fun hc21 hT => ?_)
          · try simp only [bq] at hc21
            have hmv : mt = true := hc21; refine st_skip hT rfl rfl rfl rfl ?_; clear hT; intro a hT; refine st_runskip hT rfl rfl rfl rfl ?_; clear hT; intro a hT; refine st_skip hT rfl rfl rfl rfl ?_; clear hT; intro a hT; refine st_runskip hT rfl rfl rfl rfl ?_; clear hT; intro a hT; refine st_skip hT rfl rfl rfl rfl ?_; clear hT; intro a hT; refine st_skip hT rfl rfl rfl rfl ?_; clear hT; intro a hT; refine st_skip hT rfl rfl rfl rfl ?_; clear hT; intro a hT; refine st_runskip hT rfl rfl rfl rfl ?_; clear hT; intro a hT; refine st_skip hT rfl rfl rfl rfl ?_; clear hT; intro a hT; refine st_runskip hT rfl rfl rfl rfl ?_; clear hT; intro a hT; refine st_runskip hT rfl rfl rfl rfl ?_; clear hT; intro a hT; refine st_skip hT rfl rfl rfl rfl ?_; clear hT; intro a hT; refine st_take hT rfl rfl rfl rfl (x_pick_t hT rfl rfl rfl) ?_; clear hT; intro a hT; refine st_take hT rfl rfl rfl rfl (x_assign hT rfl rfl) ?_; clear hT; intro a hT; replace hT := hT.keep [5, 40, 7, 27, 26, 25, 24, 14, 10, 3, 0, 1] rfl; refine ser_nil ?_; refine Sx.block_normal ?_; refine Sx.then_normal (hK15 _ _ ?_); clear hK15; refine Sx.wp_text [(0, .take), (1, .take)] rfl ?_; refine st_take hT rfl rfl rfl rfl ((fun w => x_add w hT rfl rfl rfl (wrap64 (by omega)))) ?_; clear hT; intro a hT; refine st_take hT rfl rfl rfl rfl (x_move hT rfl rfl) ?_; clear hT; intro a hT; replace hT := hT.keep [26, 5, 40, 7, 27, 25, 24, 14, 10, 3, 0, 1] rfl; refine ser_nil ?_; refine Sx.then_normal ?_; exact ⟨(k + 1, true), ⟨by show k + 1 ≤ _; omega, fun t q h3 h4 => by rcases Nat.lt_or_ge t k with h5 | h5; exact hnu t q h5 h4; obtain rfl : t = k := (by have : t < k + 1 := h3; omega); rw [ho] at h4; cases h4; exact hun, by show true = _; rw [take_app ho, List.any_append, ← hmt0, hmv]; rfl⟩, (hT.keep [26, 5, 25, 24, 14, 10, 3, 0, 1] rfl), (H.keep [1, 2, 3, 4] rfl rfl), by show _ - (k + 1) < _ - k; omega⟩
          · try simp only [bq] at hc21
            have hmv : mt = false := hc21; refine st_take hT rfl rfl rfl rfl (x_fieldAddr hT rfl Tryz.fa38_2 rfl) ?_; clear hT; intro a hT; refine st_run hT rfl rfl rfl rfl (y_loadS hT rfl Tryz.underlying35 Tryz.ti35 rfl ((H.blk 0 rfl).seg (k := 3) rfl) (by rfl)) ?_; clear hT; intro a hT; refine st_take hT rfl rfl rfl rfl (x_fieldAddr hT rfl Tryz.fa38_2 rfl) ?_; clear hT; intro a hT; refine st_run hT rfl rfl rfl rfl (y_loadS hT rfl Tryz.underlying35 Tryz.ti35 rfl ((H.blk 1 rfl).seg (k := 3) rfl) (by rfl)) ?_; clear hT; intro a hT; refine st_take hT rfl rfl rfl rfl (x_eqS hT rfl (by kernel_rfl) (Tryz.eq35 _ _ _ _ _ _) rfl rfl rfl) ?_; clear hT; intro a hT; refine st_take hT rfl rfl rfl rfl (x_move hT rfl rfl) ?_; clear hT; intro a hT; refine Sx.Sl.two hT 48 rfl (fun hc22 hT => ?_) (fun hc22 hT => ?_)
            · try simp only [bq] at hc22
              have htq : o.t = x.t := by rw [tn_iff]; simpa using hc22
              refine st_take hT rfl rfl rfl rfl (x_fieldAddr hT rfl Tryz.fa38_4 rfl) ?_; clear hT; intro a hT; refine st_run hT rfl rfl rfl rfl (x_load1 hT rfl Tryz.fl36 rfl ((H.blk 0 rfl).nth rfl)) ?_; clear hT; intro a hT; refine st_take hT rfl rfl rfl rfl (x_fieldAddr hT rfl Tryz.fa38_4 rfl) ?_; clear hT; intro a hT; refine st_run hT rfl rfl rfl rfl (x_load1 hT rfl Tryz.fl36 rfl ((H.blk 1 rfl).nth rfl)) ?_; clear hT; intro a hT; refine st_call hT rfl rfl rfl rfl rfl Tryz.can53 rfl (meet_calls o.ws x.ws (fam_fr (H.fam 4 rfl) o hom) (R.at H.ext) (by omega) hl) ?_; rintro _ w7 ⟨rfl, E⟩; refine ⟨_, rfl, ?_⟩; clear hT; intro a hT; replace H := H.pure E; clear E; refine st_take hT rfl rfl rfl rfl (x_pick_t hT rfl rfl rfl) ?_; clear hT; intro a hT; refine st_take hT rfl rfl rfl rfl (x_pick_f hT rfl rfl rfl) ?_; clear hT; intro a hT; refine st_take hT rfl rfl rfl rfl (x_assign hT rfl rfl) ?_; clear hT; intro a hT; replace hT := hT.keep [5, 40, 7, 27, 26, 25, 24, 14, 10, 3, 0, 1] rfl; refine ser_nil ?_; refine Sx.block_normal ?_; refine Sx.then_normal (hK15 _ _ ?_); clear hK15; refine Sx.wp_text [(0, .take), (1, .take)] rfl ?_; refine st_take hT rfl rfl rfl rfl ((fun w => x_add w hT rfl rfl rfl (wrap64 (by omega)))) ?_; clear hT; intro a hT; refine st_take hT rfl rfl rfl rfl (x_move hT rfl rfl) ?_; clear hT; intro a hT; replace hT := hT.keep [26, 5, 40, 7, 27, 25, 24, 14, 10, 3, 0, 1] rfl; refine ser_nil ?_; refine Sx.then_normal ?_; exact ⟨(k + 1, meetF o.ws x.ws), ⟨by show k + 1 ≤ _; omega, fun t q h3 h4 => by rcases Nat.lt_or_ge t k with h5 | h5; exact hnu t q h5 h4; obtain rfl : t = k := (by have : t < k + 1 := h3; omega); rw [ho] at h4; cases h4; exact hun, by show meetF o.ws x.ws = _; rw [take_app ho, List.any_append, ← hmt0, hmv]; simp [htq]⟩, (hT.keep [26, 5, 25, 24, 14, 10, 3, 0, 1] rfl), (H.keep [1, 2, 3, 4] rfl rfl), by show _ - (k + 1) < _ - k; omega⟩
            · try simp only [bq] at hc22
              have htq : o.t ≠ x.t := by rw [Ne, tn_iff]; simpa using hc22
              refine st_skip hT rfl rfl rfl rfl ?_; clear hT; intro a hT; refine st_runskip hT rfl rfl rfl rfl ?_; clear hT; intro a hT; refine st_skip hT rfl rfl rfl rfl ?_; clear hT; intro a hT; refine st_runskip hT rfl rfl rfl rfl ?_; clear hT; intro a hT; refine st_runskip hT rfl rfl rfl rfl ?_; clear hT; intro a hT; refine st_take hT rfl rfl rfl rfl (x_pick_f hT rfl rfl rfl) ?_; clear hT; intro a hT; refine st_take hT rfl rfl rfl rfl (x_pick_f hT rfl rfl rfl) ?_; clear hT; intro a hT; refine st_take hT rfl rfl rfl rfl (x_assign hT rfl rfl) ?_; clear hT; intro a hT; replace hT := hT.keep [5, 40, 7, 27, 26, 25, 24, 14, 10, 3, 0, 1] rfl; refine ser_nil ?_; refine Sx.block_normal ?_; refine Sx.then_normal (hK15 _ _ ?_); clear hK15; refine Sx.wp_text [(0, .take), (1, .take)] rfl ?_; refine st_take hT rfl rfl rfl rfl ((fun w => x_add w hT rfl rfl rfl (wrap64 (by omega)))) ?_; clear hT; intro a hT; refine st_take hT rfl rfl rfl rfl (x_move hT rfl rfl) ?_; clear hT; intro a hT; replace hT := hT.keep [26, 5, 40, 7, 27, 25, 24, 14, 10, 3, 0, 1] rfl; refine ser_nil ?_; refine Sx.then_normal ?_; exact ⟨(k + 1, false), ⟨by show k + 1 ≤ _; omega, fun t q h3 h4 => by rcases Nat.lt_or_ge t k with h5 | h5; exact hnu t q h5 h4; obtain rfl : t = k := (by have : t < k + 1 := h3; omega); rw [ho] at h4; cases h4; exact hun, by show false = _; rw [take_app ho, List.any_append, ← hmt0, hmv]; simp [htq]⟩, (hT.keep [26, 5, 25, 24, 14, 10, 3, 0, 1] rfl), (H.keep [1, 2, 3, 4] rfl rfl), by show _ - (k + 1) < _ - k; omega⟩
      · try simp only [bq] at hc14
        have hkl : k = L.length := by omega
        rw [hkl, List.take_length] at hmt0; have hnun : ((L.map Fr.p).any fun h => unlike h x.p) = false := by rw [List.any_map, List.any_eq_false]; intro q hq; obtain ⟨t, ht⟩ := List.mem_iff_getElem?.1 hq; have := hnu t q (by have := (List.getElem?_eq_some_iff.1 ht).1; omega) ht; simpa using this
        refine wp_exit ?_; refine Sx.then_exit ?_; refine Sx.then_exit ?_; refine Sx.block_exit ?_; refine Sx.then_normal (hK10 _ _ ?_); clear hK10; refine wp_seq_k fun K23 hK23 => ?_; refine wp_seq_k fun K24 hK24 => ?_; refine Sx.wp_text [(0, .take)] rfl ?_; refine st_take hT rfl rfl rfl rfl (x_move hT rfl rfl) ?_; clear hT; intro a hT; replace hT := hT.keep [57, 27, 26, 5, 25, 24, 14, 10, 3, 0, 1] rfl; refine ser_nil ?_; refine Sx.then_normal (hK24 _ _ ?_); clear hK24; refine Sx.wp_if hT rfl (fun hc25 => ?_) (fun hc25 => ?_)
        · try simp only [bq] at hc25
          have hmt : (L.any fun h => decide (h.t = x.t) && meetF h.ws x.ws) = true := by rw [← hmt0]; exact hc25
          refine wp_seq_k fun K26 hK26 => ?_; refine Sx.wp_text [(0, .take)] rfl ?_; refine st_take hT rfl rfl rfl rfl (x_assign hT rfl rfl) ?_; clear hT; intro a hT; replace hT := hT.keep [4, 57, 27, 26, 5, 25, 24, 14, 10, 3, 0, 1] rfl; refine ser_nil ?_; refine Sx.then_normal (hK26 _ _ ?_); clear hK26; refine wp_ret ?_; refine Sx.then_ret ?_; refine Sx.done1 (fn := Tryz.f38) hT rfl (.tmp (hT.get 4 _ rfl)) ?_; have hadd : addE (L.map Fr.p) x.p = 18 := by unfold addE; rw [if_neg (by rw [hmy]; decide), if_neg (by rw [show hasF (L.map Fr.p) x.p.rg x.p.t = false from hhs]; decide), if_neg (by rw [hnun]; decide)]; exact if_pos (by rw [List.any_map]; exact hmt)
          refine ⟨_, _, L, ?_, H.keep [1, 2, 3] rfl rfl, ?_⟩
          · rw [hadd]
          · unfold addL; rw [if_neg (by rw [hadd]; decide)]
        · try simp only [bq] at hc25
          have hmt : (L.any fun h => decide (h.t = x.t) && meetF h.ws x.ws) = false := by rw [← hmt0]; exact hc25
          have hadd : addE (L.map Fr.p) x.p = 0 := by unfold addE; rw [if_neg (by rw [hmy]; decide), if_neg (by rw [show hasF (L.map Fr.p) x.p.rg x.p.t = false from hhs]; decide), if_neg (by rw [hnun]; decide)]; exact if_neg (by rw [List.any_map]; intro h9; have h8 : (L.any fun h => decide (h.t = x.t) && meetF h.ws x.ws) = true := h9; rw [hmt] at h8; cases h8)
          refine wp_skip ?_; refine Sx.then_normal (hK23 _ _ ?_); clear hK23; refine wp_seq_k fun K27 hK27 => ?_; refine Sx.wp_draws (fun u => Sx.Ext (Sx.No) u) [(0, .take), (1, .take), (2, .take), (3, .held), (4, .held), (5, .run), (6, .take), (7, .take), (8, .take), (9, .take), (10, .take)] (by kernel_rfl) (by kernel_rfl) (fun u E _ => ?_); replace H := H.pure E; clear E; have hH : Sx.Ext (Sx.No) u u := Sx.Ext.refl _ _; have Hu := H; refine st_take hT rfl rfl rfl rfl (x_move hT rfl rfl) ?_; clear hT; intro a hT; refine st_take hT rfl rfl rfl rfl (x_nilCheck hT rfl rfl) ?_; clear hT; intro a hT; refine st_take hT rfl rfl rfl rfl (x_fieldAddr hT rfl Tryz.fa91_0 rfl) ?_; clear hT; intro a hT; refine st_held hT rfl rfl rfl rfl hH (fun w' h' => x_load1 hT rfl Tryz.fl56 rfl ((Hu.heldB 1 rfl h' Sx.off_No).nth rfl)) ?_; clear hT; intro a hT; refine st_held hT rfl rfl rfl rfl hH (fun w' h' => y_loadS hT rfl Tryz.underlying38 Tryz.ti38 rfl ((Hu.heldB 0 rfl h' Sx.off_No).seg (k := 9) rfl) (by rfl)) ?_; clear hT; intro a hT; refine st_call hT rfl rfl rfl rfl rfl Tryz.can54 rfl (BSearch_calls L x (fun q => lessI (Fr.p q) x.p) ((H.row 2 rfl).ssn rfl) (by omega) Tryz.can55 (held_mono hHd x.p) (fun q hq w1 => less_calls q x w1 (hrg q hq) hrx)) ?_; rintro _ w8 ⟨i9, b9, rfl, hi9, hlo9, hhi9, E⟩; refine ⟨_, rfl, ?_⟩; clear hT; intro a hT; replace H := H.pure E; clear E; have hld : leadF x.p (L.map Fr.p) = i9 := lead_map hi9 hlo9 hhi9; refine st_take hT rfl rfl rfl rfl (x_move hT rfl rfl) ?_; clear hT; intro a hT
          refine st_take hT rfl rfl rfl rfl (x_extractL hT rfl rfl rfl) ?_; clear hT; intro a hT; refine st_take hT rfl rfl rfl rfl (x_extractL hT rfl rfl rfl) ?_; clear hT; intro a hT; refine st_take hT rfl rfl rfl rfl (x_assign hT rfl rfl) ?_; clear hT; intro a hT; refine st_take hT rfl rfl rfl rfl (x_assign hT rfl rfl) ?_; clear hT; intro a hT; replace hT := hT.keep [8, 57, 27, 26, 5, 25, 24, 14, 10, 3, 0, 1] rfl; clear Hu hH; refine ser_calm ?_; refine Sx.then_normal (hK27 _ _ ?_); clear hK27; refine wp_seq_k fun K28 hK28 => ?_; refine Sx.wp_draws (fun u => Sx.Ext (Sx.No) u) [(0, .take), (1, .take), (2, .take), (3, .take), (4, .held), (5, .take), (6, .held), (7, .keep), (8, .keep), (9, .run), (10, .take), (11, .take), (12, .run)] (by kernel_rfl) (by kernel_rfl) (fun u E _ => ?_); replace H := H.pure E; clear E; have hH : Sx.Ext (Sx.No) u u := Sx.Ext.refl _ _; have Hu := H; refine st_take hT rfl rfl rfl rfl (x_move hT rfl rfl) ?_; clear hT; intro a hT; refine st_take hT rfl rfl rfl rfl (x_move hT rfl rfl) ?_; clear hT; intro a hT; refine st_take hT rfl rfl rfl rfl (x_nilCheck hT rfl rfl) ?_; clear hT; intro a hT; refine st_take hT rfl rfl rfl rfl (x_fieldAddr hT rfl Tryz.fa91_0 rfl) ?_; clear hT; intro a hT; refine st_held hT rfl rfl rfl rfl hH (fun w' h' => x_load1 hT rfl Tryz.fl56 rfl ((Hu.heldB 1 rfl h' Sx.off_No).nth rfl)) ?_; clear hT; intro a hT; refine st_take hT rfl rfl rfl rfl (x_move hT rfl rfl) ?_; clear hT; intro a hT; refine st_held hT rfl rfl rfl rfl hH (fun w' h' => y_loadS hT rfl Tryz.underlying38 Tryz.ti38 rfl ((Hu.heldB 0 rfl h' Sx.off_No).seg (k := 9) rfl) (by rfl)) ?_
          clear hT; intro a hT; refine st_callkeep hT rfl rfl rfl rfl rfl Tryz.can57 rfl (clone_calls x (R.at H.ext) hn hl) ?_; rintro _ w9 ⟨ad8, c8, rfl, K⟩; refine ⟨_, rfl, hH.step K.ext, ?_⟩; replace hH := hH.step K.ext; clear hT; intro a hT; replace H := H.more K rfl; clear K; have hnp : Fr.p (⟨x.rg, x.at_, x.t, x.s, ad8, c8, x.ws⟩ : Fr) = x.p := rfl; have hln : L.length + 1 = (L.take i9 ++ (⟨x.rg, x.at_, x.t, x.s, ad8, c8, x.ws⟩ : Fr) :: L.drop i9).length := by rw [List.length_append, List.length_cons, List.length_take, List.length_drop]; omega
          have hmp : (L.take i9 ++ (⟨x.rg, x.at_, x.t, x.s, ad8, c8, x.ws⟩ : Fr) :: L.drop i9).map Fr.p = insF (L.map Fr.p) x.p := by unfold insF; rw [hld, List.map_append, List.map_cons, hnp, List.map_take, List.map_drop]
          refine st_effkeep hT rfl rfl rfl rfl (y_slice1 hT rfl Tryz.underlying56 Tryz.ti38 rfl rfl rfl rfl rfl rfl _) ?_; rintro _ w10 ⟨b3, rfl, N⟩; have q_b3 : u.heap.size ≤ b3 := by have h8 := hH.size; have h9 := N.at_; omega
          refine ⟨hH.step N.ext, ?_⟩; replace hH := hH.step N.ext; clear hT; intro a hT; replace H := H.new N; clear N; refine st_call hT rfl rfl rfl rfl rfl Tryz.can56 rfl (frInsert ad L.length c i9 b3 (L.flatMap Fr.cells) (⟨x.rg, x.at_, x.t, x.s, ad8, c8, x.ws⟩ : Fr).cells _ (H.row 4 rfl) (H.blk 0 rfl) rfl (fun u hu => flat_one Fr.one _ u hu) (Fr.one (⟨x.rg, x.at_, x.t, x.s, ad8, c8, x.ws⟩ : Fr)) hi9 (fun k hk he => H.off 4 0 rfl rfl rfl k ((H.row 4 rfl).lt k hk) hk he) (by omega)) ?_; rintro _ w11 ⟨ad9, c9, rfl, hr, E, hown⟩; refine ⟨_, rfl, ?_⟩; clear hT; intro a hT; replace H := H.setR 4 rfl hr E hown rfl; clear hr E hown; rw [ins_cells hi9] at H; rw [show L.length + 1 = (L.take i9 ++ (⟨x.rg, x.at_, x.t, x.s, ad8, c8, x.ws⟩ : Fr) :: L.drop i9).length from hln] at H hT; replace H := H.famPut (x := (⟨x.rg, x.at_, x.t, x.s, ad8, c8, x.ws⟩ : Fr)) 5 1 rfl rfl rfl rfl [0, 2, 3, 4] rfl rfl (show (L.take i9 ++ (⟨x.rg, x.at_, x.t, x.s, ad8, c8, x.ws⟩ : Fr) :: L.drop i9).Perm ((⟨x.rg, x.at_, x.t, x.s, ad8, c8, x.ws⟩ : Fr) :: L) from List.perm_middle.trans (by rw [List.take_append_drop])); refine st_take hT rfl rfl rfl rfl (x_nilCheck hT rfl rfl) ?_; clear hT; intro a hT; refine st_take hT rfl rfl rfl rfl (x_fieldAddr hT rfl Tryz.fa91_0 rfl) ?_; clear hT; intro a hT; refine st_act hT rfl rfl rfl (y_store1 hT rfl Tryz.ti56 rfl rfl rfl (H.blk 3 rfl) rfl) ?_; rintro w12 ⟨hb, E, _⟩; replace H := H.setB 3 rfl hb E rfl; clear hb E; replace hT := hT.keep [8, 57, 27, 26, 5, 25, 24, 14, 10, 3, 0, 1] rfl
          clear Hu hH; refine ser_calm ?_; refine Sx.then_normal (hK28 _ _ ?_); clear hK28; refine wp_seq_k fun K29 hK29 => ?_; refine Sx.wp_text [(0, .take)] rfl ?_; refine st_take hT rfl rfl rfl rfl (x_assign hT rfl rfl) ?_; clear hT; intro a hT; replace hT := hT.keep [4, 8, 57, 27, 26, 5, 25, 24, 14, 10, 3, 0, 1] rfl; refine ser_nil ?_; refine Sx.then_normal (hK29 _ _ ?_); clear hK29; refine wp_ret ?_; refine Sx.done1 (fn := Tryz.f38) hT rfl (.tmp (hT.get 4 _ rfl)) ?_; refine ⟨_, _, L.take i9 ++ (⟨x.rg, x.at_, x.t, x.s, ad8, c8, x.ws⟩ : Fr) :: L.drop i9, ?_, H.keep [3, 4, 0] rfl rfl, ?_⟩
          · rw [hadd]
          · rw [hmp]; unfold addL; rw [if_pos hadd]

end Go.Proofs.YtdjfbkllbeeabaaGreat
