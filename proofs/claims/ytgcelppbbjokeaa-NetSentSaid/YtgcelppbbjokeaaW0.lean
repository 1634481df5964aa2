/- Walks: slices.Delete and slices.Insert at mails. -/
import Derived.Test.YtgcelppbbjokeaaTy
set_option linter.unusedSimpArgs false
set_option linter.unusedVariables false
namespace Go.Proofs.Ytgcelppbbjokeaa
/-- slices.Delete: the elements from i to j are gone; all in place. -/
theorem mailDelete (ad : Option Addr) (n c i j : Nat) (xs : List Value) (w : World) (hr : Sx.Row w 34 3 ad n c xs) (h1 : ∀ u ∈ xs, u.oneCell' = true) (hij : i ≤ j) (hj : j ≤ n) (hby : n * 40 ≤ 140737488355328) :
    Calls Try.prog 26 #[.slice ad n c, .int .i64 i, .int .i64 j] w fun r w' => r = .returned (.slice ad (i + (n - j)) c) ∧ Sx.Row w' 34 3 ad (i + (n - j)) c (xs.take (i * 3) ++ xs.drop (j * 3)) ∧ Sx.Ext (Sx.Own ad) w w' := by
  have hle := hr.le
  have hm := hle.2
  unfold maxLen at hm
  have hxl := hr.len
  refine Sx.calls_into Try.func26 rfl Try.ntmps26 rfl fun a hT => ?_
  replace hT := hT.keep [0, 1, 2] rfl
  have X : Sx.Ext ((Sx.Own ad)) w w := Sx.Ext.refl _ _
  refine wp_seq_k fun K1 hK1 => ?_
  -- region 0 (slices.go:224)
  refine Sx.wp_text [(0, .take)] rfl ?_
  refine Sx.st_take hT rfl rfl rfl rfl (Sx.x_assign hT rfl rfl) ?_
  clear hT; intro a hT
  replace hT := hT.keep [6, 0, 1, 2] rfl
  refine Sx.ser_nil ?_
  refine Sx.then_normal (hK1 _ _ ?_)
  clear hK1
  refine wp_seq_k fun K2 hK2 => ?_
  -- region 1 (slices.go:225)
  refine Sx.wp_text [(0, .take), (1, .take), (2, .take), (3, .take), (4, .take), (5, .take)] rfl ?_
  refine Sx.st_take hT rfl rfl rfl rfl (Sx.x_move hT rfl rfl) ?_
  clear hT; intro a hT
  refine Sx.st_take hT rfl rfl rfl rfl (Sx.x_move hT rfl rfl) ?_
  clear hT; intro a hT
  refine Sx.st_take hT rfl rfl rfl rfl (Sx.x_move hT rfl rfl) ?_
  clear hT; intro a hT
  refine Sx.st_take hT rfl rfl rfl rfl (Sx.x_move hT rfl rfl) ?_
  clear hT; intro a hT
  refine Sx.st_take hT rfl rfl rfl rfl (Sx.x_len_slice hT rfl rfl Try.underlying52 rfl) ?_
  clear hT; intro a hT
  refine Sx.st_take hT rfl rfl rfl rfl (Sx.x_slice_lhm hT rfl Try.underlying52 Try.ti34 rfl rfl rfl rfl rfl rfl rfl hij hj hle.1) ?_
  clear hT; intro a hT
  replace hT := hT.keep [6, 0, 1, 2] rfl
  refine Sx.ser_nil ?_
  refine Sx.then_normal (hK2 _ _ ?_)
  clear hK2
  refine wp_seq_k fun K3 hK3 => ?_
  refine wp_seq_k fun K4 hK4 => ?_
  -- region 2 (slices.go:227)
  refine Sx.wp_text [(0, .take), (1, .take), (2, .take)] rfl ?_
  refine Sx.st_take hT rfl rfl rfl rfl (Sx.x_move hT rfl rfl) ?_
  clear hT; intro a hT
  refine Sx.st_take hT rfl rfl rfl rfl (Sx.x_move hT rfl rfl) ?_
  clear hT; intro a hT
  refine Sx.st_take hT rfl rfl rfl rfl ((fun w => Sx.x_eq w hT rfl rfl rfl)) ?_
  clear hT; intro a hT
  replace hT := hT.keep [16, 6, 0, 1, 2] rfl
  refine Sx.ser_nil ?_
  refine Sx.then_normal (hK4 _ _ ?_)
  clear hK4
  -- cond 0
  refine Sx.wp_if hT rfl (fun hc5 => ?_) (fun hc5 => ?_)
  · try simp only [decide_eq_true_eq, decide_eq_false_iff_not, Bool.not_eq_true', Bool.not_eq_false', Bool.not_eq_true, Bool.not_eq_false, Bool.and_eq_true, Bool.or_eq_false_iff, beq_iff_eq, bne_iff_ne, Int.not_lt, Int.not_le, ne_eq] at hc5
    refine wp_seq_k fun K6 hK6 => ?_
    -- region 3 (slices.go:228)
    refine Sx.wp_text [(0, .take), (1, .take)] rfl ?_
    refine Sx.st_take hT rfl rfl rfl rfl (Sx.x_move hT rfl rfl) ?_
    clear hT; intro a hT
    refine Sx.st_take hT rfl rfl rfl rfl (Sx.x_assign hT rfl rfl) ?_
    clear hT; intro a hT
    replace hT := hT.keep [6, 16, 0, 1, 2] rfl
    refine Sx.ser_nil ?_
    refine Sx.then_normal (hK6 _ _ ?_)
    clear hK6
    refine wp_ret ?_
    refine Sx.then_ret ?_
    refine Sx.done1 (fn := Try.f26) hT rfl (.tmp (hT.get 6 _ rfl)) ?_
    have hij2 : i = j := by omega
    subst hij2
    rw [List.take_append_drop, show i + (n - i) = n from by omega]
    exact ⟨rfl, hr, X⟩
  · try simp only [decide_eq_true_eq, decide_eq_false_iff_not, Bool.not_eq_true', Bool.not_eq_false', Bool.not_eq_true, Bool.not_eq_false, Bool.and_eq_true, Bool.or_eq_false_iff, beq_iff_eq, bne_iff_ne, Int.not_lt, Int.not_le, ne_eq] at hc5
    refine wp_skip ?_
    refine Sx.then_normal (hK3 _ _ ?_)
    clear hK3
    refine wp_seq_k fun K7 hK7 => ?_
    -- region 4 (slices.go:231)
    refine Sx.wp_text [(0, .take), (1, .take), (2, .take)] rfl ?_
    refine Sx.st_take hT rfl rfl rfl rfl (Sx.x_move hT rfl rfl) ?_
    clear hT; intro a hT
    refine Sx.st_take hT rfl rfl rfl rfl (Sx.x_len_slice hT rfl rfl Try.underlying52 rfl) ?_
    clear hT; intro a hT
    refine Sx.st_take hT rfl rfl rfl rfl (Sx.x_assign hT rfl rfl) ?_
    clear hT; intro a hT
    replace hT := hT.keep [7, 16, 6, 0, 1, 2] rfl
    refine Sx.ser_nil ?_
    refine Sx.then_normal (hK7 _ _ ?_)
    clear hK7
    refine wp_seq_k fun K8 hK8 => ?_
    -- region 5 (slices.go:232)
    refine Sx.wp_draws (fun u => Sx.Ext Sx.No u) [(0, .take), (1, .take), (2, .take), (3, .take), (4, .take), (5, .take), (6, .run), (7, .take)] (by kernel_rfl) (by kernel_rfl) (fun u E z => ?_)
    replace X := X.step E
    replace hr := hr.ext_no E
    have hH : Sx.Ext Sx.No u u := Sx.Ext.refl _ _
    refine Sx.st_take hT rfl rfl rfl rfl (Sx.x_move hT rfl rfl) ?_
    clear hT; intro a hT
    refine Sx.st_take hT rfl rfl rfl rfl (Sx.x_move hT rfl rfl) ?_
    clear hT; intro a hT
    refine Sx.st_take hT rfl rfl rfl rfl (Sx.x_slice_h hT rfl Try.underlying52 Try.ti34 rfl rfl rfl (by omega)) ?_
    clear hT; intro a hT
    refine Sx.st_take hT rfl rfl rfl rfl (Sx.x_move hT rfl rfl) ?_
    clear hT; intro a hT
    refine Sx.st_take hT rfl rfl rfl rfl (Sx.x_move hT rfl rfl) ?_
    clear hT; intro a hT
    refine Sx.st_take hT rfl rfl rfl rfl (Sx.x_slice_l hT rfl Try.underlying52 Try.ti34 rfl rfl rfl hj) ?_
    clear hT; intro a hT
    refine Sx.st_eff hT rfl rfl rfl rfl (Sx.x_append hT rfl rfl Try.underlying52 Try.ti34 rfl (by decide) rfl rfl (hr.take (by omega)) (hr.sv.cut (lo := j) (hi := n) hj (Nat.le_refl _) hle.1) (fun u hu => h1 u (List.mem_of_mem_drop (List.mem_of_mem_take hu))) (fun h => hr.nilcut h) (by unfold maxLen; omega) (by omega)) ?_
    clear hT; rintro _ w1 ⟨ad2, c2, rfl, hr2, E, -, hin⟩ a hT
    obtain ⟨rfl, rfl⟩ := hin (by omega)
    replace X := X.same E
    rw [List.take_of_length_le (l := xs.drop (j * 3)) (i := (n - j) * 3) (by rw [List.length_drop, hxl]; omega)] at hr2
    replace hr := hr2
    clear hr2 E hin
    refine Sx.st_take hT rfl rfl rfl rfl (Sx.x_assign hT rfl rfl) ?_
    clear hT; intro a hT
    replace hT := hT.keep [0, 7, 16, 6, 1, 2] rfl
    refine Sx.ser_calm ?_
    refine Sx.then_normal (hK8 _ _ ?_)
    clear hK8
    refine wp_seq_k fun K9 hK9 => ?_
    -- region 6 (slices.go:233)
    refine Sx.wp_text [(0, .take), (1, .take), (2, .take), (3, .take), (4, .take), (5, .run)] rfl ?_
    refine Sx.st_take hT rfl rfl rfl rfl (Sx.x_move hT rfl rfl) ?_
    clear hT; intro a hT
    refine Sx.st_take hT rfl rfl rfl rfl (Sx.x_move hT rfl rfl) ?_
    clear hT; intro a hT
    refine Sx.st_take hT rfl rfl rfl rfl (Sx.x_len_slice hT rfl rfl Try.underlying52 rfl) ?_
    clear hT; intro a hT
    refine Sx.st_take hT rfl rfl rfl rfl (Sx.x_move hT rfl rfl) ?_
    clear hT; intro a hT
    refine Sx.st_take hT rfl rfl rfl rfl (Sx.x_slice_lh hT rfl Try.underlying52 Try.ti34 rfl rfl rfl rfl rfl (by omega) (by omega)) ?_
    clear hT; intro a hT
    refine Sx.st_clear hT rfl rfl rfl rfl rfl Try.underlying52 Try.ti34 rfl (by decide) rfl rfl rfl hr (by omega) ?_
    intro w9 hr2 E _
    replace X := X.same E
    replace hr := hr2
    clear hr2 E
    replace hT := hT.keep [0, 7, 16, 6, 1, 2] rfl
    refine Sx.ser_nil ?_
    refine Sx.then_normal (hK9 _ _ ?_)
    clear hK9
    refine wp_seq_k fun K10 hK10 => ?_
    -- region 7 (slices.go:234)
    refine Sx.wp_text [(0, .take), (1, .take)] rfl ?_
    refine Sx.st_take hT rfl rfl rfl rfl (Sx.x_move hT rfl rfl) ?_
    clear hT; intro a hT
    refine Sx.st_take hT rfl rfl rfl rfl (Sx.x_assign hT rfl rfl) ?_
    clear hT; intro a hT
    replace hT := hT.keep [6, 0, 7, 16, 1, 2] rfl
    refine Sx.ser_nil ?_
    refine Sx.then_normal (hK10 _ _ ?_)
    clear hK10
    refine wp_ret ?_
    refine Sx.done1 (fn := Try.f26) hT rfl (.tmp (hT.get 6 _ rfl)) ?_
    exact ⟨rfl, hr, X⟩

/-- slices.Insert of one element. -/
theorem mailInsert (ad : Option Addr) (n c i bv : Nat) (xs vs : List Value) (w : World) (hr : Sx.Row w 34 3 ad n c xs) (hv : Sx.Blk w bv vs 34) (hvl : vs.length = 3) (h1 : ∀ u ∈ xs, u.oneCell' = true) (h1v : ∀ u ∈ vs, u.oneCell' = true)
    (hi : i ≤ n) (hne : ∀ k, Sx.Own ad k → k ≠ bv) (hby : (n + 1) * 40 ≤ 140737488355328) :
    Calls Try.prog 27 #[.slice ad n c, .int .i64 i, .slice (some ⟨bv, 0, none⟩) 1 1] w fun r w' => ∃ ad' c', r = .returned (.slice ad' (n + 1) c') ∧ Sx.Row w' 34 3 ad' (n + 1) c' (xs.take (i * 3) ++ vs ++ xs.drop (i * 3)) ∧ Sx.Ext (Sx.Own ad) w w' ∧
      (∀ k, Sx.Own ad' k → Sx.Own ad k ∨ w.heap.size ≤ k) := by
  have hle := hr.le
  have hm := hle.2
  unfold maxLen at hm
  have hxl := hr.len
  refine Sx.calls_into Try.func27 rfl Try.ntmps27 rfl fun a hT => ?_
  replace hT := hT.keep [0, 1, 2] rfl
  have X : Sx.Ext ((Sx.Own ad)) w w := Sx.Ext.refl _ _
  have X0 : Sx.Ext Sx.No w w := Sx.Ext.refl _ _
  have hbv := hv.lt
  refine wp_seq_k fun K1 hK1 => ?_
  -- region 0 (slices.go:136)
  refine Sx.wp_text [(0, .take)] rfl ?_
  refine Sx.st_take hT rfl rfl rfl rfl (Sx.x_assign hT rfl rfl) ?_
  clear hT; intro a hT
  replace hT := hT.keep [6, 0, 1, 2] rfl
  refine Sx.ser_nil ?_
  refine Sx.then_normal (hK1 _ _ ?_)
  clear hK1
  refine wp_seq_k fun K2 hK2 => ?_
  -- region 1 (slices.go:137)
  refine Sx.wp_text [(0, .take), (1, .take), (2, .take)] rfl ?_
  refine Sx.st_take hT rfl rfl rfl rfl (Sx.x_move hT rfl rfl) ?_
  clear hT; intro a hT
  refine Sx.st_take hT rfl rfl rfl rfl (Sx.x_move hT rfl rfl) ?_
  clear hT; intro a hT
  refine Sx.st_take hT rfl rfl rfl rfl (Sx.x_slice_l hT rfl Try.underlying52 Try.ti34 rfl rfl rfl hi) ?_
  clear hT; intro a hT
  replace hT := hT.keep [6, 0, 1, 2] rfl
  refine Sx.ser_nil ?_
  refine Sx.then_normal (hK2 _ _ ?_)
  clear hK2
  refine wp_seq_k fun K3 hK3 => ?_
  -- region 2 (slices.go:139)
  refine Sx.wp_text [(0, .take), (1, .take), (2, .take)] rfl ?_
  refine Sx.st_take hT rfl rfl rfl rfl (Sx.x_move hT rfl rfl) ?_
  clear hT; intro a hT
  refine Sx.st_take hT rfl rfl rfl rfl (Sx.x_len_slice hT rfl rfl Try.underlying52 rfl) ?_
  clear hT; intro a hT
  refine Sx.st_take hT rfl rfl rfl rfl (Sx.x_assign hT rfl rfl) ?_
  clear hT; intro a hT
  replace hT := hT.keep [7, 6, 0, 1, 2] rfl
  refine Sx.ser_nil ?_
  refine Sx.then_normal (hK3 _ _ ?_)
  clear hK3
  refine wp_seq_k fun K4 hK4 => ?_
  refine wp_seq_k fun K5 hK5 => ?_
  -- region 3 (slices.go:140)
  refine Sx.wp_text [(0, .take), (1, .take)] rfl ?_
  refine Sx.st_take hT rfl rfl rfl rfl (Sx.x_move hT rfl rfl) ?_
  clear hT; intro a hT
  refine Sx.st_take hT rfl rfl rfl rfl ((fun w => Sx.x_eq w hT rfl rfl rfl)) ?_
  clear hT; intro a hT
  replace hT := hT.keep [16, 7, 6, 0, 1, 2] rfl
  refine Sx.ser_nil ?_
  refine Sx.then_normal (hK5 _ _ ?_)
  clear hK5
  -- cond 0
  refine Sx.wp_if hT rfl (fun hc6 => ?_) (fun hc6 => ?_)
  · exfalso
    try simp only [decide_eq_true_eq, decide_eq_false_iff_not, Bool.not_eq_true', Bool.not_eq_false', Bool.not_eq_true, Bool.not_eq_false, Bool.and_eq_true, Bool.or_eq_false_iff, beq_iff_eq, bne_iff_ne, Int.not_lt, Int.not_le, ne_eq] at hc6
    first | omega | simp at hc6
  · try simp only [decide_eq_true_eq, decide_eq_false_iff_not, Bool.not_eq_true', Bool.not_eq_false', Bool.not_eq_true, Bool.not_eq_false, Bool.and_eq_true, Bool.or_eq_false_iff, beq_iff_eq, bne_iff_ne, Int.not_lt, Int.not_le, ne_eq] at hc6
    refine wp_skip ?_
    refine Sx.then_normal (hK4 _ _ ?_)
    clear hK4
    refine wp_seq_k fun K7 hK7 => ?_
    -- region 5 (slices.go:143)
    refine Sx.wp_text [(0, .take), (1, .take), (2, .take)] rfl ?_
    refine Sx.st_take hT rfl rfl rfl rfl (Sx.x_move hT rfl rfl) ?_
    clear hT; intro a hT
    refine Sx.st_take hT rfl rfl rfl rfl (Sx.x_len_slice hT rfl rfl Try.underlying52 rfl) ?_
    clear hT; intro a hT
    refine Sx.st_take hT rfl rfl rfl rfl (Sx.x_assign hT rfl rfl) ?_
    clear hT; intro a hT
    replace hT := hT.keep [8, 16, 7, 6, 0, 1, 2] rfl
    refine Sx.ser_nil ?_
    refine Sx.then_normal (hK7 _ _ ?_)
    clear hK7
    refine wp_seq_k fun K8 hK8 => ?_
    refine wp_seq_k fun K9 hK9 => ?_
    -- region 6 (slices.go:144)
    refine Sx.wp_text [(0, .take), (1, .take), (2, .take)] rfl ?_
    refine Sx.st_take hT rfl rfl rfl rfl (Sx.x_move hT rfl rfl) ?_
    clear hT; intro a hT
    refine Sx.st_take hT rfl rfl rfl rfl (Sx.x_move hT rfl rfl) ?_
    clear hT; intro a hT
    refine Sx.st_take hT rfl rfl rfl rfl ((fun w => Sx.x_eq w hT rfl rfl rfl)) ?_
    clear hT; intro a hT
    replace hT := hT.keep [22, 8, 16, 7, 6, 0, 1, 2] rfl
    refine Sx.ser_nil ?_
    refine Sx.then_normal (hK9 _ _ ?_)
    clear hK9
    -- cond 1
    refine Sx.wp_if hT rfl (fun hc10 => ?_) (fun hc10 => ?_)
    · try simp only [decide_eq_true_eq, decide_eq_false_iff_not, Bool.not_eq_true', Bool.not_eq_false', Bool.not_eq_true, Bool.not_eq_false, Bool.and_eq_true, Bool.or_eq_false_iff, beq_iff_eq, bne_iff_ne, Int.not_lt, Int.not_le, ne_eq] at hc10
      refine wp_seq_k fun K11 hK11 => ?_
      -- region 7 (slices.go:145)
      refine Sx.wp_text [(0, .take), (1, .take), (2, .run), (3, .take)] rfl ?_
      refine Sx.st_take hT rfl rfl rfl rfl (Sx.x_move hT rfl rfl) ?_
      clear hT; intro a hT
      refine Sx.st_take hT rfl rfl rfl rfl (Sx.x_move hT rfl rfl) ?_
      clear hT; intro a hT
      refine Sx.st_eff hT rfl rfl rfl rfl (Sx.x_append hT rfl rfl Try.underlying52 Try.ti34 rfl (by decide) rfl rfl hr (hv.sv1 hvl) h1v (fun h => by cases h) (by unfold maxLen; omega) (by omega)) ?_
      clear hT; rintro _ w1 ⟨ad2, c2, rfl, hr2, E, hown, -⟩ a hT
      replace X := X.same E
      refine Sx.st_take hT rfl rfl rfl rfl (Sx.x_assign hT rfl rfl) ?_
      clear hT; intro a hT
      replace hT := hT.keep [6, 22, 8, 16, 7, 0, 1, 2] rfl
      refine Sx.ser_nil ?_
      refine Sx.then_normal (hK11 _ _ ?_)
      clear hK11
      refine wp_ret ?_
      refine Sx.then_ret ?_
      refine Sx.done1 (fn := Try.f27) hT rfl (.tmp (hT.get 6 _ rfl)) ?_
      have hin2 : i = n := by omega
      subst hin2
      rw [List.take_of_length_le (by omega), List.drop_eq_nil_of_le (by omega), List.append_nil]
      exact ⟨_, _, rfl, hr2, X, hown⟩
    · try simp only [decide_eq_true_eq, decide_eq_false_iff_not, Bool.not_eq_true', Bool.not_eq_false', Bool.not_eq_true, Bool.not_eq_false, Bool.and_eq_true, Bool.or_eq_false_iff, beq_iff_eq, bne_iff_ne, Int.not_lt, Int.not_le, ne_eq] at hc10
      refine wp_skip ?_
      refine Sx.then_normal (hK8 _ _ ?_)
      clear hK8
      refine wp_seq_k fun K12 hK12 => ?_
      refine wp_seq_k fun K13 hK13 => ?_
      -- region 8 (slices.go:147)
      refine Sx.wp_text [(0, .take), (1, .take), (2, .take), (3, .take), (4, .take), (5, .take)] rfl ?_
      refine Sx.st_take hT rfl rfl rfl rfl (Sx.x_move hT rfl rfl) ?_
      clear hT; intro a hT
      refine Sx.st_take hT rfl rfl rfl rfl (Sx.x_move hT rfl rfl) ?_
      clear hT; intro a hT
      refine Sx.st_take hT rfl rfl rfl rfl ((fun w => Sx.x_add w hT rfl rfl rfl (Sx.wrap64 (by omega)))) ?_
      clear hT; intro a hT
      refine Sx.st_take hT rfl rfl rfl rfl (Sx.x_move hT rfl rfl) ?_
      clear hT; intro a hT
      refine Sx.st_take hT rfl rfl rfl rfl (Sx.x_cap hT rfl rfl Try.underlying52 rfl) ?_
      clear hT; intro a hT
      refine Sx.st_take hT rfl rfl rfl rfl ((fun w => Sx.x_gt w hT rfl rfl rfl)) ?_
      clear hT; intro a hT
      replace hT := hT.keep [31, 22, 8, 16, 7, 6, 0, 1, 2] rfl
      refine Sx.ser_nil ?_
      refine Sx.then_normal (hK13 _ _ ?_)
      clear hK13
      -- cond 2
      refine Sx.wp_if hT rfl (fun hc14 => ?_) (fun hc14 => ?_)
      · try simp only [decide_eq_true_eq, decide_eq_false_iff_not, Bool.not_eq_true', Bool.not_eq_false', Bool.not_eq_true, Bool.not_eq_false, Bool.and_eq_true, Bool.or_eq_false_iff, beq_iff_eq, bne_iff_ne, Int.not_lt, Int.not_le, ne_eq] at hc14
        refine wp_seq_k fun K15 hK15 => ?_
        -- region 9 (slices.go:152)
        refine Sx.wp_text [(0, .take), (1, .take), (2, .take), (3, .take), (4, .take), (5, .take), (6, .take), (7, .take), (8, .run), (9, .take)] rfl ?_
        refine Sx.st_take hT rfl rfl rfl rfl (Sx.x_move hT rfl rfl) ?_
        clear hT; intro a hT
        refine Sx.st_take hT rfl rfl rfl rfl (Sx.x_move hT rfl rfl) ?_
        clear hT; intro a hT
        refine Sx.st_take hT rfl rfl rfl rfl (Sx.x_slice_h hT rfl Try.underlying52 Try.ti34 rfl rfl rfl (by omega)) ?_
        clear hT; intro a hT
        refine Sx.st_take hT rfl rfl rfl rfl (Sx.x_move hT rfl rfl) ?_
        clear hT; intro a hT
        refine Sx.st_take hT rfl rfl rfl rfl (Sx.x_move hT rfl rfl) ?_
        clear hT; intro a hT
        refine Sx.st_take hT rfl rfl rfl rfl ((fun w => Sx.x_add w hT rfl rfl rfl (Sx.wrap64 (by omega)))) ?_
        clear hT; intro a hT
        refine Sx.st_take hT rfl rfl rfl rfl (Sx.x_move hT rfl rfl) ?_
        clear hT; intro a hT
        refine Sx.st_take hT rfl rfl rfl rfl ((fun w => Sx.x_sub w hT rfl rfl rfl (Sx.wrap64 (by omega)))) ?_
        clear hT; intro a hT
        refine Sx.st_eff hT rfl rfl rfl rfl (Sx.x_append_zeros (k := n + 1 - i) hT rfl rfl Try.underlying52 Try.underlying3 Try.ti34 rfl (by decide) rfl rfl (by omega) (hr.take hi) (by omega) (by omega) (by unfold maxLen; omega) (by omega)) ?_
        clear hT; rintro _ w1 ⟨b2, c2, rfl, hb2, hr2, E⟩ a hT
        replace X := X.step E
        have hq := hr.lt
        replace hr := hr.ext_no E
        replace hv := hv.ext_no E
        have hn2 : i + (n + 1 - i) = n + 1 := by omega
        rw [hn2] at hr2 hT
        have hle2 := hr2.le
        have hm2 := hle2.2
        unfold maxLen at hm2
        refine Sx.st_take hT rfl rfl rfl rfl (Sx.x_assign hT rfl rfl) ?_
        clear hT; intro a hT
        replace hT := hT.keep [9, 31, 22, 8, 16, 7, 6, 0, 1, 2] rfl
        refine Sx.ser_nil ?_
        refine Sx.then_normal (hK15 _ _ ?_)
        clear hK15
        refine wp_seq_k fun K16 hK16 => ?_
        -- region 10 (slices.go:153)
        refine Sx.wp_text [(0, .take), (1, .take), (2, .take), (3, .take), (4, .run)] rfl ?_
        refine Sx.st_take hT rfl rfl rfl rfl (Sx.x_move hT rfl rfl) ?_
        clear hT; intro a hT
        refine Sx.st_take hT rfl rfl rfl rfl (Sx.x_move hT rfl rfl) ?_
        clear hT; intro a hT
        refine Sx.st_take hT rfl rfl rfl rfl (Sx.x_slice_l hT rfl Try.underlying52 Try.ti34 rfl rfl rfl (by omega)) ?_
        clear hT; intro a hT
        refine Sx.st_take hT rfl rfl rfl rfl (Sx.x_move hT rfl rfl) ?_
        clear hT; intro a hT
        refine Sx.st_eff hT rfl rfl rfl rfl (Sx.x_copy (k := i) (m := n + 1) hT rfl rfl Try.underlying52 Try.ti34 rfl rfl rfl rfl rfl hr2 (by omega) (hv.sv1 hvl) (fun u hu => h1v u (List.mem_of_mem_take hu))) ?_
        clear hT; rintro _ w2 ⟨rfl, hr3, E, -⟩ a hT
        rw [Sx.Own.one] at E
        replace hv := hv.ext E (by unfold Sx.One; omega)
        replace X := X.fresh E (by omega)
        replace hr := hr.ext E (fun k hk h => by unfold Sx.One at h; have := hq k hk; omega)
        replace hr2 := hr3
        clear hr3
        rw [show Nat.min 1 (n + 1 - i) = 1 from by simp only [Nat.min_def]; split <;> omega, Nat.one_mul] at hr2
        replace hT := hT.keep [9, 31, 22, 8, 16, 7, 6, 0, 1, 2] rfl
        refine Sx.ser_nil ?_
        refine Sx.then_normal (hK16 _ _ ?_)
        clear hK16
        refine wp_seq_k fun K17 hK17 => ?_
        -- region 11 (slices.go:154)
        refine Sx.wp_draws (fun u => Sx.Ext Sx.No u) [(0, .take), (1, .take), (2, .take), (3, .take), (4, .take), (5, .take), (6, .take), (7, .take), (8, .run)] (by kernel_rfl) (by kernel_rfl) (fun u E z => ?_)
        replace X := X.step E
        replace hv := hv.ext_no E
        replace hr := hr.ext_no E
        replace hr2 := hr2.ext_no E
        have hH : Sx.Ext Sx.No u u := Sx.Ext.refl _ _
        refine Sx.st_take hT rfl rfl rfl rfl (Sx.x_move hT rfl rfl) ?_
        clear hT; intro a hT
        refine Sx.st_take hT rfl rfl rfl rfl (Sx.x_move hT rfl rfl) ?_
        clear hT; intro a hT
        refine Sx.st_take hT rfl rfl rfl rfl (Sx.x_move hT rfl rfl) ?_
        clear hT; intro a hT
        refine Sx.st_take hT rfl rfl rfl rfl ((fun w => Sx.x_add w hT rfl rfl rfl (Sx.wrap64 (by omega)))) ?_
        clear hT; intro a hT
        refine Sx.st_take hT rfl rfl rfl rfl (Sx.x_slice_l (p := i + 1) hT rfl Try.underlying52 Try.ti34 rfl rfl (by omega) (by omega)) ?_
        clear hT; intro a hT
        refine Sx.st_take hT rfl rfl rfl rfl (Sx.x_move hT rfl rfl) ?_
        clear hT; intro a hT
        refine Sx.st_take hT rfl rfl rfl rfl (Sx.x_move hT rfl rfl) ?_
        clear hT; intro a hT
        refine Sx.st_take hT rfl rfl rfl rfl (Sx.x_slice_l hT rfl Try.underlying52 Try.ti34 rfl rfl rfl hi) ?_
        clear hT; intro a hT
        refine Sx.st_eff hT rfl rfl rfl rfl (Sx.x_copy (k := i + 1) (m := n + 1) hT rfl rfl Try.underlying52 Try.ti34 rfl rfl rfl rfl rfl hr2 (by omega) (hr.sv.cut (lo := i) (hi := n) hi (Nat.le_refl _) hle.1) (fun u hu => h1 u (List.mem_of_mem_drop (List.mem_of_mem_take (List.mem_of_mem_take hu))))) ?_
        clear hT; rintro _ w3 ⟨rfl, hr3, E2, -⟩ a hT
        rw [Sx.Own.one] at E2
        replace X := X.fresh E2 (by omega)
        replace hr2 := hr3
        replace hv := hv.ext E2 (by unfold Sx.One; omega)
        replace hr := hr.ext E2 (fun k hk h => by unfold Sx.One at h; have := hq k hk; omega)
        clear hr3
        rw [show Nat.min (n - i) (n + 1 - (i + 1)) = n - i from by simp only [Nat.min_def]; split <;> omega, List.take_of_length_le (l := xs.drop (i * 3)) (i := (n - i) * 3) (by rw [List.length_drop, hxl]; omega)] at hr2
        replace hT := hT.keep [9, 31, 22, 8, 16, 7, 6, 0, 1, 2] rfl
        refine Sx.ser_calm ?_
        refine Sx.then_normal (hK17 _ _ ?_)
        clear hK17
        refine wp_seq_k fun K18 hK18 => ?_
        -- region 12 (slices.go:155)
        refine Sx.wp_text [(0, .take), (1, .take)] rfl ?_
        refine Sx.st_take hT rfl rfl rfl rfl (Sx.x_move hT rfl rfl) ?_
        clear hT; intro a hT
        refine Sx.st_take hT rfl rfl rfl rfl (Sx.x_assign hT rfl rfl) ?_
        clear hT; intro a hT
        replace hT := hT.keep [6, 9, 31, 22, 8, 16, 7, 0, 1, 2] rfl
        refine Sx.ser_nil ?_
        refine Sx.then_normal (hK18 _ _ ?_)
        clear hK18
        refine wp_ret ?_
        refine Sx.then_ret ?_
        refine Sx.done1 (fn := Try.f27) hT rfl (.tmp (hT.get 6 _ rfl)) ?_
        have hz1 : (Builtin.zeroCells (.agg #[.int .i64 0, .int .i64 0, .slice none 0 0] : Value).cells (n + 1 - i)).toList.length = 3 + (n - i) * 3 := by
          rw [Array.length_toList, size_zeroCells, show (.agg #[.int .i64 0, .int .i64 0, .slice none 0 0] : Value).cells.size = 3 from rfl]; omega
        have hA : (xs.take (i * 3)).length = i * 3 := by rw [List.length_take, hxl]; omega
        have hB : (xs.drop (i * 3)).length = (n - i) * 3 := by rw [List.length_drop, hxl]; omega
        have h9 := Sx.ins_grow hA hvl hB hz1
        simp only [show (i + 1) * 3 = i * 3 + 3 from by omega, show (i + 1 + (n - i)) * 3 = i * 3 + 3 + (n - i) * 3 from by omega] at hr2
        rw [List.take_of_length_le (l := vs) (by omega), List.take_of_length_le (l := xs.drop (i * 3)) (by omega), h9] at hr2
        exact ⟨_, _, rfl, hr2, X, fun k hk => .inr (by rw [Sx.Own.one] at hk; unfold Sx.One at hk; omega)⟩
      · try simp only [decide_eq_true_eq, decide_eq_false_iff_not, Bool.not_eq_true', Bool.not_eq_false', Bool.not_eq_true, Bool.not_eq_false, Bool.and_eq_true, Bool.or_eq_false_iff, beq_iff_eq, bne_iff_ne, Int.not_lt, Int.not_le, ne_eq] at hc14
        refine wp_skip ?_
        refine Sx.then_normal (hK12 _ _ ?_)
        clear hK12
        refine wp_seq_k fun K19 hK19 => ?_
        -- region 13 (slices.go:157)
        refine Sx.wp_text [(0, .take), (1, .take), (2, .take), (3, .take), (4, .take), (5, .take)] rfl ?_
        refine Sx.st_take hT rfl rfl rfl rfl (Sx.x_move hT rfl rfl) ?_
        clear hT; intro a hT
        refine Sx.st_take hT rfl rfl rfl rfl (Sx.x_move hT rfl rfl) ?_
        clear hT; intro a hT
        refine Sx.st_take hT rfl rfl rfl rfl (Sx.x_move hT rfl rfl) ?_
        clear hT; intro a hT
        refine Sx.st_take hT rfl rfl rfl rfl ((fun w => Sx.x_add w hT rfl rfl rfl (Sx.wrap64 (by omega)))) ?_
        clear hT; intro a hT
        refine Sx.st_take hT rfl rfl rfl rfl (Sx.x_slice_h (q := n + 1) hT rfl Try.underlying52 Try.ti34 rfl rfl rfl (by omega)) ?_
        clear hT; intro a hT
        obtain ⟨ys, hr2⟩ := hr.upto (q := n + 1) (by omega) (by omega)
        have hys : ys.length = 3 := by have := hr2.len; rw [List.length_append, hxl] at this; omega
        obtain ⟨junk, ha, hB, -⟩ := hr2.at_ (by omega)
        refine Sx.st_take hT rfl rfl rfl rfl (Sx.x_assign hT rfl rfl) ?_
        clear hT; intro a hT
        replace hT := hT.keep [0, 31, 22, 8, 16, 7, 6, 1, 2] rfl
        refine Sx.ser_nil ?_
        refine Sx.then_normal (hK19 _ _ ?_)
        clear hK19
        refine wp_seq_k fun K20 hK20 => ?_
        refine wp_seq_k fun K21 hK21 => ?_
        -- region 14 (slices.go:173)
        refine Sx.wp_text [(0, .take), (1, .take), (2, .take), (3, .take), (4, .take), (5, .take), (6, .run), (7, .take)] rfl ?_
        refine Sx.st_take hT rfl rfl rfl rfl (Sx.x_move hT rfl rfl) ?_
        clear hT; intro a hT
        refine Sx.st_take hT rfl rfl rfl rfl (Sx.x_move hT rfl rfl) ?_
        clear hT; intro a hT
        refine Sx.st_take hT rfl rfl rfl rfl (Sx.x_move hT rfl rfl) ?_
        clear hT; intro a hT
        refine Sx.st_take hT rfl rfl rfl rfl (Sx.x_move hT rfl rfl) ?_
        clear hT; intro a hT
        refine Sx.st_take hT rfl rfl rfl rfl ((fun w => Sx.x_add w hT rfl rfl rfl (Sx.wrap64 (by omega)))) ?_
        clear hT; intro a hT
        refine Sx.st_take hT rfl rfl rfl rfl (Sx.x_slice_l (p := i + 1) hT rfl Try.underlying52 Try.ti34 rfl rfl (by omega) (by omega)) ?_
        clear hT; intro a hT
        refine Sx.st_run hT rfl rfl rfl rfl (Sx.x_callext hT rfl rfl (Sx.run_overlaps (tR := 4) Try.func36 (by kernel_rfl) rfl (by kernel_rfl) (by kernel_rfl) Try.underlying52 Try.ti34 hv hB (fun h => hne (Sx.ab ad) (by rw [ha]; rfl) h.symm) (fun h => by have := congrArg List.length h; simp only [List.length_append, hys, List.length_nil] at this; omega) ⟨_, Sx.cutAt_row ha (by omega)⟩)) ?_
        clear hT; intro a hT
        refine Sx.st_take hT rfl rfl rfl rfl (Sx.x_not hT rfl rfl) ?_
        clear hT; intro a hT
        replace hT := hT.keep [68, 0, 31, 22, 8, 16, 7, 6, 1, 2] rfl
        refine Sx.ser_nil ?_
        refine Sx.then_normal (hK21 _ _ ?_)
        clear hK21
        refine Sx.wp_if hT rfl (fun _ => ?_) (fun h => by cases h)
        refine wp_seq_k fun K22 hK22 => ?_
        -- region 15 (slices.go:178)
        refine Sx.wp_draws (fun u => Sx.Ext Sx.No u) [(0, .take), (1, .take), (2, .take), (3, .take), (4, .take), (5, .take), (6, .take), (7, .take), (8, .run)] (by kernel_rfl) (by kernel_rfl) (fun u E z => ?_)
        replace X := X.step E
        replace hv := hv.ext_no E
        replace hr := hr.ext_no E
        replace hr2 := hr2.ext_no E
        have hH : Sx.Ext Sx.No u u := Sx.Ext.refl _ _
        refine Sx.st_take hT rfl rfl rfl rfl (Sx.x_move hT rfl rfl) ?_
        clear hT; intro a hT
        refine Sx.st_take hT rfl rfl rfl rfl (Sx.x_move hT rfl rfl) ?_
        clear hT; intro a hT
        refine Sx.st_take hT rfl rfl rfl rfl (Sx.x_move hT rfl rfl) ?_
        clear hT; intro a hT
        refine Sx.st_take hT rfl rfl rfl rfl ((fun w => Sx.x_add w hT rfl rfl rfl (Sx.wrap64 (by omega)))) ?_
        clear hT; intro a hT
        refine Sx.st_take hT rfl rfl rfl rfl (Sx.x_slice_l (p := i + 1) hT rfl Try.underlying52 Try.ti34 rfl rfl (by omega) (by omega)) ?_
        clear hT; intro a hT
        refine Sx.st_take hT rfl rfl rfl rfl (Sx.x_move hT rfl rfl) ?_
        clear hT; intro a hT
        refine Sx.st_take hT rfl rfl rfl rfl (Sx.x_move hT rfl rfl) ?_
        clear hT; intro a hT
        refine Sx.st_take hT rfl rfl rfl rfl (Sx.x_slice_l hT rfl Try.underlying52 Try.ti34 rfl rfl rfl (by omega)) ?_
        clear hT; intro a hT
        refine Sx.st_eff hT rfl rfl rfl rfl (Sx.x_copy (k := i + 1) (m := n + 1) hT rfl rfl Try.underlying52 Try.ti34 rfl rfl rfl rfl rfl hr2 (by omega) (hr2.sv.cut (lo := i) (hi := n + 1) (by omega) (Nat.le_refl _) (by omega)) (fun u hu => h1 u (by rw [show Nat.min (n + 1 - i) (n + 1 - (i + 1)) = n - i from by simp only [Nat.min_def]; split <;> omega, List.take_take, Nat.min_eq_left (by omega), List.drop_append_of_le_length (by omega), List.take_append_of_le_length (by rw [List.length_drop]; omega)] at hu; exact List.mem_of_mem_drop (List.mem_of_mem_take hu)))) ?_
        clear hT; rintro _ w1 ⟨rfl, hr3, E2, -⟩ a hT
        have hvb := hv
        replace hv := hv.ext E2 (fun h => hne _ h rfl)
        replace X := X.same E2
        replace hr2 := hr3
        clear hr3
        rw [show Nat.min (n + 1 - i) (n + 1 - (i + 1)) = n - i from by simp only [Nat.min_def]; split <;> omega, List.take_take, Nat.min_eq_left (by omega)] at hr2
        replace hT := hT.keep [68, 0, 31, 22, 8, 16, 7, 6, 1, 2] rfl
        refine Sx.ser_calm ?_
        refine Sx.then_normal (hK22 _ _ ?_)
        clear hK22
        refine wp_seq_k fun K23 hK23 => ?_
        -- region 16 (slices.go:186)
        refine Sx.wp_text [(0, .take), (1, .take), (2, .take), (3, .take), (4, .run)] rfl ?_
        refine Sx.st_take hT rfl rfl rfl rfl (Sx.x_move hT rfl rfl) ?_
        clear hT; intro a hT
        refine Sx.st_take hT rfl rfl rfl rfl (Sx.x_move hT rfl rfl) ?_
        clear hT; intro a hT
        refine Sx.st_take hT rfl rfl rfl rfl (Sx.x_slice_l hT rfl Try.underlying52 Try.ti34 rfl rfl rfl (by omega)) ?_
        clear hT; intro a hT
        refine Sx.st_take hT rfl rfl rfl rfl (Sx.x_move hT rfl rfl) ?_
        clear hT; intro a hT
        refine Sx.st_eff hT rfl rfl rfl rfl (Sx.x_copy (k := i) (m := n + 1) hT rfl rfl Try.underlying52 Try.ti34 rfl rfl rfl rfl rfl hr2 (by omega) (hv.sv1 hvl) (fun u hu => h1v u (List.mem_of_mem_take hu))) ?_
        clear hT; rintro _ w2 ⟨rfl, hr3, E3, -⟩ a hT
        replace X := X.same E3
        replace hr2 := hr3
        clear hr3
        rw [show Nat.min 1 (n + 1 - i) = 1 from by simp only [Nat.min_def]; split <;> omega, Nat.one_mul] at hr2
        replace hT := hT.keep [68, 0, 31, 22, 8, 16, 7, 6, 1, 2] rfl
        refine Sx.ser_nil ?_
        refine Sx.then_normal (hK23 _ _ ?_)
        clear hK23
        refine wp_seq_k fun K24 hK24 => ?_
        -- region 17 (slices.go:193)
        refine Sx.wp_text [(0, .take), (1, .take)] rfl ?_
        refine Sx.st_take hT rfl rfl rfl rfl (Sx.x_move hT rfl rfl) ?_
        clear hT; intro a hT
        refine Sx.st_take hT rfl rfl rfl rfl (Sx.x_assign hT rfl rfl) ?_
        clear hT; intro a hT
        replace hT := hT.keep [6, 68, 0, 31, 22, 8, 16, 7, 1, 2] rfl
        refine Sx.ser_nil ?_
        refine Sx.then_normal (hK24 _ _ ?_)
        clear hK24
        refine wp_ret ?_
        refine Sx.then_ret ?_
        refine Sx.done1 (fn := Try.f27) hT rfl (.tmp (hT.get 6 _ rfl)) ?_
        have hA : (xs.take (i * 3)).length = i * 3 := by rw [List.length_take, hxl]; omega
        have hB : (xs.drop (i * 3)).length = (n - i) * 3 := by rw [List.length_drop, hxl]; omega
        have h9 := Sx.ins_room hA hvl hB hys
        rw [List.take_append_drop] at h9
        simp only [show (i + 1) * 3 = i * 3 + 3 from by omega, show (i + 1 + (n - i)) * 3 = i * 3 + 3 + (n - i) * 3 from by omega] at hr2
        rw [List.take_of_length_le (l := vs) (by omega), h9] at hr2
        exact ⟨_, _, rfl, hr2, X, fun k hk => .inl hk⟩

end Go.Proofs.Ytgcelppbbjokeaa
