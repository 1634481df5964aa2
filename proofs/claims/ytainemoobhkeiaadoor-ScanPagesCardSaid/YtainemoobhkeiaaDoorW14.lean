/- Walks: ScanPages. -/
import Derived.Test.YtainemoobhkeiaaDoorW13
import Derived.Test.YtainemoobhkeiaaDoorN6
set_option linter.unusedSimpArgs false
set_option linter.unusedVariables false
namespace Go.Proofs.YtainemoobhkeiaaDoor
open Sx
theorem Tryd.can5 : Sx.Can Tryd.prog 5 := ⟨_, Tryd.func5, by kernel_rfl, rfl⟩
theorem all_err {q : Query} {after : List UInt8} {l : List Pair} (h : ¬ (allQ q after l).2 = 0) : (allQ q after l).1 = [] := by
  unfold allQ at h ⊢
  (repeat' split) <;> simp_all
theorem tk_all {A : List Pair} {j : Nat} : (A.take j).length + (A.drop j).length = A.length ∧ (A.take j).flatMap Pair.cells ++ (A.drop j).flatMap Pair.cells = A.flatMap Pair.cells := by
  rw [← List.length_append, ← List.flatMap_append, List.take_append_drop]
  exact ⟨rfl, rfl⟩
theorem tk_more {A : List Pair} {j m : Nat} (h : ((A.drop j).take m).length = m) : (A.take j).length + m = (A.take (j + m)).length ∧ (A.take j).flatMap Pair.cells ++ ((A.drop j).take m).flatMap Pair.cells = (A.take (j + m)).flatMap Pair.cells := by
  rw [← List.flatMap_append, List.take_add, List.length_append, h]
  exact ⟨rfl, rfl⟩

theorem all_key {q : Query} {l : List Pair} {j : Nat} {x : Pair} (h : (allQ q [] l).2 = 0) (hk : ∀ p ∈ l, p.key ≠ [] ∧ p.key.length ≤ 24) (hx : (allQ q [] l).1[j]? = some x) : x.key ≠ [] ∧ x.key.length ≤ 24 := by
  obtain ⟨hc, hr⟩ := all_zero h
  have := List.mem_of_getElem? hx
  rw [all_nil hc hr] at this
  have := (List.mem_filter.1 this).1
  unfold dirQ at this
  split at this
  · exact hk x (by simpa using this)
  · exact hk x this
theorem mem_upto {l : List Pair} {f : Pair → Prop} (h : ∀ i p, i < l.length → l[i]? = some p → f p) : ∀ p ∈ l, f p := fun p hp => by
  obtain ⟨i, hi, rfl⟩ := List.mem_iff_getElem.1 hp
  exact h i _ hi (List.getElem?_eq_getElem hi)

set_option maxHeartbeats 1600000 in
theorem Pages_calls (ad : Option Addr) (c : Nat) (l : List Pair) (q : Query) (w : World) (hs : Ss w ad Pair.cells 4 l) (hl : l.length ≤ 9223372036854775807) (hnil : ad = none → l.length = 0 ∧ c = 0) : Calls Tryd.prog 5 #[.slice ad l.length c, .agg #[.string ⟨q.fr.toArray⟩, .string ⟨q.to.toArray⟩, .int .i64 q.kind, .int .i64 q.lo.kind, .float .f64 q.lo.num, .string ⟨q.lo.text.toArray⟩, .int .i64 q.hi.kind, .float .f64 q.hi.num, .string ⟨q.hi.text.toArray⟩, .bool q.back, .int .i64 q.most, .string ⟨q.after.toArray⟩]] w fun e w' => e = .returned (.bool true) ∧ Ext No w w' := by
  have R : Ro w No _ := Ro.of fun w' x => hs.ext_no x
  refine Sx.calls_into Tryd.func5 rfl Tryd.ntmps5 rfl fun a hT => ?_
  replace hT := hT.keep [0, 1] rfl
  have H : Sx.Hp w (Sx.No) w [] := Sx.Hp.start _ _
  refine wp_seq_k fun K1 hK1 => ?_
  -- region 0 (law.go:111)
  refine Sx.wp_text [(0, .run), (1, .take)] rfl ?_
  refine Sx.st_eff hT rfl rfl rfl rfl (Sx.y_box hT rfl rfl rfl _) ?_
  clear hT; rintro _ w1 ⟨b1, rfl, N⟩ a hT
  replace H := H.new N; clear N
  refine Sx.st_take hT rfl rfl rfl rfl (Sx.x_assign hT rfl rfl) ?_
  clear hT; intro a hT
  replace hT := hT.keep [4, 3, 0, 1] rfl
  refine Sx.ser_nil ?_
  refine Sx.then_normal (hK1 _ _ ?_)
  clear hK1
  refine wp_seq_k fun K2 hK2 => ?_
  refine wp_seq_k fun K3 hK3 => ?_
  -- region 1 (law.go:112)
  refine Sx.wp_text [(0, .run), (1, .take)] rfl ?_
  refine Sx.st_call hT rfl rfl rfl rfl rfl Tryd.can8 rfl (first_calls _) ?_
  rintro _ w2 ⟨rfl, E⟩
  refine ⟨_, rfl, ?_⟩
  clear hT; intro a hT
  replace H := H.pure E; clear E
  refine Sx.st_take hT rfl rfl rfl rfl (Sx.x_not hT rfl rfl) ?_
  clear hT; intro a hT
  replace hT := hT.keep [20, 4, 3, 0, 1] rfl
  refine Sx.ser_nil ?_
  refine Sx.then_normal (hK3 _ _ ?_)
  clear hK3
  refine Sx.wp_if hT rfl (fun h => by cases h) (fun _ => ?_)
  refine wp_skip ?_
  refine Sx.then_normal (hK2 _ _ ?_)
  clear hK2
  refine wp_seq_k fun K4 hK4 => ?_
  refine wp_seq_k fun K5 hK5 => ?_
  -- region 3 (law.go:115)
  refine Sx.wp_text [(0, .take), (1, .run), (2, .run), (3, .take)] rfl ?_
  refine Sx.st_take hT rfl rfl rfl rfl (Sx.x_move hT rfl rfl) ?_
  clear hT; intro a hT
  refine Sx.st_run hT rfl rfl rfl rfl (Sx.y_loadS hT rfl Tryd.underlying27 Tryd.ti27 rfl ((H.blk 0 rfl).seg (k := 12) rfl) (by rfl)) ?_
  clear hT; intro a hT
  refine Sx.st_call hT rfl rfl rfl rfl rfl Tryd.can9 rfl (few_calls _ _ l q _ (R.at H.ext) hl) ?_
  rintro _ w3 ⟨rfl, E⟩
  refine ⟨_, rfl, ?_⟩
  clear hT; intro a hT
  replace H := H.pure E; clear E
  refine Sx.st_take hT rfl rfl rfl rfl (Sx.x_not hT rfl rfl) ?_
  clear hT; intro a hT
  replace hT := hT.keep [24, 20, 4, 3, 0, 1] rfl
  refine Sx.ser_nil ?_
  refine Sx.then_normal (hK5 _ _ ?_)
  clear hK5
  -- cond 1
  refine Sx.wp_if hT rfl (fun hc6 => ?_) (fun hc6 => ?_)
  · try simp only [decide_eq_true_eq, decide_eq_false_iff_not, Bool.not_eq_true', Bool.not_eq_false', Bool.not_eq_true, Bool.not_eq_false, Bool.and_eq_true, Bool.or_eq_false_iff, beq_iff_eq, bne_iff_ne, Int.not_lt, Int.not_le, ne_eq] at hc6
    refine wp_seq_k fun K7 hK7 => ?_
    -- region 4 (law.go:116)
    refine Sx.wp_text [(0, .run), (1, .take)] rfl ?_
    refine Sx.st_call hT rfl rfl rfl rfl rfl Tryd.can8 rfl (first_calls _) ?_
    rintro _ w4 ⟨rfl, E⟩
    refine ⟨_, rfl, ?_⟩
    clear hT; intro a hT
    replace H := H.pure E; clear E
    refine Sx.st_take hT rfl rfl rfl rfl (Sx.x_assign hT rfl rfl) ?_
    clear hT; intro a hT
    replace hT := hT.keep [4, 24, 20, 3, 0, 1] rfl
    refine Sx.ser_nil ?_
    refine Sx.then_normal (hK7 _ _ ?_)
    clear hK7
    refine wp_ret ?_
    refine Sx.then_ret ?_
    refine Sx.done1 (fn := Tryd.f5) hT rfl (.tmp (hT.get 4 _ rfl)) ?_
    exact ⟨rfl, H.ext⟩
  · try simp only [decide_eq_true_eq, decide_eq_false_iff_not, Bool.not_eq_true', Bool.not_eq_false', Bool.not_eq_true, Bool.not_eq_false, Bool.and_eq_true, Bool.or_eq_false_iff, beq_iff_eq, bne_iff_ne, Int.not_lt, Int.not_le, ne_eq] at hc6
    have hfew := few_len hc6
    have hl3 : l.length ≤ 1000 := by omega
    have hal := allQ_len (qaf q []) [] l
    refine wp_skip ?_
    refine Sx.then_normal (hK4 _ _ ?_)
    clear hK4
    refine wp_seq_k fun K8 hK8 => ?_
    -- region 5 (law.go:118)
    refine Sx.wp_text [(0, .take), (1, .run)] rfl ?_
    refine Sx.st_take hT rfl rfl rfl rfl (Sx.x_fieldAddr hT rfl Tryd.fa27_7 rfl) ?_
    clear hT; intro a hT
    refine Sx.st_act hT rfl rfl rfl (Sx.y_store1 hT rfl Tryd.ti9 rfl rfl rfl (H.blk 0 rfl) rfl) ?_
    rintro w5 ⟨hb, E, _⟩
    replace H := H.setB 0 rfl hb E rfl; clear hb E
    replace hT := hT.keep [24, 20, 4, 3, 0, 1] rfl
    refine Sx.ser_nil ?_
    refine Sx.then_normal (hK8 _ _ ?_)
    clear hK8
    refine wp_seq_k fun K9 hK9 => ?_
    -- region 6 (law.go:119)
    refine Sx.wp_text [(0, .take), (1, .run), (2, .run), (3, .take), (4, .take), (5, .take), (6, .take), (7, .take)] rfl ?_
    refine Sx.st_take hT rfl rfl rfl rfl (Sx.x_move hT rfl rfl) ?_
    clear hT; intro a hT
    refine Sx.st_run hT rfl rfl rfl rfl (Sx.y_loadS hT rfl Tryd.underlying27 Tryd.ti27 rfl ((H.blk 0 rfl).seg (k := 12) rfl) (by rfl)) ?_
    clear hT; intro a hT
    refine Sx.st_call hT rfl rfl rfl rfl rfl Tryd.can13 rfl (All_calls _ _ l (qaf q []) _ (R.at H.ext) hl3) ?_
    rintro _ w6 ⟨ad1, c1, rfl, K⟩
    refine ⟨_, rfl, ?_⟩
    clear hT; intro a hT
    replace H := H.more K rfl; clear K
    refine Sx.st_take hT rfl rfl rfl rfl (Sx.x_move hT rfl rfl) ?_
    clear hT; intro a hT
    refine Sx.st_take hT rfl rfl rfl rfl (Sx.x_extractL hT rfl rfl rfl) ?_
    clear hT; intro a hT
    refine Sx.st_take hT rfl rfl rfl rfl (Sx.x_extractL hT rfl rfl rfl) ?_
    clear hT; intro a hT
    refine Sx.st_take hT rfl rfl rfl rfl (Sx.x_assign hT rfl rfl) ?_
    clear hT; intro a hT
    refine Sx.st_take hT rfl rfl rfl rfl (Sx.x_assign hT rfl rfl) ?_
    clear hT; intro a hT
    replace hT := hT.keep [6, 5, 24, 20, 4, 3, 0, 1] rfl
    refine Sx.ser_nil ?_
    refine Sx.then_normal (hK9 _ _ ?_)
    clear hK9
    refine wp_seq_k fun K10 hK10 => ?_
    refine wp_seq_k fun K11 hK11 => ?_
    -- region 7 (law.go:120)
    refine Sx.wp_text [(0, .take), (1, .take)] rfl ?_
    refine Sx.st_take hT rfl rfl rfl rfl (Sx.x_move hT rfl rfl) ?_
    clear hT; intro a hT
    refine Sx.st_take hT rfl rfl rfl rfl ((fun w => Sx.x_ne w hT rfl rfl rfl)) ?_
    clear hT; intro a hT
    replace hT := hT.keep [34, 6, 5, 24, 20, 4, 3, 0, 1] rfl
    refine Sx.ser_nil ?_
    refine Sx.then_normal (hK11 _ _ ?_)
    clear hK11
    -- cond 2
    refine Sx.wp_if hT rfl (fun hc12 => ?_) (fun hc12 => ?_)
    · try simp only [decide_eq_true_eq, decide_eq_false_iff_not, Bool.not_eq_true', Bool.not_eq_false', Bool.not_eq_true, Bool.not_eq_false, Bool.and_eq_true, Bool.or_eq_false_iff, beq_iff_eq, bne_iff_ne, Int.not_lt, Int.not_le, ne_eq] at hc12
      refine wp_seq_k fun K13 hK13 => ?_
      -- region 8 (law.go:121)
      refine Sx.wp_text [(0, .run), (1, .take), (2, .take), (3, .take), (4, .take), (5, .take), (6, .take)] rfl ?_
      refine Sx.st_call hT rfl rfl rfl rfl rfl Tryd.can8 rfl (first_calls _) ?_
      rintro _ w7 ⟨rfl, E⟩
      refine ⟨_, rfl, ?_⟩
      clear hT; intro a hT
      replace H := H.pure E; clear E
      refine Sx.st_take hT rfl rfl rfl rfl (Sx.x_move hT rfl rfl) ?_
      clear hT; intro a hT
      refine Sx.st_take hT rfl rfl rfl rfl (Sx.x_move hT rfl rfl) ?_
      clear hT; intro a hT
      refine Sx.st_take hT rfl rfl rfl rfl (Sx.x_len_slice hT rfl rfl Tryd.underlying22 rfl) ?_
      clear hT; intro a hT
      refine Sx.st_take hT rfl rfl rfl rfl ((fun w => Sx.x_eq w hT rfl rfl rfl)) ?_
      clear hT; intro a hT
      refine Sx.st_take hT rfl rfl rfl rfl (Sx.x_pick_t hT rfl rfl rfl) ?_
      clear hT; intro a hT
      refine Sx.st_take hT rfl rfl rfl rfl (Sx.x_assign hT rfl rfl) ?_
      clear hT; intro a hT
      replace hT := hT.keep [4, 34, 6, 5, 24, 20, 3, 0, 1] rfl
      refine Sx.ser_nil ?_
      refine Sx.then_normal (hK13 _ _ ?_)
      clear hK13
      refine wp_ret ?_
      refine Sx.then_ret ?_
      refine Sx.done1 (fn := Tryd.f5) hT rfl (.tmp (hT.get 4 _ rfl)) ?_
      exact ⟨ret_b (by rw [all_err (by assumption)]; rfl), H.ext⟩
    · try simp only [decide_eq_true_eq, decide_eq_false_iff_not, Bool.not_eq_true', Bool.not_eq_false', Bool.not_eq_true, Bool.not_eq_false, Bool.and_eq_true, Bool.or_eq_false_iff, beq_iff_eq, bne_iff_ne, Int.not_lt, Int.not_le, ne_eq] at hc12
      have hz := hc12
      have hmost : 1 ≤ q.most ∧ q.most ≤ 1000 := all_most (q := (qaf q [])) hz
      refine wp_skip ?_
      refine Sx.then_normal (hK10 _ _ ?_)
      clear hK10
      refine wp_seq_k fun K14 hK14 => ?_
      refine wp_seq_k fun K15 hK15 => ?_
      -- region 9 (law.go:123)
      refine Sx.wp_text [(0, .take)] rfl ?_
      refine Sx.st_take hT rfl rfl rfl rfl (Sx.x_assign hT rfl rfl) ?_
      clear hT; intro a hT
      replace hT := hT.keep [7, 34, 6, 5, 24, 20, 4, 3, 0, 1] rfl
      refine Sx.ser_nil ?_
      refine Sx.then_normal (hK15 _ _ ?_)
      clear hK15
      refine wp_block ?_
      -- loop 0
      refine Sx.wp_loopH (G := Nat) (fun k => [(7, .int .i64 (k : Int))]) (fun k => []) (fun k => k ≤ l.length ∧ ∀ i p, i < k → l[i]? = some p → p.key ≠ [] ∧ p.key.length ≤ 24) (fun k => l.length - k) 0 (hT.keep [7, 34, 6, 5, 24, 20, 3, 0, 1] rfl) (H.keep [0, 1] rfl rfl) (⟨Nat.zero_le _, fun i p h => absurd h (Nat.not_lt_zero _)⟩) ?_
      clear hT H
      rintro k a w8 hJ hT H
      replace hT := hT.keep [7, 34, 6, 5, 24, 20, 3, 0, 1] rfl
      replace H := H.keep [0, 1] rfl rfl
      obtain ⟨hk, hks⟩ := hJ
      refine wp_seq_k fun K16 hK16 => ?_
      refine wp_seq_k fun K17 hK17 => ?_
      -- region 10 (law.go:123)
      refine Sx.wp_text [(0, .take), (1, .take), (2, .take), (3, .take)] rfl ?_
      refine Sx.st_take hT rfl rfl rfl rfl (Sx.x_move hT rfl rfl) ?_
      clear hT; intro a hT
      refine Sx.st_take hT rfl rfl rfl rfl (Sx.x_move hT rfl rfl) ?_
      clear hT; intro a hT
      refine Sx.st_take hT rfl rfl rfl rfl (Sx.x_len_slice hT rfl rfl Tryd.underlying22 rfl) ?_
      clear hT; intro a hT
      refine Sx.st_take hT rfl rfl rfl rfl ((fun w => Sx.x_lt w hT rfl rfl rfl)) ?_
      clear hT; intro a hT
      replace hT := hT.keep [44, 7, 34, 6, 5, 24, 20, 3, 0, 1] rfl
      refine Sx.ser_nil ?_
      refine Sx.then_normal (hK17 _ _ ?_)
      clear hK17
      -- cond 3
      refine Sx.wp_if hT rfl (fun hc18 => ?_) (fun hc18 => ?_)
      · try simp only [decide_eq_true_eq, decide_eq_false_iff_not, Bool.not_eq_true', Bool.not_eq_false', Bool.not_eq_true, Bool.not_eq_false, Bool.and_eq_true, Bool.or_eq_false_iff, beq_iff_eq, bne_iff_ne, Int.not_lt, Int.not_le, ne_eq] at hc18
        obtain ⟨o, ho⟩ : ∃ o, l[k]? = some o := ⟨_, List.getElem?_eq_getElem (by omega)⟩
        refine wp_skip ?_
        refine Sx.then_normal (hK16 _ _ ?_)
        clear hK16
        refine wp_seq_k fun K19 hK19 => ?_
        refine wp_block ?_
        refine wp_seq_k fun K20 hK20 => ?_
        -- region 12 (law.go:124)
        refine Sx.wp_text [(0, .take), (1, .take), (2, .take), (3, .take), (4, .run), (5, .take), (6, .take), (7, .take), (8, .take), (9, .take), (10, .take), (11, .take), (12, .run), (13, .take), (14, .take), (15, .take)] rfl ?_
        refine Sx.st_take hT rfl rfl rfl rfl (Sx.x_move hT rfl rfl) ?_
        clear hT; intro a hT
        refine Sx.st_take hT rfl rfl rfl rfl (Sx.x_move hT rfl rfl) ?_
        clear hT; intro a hT
        refine Sx.st_take hT rfl rfl rfl rfl (Sx.x_index (k := k) hT rfl Tryd.underlying22 Tryd.ti45 (R.at H.ext).sv rfl rfl (by first | rfl | omega) (by omega)) ?_
        clear hT; intro a hT
        refine Sx.st_take hT rfl rfl rfl rfl (Sx.x_fieldAddr hT rfl Tryd.fa45_0 rfl) ?_
        clear hT; intro a hT
        refine Sx.st_run hT rfl rfl rfl rfl (Sx.x_load1 hT rfl Tryd.fl9 rfl (by first | exact ((H.blk 1 rfl).nth rfl) | exact ((R.at H.ext).cell (j := 0) Pair.len ho rfl))) ?_
        clear hT; intro a hT
        refine Sx.st_take hT rfl rfl rfl rfl (Sx.x_lenStr hT rfl rfl Tryd.underlying9 rfl) ?_
        clear hT; intro a hT
        refine Sx.st_take hT rfl rfl rfl rfl ((fun w => Sx.x_lt w hT rfl rfl rfl)) ?_
        clear hT; intro a hT
        refine Sx.st_take hT rfl rfl rfl rfl (Sx.x_move hT rfl rfl) ?_
        clear hT; intro a hT
        -- guard (12, 7)
        refine Sx.Sl.two hT 54 rfl (fun hc21 hT => ?_) (fun hc21 hT => ?_)
        · try simp only [decide_eq_true_eq, decide_eq_false_iff_not, Bool.not_eq_true', Bool.not_eq_false', Bool.not_eq_true, Bool.not_eq_false, Bool.and_eq_true, Bool.or_eq_false_iff, beq_iff_eq, bne_iff_ne, Int.not_lt, Int.not_le, ne_eq] at hc21
          refine Sx.st_skip hT rfl rfl rfl rfl ?_
          clear hT; intro a hT
          refine Sx.st_skip hT rfl rfl rfl rfl ?_
          clear hT; intro a hT
          refine Sx.st_skip hT rfl rfl rfl rfl ?_
          clear hT; intro a hT
          refine Sx.st_skip hT rfl rfl rfl rfl ?_
          clear hT; intro a hT
          refine Sx.st_runskip hT rfl rfl rfl rfl ?_
          clear hT; intro a hT
          refine Sx.st_skip hT rfl rfl rfl rfl ?_
          clear hT; intro a hT
          refine Sx.st_skip hT rfl rfl rfl rfl ?_
          clear hT; intro a hT
          refine Sx.st_take hT rfl rfl rfl rfl (Sx.x_pick_t hT rfl rfl rfl) ?_
          clear hT; intro a hT
          replace hT := hT.keep [62, 44, 7, 34, 6, 5, 24, 20, 3, 0, 1] rfl
          refine Sx.ser_nil ?_
          refine Sx.then_normal (hK20 _ _ ?_)
          clear hK20
          refine Sx.wp_if hT rfl (fun _ => ?_) (fun h => by cases h)
          refine wp_seq_k fun K22 hK22 => ?_
          -- region 13 (law.go:125)
          refine Sx.wp_text [(0, .run), (1, .take)] rfl ?_
          refine Sx.st_call hT rfl rfl rfl rfl rfl Tryd.can8 rfl (first_calls _) ?_
          rintro _ w9 ⟨rfl, E⟩
          refine ⟨_, rfl, ?_⟩
          clear hT; intro a hT
          replace H := H.pure E; clear E
          refine Sx.st_take hT rfl rfl rfl rfl (Sx.x_assign hT rfl rfl) ?_
          clear hT; intro a hT
          replace hT := hT.keep [4, 62, 44, 7, 34, 6, 5, 24, 20, 3, 0, 1] rfl
          refine Sx.ser_nil ?_
          refine Sx.then_normal (hK22 _ _ ?_)
          clear hK22
          refine wp_ret ?_
          refine Sx.block_ret ?_
          refine Sx.then_ret ?_
          refine Sx.then_ret ?_
          refine Sx.block_ret ?_
          refine Sx.then_ret ?_
          refine Sx.done1 (fn := Tryd.f5) hT rfl (.tmp (hT.get 4 _ rfl)) ?_
          exact ⟨rfl, H.ext⟩
        · try simp only [decide_eq_true_eq, decide_eq_false_iff_not, Bool.not_eq_true', Bool.not_eq_false', Bool.not_eq_true, Bool.not_eq_false, Bool.and_eq_true, Bool.or_eq_false_iff, beq_iff_eq, bne_iff_ne, Int.not_lt, Int.not_le, ne_eq] at hc21
          have hk1 := hc21
          refine Sx.st_take hT rfl rfl rfl rfl (Sx.x_move hT rfl rfl) ?_
          clear hT; intro a hT
          refine Sx.st_take hT rfl rfl rfl rfl (Sx.x_move hT rfl rfl) ?_
          clear hT; intro a hT
          refine Sx.st_take hT rfl rfl rfl rfl (Sx.x_index (k := k) hT rfl Tryd.underlying22 Tryd.ti45 (R.at H.ext).sv rfl rfl (by first | rfl | omega) (by omega)) ?_
          clear hT; intro a hT
          refine Sx.st_take hT rfl rfl rfl rfl (Sx.x_fieldAddr hT rfl Tryd.fa45_0 rfl) ?_
          clear hT; intro a hT
          refine Sx.st_run hT rfl rfl rfl rfl (Sx.x_load1 hT rfl Tryd.fl9 rfl (by first | exact ((H.blk 1 rfl).nth rfl) | exact ((R.at H.ext).cell (j := 0) Pair.len ho rfl))) ?_
          clear hT; intro a hT
          refine Sx.st_take hT rfl rfl rfl rfl (Sx.x_lenStr hT rfl rfl Tryd.underlying9 rfl) ?_
          clear hT; intro a hT
          refine Sx.st_take hT rfl rfl rfl rfl ((fun w => Sx.x_gt w hT rfl rfl rfl)) ?_
          clear hT; intro a hT
          refine Sx.st_take hT rfl rfl rfl rfl (Sx.x_pick_f hT rfl rfl rfl) ?_
          clear hT; intro a hT
          replace hT := hT.keep [62, 44, 7, 34, 6, 5, 24, 20, 3, 0, 1] rfl
          refine Sx.ser_nil ?_
          refine Sx.then_normal (hK20 _ _ ?_)
          clear hK20
          -- cond 4
          refine Sx.wp_if hT rfl (fun hc23 => ?_) (fun hc23 => ?_)
          · try simp only [decide_eq_true_eq, decide_eq_false_iff_not, Bool.not_eq_true', Bool.not_eq_false', Bool.not_eq_true, Bool.not_eq_false, Bool.and_eq_true, Bool.or_eq_false_iff, beq_iff_eq, bne_iff_ne, Int.not_lt, Int.not_le, ne_eq] at hc23
            refine wp_seq_k fun K24 hK24 => ?_
            -- region 13 (law.go:125)
            refine Sx.wp_text [(0, .run), (1, .take)] rfl ?_
            refine Sx.st_call hT rfl rfl rfl rfl rfl Tryd.can8 rfl (first_calls _) ?_
            rintro _ w10 ⟨rfl, E⟩
            refine ⟨_, rfl, ?_⟩
            clear hT; intro a hT
            replace H := H.pure E; clear E
            refine Sx.st_take hT rfl rfl rfl rfl (Sx.x_assign hT rfl rfl) ?_
            clear hT; intro a hT
            replace hT := hT.keep [4, 62, 44, 7, 34, 6, 5, 24, 20, 3, 0, 1] rfl
            refine Sx.ser_nil ?_
            refine Sx.then_normal (hK24 _ _ ?_)
            clear hK24
            refine wp_ret ?_
            refine Sx.block_ret ?_
            refine Sx.then_ret ?_
            refine Sx.then_ret ?_
            refine Sx.block_ret ?_
            refine Sx.then_ret ?_
            refine Sx.done1 (fn := Tryd.f5) hT rfl (.tmp (hT.get 4 _ rfl)) ?_
            exact ⟨rfl, H.ext⟩
          · try simp only [decide_eq_true_eq, decide_eq_false_iff_not, Bool.not_eq_true', Bool.not_eq_false', Bool.not_eq_true, Bool.not_eq_false, Bool.and_eq_true, Bool.or_eq_false_iff, beq_iff_eq, bne_iff_ne, Int.not_lt, Int.not_le, ne_eq] at hc23
            have hk2 := hc23
            refine wp_skip ?_
            refine Sx.block_normal ?_
            refine Sx.then_normal (hK19 _ _ ?_)
            clear hK19
            -- region 11 (law.go:123)
            refine Sx.wp_text [(0, .take), (1, .take), (2, .take)] rfl ?_
            refine Sx.st_take hT rfl rfl rfl rfl (Sx.x_move hT rfl rfl) ?_
            clear hT; intro a hT
            refine Sx.st_take hT rfl rfl rfl rfl ((fun w => Sx.x_add w hT rfl rfl rfl (Sx.wrap64 (by omega)))) ?_
            clear hT; intro a hT
            refine Sx.st_take hT rfl rfl rfl rfl (Sx.x_assign hT rfl rfl) ?_
            clear hT; intro a hT
            replace hT := hT.keep [7, 62, 44, 34, 6, 5, 24, 20, 3, 0, 1] rfl
            refine Sx.ser_nil ?_
            refine Sx.then_normal ?_
            exact ⟨k + 1, ⟨by omega, fun i p hi hp => by
                          rcases Nat.lt_or_ge i k with h9 | h9
                          · exact hks i p h9 hp
                          · obtain rfl : i = k := by omega
                            rw [ho] at hp
                            cases hp
                            exact ⟨fun h8 => by rw [h8] at hk1; simp at hk1, by omega⟩⟩, (hT.keep [7, 34, 6, 5, 24, 20, 3, 0, 1] rfl), (H.keep [0, 1] rfl rfl), by omega⟩
      · try simp only [decide_eq_true_eq, decide_eq_false_iff_not, Bool.not_eq_true', Bool.not_eq_false', Bool.not_eq_true, Bool.not_eq_false, Bool.and_eq_true, Bool.or_eq_false_iff, beq_iff_eq, bne_iff_ne, Int.not_lt, Int.not_le, ne_eq] at hc18
        have hkey : ∀ p ∈ l, p.key ≠ [] ∧ p.key.length ≤ 24 := mem_upto fun i p hi hp => hks i p (by omega) hp
        refine wp_exit ?_
        refine Sx.then_exit ?_
        refine Sx.then_exit ?_
        refine Sx.block_exit ?_
        refine Sx.then_normal (hK14 _ _ ?_)
        clear hK14
        refine wp_seq_k fun K25 hK25 => ?_
        -- region 14 (law.go:128)
        refine Sx.wp_text [(0, .take)] rfl ?_
        refine Sx.st_take hT rfl rfl rfl rfl (Sx.x_assign hT rfl rfl) ?_
        clear hT; intro a hT
        replace hT := hT.keep [8, 44, 7, 34, 6, 5, 24, 20, 3, 0, 1] rfl
        refine Sx.ser_nil ?_
        refine Sx.then_normal (hK25 _ _ ?_)
        clear hK25
        refine wp_seq_k fun K26 hK26 => ?_
        -- region 15 (law.go:129)
        refine Sx.wp_text [(0, .run), (1, .run), (2, .run)] rfl ?_
        refine Sx.st_run hT rfl rfl rfl rfl (Sx.y_loadS hT rfl Tryd.underlying27 Tryd.ti27 rfl ((H.blk 1 rfl).seg (k := 12) rfl) (by rfl)) ?_
        clear hT; intro a hT
        refine Sx.st_eff hT rfl rfl rfl rfl (Sx.y_alloc hT rfl Tryd.ti27 rfl _) ?_
        clear hT; rintro _ w11 ⟨b2, rfl, N⟩ a hT
        replace H := H.new N; clear N
        refine Sx.st_act hT rfl rfl rfl (Sx.y_storeS hT rfl Tryd.ti27 rfl rfl rfl rfl rfl (H.blk 0 rfl) rfl) ?_
        rintro w12 ⟨hb, E, _⟩
        replace H := H.setB 0 rfl hb E rfl; clear hb E
        replace hT := hT.keep [9, 8, 44, 7, 34, 6, 5, 24, 20, 3, 0, 1] rfl
        refine Sx.ser_nil ?_
        refine Sx.then_normal (hK26 _ _ ?_)
        clear hK26
        refine wp_seq_k fun K27 hK27 => ?_
        refine wp_seq_k fun K28 hK28 => ?_
        -- region 16 (law.go:130)
        refine Sx.wp_text [(0, .take)] rfl ?_
        refine Sx.st_take hT rfl rfl rfl rfl (Sx.x_assign hT rfl rfl) ?_
        clear hT; intro a hT
        replace hT := hT.keep [10, 9, 8, 44, 7, 34, 6, 5, 24, 20, 3, 0, 1] rfl
        refine Sx.ser_nil ?_
        refine Sx.then_normal (hK28 _ _ ?_)
        clear hK28
        refine wp_block ?_
        replace H := H.nilR 45 4
        -- loop 1
        refine Sx.wp_loopH (G := Nat × Nat × Option Addr × Nat) (fun ⟨i, j, ad2, c2⟩ => [(10, .int .i64 (i : Int)), (8, .slice ad2 ((allQ (qaf q []) [] l).1.take j).length c2)]) (fun ⟨i, j, ad2, c2⟩ => [cB b2 [.string ⟨(qpg (qaf q []) (allQ (qaf q []) [] l).1 j).fr.toArray⟩, .string ⟨(qpg (qaf q []) (allQ (qaf q []) [] l).1 j).to.toArray⟩, .int .i64 (qpg (qaf q []) (allQ (qaf q []) [] l).1 j).kind, .int .i64 (qpg (qaf q []) (allQ (qaf q []) [] l).1 j).lo.kind, .float .f64 (qpg (qaf q []) (allQ (qaf q []) [] l).1 j).lo.num, .string ⟨(qpg (qaf q []) (allQ (qaf q []) [] l).1 j).lo.text.toArray⟩, .int .i64 (qpg (qaf q []) (allQ (qaf q []) [] l).1 j).hi.kind, .float .f64 (qpg (qaf q []) (allQ (qaf q []) [] l).1 j).hi.num, .string ⟨(qpg (qaf q []) (allQ (qaf q []) [] l).1 j).hi.text.toArray⟩, .bool (qpg (qaf q []) (allQ (qaf q []) [] l).1 j).back, .int .i64 (qpg (qaf q []) (allQ (qaf q []) [] l).1 j).most, .string ⟨(qpg (qaf q []) (allQ (qaf q []) [] l).1 j).after.toArray⟩] 27, cR 45 4 ad2 ((allQ (qaf q []) [] l).1.take j).length c2 (((allQ (qaf q []) [] l).1.take j).flatMap Pair.cells)]) (fun ⟨i, j, ad2, c2⟩ => i ≤ j ∧ j ≤ (allQ (qaf q []) [] l).1.length) (fun ⟨i, j, ad2, c2⟩ => l.length + 1 - i) (0, 0, none, 0) (hT.keep [10, 8, 9, 44, 7, 34, 6, 5, 24, 20, 3, 0, 1] rfl) (H.keep [1, 0, 2, 3] rfl rfl) (⟨Nat.le_refl _, Nat.zero_le _⟩) ?_
        clear hT H
        rintro ⟨i, j, ad2, c2⟩ a w13 hJ hT H
        replace hT := hT.keep [10, 8, 9, 44, 7, 34, 6, 5, 24, 20, 3, 0, 1] rfl
        replace H := H.keep [0, 1, 2, 3] rfl rfl
        obtain ⟨hij, hj⟩ := hJ
        refine wp_seq_k fun K29 hK29 => ?_
        refine wp_seq_k fun K30 hK30 => ?_
        -- region 17 (law.go:130)
        refine Sx.wp_text [(0, .take), (1, .take), (2, .take), (3, .take)] rfl ?_
        refine Sx.st_take hT rfl rfl rfl rfl (Sx.x_move hT rfl rfl) ?_
        clear hT; intro a hT
        refine Sx.st_take hT rfl rfl rfl rfl (Sx.x_move hT rfl rfl) ?_
        clear hT; intro a hT
        refine Sx.st_take hT rfl rfl rfl rfl (Sx.x_len_slice hT rfl rfl Tryd.underlying22 rfl) ?_
        clear hT; intro a hT
        refine Sx.st_take hT rfl rfl rfl rfl ((fun w => Sx.x_le w hT rfl rfl rfl)) ?_
        clear hT; intro a hT
        replace hT := hT.keep [68, 10, 8, 9, 44, 7, 34, 6, 5, 24, 20, 3, 0, 1] rfl
        refine Sx.ser_nil ?_
        refine Sx.then_normal (hK30 _ _ ?_)
        clear hK30
        -- cond 5
        refine Sx.wp_if hT rfl (fun hc31 => ?_) (fun hc31 => ?_)
        · try simp only [decide_eq_true_eq, decide_eq_false_iff_not, Bool.not_eq_true', Bool.not_eq_false', Bool.not_eq_true, Bool.not_eq_false, Bool.and_eq_true, Bool.or_eq_false_iff, beq_iff_eq, bne_iff_ne, Int.not_lt, Int.not_le, ne_eq] at hc31
          refine wp_skip ?_
          refine Sx.then_normal (hK29 _ _ ?_)
          clear hK29
          refine wp_seq_k fun K32 hK32 => ?_
          refine wp_block ?_
          refine wp_seq_k fun K33 hK33 => ?_
          -- region 19 (law.go:131)
          refine Sx.wp_text [(0, .take), (1, .run), (2, .run), (3, .take), (4, .take), (5, .take), (6, .take), (7, .take), (8, .take), (9, .take)] rfl ?_
          refine Sx.st_take hT rfl rfl rfl rfl (Sx.x_move hT rfl rfl) ?_
          clear hT; intro a hT
          refine Sx.st_run hT rfl rfl rfl rfl (Sx.y_loadS hT rfl Tryd.underlying27 Tryd.ti27 rfl ((H.blk 0 rfl).seg (k := 12) rfl) (by rfl)) ?_
          clear hT; intro a hT
          refine Sx.st_call hT rfl rfl rfl rfl rfl Tryd.can10 rfl (Run_calls _ _ l (qpg (qaf q []) (allQ (qaf q []) [] l).1 j) _ (R.at H.ext) hl3) ?_
          rintro _ w14 ⟨ad5, c5, rfl, hn5, K⟩
          refine ⟨_, rfl, ?_⟩
          clear hT; intro a hT
          replace H := H.more K rfl; clear K
          refine Sx.st_take hT rfl rfl rfl rfl (Sx.x_move hT rfl rfl) ?_
          clear hT; intro a hT
          refine Sx.st_take hT rfl rfl rfl rfl (Sx.x_extractL hT rfl rfl rfl) ?_
          clear hT; intro a hT
          refine Sx.st_take hT rfl rfl rfl rfl (Sx.x_extractL hT rfl rfl rfl) ?_
          clear hT; intro a hT
          refine Sx.st_take hT rfl rfl rfl rfl (Sx.x_extractL hT rfl rfl rfl) ?_
          clear hT; intro a hT
          refine Sx.st_take hT rfl rfl rfl rfl (Sx.x_assign hT rfl rfl) ?_
          clear hT; intro a hT
          refine Sx.st_take hT rfl rfl rfl rfl (Sx.x_assign hT rfl rfl) ?_
          clear hT; intro a hT
          refine Sx.st_take hT rfl rfl rfl rfl (Sx.x_assign hT rfl rfl) ?_
          clear hT; intro a hT
          replace hT := hT.keep [13, 12, 11, 68, 10, 8, 9, 44, 7, 34, 6, 5, 24, 20, 3, 0, 1] rfl
          refine Sx.ser_nil ?_
          refine Sx.then_normal (hK33 _ _ ?_)
          clear hK33
          refine wp_seq_k fun K34 hK34 => ?_
          refine wp_seq_k fun K35 hK35 => ?_
          by_cases hm : (((allQ (qaf q []) [] l).1.length : Int) - j) ≤ q.most
          · skip
            rw [run_last (q := (qaf q [])) rfl hz hkey hj hm] at hT H hn5
            dsimp only at hT H hn5
            -- region 20 (law.go:132)
            refine Sx.wp_text [(0, .take), (1, .take), (2, .take), (3, .take), (4, .take), (5, .take), (6, .run), (7, .take), (8, .take), (9, .take), (10, .take), (11, .take), (12, .take), (13, .take), (14, .take), (15, .take), (16, .run), (17, .take), (18, .take), (19, .take)] rfl ?_
            refine Sx.st_take hT rfl rfl rfl rfl (Sx.x_move hT rfl rfl) ?_
            clear hT; intro a hT
            refine Sx.st_take hT rfl rfl rfl rfl ((fun w => Sx.x_ne w hT rfl rfl rfl)) ?_
            clear hT; intro a hT
            refine Sx.st_take hT rfl rfl rfl rfl (Sx.x_move hT rfl rfl) ?_
            clear hT; intro a hT
            -- guard (20, 2)
            refine Sx.Sl.two hT 80 rfl (fun hc36 hT => ?_) (fun hc36 hT => ?_)
            · exfalso
              try simp only [decide_eq_true_eq, decide_eq_false_iff_not, Bool.not_eq_true', Bool.not_eq_false', Bool.not_eq_true, Bool.not_eq_false, Bool.and_eq_true, Bool.or_eq_false_iff, beq_iff_eq, bne_iff_ne, Int.not_lt, Int.not_le, ne_eq] at hc36
              first | (simp at hc36; done) | (simp at hc36; omega) | (simp only [List.length_take, List.length_drop] at hc36; omega)
            · try simp only [decide_eq_true_eq, decide_eq_false_iff_not, Bool.not_eq_true', Bool.not_eq_false', Bool.not_eq_true, Bool.not_eq_false, Bool.and_eq_true, Bool.or_eq_false_iff, beq_iff_eq, bne_iff_ne, Int.not_lt, Int.not_le, ne_eq] at hc36
              refine Sx.st_take hT rfl rfl rfl rfl (Sx.x_move hT rfl rfl) ?_
              clear hT; intro a hT
              refine Sx.st_take hT rfl rfl rfl rfl (Sx.x_len_slice hT rfl rfl Tryd.underlying22 rfl) ?_
              clear hT; intro a hT
              refine Sx.st_take hT rfl rfl rfl rfl (Sx.x_fieldAddr hT rfl Tryd.fa27_6 rfl) ?_
              clear hT; intro a hT
              refine Sx.st_run hT rfl rfl rfl rfl (Sx.x_load1 hT rfl Tryd.fl3 rfl ((H.blk 4 rfl).nth rfl)) ?_
              clear hT; intro a hT
              refine Sx.st_take hT rfl rfl rfl rfl ((fun w => Sx.x_gt w hT rfl rfl rfl)) ?_
              clear hT; intro a hT
              refine Sx.st_take hT rfl rfl rfl rfl (Sx.x_pick_f hT rfl rfl rfl) ?_
              clear hT; intro a hT
              refine Sx.st_take hT rfl rfl rfl rfl (Sx.x_move hT rfl rfl) ?_
              clear hT; intro a hT
              -- guard (20, 9)
              refine Sx.Sl.two hT 87 rfl (fun hc37 hT => ?_) (fun hc37 hT => ?_)
              · exfalso
                try simp only [decide_eq_true_eq, decide_eq_false_iff_not, Bool.not_eq_true', Bool.not_eq_false', Bool.not_eq_true, Bool.not_eq_false, Bool.and_eq_true, Bool.or_eq_false_iff, beq_iff_eq, bne_iff_ne, Int.not_lt, Int.not_le, ne_eq] at hc37
                first | (simp at hc37; done) | (simp at hc37; omega) | (simp only [List.length_take, List.length_drop] at hc37; omega)
              · try simp only [decide_eq_true_eq, decide_eq_false_iff_not, Bool.not_eq_true', Bool.not_eq_false', Bool.not_eq_true, Bool.not_eq_false, Bool.and_eq_true, Bool.or_eq_false_iff, beq_iff_eq, bne_iff_ne, Int.not_lt, Int.not_le, ne_eq] at hc37
                refine Sx.st_take hT rfl rfl rfl rfl (Sx.x_move hT rfl rfl) ?_
                clear hT; intro a hT
                refine Sx.st_take hT rfl rfl rfl rfl ((fun w => Sx.x_strne w hT rfl rfl rfl)) ?_
                clear hT; intro a hT
                refine Sx.st_take hT rfl rfl rfl rfl (Sx.x_move hT rfl rfl) ?_
                clear hT; intro a hT
                -- guard (20, 12)
                refine Sx.Sl.two hT 90 rfl (fun hc38 hT => ?_) (fun hc38 hT => ?_)
                · exfalso
                  try simp only [decide_eq_true_eq, decide_eq_false_iff_not, Bool.not_eq_true', Bool.not_eq_false', Bool.not_eq_true, Bool.not_eq_false, Bool.and_eq_true, Bool.or_eq_false_iff, beq_iff_eq, bne_iff_ne, Int.not_lt, Int.not_le, ne_eq] at hc38
                  first | (simp at hc38; done) | (simp at hc38; omega) | (simp only [List.length_take, List.length_drop] at hc38; omega)
                · try simp only [decide_eq_true_eq, decide_eq_false_iff_not, Bool.not_eq_true', Bool.not_eq_false', Bool.not_eq_true, Bool.not_eq_false, Bool.and_eq_true, Bool.or_eq_false_iff, beq_iff_eq, bne_iff_ne, Int.not_lt, Int.not_le, ne_eq] at hc38
                  refine Sx.st_skip hT rfl rfl rfl rfl ?_
                  clear hT; intro a hT
                  refine Sx.st_skip hT rfl rfl rfl rfl ?_
                  clear hT; intro a hT
                  refine Sx.st_skip hT rfl rfl rfl rfl ?_
                  clear hT; intro a hT
                  refine Sx.st_runskip hT rfl rfl rfl rfl ?_
                  clear hT; intro a hT
                  refine Sx.st_skip hT rfl rfl rfl rfl ?_
                  clear hT; intro a hT
                  refine Sx.st_take hT rfl rfl rfl rfl (Sx.x_pick_f hT rfl rfl rfl) ?_
                  clear hT; intro a hT
                  refine Sx.st_take hT rfl rfl rfl rfl (Sx.x_pick_f hT rfl rfl rfl) ?_
                  clear hT; intro a hT
                  replace hT := hT.keep [97, 13, 12, 11, 68, 10, 8, 9, 44, 7, 34, 6, 5, 24, 20, 3, 0, 1] rfl
                  refine Sx.ser_nil ?_
                  refine Sx.then_normal (hK35 _ _ ?_)
                  clear hK35
                  refine Sx.wp_if hT rfl (fun h => by cases h) (fun _ => ?_)
                  refine wp_skip ?_
                  refine Sx.then_normal (hK34 _ _ ?_)
                  clear hK34
                  refine wp_seq_k fun K39 hK39 => ?_
                  -- region 22 (law.go:135)
                  have b1 := List.length_take_le' j (allQ (qaf q []) [] l).1
                  have b2 := List.length_drop (i := j) (l := (allQ (qaf q []) [] l).1)
                  have b3 := List.length_take_le' q.most.toNat ((allQ (qaf q []) [] l).1.drop j)
                  refine Sx.wp_text [(0, .take), (1, .take), (2, .run), (3, .take)] rfl ?_
                  refine Sx.st_take hT rfl rfl rfl rfl (Sx.x_move hT rfl rfl) ?_
                  clear hT; intro a hT
                  refine Sx.st_take hT rfl rfl rfl rfl (Sx.x_move hT rfl rfl) ?_
                  clear hT; intro a hT
                  refine Sx.st_eff hT rfl rfl rfl rfl (Sx.x_append hT rfl rfl Tryd.underlying22 Tryd.ti45 rfl (by decide) rfl rfl (H.row 2 rfl) ((H.wr 0 rfl).sv) (flat_one Pair.one _) hn5 (by unfold maxLen; omega) (by omega)) ?_
                  rintro _ w15 ⟨ad15, c15, rfl, hr, E, hown, -⟩
                  clear hT; intro a hT
                  replace H := H.setR 2 rfl hr E hown rfl; clear hr E hown
                  rw [(tk_all (A := (allQ (qaf q []) [] l).1) (j := j)).1] at hT H
                  rw [(tk_all (A := (allQ (qaf q []) [] l).1) (j := j)).2] at H
                  refine Sx.st_take hT rfl rfl rfl rfl (Sx.x_assign hT rfl rfl) ?_
                  clear hT; intro a hT
                  replace hT := hT.keep [8, 97, 13, 12, 11, 68, 10, 9, 44, 7, 34, 6, 5, 24, 20, 3, 0, 1] rfl
                  refine Sx.ser_nil ?_
                  refine Sx.then_normal (hK39 _ _ ?_)
                  clear hK39
                  refine wp_seq_k fun K40 hK40 => ?_
                  refine wp_seq_k fun K41 hK41 => ?_
                  -- region 23 (law.go:136)
                  refine Sx.wp_text [(0, .take), (1, .take)] rfl ?_
                  refine Sx.st_take hT rfl rfl rfl rfl (Sx.x_move hT rfl rfl) ?_
                  clear hT; intro a hT
                  refine Sx.st_take hT rfl rfl rfl rfl ((fun w => Sx.x_streq w hT rfl rfl rfl)) ?_
                  clear hT; intro a hT
                  replace hT := hT.keep [102, 8, 97, 13, 12, 11, 68, 10, 9, 44, 7, 34, 6, 5, 24, 20, 3, 0, 1] rfl
                  refine Sx.ser_nil ?_
                  refine Sx.then_normal (hK41 _ _ ?_)
                  clear hK41
                  -- cond 7
                  refine Sx.wp_if hT rfl (fun hc42 => ?_) (fun hc42 => ?_)
                  · try simp only [decide_eq_true_eq, decide_eq_false_iff_not, Bool.not_eq_true', Bool.not_eq_false', Bool.not_eq_true, Bool.not_eq_false, Bool.and_eq_true, Bool.or_eq_false_iff, beq_iff_eq, bne_iff_ne, Int.not_lt, Int.not_le, ne_eq] at hc42
                    refine wp_exit ?_
                    refine Sx.then_exit ?_
                    refine Sx.block_other rfl ?_
                    refine Sx.then_exit ?_
                    refine Sx.then_exit ?_
                    refine Sx.block_exit ?_
                    refine Sx.then_normal (hK27 _ _ ?_)
                    clear hK27
                    refine wp_seq_k fun K43 hK43 => ?_
                    -- region 25 (law.go:141)
                    refine Sx.wp_text [(0, .take)] rfl ?_
                    refine Sx.st_take hT rfl rfl rfl rfl (Sx.x_assign hT rfl rfl) ?_
                    clear hT; intro a hT
                    replace hT := hT.keep [14, 102, 8, 97, 13, 12, 11, 68, 10, 9, 44, 7, 34, 6, 5, 24, 20, 3, 0, 1] rfl
                    refine Sx.ser_nil ?_
                    refine Sx.then_normal (hK43 _ _ ?_)
                    clear hK43
                    refine wp_seq_k fun K44 hK44 => ?_
                    refine wp_seq_k fun K45 hK45 => ?_
                    -- region 26 (law.go:142)
                    refine Sx.wp_text [(0, .take)] rfl ?_
                    refine Sx.st_take hT rfl rfl rfl rfl (Sx.x_assign hT rfl rfl) ?_
                    clear hT; intro a hT
                    replace hT := hT.keep [15, 14, 102, 8, 97, 13, 12, 11, 68, 10, 9, 44, 7, 34, 6, 5, 24, 20, 3, 0, 1] rfl
                    refine Sx.ser_nil ?_
                    refine Sx.then_normal (hK45 _ _ ?_)
                    clear hK45
                    refine wp_block ?_
                    -- loop 2
                    refine Sx.wp_loopH (G := Nat) (fun k => [(15, .int .i64 (k : Int)), (14, .int .i64 ((fil (matchQ (qaf q [])) l k).length : Int))]) (fun k => []) (fun k => k ≤ l.length) (fun k => l.length - k) 0 (hT.keep [15, 14, 102, 8, 97, 13, 12, 11, 68, 10, 9, 44, 7, 34, 6, 5, 24, 20, 3, 0, 1] rfl) (H.keep [0, 1, 2, 3, 4] rfl rfl) (Nat.zero_le _) ?_
                    clear hT H
                    rintro k a w16 hJ hT H
                    replace hT := hT.keep [15, 14, 102, 8, 97, 13, 12, 11, 68, 10, 9, 44, 7, 34, 6, 5, 24, 20, 3, 0, 1] rfl
                    replace H := H.keep [0, 1, 2, 3, 4] rfl rfl
                    have hk : k ≤ l.length := hJ
                    have hfl := fil_len (matchQ (qaf q [])) l k
                    refine wp_seq_k fun K46 hK46 => ?_
                    refine wp_seq_k fun K47 hK47 => ?_
                    -- region 27 (law.go:142)
                    refine Sx.wp_text [(0, .take), (1, .take), (2, .take), (3, .take)] rfl ?_
                    refine Sx.st_take hT rfl rfl rfl rfl (Sx.x_move hT rfl rfl) ?_
                    clear hT; intro a hT
                    refine Sx.st_take hT rfl rfl rfl rfl (Sx.x_move hT rfl rfl) ?_
                    clear hT; intro a hT
                    refine Sx.st_take hT rfl rfl rfl rfl (Sx.x_len_slice hT rfl rfl Tryd.underlying22 rfl) ?_
                    clear hT; intro a hT
                    refine Sx.st_take hT rfl rfl rfl rfl ((fun w => Sx.x_lt w hT rfl rfl rfl)) ?_
                    clear hT; intro a hT
                    replace hT := hT.keep [108, 15, 14, 102, 8, 97, 13, 12, 11, 68, 10, 9, 44, 7, 34, 6, 5, 24, 20, 3, 0, 1] rfl
                    refine Sx.ser_nil ?_
                    refine Sx.then_normal (hK47 _ _ ?_)
                    clear hK47
                    -- cond 8
                    refine Sx.wp_if hT rfl (fun hc48 => ?_) (fun hc48 => ?_)
                    · try simp only [decide_eq_true_eq, decide_eq_false_iff_not, Bool.not_eq_true', Bool.not_eq_false', Bool.not_eq_true, Bool.not_eq_false, Bool.and_eq_true, Bool.or_eq_false_iff, beq_iff_eq, bne_iff_ne, Int.not_lt, Int.not_le, ne_eq] at hc48
                      obtain ⟨o, ho⟩ : ∃ o, l[k]? = some o := ⟨_, List.getElem?_eq_getElem (by omega)⟩
                      refine wp_skip ?_
                      refine Sx.then_normal (hK46 _ _ ?_)
                      clear hK46
                      refine wp_seq_k fun K49 hK49 => ?_
                      refine wp_block ?_
                      refine wp_seq_k fun K50 hK50 => ?_
                      -- region 29 (law.go:143)
                      refine Sx.wp_draws (fun u => Sx.Ext (Sx.No) u) [(0, .held), (1, .take), (2, .take), (3, .take), (4, .held), (5, .run)] (by kernel_rfl) (by kernel_rfl) (fun u E _ => ?_)
                      replace H := H.pure E; clear E
                      have hH : Sx.Ext (Sx.No) u u := Sx.Ext.refl _ _
                      have Hu := H
                      refine Sx.st_held hT rfl rfl rfl rfl hH (fun w' h' => Sx.y_loadS hT rfl Tryd.underlying27 Tryd.ti27 rfl ((Hu.heldB 4 rfl h' Sx.off_No).seg (k := 12) rfl) (by rfl)) ?_
                      clear hT; intro a hT
                      refine Sx.st_take hT rfl rfl rfl rfl (Sx.x_move hT rfl rfl) ?_
                      clear hT; intro a hT
                      refine Sx.st_take hT rfl rfl rfl rfl (Sx.x_move hT rfl rfl) ?_
                      clear hT; intro a hT
                      refine Sx.st_take hT rfl rfl rfl rfl (Sx.x_index (k := k) hT rfl Tryd.underlying22 Tryd.ti45 (R.at H.ext).sv rfl rfl (by first | rfl | omega) (by omega)) ?_
                      clear hT; intro a hT
                      refine Sx.st_held hT rfl rfl rfl rfl hH (fun w' h' => Sx.y_loadS hT rfl Tryd.underlying45 Tryd.ti45 rfl (by first | exact ((Hu.heldB 1 rfl h' Sx.off_No).seg (k := 4) rfl) | exact ((Hu.heldB 4 rfl h' Sx.off_No).seg (k := 4) rfl) | exact ((R.at (Hu.ext.step h')).cs Pair.len ho)) (by rfl)) ?_
                      clear hT; intro a hT
                      refine Sx.st_call hT rfl rfl rfl rfl rfl Tryd.can19 rfl (Match_calls (qaf q []) o _) ?_
                      rintro _ w17 ⟨rfl, E⟩
                      refine ⟨_, rfl, ?_⟩
                      clear hT; intro a hT
                      replace H := H.pure E; clear E
                      replace hT := hT.keep [116, 108, 15, 14, 102, 8, 97, 13, 12, 11, 68, 10, 9, 44, 7, 34, 6, 5, 24, 20, 3, 0, 1] rfl
                      clear Hu hH
                      refine Sx.ser_calm ?_
                      refine Sx.then_normal (hK50 _ _ ?_)
                      clear hK50
                      -- cond 9
                      refine Sx.wp_if hT rfl (fun hc51 => ?_) (fun hc51 => ?_)
                      · try simp only [decide_eq_true_eq, decide_eq_false_iff_not, Bool.not_eq_true', Bool.not_eq_false', Bool.not_eq_true, Bool.not_eq_false, Bool.and_eq_true, Bool.or_eq_false_iff, beq_iff_eq, bne_iff_ne, Int.not_lt, Int.not_le, ne_eq] at hc51
                        have hma := hc51
                        -- region 30 (law.go:144)
                        refine Sx.wp_text [(0, .take), (1, .take), (2, .take)] rfl ?_
                        refine Sx.st_take hT rfl rfl rfl rfl (Sx.x_move hT rfl rfl) ?_
                        clear hT; intro a hT
                        refine Sx.st_take hT rfl rfl rfl rfl ((fun w => Sx.x_add w hT rfl rfl rfl (Sx.wrap64 (by omega)))) ?_
                        clear hT; intro a hT
                        refine Sx.st_take hT rfl rfl rfl rfl (Sx.x_assign hT rfl rfl) ?_
                        clear hT; intro a hT
                        replace hT := hT.keep [14, 116, 108, 15, 102, 8, 97, 13, 12, 11, 68, 10, 9, 44, 7, 34, 6, 5, 24, 20, 3, 0, 1] rfl
                        refine Sx.ser_nil ?_
                        refine Sx.block_normal ?_
                        refine Sx.then_normal (hK49 _ _ ?_)
                        clear hK49
                        -- region 28 (law.go:142)
                        refine Sx.wp_text [(0, .take), (1, .take), (2, .take)] rfl ?_
                        refine Sx.st_take hT rfl rfl rfl rfl (Sx.x_move hT rfl rfl) ?_
                        clear hT; intro a hT
                        refine Sx.st_take hT rfl rfl rfl rfl ((fun w => Sx.x_add w hT rfl rfl rfl (Sx.wrap64 (by omega)))) ?_
                        clear hT; intro a hT
                        refine Sx.st_take hT rfl rfl rfl rfl (Sx.x_assign hT rfl rfl) ?_
                        clear hT; intro a hT
                        replace hT := hT.keep [15, 14, 116, 108, 102, 8, 97, 13, 12, 11, 68, 10, 9, 44, 7, 34, 6, 5, 24, 20, 3, 0, 1] rfl
                        refine Sx.ser_nil ?_
                        refine Sx.then_normal ?_
                        exact ⟨k + 1, (by omega), ((hT.keep [15, 14, 102, 8, 97, 13, 12, 11, 68, 10, 9, 44, 7, 34, 6, 5, 24, 20, 3, 0, 1] rfl).conv (by rw [fil_yes ho hma, pairs_len]; rfl)), (H.keep [0, 1, 2, 3, 4] rfl rfl), by omega⟩
                      · try simp only [decide_eq_true_eq, decide_eq_false_iff_not, Bool.not_eq_true', Bool.not_eq_false', Bool.not_eq_true, Bool.not_eq_false, Bool.and_eq_true, Bool.or_eq_false_iff, beq_iff_eq, bne_iff_ne, Int.not_lt, Int.not_le, ne_eq] at hc51
                        have hma := hc51
                        refine wp_skip ?_
                        refine Sx.block_normal ?_
                        refine Sx.then_normal (hK49 _ _ ?_)
                        clear hK49
                        -- region 28 (law.go:142)
                        refine Sx.wp_text [(0, .take), (1, .take), (2, .take)] rfl ?_
                        refine Sx.st_take hT rfl rfl rfl rfl (Sx.x_move hT rfl rfl) ?_
                        clear hT; intro a hT
                        refine Sx.st_take hT rfl rfl rfl rfl ((fun w => Sx.x_add w hT rfl rfl rfl (Sx.wrap64 (by omega)))) ?_
                        clear hT; intro a hT
                        refine Sx.st_take hT rfl rfl rfl rfl (Sx.x_assign hT rfl rfl) ?_
                        clear hT; intro a hT
                        replace hT := hT.keep [15, 116, 108, 14, 102, 8, 97, 13, 12, 11, 68, 10, 9, 44, 7, 34, 6, 5, 24, 20, 3, 0, 1] rfl
                        refine Sx.ser_nil ?_
                        refine Sx.then_normal ?_
                        exact ⟨k + 1, (by omega), ((hT.keep [15, 14, 102, 8, 97, 13, 12, 11, 68, 10, 9, 44, 7, 34, 6, 5, 24, 20, 3, 0, 1] rfl).conv (by rw [fil_no ho hma]; rfl)), (H.keep [0, 1, 2, 3, 4] rfl rfl), by omega⟩
                    · try simp only [decide_eq_true_eq, decide_eq_false_iff_not, Bool.not_eq_true', Bool.not_eq_false', Bool.not_eq_true, Bool.not_eq_false, Bool.and_eq_true, Bool.or_eq_false_iff, beq_iff_eq, bne_iff_ne, Int.not_lt, Int.not_le, ne_eq] at hc48
                      obtain rfl : k = l.length := by omega
                      rw [fil_count (q := (qaf q [])) hz] at hT
                      refine wp_exit ?_
                      refine Sx.then_exit ?_
                      refine Sx.then_exit ?_
                      refine Sx.block_exit ?_
                      refine Sx.then_normal (hK44 _ _ ?_)
                      clear hK44
                      refine wp_seq_k fun K52 hK52 => ?_
                      -- region 31 (law.go:147)
                      refine Sx.wp_text [(0, .take), (1, .run), (2, .take), (3, .take), (4, .run)] rfl ?_
                      refine Sx.st_take hT rfl rfl rfl rfl (Sx.x_fieldAddr hT rfl Tryd.fa27_5 rfl) ?_
                      clear hT; intro a hT
                      refine Sx.st_run hT rfl rfl rfl rfl (Sx.x_load1 hT rfl Tryd.fl4 rfl ((H.blk 4 rfl).nth rfl)) ?_
                      clear hT; intro a hT
                      refine Sx.st_take hT rfl rfl rfl rfl (Sx.x_not hT rfl rfl) ?_
                      clear hT; intro a hT
                      refine Sx.st_take hT rfl rfl rfl rfl (Sx.x_fieldAddr hT rfl Tryd.fa27_5 rfl) ?_
                      clear hT; intro a hT
                      refine Sx.st_act hT rfl rfl rfl (Sx.y_store1 hT rfl Tryd.ti4 rfl rfl rfl (H.blk 4 rfl) rfl) ?_
                      rintro w18 ⟨hb, E, _⟩
                      replace H := H.setB 4 rfl hb E rfl; clear hb E
                      replace hT := hT.keep [108, 15, 14, 102, 8, 97, 13, 12, 11, 68, 10, 9, 44, 7, 34, 6, 5, 24, 20, 3, 0, 1] rfl
                      refine Sx.ser_nil ?_
                      refine Sx.then_normal (hK52 _ _ ?_)
                      clear hK52
                      refine wp_seq_k fun K53 hK53 => ?_
                      -- region 32 (law.go:148)
                      refine Sx.wp_text [(0, .take), (1, .run), (2, .run), (3, .take), (4, .take), (5, .take), (6, .take), (7, .take)] rfl ?_
                      refine Sx.st_take hT rfl rfl rfl rfl (Sx.x_move hT rfl rfl) ?_
                      clear hT; intro a hT
                      refine Sx.st_run hT rfl rfl rfl rfl (Sx.y_loadS hT rfl Tryd.underlying27 Tryd.ti27 rfl ((H.blk 4 rfl).seg (k := 12) rfl) (by rfl)) ?_
                      clear hT; intro a hT
                      refine Sx.st_call hT rfl rfl rfl rfl rfl Tryd.can13 rfl (All_calls _ _ l (qtn (qaf q [])) _ (R.at H.ext) hl3) ?_
                      rintro _ w19 ⟨ad6, c6, rfl, K⟩
                      refine ⟨_, rfl, ?_⟩
                      clear hT; intro a hT
                      replace H := H.more K rfl; clear K
                      refine Sx.st_take hT rfl rfl rfl rfl (Sx.x_move hT rfl rfl) ?_
                      clear hT; intro a hT
                      refine Sx.st_take hT rfl rfl rfl rfl (Sx.x_extractL hT rfl rfl rfl) ?_
                      clear hT; intro a hT
                      refine Sx.st_take hT rfl rfl rfl rfl (Sx.x_extractL hT rfl rfl rfl) ?_
                      clear hT; intro a hT
                      refine Sx.st_take hT rfl rfl rfl rfl (Sx.x_assign hT rfl rfl) ?_
                      clear hT; intro a hT
                      refine Sx.st_take hT rfl rfl rfl rfl (Sx.x_assign hT rfl rfl) ?_
                      clear hT; intro a hT
                      replace hT := hT.keep [17, 16, 108, 15, 14, 102, 8, 97, 13, 12, 11, 68, 10, 9, 44, 7, 34, 6, 5, 24, 20, 3, 0, 1] rfl
                      refine Sx.ser_nil ?_
                      refine Sx.then_normal (hK53 _ _ ?_)
                      clear hK53
                      refine wp_seq_k fun K54 hK54 => ?_
                      refine wp_seq_k fun K55 hK55 => ?_
                      -- region 33 (law.go:149)
                      rw [all_tn hz] at hT H
                      dsimp only at hT H
                      rw [List.length_reverse] at hT H
                      refine Sx.wp_text [(0, .take), (1, .take), (2, .take), (3, .take), (4, .take), (5, .take), (6, .take), (7, .take), (8, .take), (9, .take), (10, .take), (11, .take), (12, .take), (13, .take), (14, .take)] rfl ?_
                      refine Sx.st_take hT rfl rfl rfl rfl (Sx.x_move hT rfl rfl) ?_
                      clear hT; intro a hT
                      refine Sx.st_take hT rfl rfl rfl rfl ((fun w => Sx.x_ne w hT rfl rfl rfl)) ?_
                      clear hT; intro a hT
                      refine Sx.st_take hT rfl rfl rfl rfl (Sx.x_move hT rfl rfl) ?_
                      clear hT; intro a hT
                      -- guard (33, 2)
                      refine Sx.Sl.two hT 131 rfl (fun hc56 hT => ?_) (fun hc56 hT => ?_)
                      · exfalso
                        try simp only [decide_eq_true_eq, decide_eq_false_iff_not, Bool.not_eq_true', Bool.not_eq_false', Bool.not_eq_true, Bool.not_eq_false, Bool.and_eq_true, Bool.or_eq_false_iff, beq_iff_eq, bne_iff_ne, Int.not_lt, Int.not_le, ne_eq] at hc56
                        first | (simp at hc56; done) | (simp at hc56; omega) | (simp only [List.length_take, List.length_drop] at hc56; omega)
                      · try simp only [decide_eq_true_eq, decide_eq_false_iff_not, Bool.not_eq_true', Bool.not_eq_false', Bool.not_eq_true, Bool.not_eq_false, Bool.and_eq_true, Bool.or_eq_false_iff, beq_iff_eq, bne_iff_ne, Int.not_lt, Int.not_le, ne_eq] at hc56
                        refine Sx.st_take hT rfl rfl rfl rfl (Sx.x_move hT rfl rfl) ?_
                        clear hT; intro a hT
                        refine Sx.st_take hT rfl rfl rfl rfl (Sx.x_len_slice hT rfl rfl Tryd.underlying22 rfl) ?_
                        clear hT; intro a hT
                        refine Sx.st_take hT rfl rfl rfl rfl (Sx.x_move hT rfl rfl) ?_
                        clear hT; intro a hT
                        refine Sx.st_take hT rfl rfl rfl rfl (Sx.x_len_slice hT rfl rfl Tryd.underlying22 rfl) ?_
                        clear hT; intro a hT
                        refine Sx.st_take hT rfl rfl rfl rfl ((fun w => Sx.x_ne w hT rfl rfl rfl)) ?_
                        clear hT; intro a hT
                        refine Sx.st_take hT rfl rfl rfl rfl (Sx.x_pick_f hT rfl rfl rfl) ?_
                        clear hT; intro a hT
                        refine Sx.st_take hT rfl rfl rfl rfl (Sx.x_move hT rfl rfl) ?_
                        clear hT; intro a hT
                        -- guard (33, 9)
                        refine Sx.Sl.two hT 138 rfl (fun hc57 hT => ?_) (fun hc57 hT => ?_)
                        · exfalso
                          try simp only [decide_eq_true_eq, decide_eq_false_iff_not, Bool.not_eq_true', Bool.not_eq_false', Bool.not_eq_true, Bool.not_eq_false, Bool.and_eq_true, Bool.or_eq_false_iff, beq_iff_eq, bne_iff_ne, Int.not_lt, Int.not_le, ne_eq] at hc57
                          first | (simp at hc57; done) | (simp at hc57; omega) | (simp only [List.length_take, List.length_drop] at hc57; omega)
                        · try simp only [decide_eq_true_eq, decide_eq_false_iff_not, Bool.not_eq_true', Bool.not_eq_false', Bool.not_eq_true, Bool.not_eq_false, Bool.and_eq_true, Bool.or_eq_false_iff, beq_iff_eq, bne_iff_ne, Int.not_lt, Int.not_le, ne_eq] at hc57
                          refine Sx.st_take hT rfl rfl rfl rfl (Sx.x_move hT rfl rfl) ?_
                          clear hT; intro a hT
                          refine Sx.st_take hT rfl rfl rfl rfl (Sx.x_move hT rfl rfl) ?_
                          clear hT; intro a hT
                          refine Sx.st_take hT rfl rfl rfl rfl (Sx.x_len_slice hT rfl rfl Tryd.underlying22 rfl) ?_
                          clear hT; intro a hT
                          refine Sx.st_take hT rfl rfl rfl rfl ((fun w => Sx.x_ne w hT rfl rfl rfl)) ?_
                          clear hT; intro a hT
                          refine Sx.st_take hT rfl rfl rfl rfl (Sx.x_pick_f hT rfl rfl rfl) ?_
                          clear hT; intro a hT
                          replace hT := hT.keep [143, 17, 16, 108, 15, 14, 102, 8, 97, 13, 12, 11, 68, 10, 9, 44, 7, 34, 6, 5, 24, 20, 3, 0, 1] rfl
                          refine Sx.ser_nil ?_
                          refine Sx.then_normal (hK55 _ _ ?_)
                          clear hK55
                          -- cond 10
                          refine Sx.wp_if hT rfl (fun hc58 => ?_) (fun hc58 => ?_)
                          · exfalso
                            try simp only [decide_eq_true_eq, decide_eq_false_iff_not, Bool.not_eq_true', Bool.not_eq_false', Bool.not_eq_true, Bool.not_eq_false, Bool.and_eq_true, Bool.or_eq_false_iff, beq_iff_eq, bne_iff_ne, Int.not_lt, Int.not_le, ne_eq] at hc58
                            first | (simp at hc58; done) | (simp at hc58; omega) | (simp only [List.length_take, List.length_drop] at hc58; omega)
                          · try simp only [decide_eq_true_eq, decide_eq_false_iff_not, Bool.not_eq_true', Bool.not_eq_false', Bool.not_eq_true, Bool.not_eq_false, Bool.and_eq_true, Bool.or_eq_false_iff, beq_iff_eq, bne_iff_ne, Int.not_lt, Int.not_le, ne_eq] at hc58
                            refine wp_skip ?_
                            refine Sx.then_normal (hK54 _ _ ?_)
                            clear hK54
                            refine wp_seq_k fun K59 hK59 => ?_
                            refine wp_seq_k fun K60 hK60 => ?_
                            -- region 35 (law.go:152)
                            refine Sx.wp_text [(0, .take)] rfl ?_
                            refine Sx.st_take hT rfl rfl rfl rfl (Sx.x_assign hT rfl rfl) ?_
                            clear hT; intro a hT
                            replace hT := hT.keep [18, 143, 17, 16, 108, 15, 14, 102, 8, 97, 13, 12, 11, 68, 10, 9, 44, 7, 34, 6, 5, 24, 20, 3, 0, 1] rfl
                            refine Sx.ser_nil ?_
                            refine Sx.then_normal (hK60 _ _ ?_)
                            clear hK60
                            refine wp_block ?_
                            -- loop 3
                            refine Sx.wp_loopH (G := Nat) (fun k => [(18, .int .i64 (k : Int))]) (fun k => []) (fun k => k ≤ (allQ (qaf q []) [] l).1.length) (fun k => (allQ (qaf q []) [] l).1.length - k) 0 (hT.keep [18, 143, 17, 16, 108, 15, 14, 102, 8, 97, 13, 12, 11, 68, 10, 9, 44, 7, 34, 6, 5, 24, 20, 3, 0, 1] rfl) (H.keep [0, 1, 2, 3, 4, 5] rfl rfl) (Nat.zero_le _) ?_
                            clear hT H
                            rintro k a w20 hJ hT H
                            replace hT := hT.keep [18, 143, 17, 16, 108, 15, 14, 102, 8, 97, 13, 12, 11, 68, 10, 9, 44, 7, 34, 6, 5, 24, 20, 3, 0, 1] rfl
                            replace H := H.keep [0, 1, 2, 3, 4, 5] rfl rfl
                            have hk : k ≤ (allQ (qaf q []) [] l).1.length := hJ
                            refine wp_seq_k fun K61 hK61 => ?_
                            refine wp_seq_k fun K62 hK62 => ?_
                            -- region 36 (law.go:152)
                            refine Sx.wp_text [(0, .take), (1, .take), (2, .take), (3, .take)] rfl ?_
                            refine Sx.st_take hT rfl rfl rfl rfl (Sx.x_move hT rfl rfl) ?_
                            clear hT; intro a hT
                            refine Sx.st_take hT rfl rfl rfl rfl (Sx.x_move hT rfl rfl) ?_
                            clear hT; intro a hT
                            refine Sx.st_take hT rfl rfl rfl rfl (Sx.x_len_slice hT rfl rfl Tryd.underlying22 rfl) ?_
                            clear hT; intro a hT
                            refine Sx.st_take hT rfl rfl rfl rfl ((fun w => Sx.x_lt w hT rfl rfl rfl)) ?_
                            clear hT; intro a hT
                            replace hT := hT.keep [147, 18, 143, 17, 16, 108, 15, 14, 102, 8, 97, 13, 12, 11, 68, 10, 9, 44, 7, 34, 6, 5, 24, 20, 3, 0, 1] rfl
                            refine Sx.ser_nil ?_
                            refine Sx.then_normal (hK62 _ _ ?_)
                            clear hK62
                            -- cond 11
                            refine Sx.wp_if hT rfl (fun hc63 => ?_) (fun hc63 => ?_)
                            · try simp only [decide_eq_true_eq, decide_eq_false_iff_not, Bool.not_eq_true', Bool.not_eq_false', Bool.not_eq_true, Bool.not_eq_false, Bool.and_eq_true, Bool.or_eq_false_iff, beq_iff_eq, bne_iff_ne, Int.not_lt, Int.not_le, ne_eq] at hc63
                              obtain ⟨o, ho⟩ : ∃ o, (allQ (qaf q []) [] l).1[k]? = some o := ⟨_, List.getElem?_eq_getElem (by omega)⟩
                              have hor : (allQ (qaf q []) [] l).1.reverse[(allQ (qaf q []) [] l).1.length - 1 - k]? = some o := by rw [List.getElem?_reverse (by omega), show (allQ (qaf q []) [] l).1.length - 1 - ((allQ (qaf q []) [] l).1.length - 1 - k) = k from by omega]; exact ho
                              refine wp_skip ?_
                              refine Sx.then_normal (hK61 _ _ ?_)
                              clear hK61
                              refine wp_seq_k fun K64 hK64 => ?_
                              refine wp_block ?_
                              refine wp_seq_k fun K65 hK65 => ?_
                              -- region 38 (law.go:153)
                              refine Sx.wp_draws (fun u => Sx.Ext (Sx.No) u) [(0, .take), (1, .take), (2, .take), (3, .take), (4, .held), (5, .take), (6, .take), (7, .take), (8, .take), (9, .take), (10, .take), (11, .take), (12, .take), (13, .held), (14, .take), (15, .take), (16, .held), (17, .take), (18, .take), (19, .take), (20, .held), (21, .keep), (22, .take), (23, .take), (24, .take), (25, .take), (26, .take), (27, .take), (28, .take), (29, .take), (30, .take), (31, .take), (32, .held), (33, .take), (34, .take), (35, .take), (36, .take), (37, .take), (38, .held), (39, .take), (40, .take), (41, .held), (42, .take), (43, .take), (44, .take)] (by kernel_rfl) (by kernel_rfl) (fun u E _ => ?_)
                              replace H := H.pure E; clear E
                              have hH : Sx.Ext (Sx.No) u u := Sx.Ext.refl _ _
                              have Hu := H
                              refine Sx.st_take hT rfl rfl rfl rfl (Sx.x_move hT rfl rfl) ?_
                              clear hT; intro a hT
                              refine Sx.st_take hT rfl rfl rfl rfl (Sx.x_move hT rfl rfl) ?_
                              clear hT; intro a hT
                              refine Sx.st_take hT rfl rfl rfl rfl (Sx.x_index (k := k) hT rfl Tryd.underlying22 Tryd.ti45 (H.row 4 rfl).sv rfl rfl (by first | rfl | omega) (by omega)) ?_
                              clear hT; intro a hT
                              refine Sx.st_take hT rfl rfl rfl rfl (Sx.x_fieldAddr hT rfl Tryd.fa45_0 rfl) ?_
                              clear hT; intro a hT
                              refine Sx.st_held hT rfl rfl rfl rfl hH (fun w' h' => Sx.x_load1 hT rfl Tryd.fl9 rfl (by first | exact (((Hu.heldR 4 rfl h' Sx.off_No).ssn rfl).cell (j := 0) Pair.len ho rfl) | exact (((Hu.heldR 0 rfl h' Sx.off_No).ssn (by rw [List.length_reverse])).cell (j := 0) Pair.len hor rfl) | exact (((Hu.heldR 4 rfl h' Sx.off_No).ssn rfl).cell (j := 0) Pair.len ho2 rfl))) ?_
                              clear hT; intro a hT
                              refine Sx.st_take hT rfl rfl rfl rfl (Sx.x_move hT rfl rfl) ?_
                              clear hT; intro a hT
                              refine Sx.st_take hT rfl rfl rfl rfl (Sx.x_move hT rfl rfl) ?_
                              clear hT; intro a hT
                              refine Sx.st_take hT rfl rfl rfl rfl (Sx.x_len_slice hT rfl rfl Tryd.underlying22 rfl) ?_
                              clear hT; intro a hT
                              refine Sx.st_take hT rfl rfl rfl rfl ((fun w => Sx.x_sub w hT rfl rfl rfl (Sx.wrap64 (by omega)))) ?_
                              clear hT; intro a hT
                              refine Sx.st_take hT rfl rfl rfl rfl (Sx.x_move hT rfl rfl) ?_
                              clear hT; intro a hT
                              refine Sx.st_take hT rfl rfl rfl rfl ((fun w => Sx.x_sub w hT rfl rfl rfl (Sx.wrap64 (by omega)))) ?_
                              clear hT; intro a hT
                              refine Sx.st_take hT rfl rfl rfl rfl (Sx.x_index (k := (allQ (qaf q []) [] l).1.length - 1 - k) hT rfl Tryd.underlying22 Tryd.ti45 (H.row 0 rfl).sv rfl rfl (by first | rfl | omega) (by omega)) ?_
                              clear hT; intro a hT
                              refine Sx.st_take hT rfl rfl rfl rfl (Sx.x_fieldAddr hT rfl Tryd.fa45_0 rfl) ?_
                              clear hT; intro a hT
                              refine Sx.st_held hT rfl rfl rfl rfl hH (fun w' h' => Sx.x_load1 hT rfl Tryd.fl9 rfl (by first | exact (((Hu.heldR 4 rfl h' Sx.off_No).ssn rfl).cell (j := 0) Pair.len ho rfl) | exact (((Hu.heldR 0 rfl h' Sx.off_No).ssn (by rw [List.length_reverse])).cell (j := 0) Pair.len hor rfl) | exact (((Hu.heldR 4 rfl h' Sx.off_No).ssn rfl).cell (j := 0) Pair.len ho2 rfl))) ?_
                              clear hT; intro a hT
                              refine Sx.st_take hT rfl rfl rfl rfl ((fun w => Sx.x_strne w hT rfl rfl rfl)) ?_
                              clear hT; intro a hT
                              refine Sx.st_take hT rfl rfl rfl rfl (Sx.x_move hT rfl rfl) ?_
                              clear hT; intro a hT
                              -- guard (38, 15)
                              refine Sx.Sl.two hT 165 rfl (fun hc66 hT => ?_) (fun hc66 hT => ?_)
                              · exfalso
                                try simp only [decide_eq_true_eq, decide_eq_false_iff_not, Bool.not_eq_true', Bool.not_eq_false', Bool.not_eq_true, Bool.not_eq_false, Bool.and_eq_true, Bool.or_eq_false_iff, beq_iff_eq, bne_iff_ne, Int.not_lt, Int.not_le, ne_eq] at hc66
                                first | (simp at hc66; done) | (simp at hc66; omega) | (simp only [List.length_take, List.length_drop] at hc66; omega)
                              · try simp only [decide_eq_true_eq, decide_eq_false_iff_not, Bool.not_eq_true', Bool.not_eq_false', Bool.not_eq_true, Bool.not_eq_false, Bool.and_eq_true, Bool.or_eq_false_iff, beq_iff_eq, bne_iff_ne, Int.not_lt, Int.not_le, ne_eq] at hc66
                                refine Sx.st_held hT rfl rfl rfl rfl hH (fun w' h' => Sx.y_loadS hT rfl Tryd.underlying27 Tryd.ti27 rfl ((Hu.heldB 5 rfl h' Sx.off_No).seg (k := 12) rfl) (by rfl)) ?_
                                clear hT; intro a hT
                                refine Sx.st_take hT rfl rfl rfl rfl (Sx.x_move hT rfl rfl) ?_
                                clear hT; intro a hT
                                refine Sx.st_take hT rfl rfl rfl rfl (Sx.x_move hT rfl rfl) ?_
                                clear hT; intro a hT
                                refine Sx.st_take hT rfl rfl rfl rfl (Sx.x_index (k := k) hT rfl Tryd.underlying22 Tryd.ti45 (H.row 4 rfl).sv rfl rfl (by first | rfl | omega) (by omega)) ?_
                                clear hT; intro a hT
                                refine Sx.st_held hT rfl rfl rfl rfl hH (fun w' h' => Sx.y_loadS hT rfl Tryd.underlying45 Tryd.ti45 rfl (((Hu.heldR 4 rfl h' Sx.off_No).ssn rfl).cs Pair.len ho) (by rfl)) ?_
                                clear hT; intro a hT
                                refine Sx.st_callkeep hT rfl rfl rfl rfl rfl Tryd.can19 rfl (Match_calls (qtn (qaf q [])) o _) ?_
                                rintro _ w21 ⟨rfl, E⟩
                                refine ⟨_, rfl, hH.step E, ?_⟩
                                replace hH := hH.step E
                                clear hT; intro a hT
                                replace H := H.pure E; clear E
                                refine Sx.st_take hT rfl rfl rfl rfl (Sx.x_not hT rfl rfl) ?_
                                clear hT; intro a hT
                                refine Sx.st_take hT rfl rfl rfl rfl (Sx.x_pick_f hT rfl rfl rfl) ?_
                                clear hT; intro a hT
                                refine Sx.st_take hT rfl rfl rfl rfl (Sx.x_move hT rfl rfl) ?_
                                clear hT; intro a hT
                                -- guard (38, 24)
                                refine Sx.Sl.two hT 174 rfl (fun hc67 hT => ?_) (fun hc67 hT => ?_)
                                · exfalso
                                  try simp only [decide_eq_true_eq, decide_eq_false_iff_not, Bool.not_eq_true', Bool.not_eq_false', Bool.not_eq_true, Bool.not_eq_false, Bool.and_eq_true, Bool.or_eq_false_iff, beq_iff_eq, bne_iff_ne, Int.not_lt, Int.not_le, ne_eq] at hc67
                                  have h8 : matchQ (qaf q []) o = true := all_match hz ho
                                  exact Bool.noConfusion (hc67.symm.trans h8)
                                · try simp only [decide_eq_true_eq, decide_eq_false_iff_not, Bool.not_eq_true', Bool.not_eq_false', Bool.not_eq_true, Bool.not_eq_false, Bool.and_eq_true, Bool.or_eq_false_iff, beq_iff_eq, bne_iff_ne, Int.not_lt, Int.not_le, ne_eq] at hc67
                                  refine Sx.st_take hT rfl rfl rfl rfl (Sx.x_move hT rfl rfl) ?_
                                  clear hT; intro a hT
                                  refine Sx.st_take hT rfl rfl rfl rfl ((fun w => Sx.x_gt w hT rfl rfl rfl)) ?_
                                  clear hT; intro a hT
                                  refine Sx.st_take hT rfl rfl rfl rfl (Sx.x_move hT rfl rfl) ?_
                                  clear hT; intro a hT
                                  -- guard (38, 27)
                                  refine Sx.Sl.two hT 177 rfl (fun hc68 hT => ?_) (fun hc68 hT => ?_)
                                  · try simp only [decide_eq_true_eq, decide_eq_false_iff_not, Bool.not_eq_true', Bool.not_eq_false', Bool.not_eq_true, Bool.not_eq_false, Bool.and_eq_true, Bool.or_eq_false_iff, beq_iff_eq, bne_iff_ne, Int.not_lt, Int.not_le, ne_eq] at hc68
                                    obtain ⟨o2, ho2⟩ : ∃ o, (allQ (qaf q []) [] l).1[k - 1]? = some o := ⟨_, List.getElem?_eq_getElem (by omega)⟩
                                    refine Sx.st_take hT rfl rfl rfl rfl (Sx.x_move hT rfl rfl) ?_
                                    clear hT; intro a hT
                                    refine Sx.st_take hT rfl rfl rfl rfl (Sx.x_move hT rfl rfl) ?_
                                    clear hT; intro a hT
                                    refine Sx.st_take hT rfl rfl rfl rfl (Sx.x_index (k := k) hT rfl Tryd.underlying22 Tryd.ti45 (H.row 4 rfl).sv rfl rfl (by first | rfl | omega) (by omega)) ?_
                                    clear hT; intro a hT
                                    refine Sx.st_take hT rfl rfl rfl rfl (Sx.x_fieldAddr hT rfl Tryd.fa45_0 rfl) ?_
                                    clear hT; intro a hT
                                    refine Sx.st_held hT rfl rfl rfl rfl hH (fun w' h' => Sx.x_load1 hT rfl Tryd.fl9 rfl (by first | exact (((Hu.heldR 4 rfl h' Sx.off_No).ssn rfl).cell (j := 0) Pair.len ho rfl) | exact (((Hu.heldR 0 rfl h' Sx.off_No).ssn (by rw [List.length_reverse])).cell (j := 0) Pair.len hor rfl) | exact (((Hu.heldR 4 rfl h' Sx.off_No).ssn rfl).cell (j := 0) Pair.len ho2 rfl))) ?_
                                    clear hT; intro a hT
                                    refine Sx.st_take hT rfl rfl rfl rfl (Sx.x_move hT rfl rfl) ?_
                                    clear hT; intro a hT
                                    refine Sx.st_take hT rfl rfl rfl rfl (Sx.x_move hT rfl rfl) ?_
                                    clear hT; intro a hT
                                    refine Sx.st_take hT rfl rfl rfl rfl ((fun w => Sx.x_sub w hT rfl rfl rfl (Sx.wrap64 (by omega)))) ?_
                                    clear hT; intro a hT
                                    refine Sx.st_take hT rfl rfl rfl rfl (Sx.x_index (k := k - 1) hT rfl Tryd.underlying22 Tryd.ti45 (H.row 4 rfl).sv rfl rfl (by first | rfl | omega) (by omega)) ?_
                                    clear hT; intro a hT
                                    refine Sx.st_take hT rfl rfl rfl rfl (Sx.x_fieldAddr hT rfl Tryd.fa45_0 rfl) ?_
                                    clear hT; intro a hT
                                    refine Sx.st_held hT rfl rfl rfl rfl hH (fun w' h' => Sx.x_load1 hT rfl Tryd.fl9 rfl (by first | exact (((Hu.heldR 4 rfl h' Sx.off_No).ssn rfl).cell (j := 0) Pair.len ho rfl) | exact (((Hu.heldR 0 rfl h' Sx.off_No).ssn (by rw [List.length_reverse])).cell (j := 0) Pair.len hor rfl) | exact (((Hu.heldR 4 rfl h' Sx.off_No).ssn rfl).cell (j := 0) Pair.len ho2 rfl))) ?_
                                    clear hT; intro a hT
                                    refine Sx.st_take hT rfl rfl rfl rfl ((fun w => Sx.x_strgt w hT rfl rfl rfl)) ?_
                                    clear hT; intro a hT
                                    refine Sx.st_take hT rfl rfl rfl rfl (Sx.x_fieldAddr hT rfl Tryd.fa27_5 rfl) ?_
                                    clear hT; intro a hT
                                    refine Sx.st_held hT rfl rfl rfl rfl hH (fun w' h' => Sx.x_load1 hT rfl Tryd.fl4 rfl ((Hu.heldB 5 rfl h' Sx.off_No).nth rfl)) ?_
                                    clear hT; intro a hT
                                    refine Sx.st_take hT rfl rfl rfl rfl (Sx.x_neb hT rfl Tryd.underlying4 rfl rfl) ?_
                                    clear hT; intro a hT
                                    refine Sx.st_take hT rfl rfl rfl rfl (Sx.x_pick_t hT rfl rfl rfl) ?_
                                    clear hT; intro a hT
                                    refine Sx.st_take hT rfl rfl rfl rfl (Sx.x_pick_f hT rfl rfl rfl) ?_
                                    clear hT; intro a hT
                                    replace hT := hT.keep [194, 147, 18, 143, 17, 16, 108, 15, 14, 102, 8, 97, 13, 12, 11, 68, 10, 9, 44, 7, 34, 6, 5, 24, 20, 3, 0, 1] rfl
                                    clear Hu hH
                                    refine Sx.ser_calm ?_
                                    refine Sx.then_normal (hK65 _ _ ?_)
                                    clear hK65
                                    -- cond 12
                                    refine Sx.wp_if hT rfl (fun hc69 => ?_) (fun hc69 => ?_)
                                    · exfalso
                                      try simp only [decide_eq_true_eq, decide_eq_false_iff_not, Bool.not_eq_true', Bool.not_eq_false', Bool.not_eq_true, Bool.not_eq_false, Bool.and_eq_true, Bool.or_eq_false_iff, beq_iff_eq, bne_iff_ne, Int.not_lt, Int.not_le, ne_eq] at hc69
                                      have h9 := all_next hz ho2 (by rw [show k - 1 + 1 = k from by omega]; exact ho)
                                      rw [h9] at hc69
                                      simp [qaf, qtn] at hc69
                                    · try simp only [decide_eq_true_eq, decide_eq_false_iff_not, Bool.not_eq_true', Bool.not_eq_false', Bool.not_eq_true, Bool.not_eq_false, Bool.and_eq_true, Bool.or_eq_false_iff, beq_iff_eq, bne_iff_ne, Int.not_lt, Int.not_le, ne_eq] at hc69
                                      refine wp_skip ?_
                                      refine Sx.block_normal ?_
                                      refine Sx.then_normal (hK64 _ _ ?_)
                                      clear hK64
                                      -- region 37 (law.go:152)
                                      refine Sx.wp_text [(0, .take), (1, .take), (2, .take)] rfl ?_
                                      refine Sx.st_take hT rfl rfl rfl rfl (Sx.x_move hT rfl rfl) ?_
                                      clear hT; intro a hT
                                      refine Sx.st_take hT rfl rfl rfl rfl ((fun w => Sx.x_add w hT rfl rfl rfl (Sx.wrap64 (by omega)))) ?_
                                      clear hT; intro a hT
                                      refine Sx.st_take hT rfl rfl rfl rfl (Sx.x_assign hT rfl rfl) ?_
                                      clear hT; intro a hT
                                      replace hT := hT.keep [18, 194, 147, 143, 17, 16, 108, 15, 14, 102, 8, 97, 13, 12, 11, 68, 10, 9, 44, 7, 34, 6, 5, 24, 20, 3, 0, 1] rfl
                                      refine Sx.ser_nil ?_
                                      refine Sx.then_normal ?_
                                      exact ⟨k + 1, (by omega), (hT.keep [18, 143, 17, 16, 108, 15, 14, 102, 8, 97, 13, 12, 11, 68, 10, 9, 44, 7, 34, 6, 5, 24, 20, 3, 0, 1] rfl), (H.keep [0, 1, 2, 3, 4, 5] rfl rfl), by omega⟩
                                  · try simp only [decide_eq_true_eq, decide_eq_false_iff_not, Bool.not_eq_true', Bool.not_eq_false', Bool.not_eq_true, Bool.not_eq_false, Bool.and_eq_true, Bool.or_eq_false_iff, beq_iff_eq, bne_iff_ne, Int.not_lt, Int.not_le, ne_eq] at hc68
                                    refine Sx.st_skip hT rfl rfl rfl rfl ?_
                                    clear hT; intro a hT
                                    refine Sx.st_skip hT rfl rfl rfl rfl ?_
                                    clear hT; intro a hT
                                    refine Sx.st_skip hT rfl rfl rfl rfl ?_
                                    clear hT; intro a hT
                                    refine Sx.st_skip hT rfl rfl rfl rfl ?_
                                    clear hT; intro a hT
                                    refine Sx.st_heldskip hT rfl rfl rfl rfl hH ?_
                                    clear hT; intro a hT
                                    refine Sx.st_skip hT rfl rfl rfl rfl ?_
                                    clear hT; intro a hT
                                    refine Sx.st_skip hT rfl rfl rfl rfl ?_
                                    clear hT; intro a hT
                                    refine Sx.st_skip hT rfl rfl rfl rfl ?_
                                    clear hT; intro a hT
                                    refine Sx.st_skip hT rfl rfl rfl rfl ?_
                                    clear hT; intro a hT
                                    refine Sx.st_skip hT rfl rfl rfl rfl ?_
                                    clear hT; intro a hT
                                    refine Sx.st_heldskip hT rfl rfl rfl rfl hH ?_
                                    clear hT; intro a hT
                                    refine Sx.st_skip hT rfl rfl rfl rfl ?_
                                    clear hT; intro a hT
                                    refine Sx.st_skip hT rfl rfl rfl rfl ?_
                                    clear hT; intro a hT
                                    refine Sx.st_heldskip hT rfl rfl rfl rfl hH ?_
                                    clear hT; intro a hT
                                    refine Sx.st_skip hT rfl rfl rfl rfl ?_
                                    clear hT; intro a hT
                                    refine Sx.st_take hT rfl rfl rfl rfl (Sx.x_pick_f hT rfl rfl rfl) ?_
                                    clear hT; intro a hT
                                    refine Sx.st_take hT rfl rfl rfl rfl (Sx.x_pick_f hT rfl rfl rfl) ?_
                                    clear hT; intro a hT
                                    replace hT := hT.keep [194, 147, 18, 143, 17, 16, 108, 15, 14, 102, 8, 97, 13, 12, 11, 68, 10, 9, 44, 7, 34, 6, 5, 24, 20, 3, 0, 1] rfl
                                    clear Hu hH
                                    refine Sx.ser_calm ?_
                                    refine Sx.then_normal (hK65 _ _ ?_)
                                    clear hK65
                                    refine Sx.wp_if hT rfl (fun h => by cases h) (fun _ => ?_)
                                    refine wp_skip ?_
                                    refine Sx.block_normal ?_
                                    refine Sx.then_normal (hK64 _ _ ?_)
                                    clear hK64
                                    -- region 37 (law.go:152)
                                    refine Sx.wp_text [(0, .take), (1, .take), (2, .take)] rfl ?_
                                    refine Sx.st_take hT rfl rfl rfl rfl (Sx.x_move hT rfl rfl) ?_
                                    clear hT; intro a hT
                                    refine Sx.st_take hT rfl rfl rfl rfl ((fun w => Sx.x_add w hT rfl rfl rfl (Sx.wrap64 (by omega)))) ?_
                                    clear hT; intro a hT
                                    refine Sx.st_take hT rfl rfl rfl rfl (Sx.x_assign hT rfl rfl) ?_
                                    clear hT; intro a hT
                                    replace hT := hT.keep [18, 194, 147, 143, 17, 16, 108, 15, 14, 102, 8, 97, 13, 12, 11, 68, 10, 9, 44, 7, 34, 6, 5, 24, 20, 3, 0, 1] rfl
                                    refine Sx.ser_nil ?_
                                    refine Sx.then_normal ?_
                                    exact ⟨k + 1, (by omega), (hT.keep [18, 143, 17, 16, 108, 15, 14, 102, 8, 97, 13, 12, 11, 68, 10, 9, 44, 7, 34, 6, 5, 24, 20, 3, 0, 1] rfl), (H.keep [0, 1, 2, 3, 4, 5] rfl rfl), by omega⟩
                            · try simp only [decide_eq_true_eq, decide_eq_false_iff_not, Bool.not_eq_true', Bool.not_eq_false', Bool.not_eq_true, Bool.not_eq_false, Bool.and_eq_true, Bool.or_eq_false_iff, beq_iff_eq, bne_iff_ne, Int.not_lt, Int.not_le, ne_eq] at hc63
                              refine wp_exit ?_
                              refine Sx.then_exit ?_
                              refine Sx.then_exit ?_
                              refine Sx.block_exit ?_
                              refine Sx.then_normal (hK59 _ _ ?_)
                              clear hK59
                              refine wp_seq_k fun K70 hK70 => ?_
                              -- region 40 (law.go:157)
                              refine Sx.wp_text [(0, .run), (1, .take), (2, .take), (3, .take), (4, .run), (5, .take), (6, .take)] rfl ?_
                              refine Sx.st_call hT rfl rfl rfl rfl rfl Tryd.can8 rfl (first_calls _) ?_
                              rintro _ w22 ⟨rfl, E⟩
                              refine ⟨_, rfl, ?_⟩
                              clear hT; intro a hT
                              replace H := H.pure E; clear E
                              refine Sx.st_take hT rfl rfl rfl rfl (Sx.x_move hT rfl rfl) ?_
                              clear hT; intro a hT
                              refine Sx.st_take hT rfl rfl rfl rfl (Sx.x_move hT rfl rfl) ?_
                              clear hT; intro a hT
                              refine Sx.st_take hT rfl rfl rfl rfl (Sx.x_move hT rfl rfl) ?_
                              clear hT; intro a hT
                              refine Sx.st_call hT rfl rfl rfl rfl rfl Tryd.can18 rfl (Pairs_calls _ _ _ _ (allQ (qaf q []) [] l).1 _ ((H.row 3 rfl).ssn rfl) ((H.row 4 rfl).ssn rfl) (by omega)) ?_
                              rintro _ w23 ⟨rfl, E⟩
                              refine ⟨_, rfl, ?_⟩
                              clear hT; intro a hT
                              replace H := H.pure E; clear E
                              refine Sx.st_take hT rfl rfl rfl rfl (Sx.x_pick_t hT rfl rfl rfl) ?_
                              clear hT; intro a hT
                              refine Sx.st_take hT rfl rfl rfl rfl (Sx.x_assign hT rfl rfl) ?_
                              clear hT; intro a hT
                              replace hT := hT.keep [4, 147, 18, 143, 17, 16, 108, 15, 14, 102, 8, 97, 13, 12, 11, 68, 10, 9, 44, 7, 34, 6, 5, 24, 20, 3, 0, 1] rfl
                              refine Sx.ser_nil ?_
                              refine Sx.then_normal (hK70 _ _ ?_)
                              clear hK70
                              refine wp_ret ?_
                              refine Sx.done1 (fn := Tryd.f5) hT rfl (.tmp (hT.get 4 _ rfl)) ?_
                              exact ⟨rfl, H.ext⟩
                  · exfalso
                    try simp only [decide_eq_true_eq, decide_eq_false_iff_not, Bool.not_eq_true', Bool.not_eq_false', Bool.not_eq_true, Bool.not_eq_false, Bool.and_eq_true, Bool.or_eq_false_iff, beq_iff_eq, bne_iff_ne, Int.not_lt, Int.not_le, ne_eq] at hc42
                    simp at hc42
          · skip
            obtain ⟨x, hx⟩ : ∃ o, (allQ (qaf q []) [] l).1[j + q.most.toNat - 1]? = some o := ⟨_, List.getElem?_eq_getElem (by omega)⟩
            have hxm := all_key hz hkey hx
            rw [run_page (q := (qaf q [])) rfl hz hkey hj hm hx hmost.1] at hT H hn5
            dsimp only at hT H hn5
            rw [show (qaf q []).most = q.most from rfl] at hT H hn5
            have hp9 : (((allQ (qaf q []) [] l).1.drop j).take q.most.toNat).length = q.most.toNat := by rw [List.length_take, List.length_drop, Nat.min_eq_left (by omega)]
            rw [hp9] at hT H hn5
            -- region 20 (law.go:132)
            refine Sx.wp_text [(0, .take), (1, .take), (2, .take), (3, .take), (4, .take), (5, .take), (6, .run), (7, .take), (8, .take), (9, .take), (10, .take), (11, .take), (12, .take), (13, .take), (14, .take), (15, .take), (16, .run), (17, .take), (18, .take), (19, .take)] rfl ?_
            refine Sx.st_take hT rfl rfl rfl rfl (Sx.x_move hT rfl rfl) ?_
            clear hT; intro a hT
            refine Sx.st_take hT rfl rfl rfl rfl ((fun w => Sx.x_ne w hT rfl rfl rfl)) ?_
            clear hT; intro a hT
            refine Sx.st_take hT rfl rfl rfl rfl (Sx.x_move hT rfl rfl) ?_
            clear hT; intro a hT
            -- guard (20, 2)
            refine Sx.Sl.two hT 80 rfl (fun hc71 hT => ?_) (fun hc71 hT => ?_)
            · exfalso
              try simp only [decide_eq_true_eq, decide_eq_false_iff_not, Bool.not_eq_true', Bool.not_eq_false', Bool.not_eq_true, Bool.not_eq_false, Bool.and_eq_true, Bool.or_eq_false_iff, beq_iff_eq, bne_iff_ne, Int.not_lt, Int.not_le, ne_eq] at hc71
              first | (simp at hc71; done) | (simp at hc71; omega) | (simp only [List.length_take, List.length_drop] at hc71; omega)
            · try simp only [decide_eq_true_eq, decide_eq_false_iff_not, Bool.not_eq_true', Bool.not_eq_false', Bool.not_eq_true, Bool.not_eq_false, Bool.and_eq_true, Bool.or_eq_false_iff, beq_iff_eq, bne_iff_ne, Int.not_lt, Int.not_le, ne_eq] at hc71
              refine Sx.st_take hT rfl rfl rfl rfl (Sx.x_move hT rfl rfl) ?_
              clear hT; intro a hT
              refine Sx.st_take hT rfl rfl rfl rfl (Sx.x_len_slice hT rfl rfl Tryd.underlying22 rfl) ?_
              clear hT; intro a hT
              refine Sx.st_take hT rfl rfl rfl rfl (Sx.x_fieldAddr hT rfl Tryd.fa27_6 rfl) ?_
              clear hT; intro a hT
              refine Sx.st_run hT rfl rfl rfl rfl (Sx.x_load1 hT rfl Tryd.fl3 rfl ((H.blk 4 rfl).nth rfl)) ?_
              clear hT; intro a hT
              refine Sx.st_take hT rfl rfl rfl rfl ((fun w => Sx.x_gt w hT rfl rfl rfl)) ?_
              clear hT; intro a hT
              refine Sx.st_take hT rfl rfl rfl rfl (Sx.x_pick_f hT rfl rfl rfl) ?_
              clear hT; intro a hT
              refine Sx.st_take hT rfl rfl rfl rfl (Sx.x_move hT rfl rfl) ?_
              clear hT; intro a hT
              -- guard (20, 9)
              refine Sx.Sl.two hT 87 rfl (fun hc72 hT => ?_) (fun hc72 hT => ?_)
              · exfalso
                try simp only [decide_eq_true_eq, decide_eq_false_iff_not, Bool.not_eq_true', Bool.not_eq_false', Bool.not_eq_true, Bool.not_eq_false, Bool.and_eq_true, Bool.or_eq_false_iff, beq_iff_eq, bne_iff_ne, Int.not_lt, Int.not_le, ne_eq] at hc72
                first | (simp at hc72; done) | (simp at hc72; omega) | (simp only [List.length_take, List.length_drop] at hc72; omega)
              · try simp only [decide_eq_true_eq, decide_eq_false_iff_not, Bool.not_eq_true', Bool.not_eq_false', Bool.not_eq_true, Bool.not_eq_false, Bool.and_eq_true, Bool.or_eq_false_iff, beq_iff_eq, bne_iff_ne, Int.not_lt, Int.not_le, ne_eq] at hc72
                refine Sx.st_take hT rfl rfl rfl rfl (Sx.x_move hT rfl rfl) ?_
                clear hT; intro a hT
                refine Sx.st_take hT rfl rfl rfl rfl ((fun w => Sx.x_strne w hT rfl rfl rfl)) ?_
                clear hT; intro a hT
                refine Sx.st_take hT rfl rfl rfl rfl (Sx.x_move hT rfl rfl) ?_
                clear hT; intro a hT
                -- guard (20, 12)
                refine Sx.Sl.two hT 90 rfl (fun hc73 hT => ?_) (fun hc73 hT => ?_)
                · try simp only [decide_eq_true_eq, decide_eq_false_iff_not, Bool.not_eq_true', Bool.not_eq_false', Bool.not_eq_true, Bool.not_eq_false, Bool.and_eq_true, Bool.or_eq_false_iff, beq_iff_eq, bne_iff_ne, Int.not_lt, Int.not_le, ne_eq] at hc73
                  refine Sx.st_take hT rfl rfl rfl rfl (Sx.x_move hT rfl rfl) ?_
                  clear hT; intro a hT
                  refine Sx.st_take hT rfl rfl rfl rfl (Sx.x_len_slice hT rfl rfl Tryd.underlying22 rfl) ?_
                  clear hT; intro a hT
                  refine Sx.st_take hT rfl rfl rfl rfl (Sx.x_fieldAddr hT rfl Tryd.fa27_6 rfl) ?_
                  clear hT; intro a hT
                  refine Sx.st_run hT rfl rfl rfl rfl (Sx.x_load1 hT rfl Tryd.fl3 rfl ((H.blk 4 rfl).nth rfl)) ?_
                  clear hT; intro a hT
                  refine Sx.st_take hT rfl rfl rfl rfl ((fun w => Sx.x_lt w hT rfl rfl rfl)) ?_
                  clear hT; intro a hT
                  refine Sx.st_take hT rfl rfl rfl rfl (Sx.x_pick_t hT rfl rfl rfl) ?_
                  clear hT; intro a hT
                  refine Sx.st_take hT rfl rfl rfl rfl (Sx.x_pick_f hT rfl rfl rfl) ?_
                  clear hT; intro a hT
                  replace hT := hT.keep [97, 13, 12, 11, 68, 10, 8, 9, 44, 7, 34, 6, 5, 24, 20, 3, 0, 1] rfl
                  refine Sx.ser_nil ?_
                  refine Sx.then_normal (hK35 _ _ ?_)
                  clear hK35
                  -- cond 6
                  refine Sx.wp_if hT rfl (fun hc74 => ?_) (fun hc74 => ?_)
                  · exfalso
                    try simp only [decide_eq_true_eq, decide_eq_false_iff_not, Bool.not_eq_true', Bool.not_eq_false', Bool.not_eq_true, Bool.not_eq_false, Bool.and_eq_true, Bool.or_eq_false_iff, beq_iff_eq, bne_iff_ne, Int.not_lt, Int.not_le, ne_eq] at hc74
                    first | (simp at hc74; done) | (simp at hc74; omega) | (simp only [List.length_take, List.length_drop] at hc74; omega)
                  · try simp only [decide_eq_true_eq, decide_eq_false_iff_not, Bool.not_eq_true', Bool.not_eq_false', Bool.not_eq_true, Bool.not_eq_false, Bool.and_eq_true, Bool.or_eq_false_iff, beq_iff_eq, bne_iff_ne, Int.not_lt, Int.not_le, ne_eq] at hc74
                    refine wp_skip ?_
                    refine Sx.then_normal (hK34 _ _ ?_)
                    clear hK34
                    refine wp_seq_k fun K75 hK75 => ?_
                    -- region 22 (law.go:135)
                    have b1 := List.length_take_le' j (allQ (qaf q []) [] l).1
                    have b2 := List.length_drop (i := j) (l := (allQ (qaf q []) [] l).1)
                    have b3 := List.length_take_le' q.most.toNat ((allQ (qaf q []) [] l).1.drop j)
                    refine Sx.wp_text [(0, .take), (1, .take), (2, .run), (3, .take)] rfl ?_
                    refine Sx.st_take hT rfl rfl rfl rfl (Sx.x_move hT rfl rfl) ?_
                    clear hT; intro a hT
                    refine Sx.st_take hT rfl rfl rfl rfl (Sx.x_move hT rfl rfl) ?_
                    clear hT; intro a hT
                    refine Sx.st_eff hT rfl rfl rfl rfl (Sx.x_append hT rfl rfl Tryd.underlying22 Tryd.ti45 rfl (by decide) rfl rfl (H.row 2 rfl) ((H.wr 0 rfl).sv) (flat_one Pair.one _) hn5 (by unfold maxLen; omega) (by omega)) ?_
                    rintro _ w24 ⟨ad24, c24, rfl, hr, E, hown, -⟩
                    clear hT; intro a hT
                    replace H := H.setR 2 rfl hr E hown rfl; clear hr E hown
                    rw [(tk_more (A := (allQ (qaf q []) [] l).1) (j := j) (m := q.most.toNat) hp9).1] at hT H
                    rw [(tk_more (A := (allQ (qaf q []) [] l).1) (j := j) (m := q.most.toNat) hp9).2] at H
                    refine Sx.st_take hT rfl rfl rfl rfl (Sx.x_assign hT rfl rfl) ?_
                    clear hT; intro a hT
                    replace hT := hT.keep [8, 97, 13, 12, 11, 68, 10, 9, 44, 7, 34, 6, 5, 24, 20, 3, 0, 1] rfl
                    refine Sx.ser_nil ?_
                    refine Sx.then_normal (hK75 _ _ ?_)
                    clear hK75
                    refine wp_seq_k fun K76 hK76 => ?_
                    refine wp_seq_k fun K77 hK77 => ?_
                    -- region 23 (law.go:136)
                    refine Sx.wp_text [(0, .take), (1, .take)] rfl ?_
                    refine Sx.st_take hT rfl rfl rfl rfl (Sx.x_move hT rfl rfl) ?_
                    clear hT; intro a hT
                    refine Sx.st_take hT rfl rfl rfl rfl ((fun w => Sx.x_streq w hT rfl rfl rfl)) ?_
                    clear hT; intro a hT
                    replace hT := hT.keep [102, 8, 97, 13, 12, 11, 68, 10, 9, 44, 7, 34, 6, 5, 24, 20, 3, 0, 1] rfl
                    refine Sx.ser_nil ?_
                    refine Sx.then_normal (hK77 _ _ ?_)
                    clear hK77
                    -- cond 7
                    refine Sx.wp_if hT rfl (fun hc78 => ?_) (fun hc78 => ?_)
                    · exfalso
                      try simp only [decide_eq_true_eq, decide_eq_false_iff_not, Bool.not_eq_true', Bool.not_eq_false', Bool.not_eq_true, Bool.not_eq_false, Bool.and_eq_true, Bool.or_eq_false_iff, beq_iff_eq, bne_iff_ne, Int.not_lt, Int.not_le, ne_eq] at hc78
                      exact hxm.1 hc78
                    · try simp only [decide_eq_true_eq, decide_eq_false_iff_not, Bool.not_eq_true', Bool.not_eq_false', Bool.not_eq_true, Bool.not_eq_false, Bool.and_eq_true, Bool.or_eq_false_iff, beq_iff_eq, bne_iff_ne, Int.not_lt, Int.not_le, ne_eq] at hc78
                      refine wp_skip ?_
                      refine Sx.then_normal (hK76 _ _ ?_)
                      clear hK76
                      -- region 24 (law.go:139)
                      refine Sx.wp_text [(0, .take), (1, .take), (2, .run)] rfl ?_
                      refine Sx.st_take hT rfl rfl rfl rfl (Sx.x_move hT rfl rfl) ?_
                      clear hT; intro a hT
                      refine Sx.st_take hT rfl rfl rfl rfl (Sx.x_fieldAddr hT rfl Tryd.fa27_7 rfl) ?_
                      clear hT; intro a hT
                      refine Sx.st_act hT rfl rfl rfl (Sx.y_store1 hT rfl Tryd.ti9 rfl rfl rfl (H.blk 1 rfl) rfl) ?_
                      rintro w25 ⟨hb, E, _⟩
                      replace H := H.setB 1 rfl hb E rfl; clear hb E
                      replace hT := hT.keep [102, 8, 97, 13, 12, 11, 68, 10, 9, 44, 7, 34, 6, 5, 24, 20, 3, 0, 1] rfl
                      refine Sx.ser_nil ?_
                      refine Sx.block_normal ?_
                      refine Sx.then_normal (hK32 _ _ ?_)
                      clear hK32
                      -- region 18 (law.go:130)
                      refine Sx.wp_text [(0, .take), (1, .take), (2, .take)] rfl ?_
                      refine Sx.st_take hT rfl rfl rfl rfl (Sx.x_move hT rfl rfl) ?_
                      clear hT; intro a hT
                      refine Sx.st_take hT rfl rfl rfl rfl ((fun w => Sx.x_add w hT rfl rfl rfl (Sx.wrap64 (by omega)))) ?_
                      clear hT; intro a hT
                      refine Sx.st_take hT rfl rfl rfl rfl (Sx.x_assign hT rfl rfl) ?_
                      clear hT; intro a hT
                      replace hT := hT.keep [10, 102, 8, 97, 13, 12, 11, 68, 9, 44, 7, 34, 6, 5, 24, 20, 3, 0, 1] rfl
                      refine Sx.ser_nil ?_
                      refine Sx.then_normal ?_
                      have ek : x.key = (qpg (qaf q []) (allQ (qaf q []) [] l).1 (j + q.most.toNat)).after := by rw [pg_next hx (by omega)]; rfl
                      rw [ek] at H
                      exact ⟨(i + 1, j + q.most.toNat, ad24, c24), ⟨by show i + 1 ≤ j + _; omega, by show j + _ ≤ _; omega⟩, (hT.keep [10, 8, 9, 44, 7, 34, 6, 5, 24, 20, 3, 0, 1] rfl), (H.keep [1, 2, 3, 4] rfl rfl), by show _ - (i + 1) < _ - i; omega⟩
                · exfalso
                  try simp only [decide_eq_true_eq, decide_eq_false_iff_not, Bool.not_eq_true', Bool.not_eq_false', Bool.not_eq_true, Bool.not_eq_false, Bool.and_eq_true, Bool.or_eq_false_iff, beq_iff_eq, bne_iff_ne, Int.not_lt, Int.not_le, ne_eq] at hc73
                  exact hxm.1 hc73
        · exfalso
          try simp only [decide_eq_true_eq, decide_eq_false_iff_not, Bool.not_eq_true', Bool.not_eq_false', Bool.not_eq_true, Bool.not_eq_false, Bool.and_eq_true, Bool.or_eq_false_iff, beq_iff_eq, bne_iff_ne, Int.not_lt, Int.not_le, ne_eq] at hc31
          omega

end Go.Proofs.YtainemoobhkeiaaDoor
