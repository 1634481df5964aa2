/- Walks: all pairs that match, a page of them; lists of pairs held against each other. -/
import Derived.Test.YtainemoobhkeiaaDoorW5
import Derived.Test.YtainemoobhkeiaaDoorN5
set_option linter.unusedSimpArgs false
set_option linter.unusedVariables false
namespace Go.Proofs.YtainemoobhkeiaaDoor
open Sx
theorem Tryd.can26 : Sx.Can Tryd.prog 26 := ⟨_, Tryd.func26, by kernel_rfl, rfl⟩
theorem Tryd.can43 : Sx.Can Tryd.prog 43 := ⟨_, Tryd.func43, by kernel_rfl, rfl⟩
theorem Pair.one (p : Pair) : ∀ u ∈ p.cells, u.oneCell' = true := by
  intro u hu
  simp only [Pair.cells, List.mem_cons, List.not_mem_nil, or_false] at hu
  rcases hu with rfl | rfl | rfl | rfl <;> rfl

theorem Rev_calls {S : Nat → Prop} (ad : Option Addr) (c : Nat) (xs : List Pair) (w : World) (H : Hp w S w [cR 45 4 ad xs.length c (xs.flatMap Pair.cells)]) (hl : xs.length ≤ 1000000) : Calls Tryd.prog 43 #[.slice ad xs.length c] w fun e w' => e = .returned (.tuple #[]) ∧ Hp w S w' [cR 45 4 ad xs.length c (xs.reverse.flatMap Pair.cells)] := by
  refine Sx.calls_into Tryd.func43 rfl Tryd.ntmps43 rfl fun a hT => ?_
  replace hT := hT.keep [0] rfl
  refine wp_seq_k fun K1 hK1 => ?_
  -- region 0 (slices.go:484)
  refine Sx.wp_text [(0, .take), (1, .take), (2, .take), (3, .take), (4, .take)] rfl ?_
  refine Sx.st_take hT rfl rfl rfl rfl (Sx.x_move hT rfl rfl) ?_
  clear hT; intro a hT
  refine Sx.st_take hT rfl rfl rfl rfl (Sx.x_len_slice hT rfl rfl Tryd.underlying22 rfl) ?_
  clear hT; intro a hT
  refine Sx.st_take hT rfl rfl rfl rfl ((fun w => Sx.x_sub w hT rfl rfl rfl (Sx.wrap64 (by omega)))) ?_
  clear hT; intro a hT
  refine Sx.st_take hT rfl rfl rfl rfl (Sx.x_assign hT rfl rfl) ?_
  clear hT; intro a hT
  refine Sx.st_take hT rfl rfl rfl rfl (Sx.x_assign hT rfl rfl) ?_
  clear hT; intro a hT
  replace hT := hT.keep [3, 2, 0] rfl
  refine Sx.ser_nil ?_
  refine Sx.then_normal (hK1 _ _ ?_)
  clear hK1
  refine wp_block ?_
  rw [show (xs.length : Int) - 1 = (xs.length : Int) - 1 - ((0 : Nat) : Int) from by omega] at hT
  -- loop 0
  refine Sx.wp_loopH (G := Nat × List Pair) (fun ⟨k, ys⟩ => [(2, .int .i64 (k : Int)), (3, .int .i64 ((xs.length : Int) - 1 - k))]) (fun ⟨k, ys⟩ => [cR 45 4 ad xs.length c (ys.flatMap Pair.cells)]) (fun ⟨k, ys⟩ => half xs ys k ∧ 2 * k ≤ xs.length + 1) (fun ⟨k, ys⟩ => xs.length - k) (0, xs) (hT.keep [2, 3, 0] rfl) (H.keep [0] rfl rfl) (⟨half_start xs, by omega⟩) ?_
  clear hT H
  rintro ⟨k, ys⟩ a w1 hJ hT H
  replace hT := hT.keep [2, 3, 0] rfl
  replace H := H.keep [0] rfl rfl
  obtain ⟨hh, hk⟩ := hJ
  have hy : xs.length = ys.length := hh.1.symm
  refine wp_seq_k fun K2 hK2 => ?_
  refine wp_seq_k fun K3 hK3 => ?_
  -- region 1 (slices.go:484)
  refine Sx.wp_text [(0, .take), (1, .take), (2, .take)] rfl ?_
  refine Sx.st_take hT rfl rfl rfl rfl (Sx.x_move hT rfl rfl) ?_
  clear hT; intro a hT
  refine Sx.st_take hT rfl rfl rfl rfl (Sx.x_move hT rfl rfl) ?_
  clear hT; intro a hT
  refine Sx.st_take hT rfl rfl rfl rfl ((fun w => Sx.x_lt w hT rfl rfl rfl)) ?_
  clear hT; intro a hT
  replace hT := hT.keep [9, 2, 3, 0] rfl
  refine Sx.ser_nil ?_
  refine Sx.then_normal (hK3 _ _ ?_)
  clear hK3
  -- cond 0
  refine Sx.wp_if hT rfl (fun hc4 => ?_) (fun hc4 => ?_)
  · try simp only [decide_eq_true_eq, decide_eq_false_iff_not, Bool.not_eq_true', Bool.not_eq_false', Bool.not_eq_true, Bool.not_eq_false, Bool.and_eq_true, Bool.or_eq_false_iff, beq_iff_eq, bne_iff_ne, Int.not_lt, Int.not_le, ne_eq] at hc4
    obtain ⟨a2, ha⟩ : ∃ o, ys[k]? = some o := ⟨_, List.getElem?_eq_getElem (by omega)⟩
    obtain ⟨b, hb⟩ : ∃ o, ys[xs.length - 1 - k]? = some o := ⟨_, List.getElem?_eq_getElem (by omega)⟩
    refine wp_skip ?_
    refine Sx.then_normal (hK2 _ _ ?_)
    clear hK2
    refine wp_seq_k fun K5 hK5 => ?_
    refine wp_block ?_
    -- region 3 (slices.go:485)
    refine Sx.wp_draws (fun u => Sx.Ext (Sx.No) u) [(0, .take), (1, .take), (2, .take), (3, .take), (4, .take), (5, .take), (6, .take), (7, .held), (8, .take), (9, .take), (10, .take), (11, .held), (12, .take), (13, .run), (14, .take), (15, .run)] (by kernel_rfl) (by kernel_rfl) (fun u E _ => ?_)
    replace H := H.pure E; clear E
    have hH : Sx.Ext (Sx.No) u u := Sx.Ext.refl _ _
    have Hu := H
    refine Sx.st_take hT rfl rfl rfl rfl (Sx.x_move hT rfl rfl) ?_
    clear hT; intro a hT
    refine Sx.st_take hT rfl rfl rfl rfl (Sx.x_move hT rfl rfl) ?_
    clear hT; intro a hT
    refine Sx.st_take hT rfl rfl rfl rfl (Sx.x_move hT rfl rfl) ?_
    clear hT; intro a hT
    refine Sx.st_take hT rfl rfl rfl rfl (Sx.x_move hT rfl rfl) ?_
    clear hT; intro a hT
    refine Sx.st_take hT rfl rfl rfl rfl (Sx.x_move hT rfl rfl) ?_
    clear hT; intro a hT
    refine Sx.st_take hT rfl rfl rfl rfl (Sx.x_move hT rfl rfl) ?_
    clear hT; intro a hT
    refine Sx.st_take hT rfl rfl rfl rfl (Sx.x_index (k := xs.length - 1 - k) hT rfl Tryd.underlying22 Tryd.ti45 (H.row 0 rfl).sv rfl rfl (by first | rfl | omega) (by omega)) ?_
    clear hT; intro a hT
    refine Sx.st_held hT rfl rfl rfl rfl hH (fun w' h' => Sx.y_loadS hT rfl Tryd.underlying45 Tryd.ti45 rfl (by first | exact (((Hu.heldR 0 rfl h' Sx.off_No).ssn hy).cs Pair.len ha) | exact (((Hu.heldR 0 rfl h' Sx.off_No).ssn hy).cs Pair.len hb)) (by rfl)) ?_
    clear hT; intro a hT
    refine Sx.st_take hT rfl rfl rfl rfl (Sx.x_move hT rfl rfl) ?_
    clear hT; intro a hT
    refine Sx.st_take hT rfl rfl rfl rfl (Sx.x_move hT rfl rfl) ?_
    clear hT; intro a hT
    refine Sx.st_take hT rfl rfl rfl rfl (Sx.x_index (k := k) hT rfl Tryd.underlying22 Tryd.ti45 (H.row 0 rfl).sv rfl rfl (by first | rfl | omega) (by omega)) ?_
    clear hT; intro a hT
    refine Sx.st_held hT rfl rfl rfl rfl hH (fun w' h' => Sx.y_loadS hT rfl Tryd.underlying45 Tryd.ti45 rfl (by first | exact (((Hu.heldR 0 rfl h' Sx.off_No).ssn hy).cs Pair.len ha) | exact (((Hu.heldR 0 rfl h' Sx.off_No).ssn hy).cs Pair.len hb)) (by rfl)) ?_
    clear hT; intro a hT
    refine Sx.st_take hT rfl rfl rfl rfl (Sx.x_index (k := k) hT rfl Tryd.underlying22 Tryd.ti45 (H.row 0 rfl).sv rfl rfl (by first | rfl | omega) (by omega)) ?_
    clear hT; intro a hT
    refine Sx.st_act hT rfl rfl rfl (Sx.x_storeRowS (k := k) (r := b) hT rfl Tryd.ti45 rfl rfl Pair.len Pair.one rfl (H.row 0 rfl) hy (by omega)) ?_
    rintro w2 ⟨hr, E, _⟩
    replace H := H.setR 0 rfl hr E (fun _ hk => .inl hk) rfl; clear hr E
    refine Sx.st_take hT rfl rfl rfl rfl (Sx.x_index (k := xs.length - 1 - k) hT rfl Tryd.underlying22 Tryd.ti45 (H.row 0 rfl).sv rfl rfl (by first | rfl | omega) (by omega)) ?_
    clear hT; intro a hT
    refine Sx.st_act hT rfl rfl rfl (Sx.x_storeRowS (k := xs.length - 1 - k) (r := a2) hT rfl Tryd.ti45 rfl rfl Pair.len Pair.one rfl (H.row 0 rfl) (by rw [List.length_set]; exact hy) (by omega)) ?_
    rintro w3 ⟨hr, E, _⟩
    replace H := H.setR 0 rfl hr E (fun _ hk => .inl hk) rfl; clear hr E
    replace hT := hT.keep [9, 2, 3, 0] rfl
    clear Hu hH
    refine Sx.ser_calm ?_
    refine Sx.block_normal ?_
    refine Sx.then_normal (hK5 _ _ ?_)
    clear hK5
    -- region 2 (slices.go:484)
    refine Sx.wp_text [(0, .take), (1, .take), (2, .take), (3, .take), (4, .take), (5, .take)] rfl ?_
    refine Sx.st_take hT rfl rfl rfl rfl (Sx.x_move hT rfl rfl) ?_
    clear hT; intro a hT
    refine Sx.st_take hT rfl rfl rfl rfl ((fun w => Sx.x_add w hT rfl rfl rfl (Sx.wrap64 (by omega)))) ?_
    clear hT; intro a hT
    refine Sx.st_take hT rfl rfl rfl rfl (Sx.x_move hT rfl rfl) ?_
    clear hT; intro a hT
    refine Sx.st_take hT rfl rfl rfl rfl ((fun w => Sx.x_sub w hT rfl rfl rfl (Sx.wrap64 (by omega)))) ?_
    clear hT; intro a hT
    refine Sx.st_take hT rfl rfl rfl rfl (Sx.x_assign hT rfl rfl) ?_
    clear hT; intro a hT
    refine Sx.st_take hT rfl rfl rfl rfl (Sx.x_assign hT rfl rfl) ?_
    clear hT; intro a hT
    replace hT := hT.keep [3, 2, 9, 0] rfl
    refine Sx.ser_nil ?_
    refine Sx.then_normal ?_
    exact ⟨(k + 1, (ys.set k b).set (xs.length - 1 - k) a2), ⟨half_step hh (by omega) ha hb, by show 2 * (k + 1) ≤ _; omega⟩, ((hT.keep [2, 3, 0] rfl).conv (by rw [show (xs.length : Int) - 1 - k - 1 = (xs.length : Int) - 1 - ((k + 1 : Nat) : Int) from by omega]; rfl)), (H.keep [0] rfl rfl), by show _ - (k + 1) < _ - k; omega⟩
  · try simp only [decide_eq_true_eq, decide_eq_false_iff_not, Bool.not_eq_true', Bool.not_eq_false', Bool.not_eq_true, Bool.not_eq_false, Bool.and_eq_true, Bool.or_eq_false_iff, beq_iff_eq, bne_iff_ne, Int.not_lt, Int.not_le, ne_eq] at hc4
    have he := half_end hh (by omega)
    subst he
    refine wp_exit ?_
    refine Sx.then_exit ?_
    refine Sx.then_exit ?_
    refine Sx.block_exit ?_
    refine Sx.done_end ?_
    refine Sx.done0 (fn := Tryd.f43) hT rfl  ?_
    exact ⟨rfl, (H.keep [0] rfl rfl)⟩

theorem all_calls (ad : Option Addr) (c : Nat) (l : List Pair) (q : Query) (after : List UInt8) (w : World) (hs : Ss w ad Pair.cells 4 l) (hl : l.length ≤ 1000) : Calls Tryd.prog 26 #[.slice ad l.length c, .agg #[.string ⟨q.fr.toArray⟩, .string ⟨q.to.toArray⟩, .int .i64 q.kind, .int .i64 q.lo.kind, .float .f64 q.lo.num, .string ⟨q.lo.text.toArray⟩, .int .i64 q.hi.kind, .float .f64 q.hi.num, .string ⟨q.hi.text.toArray⟩, .bool q.back, .int .i64 q.most, .string ⟨q.after.toArray⟩], .string ⟨after.toArray⟩] w fun e w' => ∃ ad' c', e = .returned (.tuple #[.slice ad' (allQ q after l).1.length c', .int .i64 (allQ q after l).2]) ∧ Hp w No w' [cR 45 4 ad' (allQ q after l).1.length c' ((allQ q after l).1.flatMap Pair.cells)] := by
  have R : Ro w No _ := Ro.of fun w' x => hs.ext_no x
  refine Sx.calls_into Tryd.func26 rfl Tryd.ntmps26 rfl fun a hT => ?_
  replace hT := hT.keep [0, 1, 2] rfl
  have H : Sx.Hp w (Sx.No) w [] := Sx.Hp.start _ _
  refine wp_seq_k fun K1 hK1 => ?_
  -- region 0 (scan.go:54)
  refine Sx.wp_text [(0, .run), (1, .take), (2, .take)] rfl ?_
  refine Sx.st_eff hT rfl rfl rfl rfl (Sx.y_box hT rfl rfl rfl _) ?_
  clear hT; rintro _ w1 ⟨b1, rfl, N⟩ a hT
  replace H := H.new N; clear N
  refine Sx.st_take hT rfl rfl rfl rfl (Sx.x_assign hT rfl rfl) ?_
  clear hT; intro a hT
  refine Sx.st_take hT rfl rfl rfl rfl (Sx.x_assign hT rfl rfl) ?_
  clear hT; intro a hT
  replace hT := hT.keep [7, 6, 4, 0, 1, 2] rfl
  refine Sx.ser_nil ?_
  refine Sx.then_normal (hK1 _ _ ?_)
  clear hK1
  refine wp_seq_k fun K2 hK2 => ?_
  refine wp_seq_k fun K3 hK3 => ?_
  -- region 1 (scan.go:55)
  refine Sx.wp_text [(0, .run), (1, .run), (2, .take)] rfl ?_
  refine Sx.st_run hT rfl rfl rfl rfl (Sx.y_loadS hT rfl Tryd.underlying27 Tryd.ti27 rfl ((H.blk 0 rfl).seg (k := 12) rfl) (by rfl)) ?_
  clear hT; intro a hT
  refine Sx.st_call hT rfl rfl rfl rfl rfl Tryd.can16 rfl (Check_calls _ _) ?_
  rintro _ w2 ⟨rfl, E⟩
  refine ⟨_, rfl, ?_⟩
  clear hT; intro a hT
  replace H := H.pure E; clear E
  refine Sx.st_take hT rfl rfl rfl rfl (Sx.x_assign hT rfl rfl) ?_
  clear hT; intro a hT
  replace hT := hT.keep [8, 7, 6, 4, 0, 1, 2] rfl
  refine Sx.ser_nil ?_
  refine Sx.then_normal (hK3 _ _ ?_)
  clear hK3
  refine wp_seq_k fun K4 hK4 => ?_
  -- region 2 (scan.go:55)
  refine Sx.wp_text [(0, .take), (1, .take)] rfl ?_
  refine Sx.st_take hT rfl rfl rfl rfl (Sx.x_move hT rfl rfl) ?_
  clear hT; intro a hT
  refine Sx.st_take hT rfl rfl rfl rfl ((fun w => Sx.x_ne w hT rfl rfl rfl)) ?_
  clear hT; intro a hT
  replace hT := hT.keep [16, 8, 7, 6, 4, 0, 1, 2] rfl
  refine Sx.ser_nil ?_
  refine Sx.then_normal (hK4 _ _ ?_)
  clear hK4
  -- cond 0
  refine Sx.wp_if hT rfl (fun hc5 => ?_) (fun hc5 => ?_)
  · try simp only [decide_eq_true_eq, decide_eq_false_iff_not, Bool.not_eq_true', Bool.not_eq_false', Bool.not_eq_true, Bool.not_eq_false, Bool.and_eq_true, Bool.or_eq_false_iff, beq_iff_eq, bne_iff_ne, Int.not_lt, Int.not_le, ne_eq] at hc5
    refine wp_seq_k fun K6 hK6 => ?_
    -- region 3 (scan.go:56)
    refine Sx.wp_text [(0, .take), (1, .take), (2, .take)] rfl ?_
    refine Sx.st_take hT rfl rfl rfl rfl (Sx.x_move hT rfl rfl) ?_
    clear hT; intro a hT
    refine Sx.st_take hT rfl rfl rfl rfl (Sx.x_assign hT rfl rfl) ?_
    clear hT; intro a hT
    refine Sx.st_take hT rfl rfl rfl rfl (Sx.x_assign hT rfl rfl) ?_
    clear hT; intro a hT
    replace hT := hT.keep [7, 6, 16, 8, 4, 0, 1, 2] rfl
    refine Sx.ser_nil ?_
    refine Sx.then_normal (hK6 _ _ ?_)
    clear hK6
    refine wp_ret ?_
    refine Sx.then_ret ?_
    refine Sx.done2 (fn := Tryd.f26) hT rfl (.tmp (hT.get 6 _ rfl)) (.tmp (hT.get 7 _ rfl)) ?_
    rw [all_bad (by assumption)]
    exact ⟨none, 0, rfl, (H.nilR 45 4).keep [0] rfl rfl⟩
  · try simp only [decide_eq_true_eq, decide_eq_false_iff_not, Bool.not_eq_true', Bool.not_eq_false', Bool.not_eq_true, Bool.not_eq_false, Bool.and_eq_true, Bool.or_eq_false_iff, beq_iff_eq, bne_iff_ne, Int.not_lt, Int.not_le, ne_eq] at hc5
    have hc9 := hc5
    refine wp_skip ?_
    refine Sx.then_normal (hK2 _ _ ?_)
    clear hK2
    refine wp_seq_k fun K7 hK7 => ?_
    -- region 4 (scan.go:58)
    refine Sx.wp_text [(0, .take)] rfl ?_
    refine Sx.st_take hT rfl rfl rfl rfl (Sx.x_assign hT rfl rfl) ?_
    clear hT; intro a hT
    replace hT := hT.keep [9, 16, 8, 7, 6, 4, 0, 1, 2] rfl
    refine Sx.ser_nil ?_
    refine Sx.then_normal (hK7 _ _ ?_)
    clear hK7
    refine wp_seq_k fun K8 hK8 => ?_
    refine wp_seq_k fun K9 hK9 => ?_
    -- region 5 (scan.go:59)
    refine Sx.wp_text [(0, .take), (1, .take), (2, .take)] rfl ?_
    refine Sx.st_take hT rfl rfl rfl rfl (Sx.x_move hT rfl rfl) ?_
    clear hT; intro a hT
    refine Sx.st_take hT rfl rfl rfl rfl (Sx.x_len_slice hT rfl rfl Tryd.underlying22 rfl) ?_
    clear hT; intro a hT
    refine Sx.st_take hT rfl rfl rfl rfl (Sx.x_move hT rfl rfl) ?_
    clear hT; intro a hT
    replace hT := hT.keep [20, 19, 18, 9, 16, 8, 7, 6, 4, 0, 1, 2] rfl
    refine Sx.ser_nil ?_
    refine Sx.then_normal (hK9 _ _ ?_)
    clear hK9
    refine wp_block ?_
    replace H := H.nilR 45 4
    -- loop 0
    refine Sx.wp_loopH (G := Nat × Option Addr × Nat) (fun ⟨k, ad2, c2⟩ => [(20, .int .i64 (k : Int)), (9, .slice ad2 (pickQ q after (l.take k)).length c2)]) (fun ⟨k, ad2, c2⟩ => [cR 45 4 ad2 (pickQ q after (l.take k)).length c2 ((pickQ q after (l.take k)).flatMap Pair.cells)]) (fun ⟨k, ad2, c2⟩ => k ≤ l.length ∧ upTo l (k - 1) = true) (fun ⟨k, ad2, c2⟩ => l.length - k) (0, none, 0) (hT.keep [20, 9, 19, 18, 16, 8, 4, 0, 1, 2] rfl) (H.keep [0, 1] rfl rfl) (⟨Nat.zero_le _, rfl⟩) ?_
    clear hT H
    rintro ⟨k, ad2, c2⟩ a w3 hJ hT H
    replace hT := hT.keep [20, 9, 19, 18, 16, 8, 4, 0, 1, 2] rfl
    replace H := H.keep [0, 1] rfl rfl
    obtain ⟨hk, hu⟩ := hJ
    have hpl := pick_len q after l k
    refine wp_seq_k fun K10 hK10 => ?_
    -- region 6 (scan.go:59)
    refine Sx.wp_text [(0, .take)] rfl ?_
    refine Sx.st_take hT rfl rfl rfl rfl ((fun w => Sx.x_lt w hT rfl rfl rfl)) ?_
    clear hT; intro a hT
    replace hT := hT.keep [21, 20, 9, 19, 18, 16, 8, 4, 0, 1, 2] rfl
    refine Sx.ser_nil ?_
    refine Sx.then_normal (hK10 _ _ ?_)
    clear hK10
    refine wp_seq_k fun K11 hK11 => ?_
    -- cond 1
    refine Sx.wp_if hT rfl (fun hc12 => ?_) (fun hc12 => ?_)
    · try simp only [decide_eq_true_eq, decide_eq_false_iff_not, Bool.not_eq_true', Bool.not_eq_false', Bool.not_eq_true, Bool.not_eq_false, Bool.and_eq_true, Bool.or_eq_false_iff, beq_iff_eq, bne_iff_ne, Int.not_lt, Int.not_le, ne_eq] at hc12
      obtain ⟨o, ho⟩ : ∃ o, l[k]? = some o := ⟨_, List.getElem?_eq_getElem (by omega)⟩
      refine wp_skip ?_
      refine Sx.then_normal (hK11 _ _ ?_)
      clear hK11
      refine wp_seq_k fun K13 hK13 => ?_
      refine wp_block ?_
      refine wp_seq_k fun K14 hK14 => ?_
      -- region 7 (scan.go:59)
      refine Sx.wp_text [(0, .take), (1, .take), (2, .run), (3, .run), (4, .take), (5, .run)] rfl ?_
      refine Sx.st_take hT rfl rfl rfl rfl (Sx.x_move hT rfl rfl) ?_
      clear hT; intro a hT
      refine Sx.st_take hT rfl rfl rfl rfl (Sx.x_index (k := k) hT rfl Tryd.underlying22 Tryd.ti45 (R.at H.ext).sv rfl rfl (by first | rfl | omega) (by omega)) ?_
      clear hT; intro a hT
      refine Sx.st_run hT rfl rfl rfl rfl (Sx.y_loadS hT rfl Tryd.underlying45 Tryd.ti45 rfl (by first | exact ((H.blk 1 rfl).seg (k := 4) rfl) | exact ((R.at H.ext).cs Pair.len ho)) (by rfl)) ?_
      clear hT; intro a hT
      refine Sx.st_eff hT rfl rfl rfl rfl (Sx.y_alloc hT rfl Tryd.ti45 rfl _) ?_
      clear hT; rintro _ w4 ⟨b2, rfl, N⟩ a hT
      replace H := H.new N; clear N
      refine Sx.st_take hT rfl rfl rfl rfl (Sx.x_assign hT rfl rfl) ?_
      clear hT; intro a hT
      refine Sx.st_act hT rfl rfl rfl (Sx.y_storeS hT rfl Tryd.ti45 rfl rfl rfl rfl rfl (H.blk 0 rfl) rfl) ?_
      rintro w5 ⟨hb, E, _⟩
      replace H := H.setB 0 rfl hb E rfl; clear hb E
      replace hT := hT.keep [10, 11, 21, 20, 9, 19, 18, 16, 8, 4, 0, 1, 2] rfl
      refine Sx.ser_nil ?_
      refine Sx.then_normal (hK14 _ _ ?_)
      clear hK14
      refine wp_seq_k fun K15 hK15 => ?_
      refine wp_seq_k fun K16 hK16 => ?_
      -- region 8 (scan.go:60)
      refine Sx.wp_draws (fun u => Sx.Ext (Sx.No) u) [(0, .take), (1, .take), (2, .take), (3, .take), (4, .take), (5, .take), (6, .take), (7, .take), (8, .held), (9, .take), (10, .held), (11, .take), (12, .take)] (by kernel_rfl) (by kernel_rfl) (fun u E _ => ?_)
      replace H := H.pure E; clear E
      have hH : Sx.Ext (Sx.No) u u := Sx.Ext.refl _ _
      have Hu := H
      refine Sx.st_take hT rfl rfl rfl rfl (Sx.x_move hT rfl rfl) ?_
      clear hT; intro a hT
      refine Sx.st_take hT rfl rfl rfl rfl ((fun w => Sx.x_gt w hT rfl rfl rfl)) ?_
      clear hT; intro a hT
      refine Sx.st_take hT rfl rfl rfl rfl (Sx.x_move hT rfl rfl) ?_
      clear hT; intro a hT
      -- guard (8, 2)
      refine Sx.Sl.two hT 27 rfl (fun hc17 hT => ?_) (fun hc17 hT => ?_)
      · try simp only [decide_eq_true_eq, decide_eq_false_iff_not, Bool.not_eq_true', Bool.not_eq_false', Bool.not_eq_true, Bool.not_eq_false, Bool.and_eq_true, Bool.or_eq_false_iff, beq_iff_eq, bne_iff_ne, Int.not_lt, Int.not_le, ne_eq] at hc17
        obtain ⟨o2, ho2⟩ : ∃ o, l[k - 1]? = some o := ⟨_, List.getElem?_eq_getElem (by omega)⟩
        refine Sx.st_take hT rfl rfl rfl rfl (Sx.x_move hT rfl rfl) ?_
        clear hT; intro a hT
        refine Sx.st_take hT rfl rfl rfl rfl (Sx.x_move hT rfl rfl) ?_
        clear hT; intro a hT
        refine Sx.st_take hT rfl rfl rfl rfl ((fun w => Sx.x_sub w hT rfl rfl rfl (Sx.wrap64 (by omega)))) ?_
        clear hT; intro a hT
        refine Sx.st_take hT rfl rfl rfl rfl (Sx.x_index (k := k - 1) hT rfl Tryd.underlying22 Tryd.ti45 (R.at H.ext).sv rfl rfl (by first | rfl | omega) (by omega)) ?_
        clear hT; intro a hT
        refine Sx.st_take hT rfl rfl rfl rfl (Sx.x_fieldAddr hT rfl Tryd.fa45_0 rfl) ?_
        clear hT; intro a hT
        refine Sx.st_held hT rfl rfl rfl rfl hH (fun w' h' => Sx.x_load1 hT rfl Tryd.fl9 rfl (by first | exact ((Hu.heldB 0 rfl h' Sx.off_No).nth rfl) | exact ((Hu.heldB 2 rfl h' Sx.off_No).nth rfl) | exact ((R.at (Hu.ext.step h')).cell (j := 0) Pair.len ho2 rfl))) ?_
        clear hT; intro a hT
        refine Sx.st_take hT rfl rfl rfl rfl (Sx.x_fieldAddr hT rfl Tryd.fa45_0 rfl) ?_
        clear hT; intro a hT
        refine Sx.st_held hT rfl rfl rfl rfl hH (fun w' h' => Sx.x_load1 hT rfl Tryd.fl9 rfl ((Hu.heldB 0 rfl h' Sx.off_No).nth rfl)) ?_
        clear hT; intro a hT
        refine Sx.st_take hT rfl rfl rfl rfl ((fun w => Sx.x_strge w hT rfl rfl rfl)) ?_
        clear hT; intro a hT
        refine Sx.st_take hT rfl rfl rfl rfl (Sx.x_pick_t hT rfl rfl rfl) ?_
        clear hT; intro a hT
        replace hT := hT.keep [37, 10, 11, 21, 20, 9, 19, 18, 16, 8, 4, 0, 1, 2] rfl
        clear Hu hH
        refine Sx.ser_calm ?_
        refine Sx.then_normal (hK16 _ _ ?_)
        clear hK16
        -- cond 2
        refine Sx.wp_if hT rfl (fun hc18 => ?_) (fun hc18 => ?_)
        · try simp only [decide_eq_true_eq, decide_eq_false_iff_not, Bool.not_eq_true', Bool.not_eq_false', Bool.not_eq_true, Bool.not_eq_false, Bool.and_eq_true, Bool.or_eq_false_iff, beq_iff_eq, bne_iff_ne, Int.not_lt, Int.not_le, ne_eq] at hc18
          have hc2 := hc18
          refine wp_seq_k fun K19 hK19 => ?_
          -- region 9 (scan.go:61)
          refine Sx.wp_text [(0, .take), (1, .take)] rfl ?_
          refine Sx.st_take hT rfl rfl rfl rfl (Sx.x_assign hT rfl rfl) ?_
          clear hT; intro a hT
          refine Sx.st_take hT rfl rfl rfl rfl (Sx.x_assign hT rfl rfl) ?_
          clear hT; intro a hT
          replace hT := hT.keep [7, 6, 37, 10, 11, 21, 20, 9, 19, 18, 16, 8, 4, 0, 1, 2] rfl
          refine Sx.ser_nil ?_
          refine Sx.then_normal (hK19 _ _ ?_)
          clear hK19
          refine wp_ret ?_
          refine Sx.then_ret ?_
          refine Sx.block_ret ?_
          refine Sx.then_ret ?_
          refine Sx.then_ret ?_
          refine Sx.block_ret ?_
          refine Sx.then_ret ?_
          refine Sx.done2 (fn := Tryd.f26) hT rfl (.tmp (hT.get 6 _ rfl)) (.tmp (hT.get 7 _ rfl)) ?_
          have hk0 : k - 1 + 1 = k := by omega
          rw [all_unr hc9 (rises_false ho2 (by rw [hk0]; exact ho) hc2)]
          exact ⟨none, 0, rfl, (H.nilR 45 4).keep [0] rfl rfl⟩
        · try simp only [decide_eq_true_eq, decide_eq_false_iff_not, Bool.not_eq_true', Bool.not_eq_false', Bool.not_eq_true, Bool.not_eq_false, Bool.and_eq_true, Bool.or_eq_false_iff, beq_iff_eq, bne_iff_ne, Int.not_lt, Int.not_le, ne_eq] at hc18
          have hu2 : upTo l (k + 1 - 1) = true := by
            have h9 := upTo_step hu ho2 (by rw [show k - 1 + 1 = k from by omega]; exact ho) hc18
            rwa [show k - 1 + 1 = k + 1 - 1 from by omega] at h9
          refine wp_skip ?_
          refine Sx.then_normal (hK15 _ _ ?_)
          clear hK15
          refine wp_seq_k fun K20 hK20 => ?_
          -- region 10 (scan.go:63)
          refine Sx.wp_text [(0, .take), (1, .take), (2, .take), (3, .take), (4, .run), (5, .take), (6, .take), (7, .take), (8, .run), (9, .take), (10, .take), (11, .take), (12, .take), (13, .take), (14, .take), (15, .run), (16, .take), (17, .take), (18, .run), (19, .take), (20, .take), (21, .take), (22, .take), (23, .take)] rfl ?_
          refine Sx.st_take hT rfl rfl rfl rfl (Sx.x_move hT rfl rfl) ?_
          clear hT; intro a hT
          refine Sx.st_take hT rfl rfl rfl rfl ((fun w => Sx.x_streq w hT rfl rfl rfl)) ?_
          clear hT; intro a hT
          refine Sx.st_take hT rfl rfl rfl rfl (Sx.x_move hT rfl rfl) ?_
          clear hT; intro a hT
          -- guard (10, 2)
          refine Sx.Sl.two hT 40 rfl (fun hc21 hT => ?_) (fun hc21 hT => ?_)
          · try simp only [decide_eq_true_eq, decide_eq_false_iff_not, Bool.not_eq_true', Bool.not_eq_false', Bool.not_eq_true, Bool.not_eq_false, Bool.and_eq_true, Bool.or_eq_false_iff, beq_iff_eq, bne_iff_ne, Int.not_lt, Int.not_le, ne_eq] at hc21
            have qa1 := hc21
            refine Sx.st_skip hT rfl rfl rfl rfl ?_
            clear hT; intro a hT
            refine Sx.st_runskip hT rfl rfl rfl rfl ?_
            clear hT; intro a hT
            refine Sx.st_skip hT rfl rfl rfl rfl ?_
            clear hT; intro a hT
            refine Sx.st_skip hT rfl rfl rfl rfl ?_
            clear hT; intro a hT
            refine Sx.st_skip hT rfl rfl rfl rfl ?_
            clear hT; intro a hT
            refine Sx.st_runskip hT rfl rfl rfl rfl ?_
            clear hT; intro a hT
            refine Sx.st_skip hT rfl rfl rfl rfl ?_
            clear hT; intro a hT
            refine Sx.st_skip hT rfl rfl rfl rfl ?_
            clear hT; intro a hT
            refine Sx.st_skip hT rfl rfl rfl rfl ?_
            clear hT; intro a hT
            refine Sx.st_take hT rfl rfl rfl rfl (Sx.x_pick_t hT rfl rfl rfl) ?_
            clear hT; intro a hT
            refine Sx.st_take hT rfl rfl rfl rfl (Sx.x_move hT rfl rfl) ?_
            clear hT; intro a hT
            refine Sx.st_skip hT rfl rfl rfl rfl ?_
            clear hT; intro a hT
            refine Sx.st_runskip hT rfl rfl rfl rfl ?_
            clear hT; intro a hT
            refine Sx.st_skip hT rfl rfl rfl rfl ?_
            clear hT; intro a hT
            refine Sx.st_skip hT rfl rfl rfl rfl ?_
            clear hT; intro a hT
            refine Sx.st_runskip hT rfl rfl rfl rfl ?_
            clear hT; intro a hT
            refine Sx.st_skip hT rfl rfl rfl rfl ?_
            clear hT; intro a hT
            refine Sx.st_skip hT rfl rfl rfl rfl ?_
            clear hT; intro a hT
            refine Sx.st_skip hT rfl rfl rfl rfl ?_
            clear hT; intro a hT
            refine Sx.st_take hT rfl rfl rfl rfl (Sx.x_pick_t hT rfl rfl rfl) ?_
            clear hT; intro a hT
            refine Sx.st_take hT rfl rfl rfl rfl (Sx.x_assign hT rfl rfl) ?_
            clear hT; intro a hT
            replace hT := hT.keep [12, 37, 10, 11, 21, 20, 9, 19, 18, 16, 8, 4, 0, 1, 2] rfl
            refine Sx.ser_nil ?_
            refine Sx.then_normal (hK20 _ _ ?_)
            clear hK20
            refine wp_seq_k fun K22 hK22 => ?_
            -- region 11 (scan.go:64)
            refine Sx.wp_text [(0, .take), (1, .take), (2, .run), (3, .run), (4, .run), (5, .take)] rfl ?_
            refine Sx.st_take hT rfl rfl rfl rfl (Sx.x_move hT rfl rfl) ?_
            clear hT; intro a hT
            refine Sx.st_take hT rfl rfl rfl rfl (Sx.x_move hT rfl rfl) ?_
            clear hT; intro a hT
            refine Sx.st_run hT rfl rfl rfl rfl (Sx.y_loadS hT rfl Tryd.underlying27 Tryd.ti27 rfl ((H.blk 2 rfl).seg (k := 12) rfl) (by rfl)) ?_
            clear hT; intro a hT
            refine Sx.st_run hT rfl rfl rfl rfl (Sx.y_loadS hT rfl Tryd.underlying45 Tryd.ti45 rfl ((H.blk 0 rfl).seg (k := 4) rfl) (by rfl)) ?_
            clear hT; intro a hT
            refine Sx.st_call hT rfl rfl rfl rfl rfl Tryd.can19 rfl (Match_calls _ _ _) ?_
            rintro _ w6 ⟨rfl, E⟩
            refine ⟨_, rfl, ?_⟩
            clear hT; intro a hT
            replace H := H.pure E; clear E
            refine Sx.st_take hT rfl rfl rfl rfl (Sx.x_pick_t hT rfl rfl rfl) ?_
            clear hT; intro a hT
            replace hT := hT.keep [66, 12, 37, 10, 11, 21, 20, 9, 19, 18, 16, 8, 4, 0, 1, 2] rfl
            refine Sx.ser_nil ?_
            refine Sx.then_normal (hK22 _ _ ?_)
            clear hK22
            -- cond 3
            refine Sx.wp_if hT rfl (fun hc23 => ?_) (fun hc23 => ?_)
            · try simp only [decide_eq_true_eq, decide_eq_false_iff_not, Bool.not_eq_true', Bool.not_eq_false', Bool.not_eq_true, Bool.not_eq_false, Bool.and_eq_true, Bool.or_eq_false_iff, beq_iff_eq, bne_iff_ne, Int.not_lt, Int.not_le, ne_eq] at hc23
              have hma := hc23
              have hbe : behindQ q after o = true := by first | exact be_e qa1 | exact be_f qb1 qc1 | exact be_b qb0 qd1
              -- region 12 (scan.go:65)
              refine Sx.wp_text [(0, .take), (1, .run), (2, .run), (3, .run), (4, .take)] rfl ?_
              refine Sx.st_take hT rfl rfl rfl rfl (Sx.x_move hT rfl rfl) ?_
              clear hT; intro a hT
              refine Sx.st_run hT rfl rfl rfl rfl (Sx.y_loadS hT rfl Tryd.underlying45 Tryd.ti45 rfl ((H.blk 0 rfl).seg (k := 4) rfl) (by rfl)) ?_
              clear hT; intro a hT
              refine Sx.st_eff hT rfl rfl rfl rfl (Sx.y_slice1 hT rfl Tryd.underlying22 Tryd.ti45 rfl rfl rfl rfl rfl rfl _) ?_
              clear hT; rintro _ w7 ⟨b3, rfl, N⟩ a hT
              replace H := H.new N; clear N
              refine Sx.st_eff hT rfl rfl rfl rfl (Sx.x_append hT rfl rfl Tryd.underlying22 Tryd.ti45 rfl (by decide) rfl rfl (H.row 2 rfl) ((H.blk 0 rfl).sv1 rfl) (by simp [Value.oneCell']) (fun h => by cases h) (by unfold maxLen; omega) (by omega)) ?_
              rintro _ w8 ⟨ad8, c8, rfl, hr, E, hown, -⟩
              clear hT; intro a hT
              replace H := H.setR 2 rfl hr E hown rfl; clear hr E hown
              refine Sx.st_take hT rfl rfl rfl rfl (Sx.x_assign hT rfl rfl) ?_
              clear hT; intro a hT
              replace hT := hT.keep [9, 66, 12, 37, 10, 11, 21, 20, 19, 18, 16, 8, 4, 0, 1, 2] rfl
              refine Sx.ser_nil ?_
              refine Sx.block_normal ?_
              refine Sx.then_normal (hK13 _ _ ?_)
              clear hK13
              -- region 13 (scan.go:59)
              refine Sx.wp_text [(0, .take), (1, .take)] rfl ?_
              refine Sx.st_take hT rfl rfl rfl rfl ((fun w => Sx.x_add w hT rfl rfl rfl (Sx.wrap64 (by omega)))) ?_
              clear hT; intro a hT
              refine Sx.st_take hT rfl rfl rfl rfl (Sx.x_move hT rfl rfl) ?_
              clear hT; intro a hT
              replace hT := hT.keep [20, 9, 66, 12, 37, 10, 11, 21, 19, 18, 16, 8, 4, 0, 1, 2] rfl
              refine Sx.ser_nil ?_
              refine Sx.then_normal ?_
              rw [← pairs_len _ o, ← pick_yes ho hbe hma] at hT
              rw [← pairs_len _ o, show ∀ x : List Value, x ++ [.string ⟨o.key.toArray⟩, .int .i64 o.val.kind, .float .f64 o.val.num, .string ⟨o.val.text.toArray⟩] = x ++ o.cells from fun _ => rfl, ← pairs_flat, ← pick_yes ho hbe hma] at H
              exact ⟨(k + 1, ad8, c8), ⟨by show k + 1 ≤ _; omega, hu2⟩, (hT.keep [20, 9, 19, 18, 16, 8, 4, 0, 1, 2] rfl), (H.keep [2, 3] rfl rfl), by show _ - (k + 1) < _ - k; omega⟩
            · try simp only [decide_eq_true_eq, decide_eq_false_iff_not, Bool.not_eq_true', Bool.not_eq_false', Bool.not_eq_true, Bool.not_eq_false, Bool.and_eq_true, Bool.or_eq_false_iff, beq_iff_eq, bne_iff_ne, Int.not_lt, Int.not_le, ne_eq] at hc23
              have hma := hc23
              have hno : (behindQ q after o && matchQ q o) = false := by first | exact no_m hma | exact no_f qa0 qb1 qc0 | exact no_b qa0 qb0 qd0
              refine wp_skip ?_
              refine Sx.block_normal ?_
              refine Sx.then_normal (hK13 _ _ ?_)
              clear hK13
              -- region 13 (scan.go:59)
              refine Sx.wp_text [(0, .take), (1, .take)] rfl ?_
              refine Sx.st_take hT rfl rfl rfl rfl ((fun w => Sx.x_add w hT rfl rfl rfl (Sx.wrap64 (by omega)))) ?_
              clear hT; intro a hT
              refine Sx.st_take hT rfl rfl rfl rfl (Sx.x_move hT rfl rfl) ?_
              clear hT; intro a hT
              replace hT := hT.keep [20, 66, 12, 37, 10, 11, 21, 9, 19, 18, 16, 8, 4, 0, 1, 2] rfl
              refine Sx.ser_nil ?_
              refine Sx.then_normal ?_
              rw [← pick_no ho hno] at hT H
              exact ⟨(k + 1, ad2, c2), ⟨by show k + 1 ≤ _; omega, hu2⟩, (hT.keep [20, 9, 19, 18, 16, 8, 4, 0, 1, 2] rfl), (H.keep [1, 2] rfl rfl), by show _ - (k + 1) < _ - k; omega⟩
          · try simp only [decide_eq_true_eq, decide_eq_false_iff_not, Bool.not_eq_true', Bool.not_eq_false', Bool.not_eq_true, Bool.not_eq_false, Bool.and_eq_true, Bool.or_eq_false_iff, beq_iff_eq, bne_iff_ne, Int.not_lt, Int.not_le, ne_eq] at hc21
            have qa0 := hc21
            refine Sx.st_take hT rfl rfl rfl rfl (Sx.x_fieldAddr hT rfl Tryd.fa27_5 rfl) ?_
            clear hT; intro a hT
            refine Sx.st_run hT rfl rfl rfl rfl (Sx.x_load1 hT rfl Tryd.fl4 rfl ((H.blk 2 rfl).nth rfl)) ?_
            clear hT; intro a hT
            refine Sx.st_take hT rfl rfl rfl rfl (Sx.x_not hT rfl rfl) ?_
            clear hT; intro a hT
            refine Sx.st_take hT rfl rfl rfl rfl (Sx.x_move hT rfl rfl) ?_
            clear hT; intro a hT
            -- guard (10, 6)
            refine Sx.Sl.two hT 44 rfl (fun hc24 hT => ?_) (fun hc24 hT => ?_)
            · try simp only [decide_eq_true_eq, decide_eq_false_iff_not, Bool.not_eq_true', Bool.not_eq_false', Bool.not_eq_true, Bool.not_eq_false, Bool.and_eq_true, Bool.or_eq_false_iff, beq_iff_eq, bne_iff_ne, Int.not_lt, Int.not_le, ne_eq] at hc24
              have qb1 := hc24
              refine Sx.st_take hT rfl rfl rfl rfl (Sx.x_fieldAddr hT rfl Tryd.fa45_0 rfl) ?_
              clear hT; intro a hT
              refine Sx.st_run hT rfl rfl rfl rfl (Sx.x_load1 hT rfl Tryd.fl9 rfl ((H.blk 0 rfl).nth rfl)) ?_
              clear hT; intro a hT
              refine Sx.st_take hT rfl rfl rfl rfl (Sx.x_move hT rfl rfl) ?_
              clear hT; intro a hT
              refine Sx.st_take hT rfl rfl rfl rfl ((fun w => Sx.x_strgt w hT rfl rfl rfl)) ?_
              clear hT; intro a hT
              refine Sx.st_take hT rfl rfl rfl rfl (Sx.x_pick_t hT rfl rfl rfl) ?_
              clear hT; intro a hT
              refine Sx.st_take hT rfl rfl rfl rfl (Sx.x_pick_f hT rfl rfl rfl) ?_
              clear hT; intro a hT
              refine Sx.st_take hT rfl rfl rfl rfl (Sx.x_move hT rfl rfl) ?_
              clear hT; intro a hT
              -- guard (10, 13)
              refine Sx.Sl.two hT 51 rfl (fun hc25 hT => ?_) (fun hc25 hT => ?_)
              · try simp only [decide_eq_true_eq, decide_eq_false_iff_not, Bool.not_eq_true', Bool.not_eq_false', Bool.not_eq_true, Bool.not_eq_false, Bool.and_eq_true, Bool.or_eq_false_iff, beq_iff_eq, bne_iff_ne, Int.not_lt, Int.not_le, ne_eq] at hc25
                have qc1 := hc25
                refine Sx.st_skip hT rfl rfl rfl rfl ?_
                clear hT; intro a hT
                refine Sx.st_runskip hT rfl rfl rfl rfl ?_
                clear hT; intro a hT
                refine Sx.st_skip hT rfl rfl rfl rfl ?_
                clear hT; intro a hT
                refine Sx.st_skip hT rfl rfl rfl rfl ?_
                clear hT; intro a hT
                refine Sx.st_runskip hT rfl rfl rfl rfl ?_
                clear hT; intro a hT
                refine Sx.st_skip hT rfl rfl rfl rfl ?_
                clear hT; intro a hT
                refine Sx.st_skip hT rfl rfl rfl rfl ?_
                clear hT; intro a hT
                refine Sx.st_skip hT rfl rfl rfl rfl ?_
                clear hT; intro a hT
                refine Sx.st_take hT rfl rfl rfl rfl (Sx.x_pick_t hT rfl rfl rfl) ?_
                clear hT; intro a hT
                refine Sx.st_take hT rfl rfl rfl rfl (Sx.x_assign hT rfl rfl) ?_
                clear hT; intro a hT
                replace hT := hT.keep [12, 37, 10, 11, 21, 20, 9, 19, 18, 16, 8, 4, 0, 1, 2] rfl
                refine Sx.ser_nil ?_
                refine Sx.then_normal (hK20 _ _ ?_)
                clear hK20
                refine wp_seq_k fun K26 hK26 => ?_
                -- region 11 (scan.go:64)
                refine Sx.wp_text [(0, .take), (1, .take), (2, .run), (3, .run), (4, .run), (5, .take)] rfl ?_
                refine Sx.st_take hT rfl rfl rfl rfl (Sx.x_move hT rfl rfl) ?_
                clear hT; intro a hT
                refine Sx.st_take hT rfl rfl rfl rfl (Sx.x_move hT rfl rfl) ?_
                clear hT; intro a hT
                refine Sx.st_run hT rfl rfl rfl rfl (Sx.y_loadS hT rfl Tryd.underlying27 Tryd.ti27 rfl ((H.blk 2 rfl).seg (k := 12) rfl) (by rfl)) ?_
                clear hT; intro a hT
                refine Sx.st_run hT rfl rfl rfl rfl (Sx.y_loadS hT rfl Tryd.underlying45 Tryd.ti45 rfl ((H.blk 0 rfl).seg (k := 4) rfl) (by rfl)) ?_
                clear hT; intro a hT
                refine Sx.st_call hT rfl rfl rfl rfl rfl Tryd.can19 rfl (Match_calls _ _ _) ?_
                rintro _ w9 ⟨rfl, E⟩
                refine ⟨_, rfl, ?_⟩
                clear hT; intro a hT
                replace H := H.pure E; clear E
                refine Sx.st_take hT rfl rfl rfl rfl (Sx.x_pick_t hT rfl rfl rfl) ?_
                clear hT; intro a hT
                replace hT := hT.keep [66, 12, 37, 10, 11, 21, 20, 9, 19, 18, 16, 8, 4, 0, 1, 2] rfl
                refine Sx.ser_nil ?_
                refine Sx.then_normal (hK26 _ _ ?_)
                clear hK26
                -- cond 3
                refine Sx.wp_if hT rfl (fun hc27 => ?_) (fun hc27 => ?_)
                · try simp only [decide_eq_true_eq, decide_eq_false_iff_not, Bool.not_eq_true', Bool.not_eq_false', Bool.not_eq_true, Bool.not_eq_false, Bool.and_eq_true, Bool.or_eq_false_iff, beq_iff_eq, bne_iff_ne, Int.not_lt, Int.not_le, ne_eq] at hc27
                  have hma := hc27
                  have hbe : behindQ q after o = true := by first | exact be_e qa1 | exact be_f qb1 qc1 | exact be_b qb0 qd1
                  -- region 12 (scan.go:65)
                  refine Sx.wp_text [(0, .take), (1, .run), (2, .run), (3, .run), (4, .take)] rfl ?_
                  refine Sx.st_take hT rfl rfl rfl rfl (Sx.x_move hT rfl rfl) ?_
                  clear hT; intro a hT
                  refine Sx.st_run hT rfl rfl rfl rfl (Sx.y_loadS hT rfl Tryd.underlying45 Tryd.ti45 rfl ((H.blk 0 rfl).seg (k := 4) rfl) (by rfl)) ?_
                  clear hT; intro a hT
                  refine Sx.st_eff hT rfl rfl rfl rfl (Sx.y_slice1 hT rfl Tryd.underlying22 Tryd.ti45 rfl rfl rfl rfl rfl rfl _) ?_
                  clear hT; rintro _ w10 ⟨b4, rfl, N⟩ a hT
                  replace H := H.new N; clear N
                  refine Sx.st_eff hT rfl rfl rfl rfl (Sx.x_append hT rfl rfl Tryd.underlying22 Tryd.ti45 rfl (by decide) rfl rfl (H.row 2 rfl) ((H.blk 0 rfl).sv1 rfl) (by simp [Value.oneCell']) (fun h => by cases h) (by unfold maxLen; omega) (by omega)) ?_
                  rintro _ w11 ⟨ad11, c11, rfl, hr, E, hown, -⟩
                  clear hT; intro a hT
                  replace H := H.setR 2 rfl hr E hown rfl; clear hr E hown
                  refine Sx.st_take hT rfl rfl rfl rfl (Sx.x_assign hT rfl rfl) ?_
                  clear hT; intro a hT
                  replace hT := hT.keep [9, 66, 12, 37, 10, 11, 21, 20, 19, 18, 16, 8, 4, 0, 1, 2] rfl
                  refine Sx.ser_nil ?_
                  refine Sx.block_normal ?_
                  refine Sx.then_normal (hK13 _ _ ?_)
                  clear hK13
                  -- region 13 (scan.go:59)
                  refine Sx.wp_text [(0, .take), (1, .take)] rfl ?_
                  refine Sx.st_take hT rfl rfl rfl rfl ((fun w => Sx.x_add w hT rfl rfl rfl (Sx.wrap64 (by omega)))) ?_
                  clear hT; intro a hT
                  refine Sx.st_take hT rfl rfl rfl rfl (Sx.x_move hT rfl rfl) ?_
                  clear hT; intro a hT
                  replace hT := hT.keep [20, 9, 66, 12, 37, 10, 11, 21, 19, 18, 16, 8, 4, 0, 1, 2] rfl
                  refine Sx.ser_nil ?_
                  refine Sx.then_normal ?_
                  rw [← pairs_len _ o, ← pick_yes ho hbe hma] at hT
                  rw [← pairs_len _ o, show ∀ x : List Value, x ++ [.string ⟨o.key.toArray⟩, .int .i64 o.val.kind, .float .f64 o.val.num, .string ⟨o.val.text.toArray⟩] = x ++ o.cells from fun _ => rfl, ← pairs_flat, ← pick_yes ho hbe hma] at H
                  exact ⟨(k + 1, ad11, c11), ⟨by show k + 1 ≤ _; omega, hu2⟩, (hT.keep [20, 9, 19, 18, 16, 8, 4, 0, 1, 2] rfl), (H.keep [2, 3] rfl rfl), by show _ - (k + 1) < _ - k; omega⟩
                · try simp only [decide_eq_true_eq, decide_eq_false_iff_not, Bool.not_eq_true', Bool.not_eq_false', Bool.not_eq_true, Bool.not_eq_false, Bool.and_eq_true, Bool.or_eq_false_iff, beq_iff_eq, bne_iff_ne, Int.not_lt, Int.not_le, ne_eq] at hc27
                  have hma := hc27
                  have hno : (behindQ q after o && matchQ q o) = false := by first | exact no_m hma | exact no_f qa0 qb1 qc0 | exact no_b qa0 qb0 qd0
                  refine wp_skip ?_
                  refine Sx.block_normal ?_
                  refine Sx.then_normal (hK13 _ _ ?_)
                  clear hK13
                  -- region 13 (scan.go:59)
                  refine Sx.wp_text [(0, .take), (1, .take)] rfl ?_
                  refine Sx.st_take hT rfl rfl rfl rfl ((fun w => Sx.x_add w hT rfl rfl rfl (Sx.wrap64 (by omega)))) ?_
                  clear hT; intro a hT
                  refine Sx.st_take hT rfl rfl rfl rfl (Sx.x_move hT rfl rfl) ?_
                  clear hT; intro a hT
                  replace hT := hT.keep [20, 66, 12, 37, 10, 11, 21, 9, 19, 18, 16, 8, 4, 0, 1, 2] rfl
                  refine Sx.ser_nil ?_
                  refine Sx.then_normal ?_
                  rw [← pick_no ho hno] at hT H
                  exact ⟨(k + 1, ad2, c2), ⟨by show k + 1 ≤ _; omega, hu2⟩, (hT.keep [20, 9, 19, 18, 16, 8, 4, 0, 1, 2] rfl), (H.keep [1, 2] rfl rfl), by show _ - (k + 1) < _ - k; omega⟩
              · try simp only [decide_eq_true_eq, decide_eq_false_iff_not, Bool.not_eq_true', Bool.not_eq_false', Bool.not_eq_true, Bool.not_eq_false, Bool.and_eq_true, Bool.or_eq_false_iff, beq_iff_eq, bne_iff_ne, Int.not_lt, Int.not_le, ne_eq] at hc25
                have qc0 := hc25
                refine Sx.st_take hT rfl rfl rfl rfl (Sx.x_fieldAddr hT rfl Tryd.fa27_5 rfl) ?_
                clear hT; intro a hT
                refine Sx.st_run hT rfl rfl rfl rfl (Sx.x_load1 hT rfl Tryd.fl4 rfl ((H.blk 2 rfl).nth rfl)) ?_
                clear hT; intro a hT
                refine Sx.st_take hT rfl rfl rfl rfl (Sx.x_move hT rfl rfl) ?_
                clear hT; intro a hT
                -- guard (10, 16)
                refine Sx.Sl.two hT 54 rfl (fun hc28 hT => ?_) (fun hc28 hT => ?_)
                · exfalso
                  try simp only [decide_eq_true_eq, decide_eq_false_iff_not, Bool.not_eq_true', Bool.not_eq_false', Bool.not_eq_true, Bool.not_eq_false, Bool.and_eq_true, Bool.or_eq_false_iff, beq_iff_eq, bne_iff_ne, Int.not_lt, Int.not_le, ne_eq] at hc28
                  rw [qb1] at hc28; cases hc28
                · try simp only [decide_eq_true_eq, decide_eq_false_iff_not, Bool.not_eq_true', Bool.not_eq_false', Bool.not_eq_true, Bool.not_eq_false, Bool.and_eq_true, Bool.or_eq_false_iff, beq_iff_eq, bne_iff_ne, Int.not_lt, Int.not_le, ne_eq] at hc28
                  refine Sx.st_skip hT rfl rfl rfl rfl ?_
                  clear hT; intro a hT
                  refine Sx.st_runskip hT rfl rfl rfl rfl ?_
                  clear hT; intro a hT
                  refine Sx.st_skip hT rfl rfl rfl rfl ?_
                  clear hT; intro a hT
                  refine Sx.st_skip hT rfl rfl rfl rfl ?_
                  clear hT; intro a hT
                  refine Sx.st_take hT rfl rfl rfl rfl (Sx.x_pick_f hT rfl rfl rfl) ?_
                  clear hT; intro a hT
                  refine Sx.st_take hT rfl rfl rfl rfl (Sx.x_pick_f hT rfl rfl rfl) ?_
                  clear hT; intro a hT
                  refine Sx.st_take hT rfl rfl rfl rfl (Sx.x_assign hT rfl rfl) ?_
                  clear hT; intro a hT
                  replace hT := hT.keep [12, 37, 10, 11, 21, 20, 9, 19, 18, 16, 8, 4, 0, 1, 2] rfl
                  refine Sx.ser_nil ?_
                  refine Sx.then_normal (hK20 _ _ ?_)
                  clear hK20
                  refine wp_seq_k fun K29 hK29 => ?_
                  -- region 11 (scan.go:64)
                  refine Sx.wp_text [(0, .take), (1, .take), (2, .run), (3, .run), (4, .run), (5, .take)] rfl ?_
                  refine Sx.st_take hT rfl rfl rfl rfl (Sx.x_move hT rfl rfl) ?_
                  clear hT; intro a hT
                  refine Sx.st_take hT rfl rfl rfl rfl (Sx.x_move hT rfl rfl) ?_
                  clear hT; intro a hT
                  refine Sx.st_runskip hT rfl rfl rfl rfl ?_
                  clear hT; intro a hT
                  refine Sx.st_runskip hT rfl rfl rfl rfl ?_
                  clear hT; intro a hT
                  refine Sx.st_runskip hT rfl rfl rfl rfl ?_
                  clear hT; intro a hT
                  refine Sx.st_take hT rfl rfl rfl rfl (Sx.x_pick_f hT rfl rfl rfl) ?_
                  clear hT; intro a hT
                  replace hT := hT.keep [66, 12, 37, 10, 11, 21, 20, 9, 19, 18, 16, 8, 4, 0, 1, 2] rfl
                  refine Sx.ser_nil ?_
                  refine Sx.then_normal (hK29 _ _ ?_)
                  clear hK29
                  refine Sx.wp_if hT rfl (fun h => by cases h) (fun _ => ?_)
                  have hno : (behindQ q after o && matchQ q o) = false := by first | exact no_m hma | exact no_f qa0 qb1 qc0 | exact no_b qa0 qb0 qd0
                  refine wp_skip ?_
                  refine Sx.block_normal ?_
                  refine Sx.then_normal (hK13 _ _ ?_)
                  clear hK13
                  -- region 13 (scan.go:59)
                  refine Sx.wp_text [(0, .take), (1, .take)] rfl ?_
                  refine Sx.st_take hT rfl rfl rfl rfl ((fun w => Sx.x_add w hT rfl rfl rfl (Sx.wrap64 (by omega)))) ?_
                  clear hT; intro a hT
                  refine Sx.st_take hT rfl rfl rfl rfl (Sx.x_move hT rfl rfl) ?_
                  clear hT; intro a hT
                  replace hT := hT.keep [20, 66, 12, 37, 10, 11, 21, 9, 19, 18, 16, 8, 4, 0, 1, 2] rfl
                  refine Sx.ser_nil ?_
                  refine Sx.then_normal ?_
                  rw [← pick_no ho hno] at hT H
                  exact ⟨(k + 1, ad2, c2), ⟨by show k + 1 ≤ _; omega, hu2⟩, (hT.keep [20, 9, 19, 18, 16, 8, 4, 0, 1, 2] rfl), (H.keep [1, 2] rfl rfl), by show _ - (k + 1) < _ - k; omega⟩
            · try simp only [decide_eq_true_eq, decide_eq_false_iff_not, Bool.not_eq_true', Bool.not_eq_false', Bool.not_eq_true, Bool.not_eq_false, Bool.and_eq_true, Bool.or_eq_false_iff, beq_iff_eq, bne_iff_ne, Int.not_lt, Int.not_le, ne_eq] at hc24
              have qb0 := hc24
              refine Sx.st_skip hT rfl rfl rfl rfl ?_
              clear hT; intro a hT
              refine Sx.st_runskip hT rfl rfl rfl rfl ?_
              clear hT; intro a hT
              refine Sx.st_skip hT rfl rfl rfl rfl ?_
              clear hT; intro a hT
              refine Sx.st_skip hT rfl rfl rfl rfl ?_
              clear hT; intro a hT
              refine Sx.st_take hT rfl rfl rfl rfl (Sx.x_pick_f hT rfl rfl rfl) ?_
              clear hT; intro a hT
              refine Sx.st_take hT rfl rfl rfl rfl (Sx.x_pick_f hT rfl rfl rfl) ?_
              clear hT; intro a hT
              refine Sx.st_take hT rfl rfl rfl rfl (Sx.x_move hT rfl rfl) ?_
              clear hT; intro a hT
              refine Sx.st_take hT rfl rfl rfl rfl (Sx.x_fieldAddr hT rfl Tryd.fa27_5 rfl) ?_
              clear hT; intro a hT
              refine Sx.st_run hT rfl rfl rfl rfl (Sx.x_load1 hT rfl Tryd.fl4 rfl ((H.blk 2 rfl).nth rfl)) ?_
              clear hT; intro a hT
              refine Sx.st_take hT rfl rfl rfl rfl (Sx.x_move hT rfl rfl) ?_
              clear hT; intro a hT
              -- guard (10, 16)
              refine Sx.Sl.two hT 54 rfl (fun hc30 hT => ?_) (fun hc30 hT => ?_)
              · try simp only [decide_eq_true_eq, decide_eq_false_iff_not, Bool.not_eq_true', Bool.not_eq_false', Bool.not_eq_true, Bool.not_eq_false, Bool.and_eq_true, Bool.or_eq_false_iff, beq_iff_eq, bne_iff_ne, Int.not_lt, Int.not_le, ne_eq] at hc30
                refine Sx.st_take hT rfl rfl rfl rfl (Sx.x_fieldAddr hT rfl Tryd.fa45_0 rfl) ?_
                clear hT; intro a hT
                refine Sx.st_run hT rfl rfl rfl rfl (Sx.x_load1 hT rfl Tryd.fl9 rfl ((H.blk 0 rfl).nth rfl)) ?_
                clear hT; intro a hT
                refine Sx.st_take hT rfl rfl rfl rfl (Sx.x_move hT rfl rfl) ?_
                clear hT; intro a hT
                refine Sx.st_take hT rfl rfl rfl rfl ((fun w => Sx.x_strlt w hT rfl rfl rfl)) ?_
                clear hT; intro a hT
                refine Sx.st_take hT rfl rfl rfl rfl (Sx.x_pick_t hT rfl rfl rfl) ?_
                clear hT; intro a hT
                refine Sx.st_take hT rfl rfl rfl rfl (Sx.x_pick_f hT rfl rfl rfl) ?_
                clear hT; intro a hT
                refine Sx.st_take hT rfl rfl rfl rfl (Sx.x_assign hT rfl rfl) ?_
                clear hT; intro a hT
                replace hT := hT.keep [12, 37, 10, 11, 21, 20, 9, 19, 18, 16, 8, 4, 0, 1, 2] rfl
                refine Sx.ser_nil ?_
                refine Sx.then_normal (hK20 _ _ ?_)
                clear hK20
                refine wp_seq_k fun K31 hK31 => ?_
                -- region 11 (scan.go:64)
                refine Sx.wp_text [(0, .take), (1, .take), (2, .run), (3, .run), (4, .run), (5, .take)] rfl ?_
                refine Sx.st_take hT rfl rfl rfl rfl (Sx.x_move hT rfl rfl) ?_
                clear hT; intro a hT
                refine Sx.st_take hT rfl rfl rfl rfl (Sx.x_move hT rfl rfl) ?_
                clear hT; intro a hT
                -- guard (11, 1)
                refine Sx.Sl.two hT 62 rfl (fun hc32 hT => ?_) (fun hc32 hT => ?_)
                · try simp only [decide_eq_true_eq, decide_eq_false_iff_not, Bool.not_eq_true', Bool.not_eq_false', Bool.not_eq_true, Bool.not_eq_false, Bool.and_eq_true, Bool.or_eq_false_iff, beq_iff_eq, bne_iff_ne, Int.not_lt, Int.not_le, ne_eq] at hc32
                  have qd1 := hc32
                  refine Sx.st_run hT rfl rfl rfl rfl (Sx.y_loadS hT rfl Tryd.underlying27 Tryd.ti27 rfl ((H.blk 2 rfl).seg (k := 12) rfl) (by rfl)) ?_
                  clear hT; intro a hT
                  refine Sx.st_run hT rfl rfl rfl rfl (Sx.y_loadS hT rfl Tryd.underlying45 Tryd.ti45 rfl ((H.blk 0 rfl).seg (k := 4) rfl) (by rfl)) ?_
                  clear hT; intro a hT
                  refine Sx.st_call hT rfl rfl rfl rfl rfl Tryd.can19 rfl (Match_calls _ _ _) ?_
                  rintro _ w12 ⟨rfl, E⟩
                  refine ⟨_, rfl, ?_⟩
                  clear hT; intro a hT
                  replace H := H.pure E; clear E
                  refine Sx.st_take hT rfl rfl rfl rfl (Sx.x_pick_t hT rfl rfl rfl) ?_
                  clear hT; intro a hT
                  replace hT := hT.keep [66, 12, 37, 10, 11, 21, 20, 9, 19, 18, 16, 8, 4, 0, 1, 2] rfl
                  refine Sx.ser_nil ?_
                  refine Sx.then_normal (hK31 _ _ ?_)
                  clear hK31
                  -- cond 3
                  refine Sx.wp_if hT rfl (fun hc33 => ?_) (fun hc33 => ?_)
                  · try simp only [decide_eq_true_eq, decide_eq_false_iff_not, Bool.not_eq_true', Bool.not_eq_false', Bool.not_eq_true, Bool.not_eq_false, Bool.and_eq_true, Bool.or_eq_false_iff, beq_iff_eq, bne_iff_ne, Int.not_lt, Int.not_le, ne_eq] at hc33
                    have hma := hc33
                    have hbe : behindQ q after o = true := by first | exact be_e qa1 | exact be_f qb1 qc1 | exact be_b qb0 qd1
                    -- region 12 (scan.go:65)
                    refine Sx.wp_text [(0, .take), (1, .run), (2, .run), (3, .run), (4, .take)] rfl ?_
                    refine Sx.st_take hT rfl rfl rfl rfl (Sx.x_move hT rfl rfl) ?_
                    clear hT; intro a hT
                    refine Sx.st_run hT rfl rfl rfl rfl (Sx.y_loadS hT rfl Tryd.underlying45 Tryd.ti45 rfl ((H.blk 0 rfl).seg (k := 4) rfl) (by rfl)) ?_
                    clear hT; intro a hT
                    refine Sx.st_eff hT rfl rfl rfl rfl (Sx.y_slice1 hT rfl Tryd.underlying22 Tryd.ti45 rfl rfl rfl rfl rfl rfl _) ?_
                    clear hT; rintro _ w13 ⟨b5, rfl, N⟩ a hT
                    replace H := H.new N; clear N
                    refine Sx.st_eff hT rfl rfl rfl rfl (Sx.x_append hT rfl rfl Tryd.underlying22 Tryd.ti45 rfl (by decide) rfl rfl (H.row 2 rfl) ((H.blk 0 rfl).sv1 rfl) (by simp [Value.oneCell']) (fun h => by cases h) (by unfold maxLen; omega) (by omega)) ?_
                    rintro _ w14 ⟨ad14, c14, rfl, hr, E, hown, -⟩
                    clear hT; intro a hT
                    replace H := H.setR 2 rfl hr E hown rfl; clear hr E hown
                    refine Sx.st_take hT rfl rfl rfl rfl (Sx.x_assign hT rfl rfl) ?_
                    clear hT; intro a hT
                    replace hT := hT.keep [9, 66, 12, 37, 10, 11, 21, 20, 19, 18, 16, 8, 4, 0, 1, 2] rfl
                    refine Sx.ser_nil ?_
                    refine Sx.block_normal ?_
                    refine Sx.then_normal (hK13 _ _ ?_)
                    clear hK13
                    -- region 13 (scan.go:59)
                    refine Sx.wp_text [(0, .take), (1, .take)] rfl ?_
                    refine Sx.st_take hT rfl rfl rfl rfl ((fun w => Sx.x_add w hT rfl rfl rfl (Sx.wrap64 (by omega)))) ?_
                    clear hT; intro a hT
                    refine Sx.st_take hT rfl rfl rfl rfl (Sx.x_move hT rfl rfl) ?_
                    clear hT; intro a hT
                    replace hT := hT.keep [20, 9, 66, 12, 37, 10, 11, 21, 19, 18, 16, 8, 4, 0, 1, 2] rfl
                    refine Sx.ser_nil ?_
                    refine Sx.then_normal ?_
                    rw [← pairs_len _ o, ← pick_yes ho hbe hma] at hT
                    rw [← pairs_len _ o, show ∀ x : List Value, x ++ [.string ⟨o.key.toArray⟩, .int .i64 o.val.kind, .float .f64 o.val.num, .string ⟨o.val.text.toArray⟩] = x ++ o.cells from fun _ => rfl, ← pairs_flat, ← pick_yes ho hbe hma] at H
                    exact ⟨(k + 1, ad14, c14), ⟨by show k + 1 ≤ _; omega, hu2⟩, (hT.keep [20, 9, 19, 18, 16, 8, 4, 0, 1, 2] rfl), (H.keep [2, 3] rfl rfl), by show _ - (k + 1) < _ - k; omega⟩
                  · try simp only [decide_eq_true_eq, decide_eq_false_iff_not, Bool.not_eq_true', Bool.not_eq_false', Bool.not_eq_true, Bool.not_eq_false, Bool.and_eq_true, Bool.or_eq_false_iff, beq_iff_eq, bne_iff_ne, Int.not_lt, Int.not_le, ne_eq] at hc33
                    have hma := hc33
                    have hno : (behindQ q after o && matchQ q o) = false := by first | exact no_m hma | exact no_f qa0 qb1 qc0 | exact no_b qa0 qb0 qd0
                    refine wp_skip ?_
                    refine Sx.block_normal ?_
                    refine Sx.then_normal (hK13 _ _ ?_)
                    clear hK13
                    -- region 13 (scan.go:59)
                    refine Sx.wp_text [(0, .take), (1, .take)] rfl ?_
                    refine Sx.st_take hT rfl rfl rfl rfl ((fun w => Sx.x_add w hT rfl rfl rfl (Sx.wrap64 (by omega)))) ?_
                    clear hT; intro a hT
                    refine Sx.st_take hT rfl rfl rfl rfl (Sx.x_move hT rfl rfl) ?_
                    clear hT; intro a hT
                    replace hT := hT.keep [20, 66, 12, 37, 10, 11, 21, 9, 19, 18, 16, 8, 4, 0, 1, 2] rfl
                    refine Sx.ser_nil ?_
                    refine Sx.then_normal ?_
                    rw [← pick_no ho hno] at hT H
                    exact ⟨(k + 1, ad2, c2), ⟨by show k + 1 ≤ _; omega, hu2⟩, (hT.keep [20, 9, 19, 18, 16, 8, 4, 0, 1, 2] rfl), (H.keep [1, 2] rfl rfl), by show _ - (k + 1) < _ - k; omega⟩
                · try simp only [decide_eq_true_eq, decide_eq_false_iff_not, Bool.not_eq_true', Bool.not_eq_false', Bool.not_eq_true, Bool.not_eq_false, Bool.and_eq_true, Bool.or_eq_false_iff, beq_iff_eq, bne_iff_ne, Int.not_lt, Int.not_le, ne_eq] at hc32
                  have qd0 := hc32
                  refine Sx.st_runskip hT rfl rfl rfl rfl ?_
                  clear hT; intro a hT
                  refine Sx.st_runskip hT rfl rfl rfl rfl ?_
                  clear hT; intro a hT
                  refine Sx.st_runskip hT rfl rfl rfl rfl ?_
                  clear hT; intro a hT
                  refine Sx.st_take hT rfl rfl rfl rfl (Sx.x_pick_f hT rfl rfl rfl) ?_
                  clear hT; intro a hT
                  replace hT := hT.keep [66, 12, 37, 10, 11, 21, 20, 9, 19, 18, 16, 8, 4, 0, 1, 2] rfl
                  refine Sx.ser_nil ?_
                  refine Sx.then_normal (hK31 _ _ ?_)
                  clear hK31
                  refine Sx.wp_if hT rfl (fun h => by cases h) (fun _ => ?_)
                  have hno : (behindQ q after o && matchQ q o) = false := by first | exact no_m hma | exact no_f qa0 qb1 qc0 | exact no_b qa0 qb0 qd0
                  refine wp_skip ?_
                  refine Sx.block_normal ?_
                  refine Sx.then_normal (hK13 _ _ ?_)
                  clear hK13
                  -- region 13 (scan.go:59)
                  refine Sx.wp_text [(0, .take), (1, .take)] rfl ?_
                  refine Sx.st_take hT rfl rfl rfl rfl ((fun w => Sx.x_add w hT rfl rfl rfl (Sx.wrap64 (by omega)))) ?_
                  clear hT; intro a hT
                  refine Sx.st_take hT rfl rfl rfl rfl (Sx.x_move hT rfl rfl) ?_
                  clear hT; intro a hT
                  replace hT := hT.keep [20, 66, 12, 37, 10, 11, 21, 9, 19, 18, 16, 8, 4, 0, 1, 2] rfl
                  refine Sx.ser_nil ?_
                  refine Sx.then_normal ?_
                  rw [← pick_no ho hno] at hT H
                  exact ⟨(k + 1, ad2, c2), ⟨by show k + 1 ≤ _; omega, hu2⟩, (hT.keep [20, 9, 19, 18, 16, 8, 4, 0, 1, 2] rfl), (H.keep [1, 2] rfl rfl), by show _ - (k + 1) < _ - k; omega⟩
              · exfalso
                try simp only [decide_eq_true_eq, decide_eq_false_iff_not, Bool.not_eq_true', Bool.not_eq_false', Bool.not_eq_true, Bool.not_eq_false, Bool.and_eq_true, Bool.or_eq_false_iff, beq_iff_eq, bne_iff_ne, Int.not_lt, Int.not_le, ne_eq] at hc30
                rw [qb0] at hc30; cases hc30
      · try simp only [decide_eq_true_eq, decide_eq_false_iff_not, Bool.not_eq_true', Bool.not_eq_false', Bool.not_eq_true, Bool.not_eq_false, Bool.and_eq_true, Bool.or_eq_false_iff, beq_iff_eq, bne_iff_ne, Int.not_lt, Int.not_le, ne_eq] at hc17
        have hk00 : k = 0 := by omega
        have hu2 : upTo l (k + 1 - 1) = true := by rw [hk00]; rfl
        refine Sx.st_skip hT rfl rfl rfl rfl ?_
        clear hT; intro a hT
        refine Sx.st_skip hT rfl rfl rfl rfl ?_
        clear hT; intro a hT
        refine Sx.st_skip hT rfl rfl rfl rfl ?_
        clear hT; intro a hT
        refine Sx.st_skip hT rfl rfl rfl rfl ?_
        clear hT; intro a hT
        refine Sx.st_skip hT rfl rfl rfl rfl ?_
        clear hT; intro a hT
        refine Sx.st_heldskip hT rfl rfl rfl rfl hH ?_
        clear hT; intro a hT
        refine Sx.st_skip hT rfl rfl rfl rfl ?_
        clear hT; intro a hT
        refine Sx.st_heldskip hT rfl rfl rfl rfl hH ?_
        clear hT; intro a hT
        refine Sx.st_skip hT rfl rfl rfl rfl ?_
        clear hT; intro a hT
        refine Sx.st_take hT rfl rfl rfl rfl (Sx.x_pick_f hT rfl rfl rfl) ?_
        clear hT; intro a hT
        replace hT := hT.keep [37, 10, 11, 21, 20, 9, 19, 18, 16, 8, 4, 0, 1, 2] rfl
        clear Hu hH
        refine Sx.ser_calm ?_
        refine Sx.then_normal (hK16 _ _ ?_)
        clear hK16
        refine Sx.wp_if hT rfl (fun h => by cases h) (fun _ => ?_)
        skip
        refine wp_skip ?_
        refine Sx.then_normal (hK15 _ _ ?_)
        clear hK15
        refine wp_seq_k fun K34 hK34 => ?_
        -- region 10 (scan.go:63)
        refine Sx.wp_text [(0, .take), (1, .take), (2, .take), (3, .take), (4, .run), (5, .take), (6, .take), (7, .take), (8, .run), (9, .take), (10, .take), (11, .take), (12, .take), (13, .take), (14, .take), (15, .run), (16, .take), (17, .take), (18, .run), (19, .take), (20, .take), (21, .take), (22, .take), (23, .take)] rfl ?_
        refine Sx.st_take hT rfl rfl rfl rfl (Sx.x_move hT rfl rfl) ?_
        clear hT; intro a hT
        refine Sx.st_take hT rfl rfl rfl rfl ((fun w => Sx.x_streq w hT rfl rfl rfl)) ?_
        clear hT; intro a hT
        refine Sx.st_take hT rfl rfl rfl rfl (Sx.x_move hT rfl rfl) ?_
        clear hT; intro a hT
        -- guard (10, 2)
        refine Sx.Sl.two hT 40 rfl (fun hc35 hT => ?_) (fun hc35 hT => ?_)
        · try simp only [decide_eq_true_eq, decide_eq_false_iff_not, Bool.not_eq_true', Bool.not_eq_false', Bool.not_eq_true, Bool.not_eq_false, Bool.and_eq_true, Bool.or_eq_false_iff, beq_iff_eq, bne_iff_ne, Int.not_lt, Int.not_le, ne_eq] at hc35
          have qa1 := hc35
          refine Sx.st_skip hT rfl rfl rfl rfl ?_
          clear hT; intro a hT
          refine Sx.st_runskip hT rfl rfl rfl rfl ?_
          clear hT; intro a hT
          refine Sx.st_skip hT rfl rfl rfl rfl ?_
          clear hT; intro a hT
          refine Sx.st_skip hT rfl rfl rfl rfl ?_
          clear hT; intro a hT
          refine Sx.st_skip hT rfl rfl rfl rfl ?_
          clear hT; intro a hT
          refine Sx.st_runskip hT rfl rfl rfl rfl ?_
          clear hT; intro a hT
          refine Sx.st_skip hT rfl rfl rfl rfl ?_
          clear hT; intro a hT
          refine Sx.st_skip hT rfl rfl rfl rfl ?_
          clear hT; intro a hT
          refine Sx.st_skip hT rfl rfl rfl rfl ?_
          clear hT; intro a hT
          refine Sx.st_take hT rfl rfl rfl rfl (Sx.x_pick_t hT rfl rfl rfl) ?_
          clear hT; intro a hT
          refine Sx.st_take hT rfl rfl rfl rfl (Sx.x_move hT rfl rfl) ?_
          clear hT; intro a hT
          refine Sx.st_skip hT rfl rfl rfl rfl ?_
          clear hT; intro a hT
          refine Sx.st_runskip hT rfl rfl rfl rfl ?_
          clear hT; intro a hT
          refine Sx.st_skip hT rfl rfl rfl rfl ?_
          clear hT; intro a hT
          refine Sx.st_skip hT rfl rfl rfl rfl ?_
          clear hT; intro a hT
          refine Sx.st_runskip hT rfl rfl rfl rfl ?_
          clear hT; intro a hT
          refine Sx.st_skip hT rfl rfl rfl rfl ?_
          clear hT; intro a hT
          refine Sx.st_skip hT rfl rfl rfl rfl ?_
          clear hT; intro a hT
          refine Sx.st_skip hT rfl rfl rfl rfl ?_
          clear hT; intro a hT
          refine Sx.st_take hT rfl rfl rfl rfl (Sx.x_pick_t hT rfl rfl rfl) ?_
          clear hT; intro a hT
          refine Sx.st_take hT rfl rfl rfl rfl (Sx.x_assign hT rfl rfl) ?_
          clear hT; intro a hT
          replace hT := hT.keep [12, 37, 10, 11, 21, 20, 9, 19, 18, 16, 8, 4, 0, 1, 2] rfl
          refine Sx.ser_nil ?_
          refine Sx.then_normal (hK34 _ _ ?_)
          clear hK34
          refine wp_seq_k fun K36 hK36 => ?_
          -- region 11 (scan.go:64)
          refine Sx.wp_text [(0, .take), (1, .take), (2, .run), (3, .run), (4, .run), (5, .take)] rfl ?_
          refine Sx.st_take hT rfl rfl rfl rfl (Sx.x_move hT rfl rfl) ?_
          clear hT; intro a hT
          refine Sx.st_take hT rfl rfl rfl rfl (Sx.x_move hT rfl rfl) ?_
          clear hT; intro a hT
          refine Sx.st_run hT rfl rfl rfl rfl (Sx.y_loadS hT rfl Tryd.underlying27 Tryd.ti27 rfl ((H.blk 2 rfl).seg (k := 12) rfl) (by rfl)) ?_
          clear hT; intro a hT
          refine Sx.st_run hT rfl rfl rfl rfl (Sx.y_loadS hT rfl Tryd.underlying45 Tryd.ti45 rfl ((H.blk 0 rfl).seg (k := 4) rfl) (by rfl)) ?_
          clear hT; intro a hT
          refine Sx.st_call hT rfl rfl rfl rfl rfl Tryd.can19 rfl (Match_calls _ _ _) ?_
          rintro _ w15 ⟨rfl, E⟩
          refine ⟨_, rfl, ?_⟩
          clear hT; intro a hT
          replace H := H.pure E; clear E
          refine Sx.st_take hT rfl rfl rfl rfl (Sx.x_pick_t hT rfl rfl rfl) ?_
          clear hT; intro a hT
          replace hT := hT.keep [66, 12, 37, 10, 11, 21, 20, 9, 19, 18, 16, 8, 4, 0, 1, 2] rfl
          refine Sx.ser_nil ?_
          refine Sx.then_normal (hK36 _ _ ?_)
          clear hK36
          -- cond 3
          refine Sx.wp_if hT rfl (fun hc37 => ?_) (fun hc37 => ?_)
          · try simp only [decide_eq_true_eq, decide_eq_false_iff_not, Bool.not_eq_true', Bool.not_eq_false', Bool.not_eq_true, Bool.not_eq_false, Bool.and_eq_true, Bool.or_eq_false_iff, beq_iff_eq, bne_iff_ne, Int.not_lt, Int.not_le, ne_eq] at hc37
            have hma := hc37
            have hbe : behindQ q after o = true := by first | exact be_e qa1 | exact be_f qb1 qc1 | exact be_b qb0 qd1
            -- region 12 (scan.go:65)
            refine Sx.wp_text [(0, .take), (1, .run), (2, .run), (3, .run), (4, .take)] rfl ?_
            refine Sx.st_take hT rfl rfl rfl rfl (Sx.x_move hT rfl rfl) ?_
            clear hT; intro a hT
            refine Sx.st_run hT rfl rfl rfl rfl (Sx.y_loadS hT rfl Tryd.underlying45 Tryd.ti45 rfl ((H.blk 0 rfl).seg (k := 4) rfl) (by rfl)) ?_
            clear hT; intro a hT
            refine Sx.st_eff hT rfl rfl rfl rfl (Sx.y_slice1 hT rfl Tryd.underlying22 Tryd.ti45 rfl rfl rfl rfl rfl rfl _) ?_
            clear hT; rintro _ w16 ⟨b6, rfl, N⟩ a hT
            replace H := H.new N; clear N
            refine Sx.st_eff hT rfl rfl rfl rfl (Sx.x_append hT rfl rfl Tryd.underlying22 Tryd.ti45 rfl (by decide) rfl rfl (H.row 2 rfl) ((H.blk 0 rfl).sv1 rfl) (by simp [Value.oneCell']) (fun h => by cases h) (by unfold maxLen; omega) (by omega)) ?_
            rintro _ w17 ⟨ad17, c17, rfl, hr, E, hown, -⟩
            clear hT; intro a hT
            replace H := H.setR 2 rfl hr E hown rfl; clear hr E hown
            refine Sx.st_take hT rfl rfl rfl rfl (Sx.x_assign hT rfl rfl) ?_
            clear hT; intro a hT
            replace hT := hT.keep [9, 66, 12, 37, 10, 11, 21, 20, 19, 18, 16, 8, 4, 0, 1, 2] rfl
            refine Sx.ser_nil ?_
            refine Sx.block_normal ?_
            refine Sx.then_normal (hK13 _ _ ?_)
            clear hK13
            -- region 13 (scan.go:59)
            refine Sx.wp_text [(0, .take), (1, .take)] rfl ?_
            refine Sx.st_take hT rfl rfl rfl rfl ((fun w => Sx.x_add w hT rfl rfl rfl (Sx.wrap64 (by omega)))) ?_
            clear hT; intro a hT
            refine Sx.st_take hT rfl rfl rfl rfl (Sx.x_move hT rfl rfl) ?_
            clear hT; intro a hT
            replace hT := hT.keep [20, 9, 66, 12, 37, 10, 11, 21, 19, 18, 16, 8, 4, 0, 1, 2] rfl
            refine Sx.ser_nil ?_
            refine Sx.then_normal ?_
            rw [← pairs_len _ o, ← pick_yes ho hbe hma] at hT
            rw [← pairs_len _ o, show ∀ x : List Value, x ++ [.string ⟨o.key.toArray⟩, .int .i64 o.val.kind, .float .f64 o.val.num, .string ⟨o.val.text.toArray⟩] = x ++ o.cells from fun _ => rfl, ← pairs_flat, ← pick_yes ho hbe hma] at H
            exact ⟨(k + 1, ad17, c17), ⟨by show k + 1 ≤ _; omega, hu2⟩, (hT.keep [20, 9, 19, 18, 16, 8, 4, 0, 1, 2] rfl), (H.keep [2, 3] rfl rfl), by show _ - (k + 1) < _ - k; omega⟩
          · try simp only [decide_eq_true_eq, decide_eq_false_iff_not, Bool.not_eq_true', Bool.not_eq_false', Bool.not_eq_true, Bool.not_eq_false, Bool.and_eq_true, Bool.or_eq_false_iff, beq_iff_eq, bne_iff_ne, Int.not_lt, Int.not_le, ne_eq] at hc37
            have hma := hc37
            have hno : (behindQ q after o && matchQ q o) = false := by first | exact no_m hma | exact no_f qa0 qb1 qc0 | exact no_b qa0 qb0 qd0
            refine wp_skip ?_
            refine Sx.block_normal ?_
            refine Sx.then_normal (hK13 _ _ ?_)
            clear hK13
            -- region 13 (scan.go:59)
            refine Sx.wp_text [(0, .take), (1, .take)] rfl ?_
            refine Sx.st_take hT rfl rfl rfl rfl ((fun w => Sx.x_add w hT rfl rfl rfl (Sx.wrap64 (by omega)))) ?_
            clear hT; intro a hT
            refine Sx.st_take hT rfl rfl rfl rfl (Sx.x_move hT rfl rfl) ?_
            clear hT; intro a hT
            replace hT := hT.keep [20, 66, 12, 37, 10, 11, 21, 9, 19, 18, 16, 8, 4, 0, 1, 2] rfl
            refine Sx.ser_nil ?_
            refine Sx.then_normal ?_
            rw [← pick_no ho hno] at hT H
            exact ⟨(k + 1, ad2, c2), ⟨by show k + 1 ≤ _; omega, hu2⟩, (hT.keep [20, 9, 19, 18, 16, 8, 4, 0, 1, 2] rfl), (H.keep [1, 2] rfl rfl), by show _ - (k + 1) < _ - k; omega⟩
        · try simp only [decide_eq_true_eq, decide_eq_false_iff_not, Bool.not_eq_true', Bool.not_eq_false', Bool.not_eq_true, Bool.not_eq_false, Bool.and_eq_true, Bool.or_eq_false_iff, beq_iff_eq, bne_iff_ne, Int.not_lt, Int.not_le, ne_eq] at hc35
          have qa0 := hc35
          refine Sx.st_take hT rfl rfl rfl rfl (Sx.x_fieldAddr hT rfl Tryd.fa27_5 rfl) ?_
          clear hT; intro a hT
          refine Sx.st_run hT rfl rfl rfl rfl (Sx.x_load1 hT rfl Tryd.fl4 rfl ((H.blk 2 rfl).nth rfl)) ?_
          clear hT; intro a hT
          refine Sx.st_take hT rfl rfl rfl rfl (Sx.x_not hT rfl rfl) ?_
          clear hT; intro a hT
          refine Sx.st_take hT rfl rfl rfl rfl (Sx.x_move hT rfl rfl) ?_
          clear hT; intro a hT
          -- guard (10, 6)
          refine Sx.Sl.two hT 44 rfl (fun hc38 hT => ?_) (fun hc38 hT => ?_)
          · try simp only [decide_eq_true_eq, decide_eq_false_iff_not, Bool.not_eq_true', Bool.not_eq_false', Bool.not_eq_true, Bool.not_eq_false, Bool.and_eq_true, Bool.or_eq_false_iff, beq_iff_eq, bne_iff_ne, Int.not_lt, Int.not_le, ne_eq] at hc38
            have qb1 := hc38
            refine Sx.st_take hT rfl rfl rfl rfl (Sx.x_fieldAddr hT rfl Tryd.fa45_0 rfl) ?_
            clear hT; intro a hT
            refine Sx.st_run hT rfl rfl rfl rfl (Sx.x_load1 hT rfl Tryd.fl9 rfl ((H.blk 0 rfl).nth rfl)) ?_
            clear hT; intro a hT
            refine Sx.st_take hT rfl rfl rfl rfl (Sx.x_move hT rfl rfl) ?_
            clear hT; intro a hT
            refine Sx.st_take hT rfl rfl rfl rfl ((fun w => Sx.x_strgt w hT rfl rfl rfl)) ?_
            clear hT; intro a hT
            refine Sx.st_take hT rfl rfl rfl rfl (Sx.x_pick_t hT rfl rfl rfl) ?_
            clear hT; intro a hT
            refine Sx.st_take hT rfl rfl rfl rfl (Sx.x_pick_f hT rfl rfl rfl) ?_
            clear hT; intro a hT
            refine Sx.st_take hT rfl rfl rfl rfl (Sx.x_move hT rfl rfl) ?_
            clear hT; intro a hT
            -- guard (10, 13)
            refine Sx.Sl.two hT 51 rfl (fun hc39 hT => ?_) (fun hc39 hT => ?_)
            · try simp only [decide_eq_true_eq, decide_eq_false_iff_not, Bool.not_eq_true', Bool.not_eq_false', Bool.not_eq_true, Bool.not_eq_false, Bool.and_eq_true, Bool.or_eq_false_iff, beq_iff_eq, bne_iff_ne, Int.not_lt, Int.not_le, ne_eq] at hc39
              have qc1 := hc39
              refine Sx.st_skip hT rfl rfl rfl rfl ?_
              clear hT; intro a hT
              refine Sx.st_runskip hT rfl rfl rfl rfl ?_
              clear hT; intro a hT
              refine Sx.st_skip hT rfl rfl rfl rfl ?_
              clear hT; intro a hT
              refine Sx.st_skip hT rfl rfl rfl rfl ?_
              clear hT; intro a hT
              refine Sx.st_runskip hT rfl rfl rfl rfl ?_
              clear hT; intro a hT
              refine Sx.st_skip hT rfl rfl rfl rfl ?_
              clear hT; intro a hT
              refine Sx.st_skip hT rfl rfl rfl rfl ?_
              clear hT; intro a hT
              refine Sx.st_skip hT rfl rfl rfl rfl ?_
              clear hT; intro a hT
              refine Sx.st_take hT rfl rfl rfl rfl (Sx.x_pick_t hT rfl rfl rfl) ?_
              clear hT; intro a hT
              refine Sx.st_take hT rfl rfl rfl rfl (Sx.x_assign hT rfl rfl) ?_
              clear hT; intro a hT
              replace hT := hT.keep [12, 37, 10, 11, 21, 20, 9, 19, 18, 16, 8, 4, 0, 1, 2] rfl
              refine Sx.ser_nil ?_
              refine Sx.then_normal (hK34 _ _ ?_)
              clear hK34
              refine wp_seq_k fun K40 hK40 => ?_
              -- region 11 (scan.go:64)
              refine Sx.wp_text [(0, .take), (1, .take), (2, .run), (3, .run), (4, .run), (5, .take)] rfl ?_
              refine Sx.st_take hT rfl rfl rfl rfl (Sx.x_move hT rfl rfl) ?_
              clear hT; intro a hT
              refine Sx.st_take hT rfl rfl rfl rfl (Sx.x_move hT rfl rfl) ?_
              clear hT; intro a hT
              refine Sx.st_run hT rfl rfl rfl rfl (Sx.y_loadS hT rfl Tryd.underlying27 Tryd.ti27 rfl ((H.blk 2 rfl).seg (k := 12) rfl) (by rfl)) ?_
              clear hT; intro a hT
              refine Sx.st_run hT rfl rfl rfl rfl (Sx.y_loadS hT rfl Tryd.underlying45 Tryd.ti45 rfl ((H.blk 0 rfl).seg (k := 4) rfl) (by rfl)) ?_
              clear hT; intro a hT
              refine Sx.st_call hT rfl rfl rfl rfl rfl Tryd.can19 rfl (Match_calls _ _ _) ?_
              rintro _ w18 ⟨rfl, E⟩
              refine ⟨_, rfl, ?_⟩
              clear hT; intro a hT
              replace H := H.pure E; clear E
              refine Sx.st_take hT rfl rfl rfl rfl (Sx.x_pick_t hT rfl rfl rfl) ?_
              clear hT; intro a hT
              replace hT := hT.keep [66, 12, 37, 10, 11, 21, 20, 9, 19, 18, 16, 8, 4, 0, 1, 2] rfl
              refine Sx.ser_nil ?_
              refine Sx.then_normal (hK40 _ _ ?_)
              clear hK40
              -- cond 3
              refine Sx.wp_if hT rfl (fun hc41 => ?_) (fun hc41 => ?_)
              · try simp only [decide_eq_true_eq, decide_eq_false_iff_not, Bool.not_eq_true', Bool.not_eq_false', Bool.not_eq_true, Bool.not_eq_false, Bool.and_eq_true, Bool.or_eq_false_iff, beq_iff_eq, bne_iff_ne, Int.not_lt, Int.not_le, ne_eq] at hc41
                have hma := hc41
                have hbe : behindQ q after o = true := by first | exact be_e qa1 | exact be_f qb1 qc1 | exact be_b qb0 qd1
                -- region 12 (scan.go:65)
                refine Sx.wp_text [(0, .take), (1, .run), (2, .run), (3, .run), (4, .take)] rfl ?_
                refine Sx.st_take hT rfl rfl rfl rfl (Sx.x_move hT rfl rfl) ?_
                clear hT; intro a hT
                refine Sx.st_run hT rfl rfl rfl rfl (Sx.y_loadS hT rfl Tryd.underlying45 Tryd.ti45 rfl ((H.blk 0 rfl).seg (k := 4) rfl) (by rfl)) ?_
                clear hT; intro a hT
                refine Sx.st_eff hT rfl rfl rfl rfl (Sx.y_slice1 hT rfl Tryd.underlying22 Tryd.ti45 rfl rfl rfl rfl rfl rfl _) ?_
                clear hT; rintro _ w19 ⟨b7, rfl, N⟩ a hT
                replace H := H.new N; clear N
                refine Sx.st_eff hT rfl rfl rfl rfl (Sx.x_append hT rfl rfl Tryd.underlying22 Tryd.ti45 rfl (by decide) rfl rfl (H.row 2 rfl) ((H.blk 0 rfl).sv1 rfl) (by simp [Value.oneCell']) (fun h => by cases h) (by unfold maxLen; omega) (by omega)) ?_
                rintro _ w20 ⟨ad20, c20, rfl, hr, E, hown, -⟩
                clear hT; intro a hT
                replace H := H.setR 2 rfl hr E hown rfl; clear hr E hown
                refine Sx.st_take hT rfl rfl rfl rfl (Sx.x_assign hT rfl rfl) ?_
                clear hT; intro a hT
                replace hT := hT.keep [9, 66, 12, 37, 10, 11, 21, 20, 19, 18, 16, 8, 4, 0, 1, 2] rfl
                refine Sx.ser_nil ?_
                refine Sx.block_normal ?_
                refine Sx.then_normal (hK13 _ _ ?_)
                clear hK13
                -- region 13 (scan.go:59)
                refine Sx.wp_text [(0, .take), (1, .take)] rfl ?_
                refine Sx.st_take hT rfl rfl rfl rfl ((fun w => Sx.x_add w hT rfl rfl rfl (Sx.wrap64 (by omega)))) ?_
                clear hT; intro a hT
                refine Sx.st_take hT rfl rfl rfl rfl (Sx.x_move hT rfl rfl) ?_
                clear hT; intro a hT
                replace hT := hT.keep [20, 9, 66, 12, 37, 10, 11, 21, 19, 18, 16, 8, 4, 0, 1, 2] rfl
                refine Sx.ser_nil ?_
                refine Sx.then_normal ?_
                rw [← pairs_len _ o, ← pick_yes ho hbe hma] at hT
                rw [← pairs_len _ o, show ∀ x : List Value, x ++ [.string ⟨o.key.toArray⟩, .int .i64 o.val.kind, .float .f64 o.val.num, .string ⟨o.val.text.toArray⟩] = x ++ o.cells from fun _ => rfl, ← pairs_flat, ← pick_yes ho hbe hma] at H
                exact ⟨(k + 1, ad20, c20), ⟨by show k + 1 ≤ _; omega, hu2⟩, (hT.keep [20, 9, 19, 18, 16, 8, 4, 0, 1, 2] rfl), (H.keep [2, 3] rfl rfl), by show _ - (k + 1) < _ - k; omega⟩
              · try simp only [decide_eq_true_eq, decide_eq_false_iff_not, Bool.not_eq_true', Bool.not_eq_false', Bool.not_eq_true, Bool.not_eq_false, Bool.and_eq_true, Bool.or_eq_false_iff, beq_iff_eq, bne_iff_ne, Int.not_lt, Int.not_le, ne_eq] at hc41
                have hma := hc41
                have hno : (behindQ q after o && matchQ q o) = false := by first | exact no_m hma | exact no_f qa0 qb1 qc0 | exact no_b qa0 qb0 qd0
                refine wp_skip ?_
                refine Sx.block_normal ?_
                refine Sx.then_normal (hK13 _ _ ?_)
                clear hK13
                -- region 13 (scan.go:59)
                refine Sx.wp_text [(0, .take), (1, .take)] rfl ?_
                refine Sx.st_take hT rfl rfl rfl rfl ((fun w => Sx.x_add w hT rfl rfl rfl (Sx.wrap64 (by omega)))) ?_
                clear hT; intro a hT
                refine Sx.st_take hT rfl rfl rfl rfl (Sx.x_move hT rfl rfl) ?_
                clear hT; intro a hT
                replace hT := hT.keep [20, 66, 12, 37, 10, 11, 21, 9, 19, 18, 16, 8, 4, 0, 1, 2] rfl
                refine Sx.ser_nil ?_
                refine Sx.then_normal ?_
                rw [← pick_no ho hno] at hT H
                exact ⟨(k + 1, ad2, c2), ⟨by show k + 1 ≤ _; omega, hu2⟩, (hT.keep [20, 9, 19, 18, 16, 8, 4, 0, 1, 2] rfl), (H.keep [1, 2] rfl rfl), by show _ - (k + 1) < _ - k; omega⟩
            · try simp only [decide_eq_true_eq, decide_eq_false_iff_not, Bool.not_eq_true', Bool.not_eq_false', Bool.not_eq_true, Bool.not_eq_false, Bool.and_eq_true, Bool.or_eq_false_iff, beq_iff_eq, bne_iff_ne, Int.not_lt, Int.not_le, ne_eq] at hc39
              have qc0 := hc39
              refine Sx.st_take hT rfl rfl rfl rfl (Sx.x_fieldAddr hT rfl Tryd.fa27_5 rfl) ?_
              clear hT; intro a hT
              refine Sx.st_run hT rfl rfl rfl rfl (Sx.x_load1 hT rfl Tryd.fl4 rfl ((H.blk 2 rfl).nth rfl)) ?_
              clear hT; intro a hT
              refine Sx.st_take hT rfl rfl rfl rfl (Sx.x_move hT rfl rfl) ?_
              clear hT; intro a hT
              -- guard (10, 16)
              refine Sx.Sl.two hT 54 rfl (fun hc42 hT => ?_) (fun hc42 hT => ?_)
              · exfalso
                try simp only [decide_eq_true_eq, decide_eq_false_iff_not, Bool.not_eq_true', Bool.not_eq_false', Bool.not_eq_true, Bool.not_eq_false, Bool.and_eq_true, Bool.or_eq_false_iff, beq_iff_eq, bne_iff_ne, Int.not_lt, Int.not_le, ne_eq] at hc42
                rw [qb1] at hc42; cases hc42
              · try simp only [decide_eq_true_eq, decide_eq_false_iff_not, Bool.not_eq_true', Bool.not_eq_false', Bool.not_eq_true, Bool.not_eq_false, Bool.and_eq_true, Bool.or_eq_false_iff, beq_iff_eq, bne_iff_ne, Int.not_lt, Int.not_le, ne_eq] at hc42
                refine Sx.st_skip hT rfl rfl rfl rfl ?_
                clear hT; intro a hT
                refine Sx.st_runskip hT rfl rfl rfl rfl ?_
                clear hT; intro a hT
                refine Sx.st_skip hT rfl rfl rfl rfl ?_
                clear hT; intro a hT
                refine Sx.st_skip hT rfl rfl rfl rfl ?_
                clear hT; intro a hT
                refine Sx.st_take hT rfl rfl rfl rfl (Sx.x_pick_f hT rfl rfl rfl) ?_
                clear hT; intro a hT
                refine Sx.st_take hT rfl rfl rfl rfl (Sx.x_pick_f hT rfl rfl rfl) ?_
                clear hT; intro a hT
                refine Sx.st_take hT rfl rfl rfl rfl (Sx.x_assign hT rfl rfl) ?_
                clear hT; intro a hT
                replace hT := hT.keep [12, 37, 10, 11, 21, 20, 9, 19, 18, 16, 8, 4, 0, 1, 2] rfl
                refine Sx.ser_nil ?_
                refine Sx.then_normal (hK34 _ _ ?_)
                clear hK34
                refine wp_seq_k fun K43 hK43 => ?_
                -- region 11 (scan.go:64)
                refine Sx.wp_text [(0, .take), (1, .take), (2, .run), (3, .run), (4, .run), (5, .take)] rfl ?_
                refine Sx.st_take hT rfl rfl rfl rfl (Sx.x_move hT rfl rfl) ?_
                clear hT; intro a hT
                refine Sx.st_take hT rfl rfl rfl rfl (Sx.x_move hT rfl rfl) ?_
                clear hT; intro a hT
                refine Sx.st_runskip hT rfl rfl rfl rfl ?_
                clear hT; intro a hT
                refine Sx.st_runskip hT rfl rfl rfl rfl ?_
                clear hT; intro a hT
                refine Sx.st_runskip hT rfl rfl rfl rfl ?_
                clear hT; intro a hT
                refine Sx.st_take hT rfl rfl rfl rfl (Sx.x_pick_f hT rfl rfl rfl) ?_
                clear hT; intro a hT
                replace hT := hT.keep [66, 12, 37, 10, 11, 21, 20, 9, 19, 18, 16, 8, 4, 0, 1, 2] rfl
                refine Sx.ser_nil ?_
                refine Sx.then_normal (hK43 _ _ ?_)
                clear hK43
                refine Sx.wp_if hT rfl (fun h => by cases h) (fun _ => ?_)
                have hno : (behindQ q after o && matchQ q o) = false := by first | exact no_m hma | exact no_f qa0 qb1 qc0 | exact no_b qa0 qb0 qd0
                refine wp_skip ?_
                refine Sx.block_normal ?_
                refine Sx.then_normal (hK13 _ _ ?_)
                clear hK13
                -- region 13 (scan.go:59)
                refine Sx.wp_text [(0, .take), (1, .take)] rfl ?_
                refine Sx.st_take hT rfl rfl rfl rfl ((fun w => Sx.x_add w hT rfl rfl rfl (Sx.wrap64 (by omega)))) ?_
                clear hT; intro a hT
                refine Sx.st_take hT rfl rfl rfl rfl (Sx.x_move hT rfl rfl) ?_
                clear hT; intro a hT
                replace hT := hT.keep [20, 66, 12, 37, 10, 11, 21, 9, 19, 18, 16, 8, 4, 0, 1, 2] rfl
                refine Sx.ser_nil ?_
                refine Sx.then_normal ?_
                rw [← pick_no ho hno] at hT H
                exact ⟨(k + 1, ad2, c2), ⟨by show k + 1 ≤ _; omega, hu2⟩, (hT.keep [20, 9, 19, 18, 16, 8, 4, 0, 1, 2] rfl), (H.keep [1, 2] rfl rfl), by show _ - (k + 1) < _ - k; omega⟩
          · try simp only [decide_eq_true_eq, decide_eq_false_iff_not, Bool.not_eq_true', Bool.not_eq_false', Bool.not_eq_true, Bool.not_eq_false, Bool.and_eq_true, Bool.or_eq_false_iff, beq_iff_eq, bne_iff_ne, Int.not_lt, Int.not_le, ne_eq] at hc38
            have qb0 := hc38
            refine Sx.st_skip hT rfl rfl rfl rfl ?_
            clear hT; intro a hT
            refine Sx.st_runskip hT rfl rfl rfl rfl ?_
            clear hT; intro a hT
            refine Sx.st_skip hT rfl rfl rfl rfl ?_
            clear hT; intro a hT
            refine Sx.st_skip hT rfl rfl rfl rfl ?_
            clear hT; intro a hT
            refine Sx.st_take hT rfl rfl rfl rfl (Sx.x_pick_f hT rfl rfl rfl) ?_
            clear hT; intro a hT
            refine Sx.st_take hT rfl rfl rfl rfl (Sx.x_pick_f hT rfl rfl rfl) ?_
            clear hT; intro a hT
            refine Sx.st_take hT rfl rfl rfl rfl (Sx.x_move hT rfl rfl) ?_
            clear hT; intro a hT
            refine Sx.st_take hT rfl rfl rfl rfl (Sx.x_fieldAddr hT rfl Tryd.fa27_5 rfl) ?_
            clear hT; intro a hT
            refine Sx.st_run hT rfl rfl rfl rfl (Sx.x_load1 hT rfl Tryd.fl4 rfl ((H.blk 2 rfl).nth rfl)) ?_
            clear hT; intro a hT
            refine Sx.st_take hT rfl rfl rfl rfl (Sx.x_move hT rfl rfl) ?_
            clear hT; intro a hT
            -- guard (10, 16)
            refine Sx.Sl.two hT 54 rfl (fun hc44 hT => ?_) (fun hc44 hT => ?_)
            · try simp only [decide_eq_true_eq, decide_eq_false_iff_not, Bool.not_eq_true', Bool.not_eq_false', Bool.not_eq_true, Bool.not_eq_false, Bool.and_eq_true, Bool.or_eq_false_iff, beq_iff_eq, bne_iff_ne, Int.not_lt, Int.not_le, ne_eq] at hc44
              refine Sx.st_take hT rfl rfl rfl rfl (Sx.x_fieldAddr hT rfl Tryd.fa45_0 rfl) ?_
              clear hT; intro a hT
              refine Sx.st_run hT rfl rfl rfl rfl (Sx.x_load1 hT rfl Tryd.fl9 rfl ((H.blk 0 rfl).nth rfl)) ?_
              clear hT; intro a hT
              refine Sx.st_take hT rfl rfl rfl rfl (Sx.x_move hT rfl rfl) ?_
              clear hT; intro a hT
              refine Sx.st_take hT rfl rfl rfl rfl ((fun w => Sx.x_strlt w hT rfl rfl rfl)) ?_
              clear hT; intro a hT
              refine Sx.st_take hT rfl rfl rfl rfl (Sx.x_pick_t hT rfl rfl rfl) ?_
              clear hT; intro a hT
              refine Sx.st_take hT rfl rfl rfl rfl (Sx.x_pick_f hT rfl rfl rfl) ?_
              clear hT; intro a hT
              refine Sx.st_take hT rfl rfl rfl rfl (Sx.x_assign hT rfl rfl) ?_
              clear hT; intro a hT
              replace hT := hT.keep [12, 37, 10, 11, 21, 20, 9, 19, 18, 16, 8, 4, 0, 1, 2] rfl
              refine Sx.ser_nil ?_
              refine Sx.then_normal (hK34 _ _ ?_)
              clear hK34
              refine wp_seq_k fun K45 hK45 => ?_
              -- region 11 (scan.go:64)
              refine Sx.wp_text [(0, .take), (1, .take), (2, .run), (3, .run), (4, .run), (5, .take)] rfl ?_
              refine Sx.st_take hT rfl rfl rfl rfl (Sx.x_move hT rfl rfl) ?_
              clear hT; intro a hT
              refine Sx.st_take hT rfl rfl rfl rfl (Sx.x_move hT rfl rfl) ?_
              clear hT; intro a hT
              -- guard (11, 1)
              refine Sx.Sl.two hT 62 rfl (fun hc46 hT => ?_) (fun hc46 hT => ?_)
              · try simp only [decide_eq_true_eq, decide_eq_false_iff_not, Bool.not_eq_true', Bool.not_eq_false', Bool.not_eq_true, Bool.not_eq_false, Bool.and_eq_true, Bool.or_eq_false_iff, beq_iff_eq, bne_iff_ne, Int.not_lt, Int.not_le, ne_eq] at hc46
                have qd1 := hc46
                refine Sx.st_run hT rfl rfl rfl rfl (Sx.y_loadS hT rfl Tryd.underlying27 Tryd.ti27 rfl ((H.blk 2 rfl).seg (k := 12) rfl) (by rfl)) ?_
                clear hT; intro a hT
                refine Sx.st_run hT rfl rfl rfl rfl (Sx.y_loadS hT rfl Tryd.underlying45 Tryd.ti45 rfl ((H.blk 0 rfl).seg (k := 4) rfl) (by rfl)) ?_
                clear hT; intro a hT
                refine Sx.st_call hT rfl rfl rfl rfl rfl Tryd.can19 rfl (Match_calls _ _ _) ?_
                rintro _ w21 ⟨rfl, E⟩
                refine ⟨_, rfl, ?_⟩
                clear hT; intro a hT
                replace H := H.pure E; clear E
                refine Sx.st_take hT rfl rfl rfl rfl (Sx.x_pick_t hT rfl rfl rfl) ?_
                clear hT; intro a hT
                replace hT := hT.keep [66, 12, 37, 10, 11, 21, 20, 9, 19, 18, 16, 8, 4, 0, 1, 2] rfl
                refine Sx.ser_nil ?_
                refine Sx.then_normal (hK45 _ _ ?_)
                clear hK45
                -- cond 3
                refine Sx.wp_if hT rfl (fun hc47 => ?_) (fun hc47 => ?_)
                · try simp only [decide_eq_true_eq, decide_eq_false_iff_not, Bool.not_eq_true', Bool.not_eq_false', Bool.not_eq_true, Bool.not_eq_false, Bool.and_eq_true, Bool.or_eq_false_iff, beq_iff_eq, bne_iff_ne, Int.not_lt, Int.not_le, ne_eq] at hc47
                  have hma := hc47
                  have hbe : behindQ q after o = true := by first | exact be_e qa1 | exact be_f qb1 qc1 | exact be_b qb0 qd1
                  -- region 12 (scan.go:65)
                  refine Sx.wp_text [(0, .take), (1, .run), (2, .run), (3, .run), (4, .take)] rfl ?_
                  refine Sx.st_take hT rfl rfl rfl rfl (Sx.x_move hT rfl rfl) ?_
                  clear hT; intro a hT
                  refine Sx.st_run hT rfl rfl rfl rfl (Sx.y_loadS hT rfl Tryd.underlying45 Tryd.ti45 rfl ((H.blk 0 rfl).seg (k := 4) rfl) (by rfl)) ?_
                  clear hT; intro a hT
                  refine Sx.st_eff hT rfl rfl rfl rfl (Sx.y_slice1 hT rfl Tryd.underlying22 Tryd.ti45 rfl rfl rfl rfl rfl rfl _) ?_
                  clear hT; rintro _ w22 ⟨b8, rfl, N⟩ a hT
                  replace H := H.new N; clear N
                  refine Sx.st_eff hT rfl rfl rfl rfl (Sx.x_append hT rfl rfl Tryd.underlying22 Tryd.ti45 rfl (by decide) rfl rfl (H.row 2 rfl) ((H.blk 0 rfl).sv1 rfl) (by simp [Value.oneCell']) (fun h => by cases h) (by unfold maxLen; omega) (by omega)) ?_
                  rintro _ w23 ⟨ad23, c23, rfl, hr, E, hown, -⟩
                  clear hT; intro a hT
                  replace H := H.setR 2 rfl hr E hown rfl; clear hr E hown
                  refine Sx.st_take hT rfl rfl rfl rfl (Sx.x_assign hT rfl rfl) ?_
                  clear hT; intro a hT
                  replace hT := hT.keep [9, 66, 12, 37, 10, 11, 21, 20, 19, 18, 16, 8, 4, 0, 1, 2] rfl
                  refine Sx.ser_nil ?_
                  refine Sx.block_normal ?_
                  refine Sx.then_normal (hK13 _ _ ?_)
                  clear hK13
                  -- region 13 (scan.go:59)
                  refine Sx.wp_text [(0, .take), (1, .take)] rfl ?_
                  refine Sx.st_take hT rfl rfl rfl rfl ((fun w => Sx.x_add w hT rfl rfl rfl (Sx.wrap64 (by omega)))) ?_
                  clear hT; intro a hT
                  refine Sx.st_take hT rfl rfl rfl rfl (Sx.x_move hT rfl rfl) ?_
                  clear hT; intro a hT
                  replace hT := hT.keep [20, 9, 66, 12, 37, 10, 11, 21, 19, 18, 16, 8, 4, 0, 1, 2] rfl
                  refine Sx.ser_nil ?_
                  refine Sx.then_normal ?_
                  rw [← pairs_len _ o, ← pick_yes ho hbe hma] at hT
                  rw [← pairs_len _ o, show ∀ x : List Value, x ++ [.string ⟨o.key.toArray⟩, .int .i64 o.val.kind, .float .f64 o.val.num, .string ⟨o.val.text.toArray⟩] = x ++ o.cells from fun _ => rfl, ← pairs_flat, ← pick_yes ho hbe hma] at H
                  exact ⟨(k + 1, ad23, c23), ⟨by show k + 1 ≤ _; omega, hu2⟩, (hT.keep [20, 9, 19, 18, 16, 8, 4, 0, 1, 2] rfl), (H.keep [2, 3] rfl rfl), by show _ - (k + 1) < _ - k; omega⟩
                · try simp only [decide_eq_true_eq, decide_eq_false_iff_not, Bool.not_eq_true', Bool.not_eq_false', Bool.not_eq_true, Bool.not_eq_false, Bool.and_eq_true, Bool.or_eq_false_iff, beq_iff_eq, bne_iff_ne, Int.not_lt, Int.not_le, ne_eq] at hc47
                  have hma := hc47
                  have hno : (behindQ q after o && matchQ q o) = false := by first | exact no_m hma | exact no_f qa0 qb1 qc0 | exact no_b qa0 qb0 qd0
                  refine wp_skip ?_
                  refine Sx.block_normal ?_
                  refine Sx.then_normal (hK13 _ _ ?_)
                  clear hK13
                  -- region 13 (scan.go:59)
                  refine Sx.wp_text [(0, .take), (1, .take)] rfl ?_
                  refine Sx.st_take hT rfl rfl rfl rfl ((fun w => Sx.x_add w hT rfl rfl rfl (Sx.wrap64 (by omega)))) ?_
                  clear hT; intro a hT
                  refine Sx.st_take hT rfl rfl rfl rfl (Sx.x_move hT rfl rfl) ?_
                  clear hT; intro a hT
                  replace hT := hT.keep [20, 66, 12, 37, 10, 11, 21, 9, 19, 18, 16, 8, 4, 0, 1, 2] rfl
                  refine Sx.ser_nil ?_
                  refine Sx.then_normal ?_
                  rw [← pick_no ho hno] at hT H
                  exact ⟨(k + 1, ad2, c2), ⟨by show k + 1 ≤ _; omega, hu2⟩, (hT.keep [20, 9, 19, 18, 16, 8, 4, 0, 1, 2] rfl), (H.keep [1, 2] rfl rfl), by show _ - (k + 1) < _ - k; omega⟩
              · try simp only [decide_eq_true_eq, decide_eq_false_iff_not, Bool.not_eq_true', Bool.not_eq_false', Bool.not_eq_true, Bool.not_eq_false, Bool.and_eq_true, Bool.or_eq_false_iff, beq_iff_eq, bne_iff_ne, Int.not_lt, Int.not_le, ne_eq] at hc46
                have qd0 := hc46
                refine Sx.st_runskip hT rfl rfl rfl rfl ?_
                clear hT; intro a hT
                refine Sx.st_runskip hT rfl rfl rfl rfl ?_
                clear hT; intro a hT
                refine Sx.st_runskip hT rfl rfl rfl rfl ?_
                clear hT; intro a hT
                refine Sx.st_take hT rfl rfl rfl rfl (Sx.x_pick_f hT rfl rfl rfl) ?_
                clear hT; intro a hT
                replace hT := hT.keep [66, 12, 37, 10, 11, 21, 20, 9, 19, 18, 16, 8, 4, 0, 1, 2] rfl
                refine Sx.ser_nil ?_
                refine Sx.then_normal (hK45 _ _ ?_)
                clear hK45
                refine Sx.wp_if hT rfl (fun h => by cases h) (fun _ => ?_)
                have hno : (behindQ q after o && matchQ q o) = false := by first | exact no_m hma | exact no_f qa0 qb1 qc0 | exact no_b qa0 qb0 qd0
                refine wp_skip ?_
                refine Sx.block_normal ?_
                refine Sx.then_normal (hK13 _ _ ?_)
                clear hK13
                -- region 13 (scan.go:59)
                refine Sx.wp_text [(0, .take), (1, .take)] rfl ?_
                refine Sx.st_take hT rfl rfl rfl rfl ((fun w => Sx.x_add w hT rfl rfl rfl (Sx.wrap64 (by omega)))) ?_
                clear hT; intro a hT
                refine Sx.st_take hT rfl rfl rfl rfl (Sx.x_move hT rfl rfl) ?_
                clear hT; intro a hT
                replace hT := hT.keep [20, 66, 12, 37, 10, 11, 21, 9, 19, 18, 16, 8, 4, 0, 1, 2] rfl
                refine Sx.ser_nil ?_
                refine Sx.then_normal ?_
                rw [← pick_no ho hno] at hT H
                exact ⟨(k + 1, ad2, c2), ⟨by show k + 1 ≤ _; omega, hu2⟩, (hT.keep [20, 9, 19, 18, 16, 8, 4, 0, 1, 2] rfl), (H.keep [1, 2] rfl rfl), by show _ - (k + 1) < _ - k; omega⟩
            · exfalso
              try simp only [decide_eq_true_eq, decide_eq_false_iff_not, Bool.not_eq_true', Bool.not_eq_false', Bool.not_eq_true, Bool.not_eq_false, Bool.and_eq_true, Bool.or_eq_false_iff, beq_iff_eq, bne_iff_ne, Int.not_lt, Int.not_le, ne_eq] at hc44
              rw [qb0] at hc44; cases hc44
    · try simp only [decide_eq_true_eq, decide_eq_false_iff_not, Bool.not_eq_true', Bool.not_eq_false', Bool.not_eq_true, Bool.not_eq_false, Bool.and_eq_true, Bool.or_eq_false_iff, beq_iff_eq, bne_iff_ne, Int.not_lt, Int.not_le, ne_eq] at hc12
      obtain rfl : k = l.length := by omega
      rw [List.take_length] at hT H hpl
      have hri := rises_true hu
      refine wp_exit ?_
      refine Sx.then_exit ?_
      refine Sx.then_exit ?_
      refine Sx.block_exit ?_
      refine Sx.then_normal (hK8 _ _ ?_)
      clear hK8
      refine wp_seq_k fun K48 hK48 => ?_
      refine wp_seq_k fun K49 hK49 => ?_
      -- region 14 (scan.go:68)
      refine Sx.wp_text [(0, .take), (1, .run)] rfl ?_
      refine Sx.st_take hT rfl rfl rfl rfl (Sx.x_fieldAddr hT rfl Tryd.fa27_5 rfl) ?_
      clear hT; intro a hT
      refine Sx.st_run hT rfl rfl rfl rfl (Sx.x_load1 hT rfl Tryd.fl4 rfl ((H.blk 1 rfl).nth rfl)) ?_
      clear hT; intro a hT
      replace hT := hT.keep [73, 21, 20, 9, 19, 18, 16, 8, 4, 0, 1, 2] rfl
      refine Sx.ser_nil ?_
      refine Sx.then_normal (hK49 _ _ ?_)
      clear hK49
      -- cond 4
      refine Sx.wp_if hT rfl (fun hc50 => ?_) (fun hc50 => ?_)
      · try simp only [decide_eq_true_eq, decide_eq_false_iff_not, Bool.not_eq_true', Bool.not_eq_false', Bool.not_eq_true, Bool.not_eq_false, Bool.and_eq_true, Bool.or_eq_false_iff, beq_iff_eq, bne_iff_ne, Int.not_lt, Int.not_le, ne_eq] at hc50
        -- region 15 (scan.go:69)
        refine Sx.wp_text [(0, .take), (1, .run)] rfl ?_
        refine Sx.st_take hT rfl rfl rfl rfl (Sx.x_move hT rfl rfl) ?_
        clear hT; intro a hT
        refine Sx.st_call hT rfl rfl rfl rfl rfl Tryd.can43 rfl (Rev_calls _ _ _ _ (H.pre [0] rfl rfl) (by omega)) ?_
        rintro _ w24 ⟨rfl, K⟩
        refine ⟨_, rfl, ?_⟩
        clear hT; intro a hT
        replace H := H.back [0] [1] rfl rfl rfl K rfl; clear K
        replace hT := hT.keep [73, 21, 20, 9, 19, 18, 16, 8, 4, 0, 1, 2] rfl
        refine Sx.ser_nil ?_
        refine Sx.then_normal (hK48 _ _ ?_)
        clear hK48
        refine wp_seq_k fun K51 hK51 => ?_
        -- region 16 (scan.go:71)
        refine Sx.wp_text [(0, .take), (1, .take), (2, .take)] rfl ?_
        refine Sx.st_take hT rfl rfl rfl rfl (Sx.x_move hT rfl rfl) ?_
        clear hT; intro a hT
        refine Sx.st_take hT rfl rfl rfl rfl (Sx.x_assign hT rfl rfl) ?_
        clear hT; intro a hT
        refine Sx.st_take hT rfl rfl rfl rfl (Sx.x_assign hT rfl rfl) ?_
        clear hT; intro a hT
        replace hT := hT.keep [7, 6, 73, 21, 20, 9, 19, 18, 16, 8, 4, 0, 1, 2] rfl
        refine Sx.ser_nil ?_
        refine Sx.then_normal (hK51 _ _ ?_)
        clear hK51
        refine wp_ret ?_
        refine Sx.done2 (fn := Tryd.f26) hT rfl (.tmp (hT.get 6 _ rfl)) (.tmp (hT.get 7 _ rfl)) ?_
        rw [all_bwd hc9 hri (by assumption), List.length_reverse]
        exact ⟨_, _, rfl, H.keep [0] rfl rfl⟩
      · try simp only [decide_eq_true_eq, decide_eq_false_iff_not, Bool.not_eq_true', Bool.not_eq_false', Bool.not_eq_true, Bool.not_eq_false, Bool.and_eq_true, Bool.or_eq_false_iff, beq_iff_eq, bne_iff_ne, Int.not_lt, Int.not_le, ne_eq] at hc50
        refine wp_skip ?_
        refine Sx.then_normal (hK48 _ _ ?_)
        clear hK48
        refine wp_seq_k fun K52 hK52 => ?_
        -- region 16 (scan.go:71)
        refine Sx.wp_text [(0, .take), (1, .take), (2, .take)] rfl ?_
        refine Sx.st_take hT rfl rfl rfl rfl (Sx.x_move hT rfl rfl) ?_
        clear hT; intro a hT
        refine Sx.st_take hT rfl rfl rfl rfl (Sx.x_assign hT rfl rfl) ?_
        clear hT; intro a hT
        refine Sx.st_take hT rfl rfl rfl rfl (Sx.x_assign hT rfl rfl) ?_
        clear hT; intro a hT
        replace hT := hT.keep [7, 6, 73, 21, 20, 9, 19, 18, 16, 8, 4, 0, 1, 2] rfl
        refine Sx.ser_nil ?_
        refine Sx.then_normal (hK52 _ _ ?_)
        clear hK52
        refine wp_ret ?_
        refine Sx.done2 (fn := Tryd.f26) hT rfl (.tmp (hT.get 6 _ rfl)) (.tmp (hT.get 7 _ rfl)) ?_
        rw [all_fwd hc9 hri (by assumption)]
        exact ⟨_, _, rfl, H.keep [0] rfl rfl⟩

end Go.Proofs.YtainemoobhkeiaaDoor
