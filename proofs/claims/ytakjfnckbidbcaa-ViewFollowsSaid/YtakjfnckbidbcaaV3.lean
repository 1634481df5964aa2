/- Walks: the document's groups of pairs. -/
import Derived.Test.YtakjfnckbidbcaaV2
set_option linter.unusedSimpArgs false
set_option linter.unusedVariables false
namespace Go.Proofs.Ytakjfnckbidbcaa
open Sx
theorem Try.ti59 : Sx.TI Try.prog 59 (.agg #[.string .empty, .int .i64 0, .int .i64 0, .float .f64 0, .float .f64 0, .float .f64 0]) 6 56 := .mk' (by kernel_rfl)
theorem Try.fa59_0 : Sx.FA Try.prog 59 0 0 := ⟨_, _, _, _, _, Try.underlying59, rfl, rfl, Try.ti9, by decide⟩
theorem Try.fa59_1 : Sx.FA Try.prog 59 1 1 := ⟨_, _, _, _, _, Try.underlying59, rfl, rfl, Try.ti3, by decide⟩
theorem Try.fa59_2 : Sx.FA Try.prog 59 2 2 := ⟨_, _, _, _, _, Try.underlying59, rfl, rfl, Try.ti3, by decide⟩
theorem Try.fa59_3 : Sx.FA Try.prog 59 3 3 := ⟨_, _, _, _, _, Try.underlying59, rfl, rfl, Try.ti46, by decide⟩
theorem Try.fa59_4 : Sx.FA Try.prog 59 4 4 := ⟨_, _, _, _, _, Try.underlying59, rfl, rfl, Try.ti46, by decide⟩
theorem Try.fa59_5 : Sx.FA Try.prog 59 5 5 := ⟨_, _, _, _, _, Try.underlying59, rfl, rfl, Try.ti46, by decide⟩
theorem Try.bld59 : Sx.Bld Try.prog 59 #[.string .empty, .int .i64 0, .int .i64 0, .float .f64 0, .float .f64 0, .float .f64 0] #[(0, 1), (1, 1), (2, 1), (3, 1), (4, 1), (5, 1)] := ⟨_, _, _, _, Try.ti59, rfl, Try.underlying59, fun w => by simp [Sx.placesOf, Sx.run_sizeOf Try.ti3, Sx.run_sizeOf Try.ti46, Sx.run_sizeOf Try.ti9]⟩
theorem Try.can31 : Sx.Can Try.prog 31 := ⟨_, Try.func31, by kernel_rfl, rfl⟩
theorem Try.can52 : Sx.Can Try.prog 52 := ⟨_, Try.func52, by kernel_rfl, rfl⟩
theorem name_calls (l : Key) (cut : Nat) (hl : l.length ≤ 140737488351232) (hcut : cut ≤ 24) (w : World) : Calls Try.prog 52 #[.string ⟨l.toArray⟩, .int .i64 (cut : Int)] w fun e w' => e = .returned (.string ⟨(l.take cut).toArray⟩) ∧ Ext No w w' := by
  refine Sx.calls_into Try.func52 rfl Try.ntmps52 rfl fun a hT => ?_
  replace hT := hT.keep [0, 1] rfl
  have H : Sx.Hp w (Sx.No) w [] := Sx.Hp.start _ _
  refine wp_seq_k fun K1 hK1 => ?_
  -- region 0 (ref.go:27)
  refine Sx.wp_text [(0, .take)] rfl ?_
  refine Sx.st_take hT rfl rfl rfl rfl (Sx.x_assign hT rfl rfl) ?_
  clear hT; intro a hT
  replace hT := hT.keep [4, 0, 1] rfl
  refine Sx.ser_nil ?_
  refine Sx.then_normal (hK1 _ _ ?_)
  clear hK1
  refine wp_seq_k fun K2 hK2 => ?_
  refine wp_seq_k fun K3 hK3 => ?_
  -- region 1 (ref.go:28)
  refine Sx.wp_text [(0, .take), (1, .take), (2, .take), (3, .take)] rfl ?_
  refine Sx.st_take hT rfl rfl rfl rfl (Sx.x_move hT rfl rfl) ?_
  clear hT; intro a hT
  refine Sx.st_take hT rfl rfl rfl rfl (Sx.x_lenStr hT rfl rfl Try.underlying9 rfl) ?_
  clear hT; intro a hT
  refine Sx.st_take hT rfl rfl rfl rfl (Sx.x_move hT rfl rfl) ?_
  clear hT; intro a hT
  refine Sx.st_take hT rfl rfl rfl rfl ((fun w => Sx.x_gt w hT rfl rfl rfl)) ?_
  clear hT; intro a hT
  replace hT := hT.keep [8, 4, 0, 1] rfl
  refine Sx.ser_nil ?_
  refine Sx.then_normal (hK3 _ _ ?_)
  clear hK3
  -- cond 0
  refine Sx.wp_if hT rfl (fun hc4 => ?_) (fun hc4 => ?_)
  · try simp only [decide_eq_true_eq, decide_eq_false_iff_not, Bool.not_eq_true', Bool.not_eq_false', Bool.not_eq_true, Bool.not_eq_false, Bool.and_eq_true, Bool.or_eq_false_iff, beq_iff_eq, bne_iff_ne, Int.not_lt, Int.not_le, ne_eq] at hc4
    refine wp_seq_k fun K5 hK5 => ?_
    -- region 2 (ref.go:29)
    refine Sx.wp_text [(0, .take), (1, .take), (2, .take), (3, .take)] rfl ?_
    refine Sx.st_take hT rfl rfl rfl rfl (Sx.x_move hT rfl rfl) ?_
    clear hT; intro a hT
    refine Sx.st_take hT rfl rfl rfl rfl (Sx.x_move hT rfl rfl) ?_
    clear hT; intro a hT
    refine Sx.st_take hT rfl rfl rfl rfl (Sx.x_sliceStr_h hT rfl Try.underlying9 rfl rfl rfl (by omega)) ?_
    clear hT; intro a hT
    refine Sx.st_take hT rfl rfl rfl rfl (Sx.x_assign hT rfl rfl) ?_
    clear hT; intro a hT
    replace hT := hT.keep [4, 8, 0, 1] rfl
    refine Sx.ser_nil ?_
    refine Sx.then_normal (hK5 _ _ ?_)
    clear hK5
    refine wp_ret ?_
    refine Sx.then_ret ?_
    refine Sx.done1 (fn := Try.f52) hT rfl (.tmp (hT.get 4 _ rfl)) ?_
    exact ⟨rfl, H.ext⟩
  · try simp only [decide_eq_true_eq, decide_eq_false_iff_not, Bool.not_eq_true', Bool.not_eq_false', Bool.not_eq_true, Bool.not_eq_false, Bool.and_eq_true, Bool.or_eq_false_iff, beq_iff_eq, bne_iff_ne, Int.not_lt, Int.not_le, ne_eq] at hc4
    refine wp_skip ?_
    refine Sx.then_normal (hK2 _ _ ?_)
    clear hK2
    refine wp_seq_k fun K6 hK6 => ?_
    -- region 3 (ref.go:31)
    refine Sx.wp_text [(0, .take), (1, .take)] rfl ?_
    refine Sx.st_take hT rfl rfl rfl rfl (Sx.x_move hT rfl rfl) ?_
    clear hT; intro a hT
    refine Sx.st_take hT rfl rfl rfl rfl (Sx.x_assign hT rfl rfl) ?_
    clear hT; intro a hT
    replace hT := hT.keep [4, 8, 0, 1] rfl
    refine Sx.ser_nil ?_
    refine Sx.then_normal (hK6 _ _ ?_)
    clear hK6
    refine wp_ret ?_
    refine Sx.done1 (fn := Try.f52) hT rfl (.tmp (hT.get 4 _ rfl)) ?_
    rw [List.take_of_length_le (by omega)]
    exact ⟨rfl, H.ext⟩

theorem upd_x {g : G6} {v : Vl} {ns : List Nat} {le mo : Nat} (h1 : v.k = 1) (hz : g.nums = 0 → le = v.num ∧ mo = v.num) (hnz : g.nums ≠ 0 → le = g.least ∧ mo = g.most) :
    updG g v ns = ⟨g.name, g.keys + 1, g.nums + 1, fsum ns, doesF 4 le v.num, doesF 5 mo v.num⟩ := by
  unfold updG
  rw [if_pos h1, does4, does5]
  by_cases h : g.nums = 0
  · obtain ⟨rfl, rfl⟩ := hz h
    have e : endsG { g with keys := g.keys + 1 } v.num v.num = { g with keys := g.keys + 1, least := fcan v.num, most := fcan v.num } := by unfold endsG; exact if_pos h
    rw [e, least_self, most_self]
  · obtain ⟨rfl, rfl⟩ := hnz h
    have e : endsG { g with keys := g.keys + 1 } v.num v.num = { g with keys := g.keys + 1, least := leastF g.least v.num, most := mostF g.most v.num } := by unfold endsG; exact if_neg h
    rw [e]

set_option maxHeartbeats 2000000 in
theorem xgroups_calls {ad : Option Addr} {c : Nat} (l : List Wt) {w : World} (hs : Ss w ad Wt.cells 4 l) (cut : Nat) (hcut : cut ≤ 24) (hl : l.length ≤ 1000000) (hb : ∀ x ∈ l, x.key.length ≤ 140737488351232) : Calls Try.prog 31 #[.slice ad l.length c, .int .i64 (cut : Int)] w fun e w' => ∃ ad' c', e = .returned (.slice ad' (groupsF cut l).length c') ∧ Hp w No w' [cR 59 6 ad' (groupsF cut l).length c' ((groupsF cut l).flatMap G6.cells)] := by
  have R : Ro w No _ := Ro.of fun w' x => hs.ext_no x
  refine Sx.calls_into Try.func31 rfl Try.ntmps31 rfl fun a hT => ?_
  replace hT := hT.keep [0, 1] rfl
  have H : Sx.Hp w (Sx.No) w [] := Sx.Hp.start _ _
  refine wp_seq_k fun K1 hK1 => ?_
  -- region 0 (ref.go:35)
  refine Sx.wp_text [(0, .take)] rfl ?_
  refine Sx.st_take hT rfl rfl rfl rfl (Sx.x_assign hT rfl rfl) ?_
  clear hT; intro a hT
  replace hT := hT.keep [4, 0, 1] rfl
  refine Sx.ser_nil ?_
  refine Sx.then_normal (hK1 _ _ ?_)
  clear hK1
  refine wp_seq_k fun K2 hK2 => ?_
  -- region 1 (ref.go:36)
  refine Sx.wp_text [(0, .take)] rfl ?_
  refine Sx.st_take hT rfl rfl rfl rfl (Sx.x_assign hT rfl rfl) ?_
  clear hT; intro a hT
  replace hT := hT.keep [5, 4, 0, 1] rfl
  refine Sx.ser_nil ?_
  refine Sx.then_normal (hK2 _ _ ?_)
  clear hK2
  refine wp_seq_k fun K3 hK3 => ?_
  -- region 2 (ref.go:37)
  refine Sx.wp_text [(0, .take)] rfl ?_
  refine Sx.st_take hT rfl rfl rfl rfl (Sx.x_assign hT rfl rfl) ?_
  clear hT; intro a hT
  replace hT := hT.keep [6, 5, 4, 0, 1] rfl
  refine Sx.ser_nil ?_
  refine Sx.then_normal (hK3 _ _ ?_)
  clear hK3
  refine wp_seq_k fun K4 hK4 => ?_
  refine wp_seq_k fun K5 hK5 => ?_
  -- region 3 (ref.go:38)
  refine Sx.wp_text [(0, .take)] rfl ?_
  refine Sx.st_take hT rfl rfl rfl rfl (Sx.x_assign hT rfl rfl) ?_
  clear hT; intro a hT
  replace hT := hT.keep [7, 6, 5, 4, 0, 1] rfl
  refine Sx.ser_nil ?_
  refine Sx.then_normal (hK5 _ _ ?_)
  clear hK5
  refine wp_block ?_
  replace H := H.nilR 59 6
  replace H := H.nilR 46 1
  -- loop 0
  refine Sx.wp_loopH (G := Nat × List G6 × Nat × List Nat × Option Addr × Nat × Option Addr × Nat) (fun ⟨k, L, m, ns, ad2, c2, ad3, c3⟩ => [(7, .int .i64 (k : Int)), (5, .slice ad2 m c2), (6, .slice ad3 ns.length c3)]) (fun ⟨k, L, m, ns, ad2, c2, ad3, c3⟩ => [cR 59 6 ad2 m c2 (L.flatMap G6.cells), cR 46 1 ad3 ns.length c3 (ns.flatMap fcell)]) (fun ⟨k, L, m, ns, ad2, c2, ad3, c3⟩ => k ≤ l.length ∧ (L, ns) = gfold cut (l.take k) ∧ m = L.length ∧ gbound k L ∧ m ≤ k ∧ ns.length ≤ k) (fun ⟨k, L, m, ns, ad2, c2, ad3, c3⟩ => l.length - k) (0, [], 0, [], none, 0, none, 0) (hT.keep [7, 5, 6, 4, 0, 1] rfl) (H.keep [1, 0] rfl rfl) (⟨Nat.zero_le _, (by rw [List.take_zero]; rfl), rfl, (fun g h => by cases h), Nat.le_refl _, Nat.le_refl _⟩) ?_
  clear hT H
  rintro ⟨k, L, m, ns, ad2, c2, ad3, c3⟩ a w1 hJ hT H
  replace hT := hT.keep [7, 5, 6, 4, 0, 1] rfl
  replace H := H.keep [0, 1] rfl rfl
  obtain ⟨hk, hfold, hm, hgb, hmk, hnk⟩ := hJ
  refine wp_seq_k fun K6 hK6 => ?_
  refine wp_seq_k fun K7 hK7 => ?_
  -- region 4 (ref.go:38)
  refine Sx.wp_text [(0, .take), (1, .take), (2, .take), (3, .take)] rfl ?_
  refine Sx.st_take hT rfl rfl rfl rfl (Sx.x_move hT rfl rfl) ?_
  clear hT; intro a hT
  refine Sx.st_take hT rfl rfl rfl rfl (Sx.x_move hT rfl rfl) ?_
  clear hT; intro a hT
  refine Sx.st_take hT rfl rfl rfl rfl (Sx.x_len_slice hT rfl rfl Try.underlying33 rfl) ?_
  clear hT; intro a hT
  refine Sx.st_take hT rfl rfl rfl rfl ((fun w => Sx.x_lt w hT rfl rfl rfl)) ?_
  clear hT; intro a hT
  replace hT := hT.keep [14, 7, 5, 6, 4, 0, 1] rfl
  refine Sx.ser_nil ?_
  refine Sx.then_normal (hK7 _ _ ?_)
  clear hK7
  -- cond 0
  refine Sx.wp_if hT rfl (fun hc8 => ?_) (fun hc8 => ?_)
  · try simp only [decide_eq_true_eq, decide_eq_false_iff_not, Bool.not_eq_true', Bool.not_eq_false', Bool.not_eq_true, Bool.not_eq_false, Bool.and_eq_true, Bool.or_eq_false_iff, beq_iff_eq, bne_iff_ne, Int.not_lt, Int.not_le, ne_eq] at hc8
    obtain ⟨o, ho⟩ : ∃ o, l[k]? = some o := ⟨_, List.getElem?_eq_getElem (by omega)⟩
    have hob := hb o (List.mem_of_getElem? ho)
    refine wp_skip ?_
    refine Sx.then_normal (hK6 _ _ ?_)
    clear hK6
    refine wp_seq_k fun K9 hK9 => ?_
    refine wp_block ?_
    refine wp_seq_k fun K10 hK10 => ?_
    -- region 6 (ref.go:39)
    refine Sx.wp_text [(0, .take), (1, .take), (2, .take), (3, .take), (4, .run), (5, .take), (6, .run), (7, .take)] rfl ?_
    refine Sx.st_take hT rfl rfl rfl rfl (Sx.x_move hT rfl rfl) ?_
    clear hT; intro a hT
    refine Sx.st_take hT rfl rfl rfl rfl (Sx.x_move hT rfl rfl) ?_
    clear hT; intro a hT
    refine Sx.st_take hT rfl rfl rfl rfl (Sx.x_index (k := k) hT rfl Try.underlying33 Try.ti69 (R.at H.ext).sv rfl rfl (by first | rfl | omega) (by omega)) ?_
    clear hT; intro a hT
    refine Sx.st_take hT rfl rfl rfl rfl (Sx.x_fieldAddr hT rfl Try.fa69_0 rfl) ?_
    clear hT; intro a hT
    refine Sx.st_run hT rfl rfl rfl rfl (Sx.x_load1 hT rfl Try.fl9 rfl (by first | exact ((R.at H.ext).cell (j := 0) Wt.len ho rfl) | exact ((R.at H.ext).cell (j := 1) Wt.len ho rfl) | exact ((R.at H.ext).cell (j := 2) Wt.len ho rfl) | exact (((H.row 0 rfl).ssn hm).cell (j := 0) G6.len hg0 rfl) | exact (((H.row 0 rfl).ssn (by first | exact hm1 | (simp only [List.length_set]; exact hm1))).cell (j := 1) G6.len hg rfl) | exact (((H.row 0 rfl).ssn (by first | exact hm1 | (simp only [List.length_set]; exact hm1))).cell (j := 2) G6.len (set_at hg) rfl) | exact (((H.row 0 rfl).ssn (by first | exact hm1 | (simp only [List.length_set]; exact hm1))).cell (j := 4) G6.len (set_at (set_at (set_at hg))) rfl) | exact (((H.row 0 rfl).ssn (by first | exact hm1 | (simp only [List.length_set]; exact hm1))).cell (j := 5) G6.len (set_at (set_at (set_at (set_at hg)))) rfl))) ?_
    clear hT; intro a hT
    refine Sx.st_take hT rfl rfl rfl rfl (Sx.x_move hT rfl rfl) ?_
    clear hT; intro a hT
    refine Sx.st_call hT rfl rfl rfl rfl rfl Try.can52 rfl (name_calls o.key cut hob hcut _) ?_
    rintro _ w2 ⟨rfl, E⟩
    refine ⟨_, rfl, ?_⟩
    clear hT; intro a hT
    replace H := H.pure E; clear E
    refine Sx.st_take hT rfl rfl rfl rfl (Sx.x_assign hT rfl rfl) ?_
    clear hT; intro a hT
    replace hT := hT.keep [8, 14, 7, 5, 6, 4, 0, 1] rfl
    refine Sx.ser_nil ?_
    refine Sx.then_normal (hK10 _ _ ?_)
    clear hK10
    refine wp_seq_k fun K11 hK11 => ?_
    refine Sx.wp_join (G := List G6 × Nat × List Nat × Option Addr × Nat × Option Addr × Nat) (fun ⟨L1, m1, n1, ad4, c4, ad5, c5⟩ => [(5, .slice ad4 m1 c4), (6, .slice ad5 n1.length c5)]) (fun ⟨L1, m1, n1, ad4, c4, ad5, c5⟩ => [cR 59 6 ad4 m1 c4 (L1.flatMap G6.cells), cR 46 1 ad5 n1.length c5 (n1.flatMap fcell)]) (fun ⟨L1, m1, n1, ad4, c4, ad5, c5⟩ => (L1, n1) = s1F (L, ns) (o.key.take cut) ∧ m1 = L1.length ∧ m1 ≤ k + 1 ∧ n1.length ≤ k ∧ 0 < m1) (hT.keep [8, 14, 7, 4, 0, 1] rfl) (H.keep [] rfl rfl) hK11 ?_ ?_
    · clear hT H hK11
      rintro ⟨L1, m1, n1, ad4, c4, ad5, c5⟩ a w3 hJ hT H
      replace hT := hT.keep [5, 6, 8, 14, 7, 4, 0, 1] rfl
      replace H := H.keep [0, 1] rfl rfl
      obtain ⟨h1, hm1, hm1k, hn1k, hm1p⟩ := hJ
      obtain ⟨g, hg⟩ : ∃ o, L1[m1 - 1]? = some o := ⟨_, List.getElem?_eq_getElem (by omega)⟩
      have hb1 : gbound k L1 := by
        have h9 := gbound_s1 (nm := o.key.take cut) (s := (L, ns)) hgb
        rw [← h1] at h9
        exact h9
      obtain ⟨hgb1, hgb2, hgb3, hgb4⟩ := hb1 g (List.mem_of_getElem? hg)
      refine wp_seq_k fun K12 hK12 => ?_
      -- region 10 (ref.go:44)
      refine Sx.wp_text [(0, .take), (1, .take), (2, .take), (3, .take)] rfl ?_
      refine Sx.st_take hT rfl rfl rfl rfl (Sx.x_move hT rfl rfl) ?_
      clear hT; intro a hT
      refine Sx.st_take hT rfl rfl rfl rfl (Sx.x_len_slice hT rfl rfl Try.underlying28 rfl) ?_
      clear hT; intro a hT
      refine Sx.st_take hT rfl rfl rfl rfl ((fun w => Sx.x_sub w hT rfl rfl rfl (Sx.wrap64 (by omega)))) ?_
      clear hT; intro a hT
      refine Sx.st_take hT rfl rfl rfl rfl (Sx.x_assign hT rfl rfl) ?_
      clear hT; intro a hT
      replace hT := hT.keep [9, 5, 6, 8, 14, 7, 4, 0, 1] rfl
      refine Sx.ser_nil ?_
      refine Sx.then_normal (hK12 _ _ ?_)
      clear hK12
      refine wp_seq_k fun K13 hK13 => ?_
      -- region 11 (ref.go:45)
      refine Sx.wp_text [(0, .take), (1, .take), (2, .take), (3, .take), (4, .run), (5, .take), (6, .take), (7, .take), (8, .run)] rfl ?_
      refine Sx.st_take hT rfl rfl rfl rfl (Sx.x_move hT rfl rfl) ?_
      clear hT; intro a hT
      refine Sx.st_take hT rfl rfl rfl rfl (Sx.x_move hT rfl rfl) ?_
      clear hT; intro a hT
      refine Sx.st_take hT rfl rfl rfl rfl (Sx.x_index (k := m1 - 1) hT rfl Try.underlying28 Try.ti59 (H.row 0 rfl).sv rfl rfl (by first | rfl | omega) (by omega)) ?_
      clear hT; intro a hT
      refine Sx.st_take hT rfl rfl rfl rfl (Sx.x_fieldAddr hT rfl Try.fa59_1 rfl) ?_
      clear hT; intro a hT
      refine Sx.st_run hT rfl rfl rfl rfl (Sx.x_load1 hT rfl Try.fl3 rfl (by first | exact ((R.at H.ext).cell (j := 0) Wt.len ho rfl) | exact ((R.at H.ext).cell (j := 1) Wt.len ho rfl) | exact ((R.at H.ext).cell (j := 2) Wt.len ho rfl) | exact (((H.row 0 rfl).ssn hm).cell (j := 0) G6.len hg0 rfl) | exact (((H.row 0 rfl).ssn (by first | exact hm1 | (simp only [List.length_set]; exact hm1))).cell (j := 1) G6.len hg rfl) | exact (((H.row 0 rfl).ssn (by first | exact hm1 | (simp only [List.length_set]; exact hm1))).cell (j := 2) G6.len (set_at hg) rfl) | exact (((H.row 0 rfl).ssn (by first | exact hm1 | (simp only [List.length_set]; exact hm1))).cell (j := 4) G6.len (set_at (set_at (set_at hg))) rfl) | exact (((H.row 0 rfl).ssn (by first | exact hm1 | (simp only [List.length_set]; exact hm1))).cell (j := 5) G6.len (set_at (set_at (set_at (set_at hg)))) rfl))) ?_
      clear hT; intro a hT
      refine Sx.st_take hT rfl rfl rfl rfl ((fun w => Sx.x_add w hT rfl rfl rfl (Sx.wrap64 (by omega)))) ?_
      clear hT; intro a hT
      refine Sx.st_take hT rfl rfl rfl rfl (Sx.x_index (k := m1 - 1) hT rfl Try.underlying28 Try.ti59 (H.row 0 rfl).sv rfl rfl (by first | rfl | omega) (by omega)) ?_
      clear hT; intro a hT
      refine Sx.st_take hT rfl rfl rfl rfl (Sx.x_fieldAddr hT rfl Try.fa59_1 rfl) ?_
      clear hT; intro a hT
      refine Sx.st_act hT rfl rfl rfl (Sx.x_storeRowF (k := m1 - 1) (j := 1) (enc := G6.cells) (xs := L1) (r := g) (r' := (⟨g.name, g.keys + 1, g.nums, g.sum, g.least, g.most⟩ : G6)) hT rfl Try.ti3 rfl rfl rfl G6.len (H.row 0 rfl) hg (by first | exact hm1 | (simp only [List.length_set]; exact hm1)) (by decide) rfl) ?_
      rintro w4 ⟨hr, E, _⟩
      replace H := H.setR 0 rfl hr E (fun _ hk => .inl hk) rfl; clear hr E
      replace hT := hT.keep [9, 5, 6, 8, 14, 7, 4, 0, 1] rfl
      refine Sx.ser_nil ?_
      refine Sx.then_normal (hK13 _ _ ?_)
      clear hK13
      refine wp_seq_k fun K14 hK14 => ?_
      refine wp_seq_k fun K15 hK15 => ?_
      -- region 12 (ref.go:46)
      refine Sx.wp_text [(0, .take), (1, .take), (2, .take), (3, .take), (4, .take), (5, .run), (6, .take)] rfl ?_
      refine Sx.st_take hT rfl rfl rfl rfl (Sx.x_move hT rfl rfl) ?_
      clear hT; intro a hT
      refine Sx.st_take hT rfl rfl rfl rfl (Sx.x_move hT rfl rfl) ?_
      clear hT; intro a hT
      refine Sx.st_take hT rfl rfl rfl rfl (Sx.x_index (k := k) hT rfl Try.underlying33 Try.ti69 (R.at H.ext).sv rfl rfl (by first | rfl | omega) (by omega)) ?_
      clear hT; intro a hT
      refine Sx.st_take hT rfl rfl rfl rfl (Sx.x_fieldAddr hT rfl Try.fa69_1 rfl) ?_
      clear hT; intro a hT
      refine Sx.st_take hT rfl rfl rfl rfl (Sx.x_fieldAddr hT rfl Try.fa48_0 rfl) ?_
      clear hT; intro a hT
      refine Sx.st_run hT rfl rfl rfl rfl (Sx.x_load1 hT rfl Try.fl3 rfl (by first | exact ((R.at H.ext).cell (j := 0) Wt.len ho rfl) | exact ((R.at H.ext).cell (j := 1) Wt.len ho rfl) | exact ((R.at H.ext).cell (j := 2) Wt.len ho rfl) | exact (((H.row 0 rfl).ssn hm).cell (j := 0) G6.len hg0 rfl) | exact (((H.row 0 rfl).ssn (by first | exact hm1 | (simp only [List.length_set]; exact hm1))).cell (j := 1) G6.len hg rfl) | exact (((H.row 0 rfl).ssn (by first | exact hm1 | (simp only [List.length_set]; exact hm1))).cell (j := 2) G6.len (set_at hg) rfl) | exact (((H.row 0 rfl).ssn (by first | exact hm1 | (simp only [List.length_set]; exact hm1))).cell (j := 4) G6.len (set_at (set_at (set_at hg))) rfl) | exact (((H.row 0 rfl).ssn (by first | exact hm1 | (simp only [List.length_set]; exact hm1))).cell (j := 5) G6.len (set_at (set_at (set_at (set_at hg)))) rfl))) ?_
      clear hT; intro a hT
      refine Sx.st_take hT rfl rfl rfl rfl ((fun w => Sx.x_ne w hT rfl rfl rfl)) ?_
      clear hT; intro a hT
      replace hT := hT.keep [60, 9, 5, 6, 8, 14, 7, 4, 0, 1] rfl
      refine Sx.ser_nil ?_
      refine Sx.then_normal (hK15 _ _ ?_)
      clear hK15
      -- cond 2
      refine Sx.wp_if hT rfl (fun hc16 => ?_) (fun hc16 => ?_)
      · try simp only [decide_eq_true_eq, decide_eq_false_iff_not, Bool.not_eq_true', Bool.not_eq_false', Bool.not_eq_true, Bool.not_eq_false, Bool.and_eq_true, Bool.or_eq_false_iff, beq_iff_eq, bne_iff_ne, Int.not_lt, Int.not_le, ne_eq] at hc16
        have hk1 : ¬ o.v.k = 1 := by omega
        refine wp_exit ?_
        refine Sx.then_exit ?_
        refine Sx.block_exit ?_
        refine Sx.then_normal (hK9 _ _ ?_)
        clear hK9
        -- region 5 (ref.go:38)
        refine Sx.wp_text [(0, .take), (1, .take), (2, .take)] rfl ?_
        refine Sx.st_take hT rfl rfl rfl rfl (Sx.x_move hT rfl rfl) ?_
        clear hT; intro a hT
        refine Sx.st_take hT rfl rfl rfl rfl ((fun w => Sx.x_add w hT rfl rfl rfl (Sx.wrap64 (by omega)))) ?_
        clear hT; intro a hT
        refine Sx.st_take hT rfl rfl rfl rfl (Sx.x_assign hT rfl rfl) ?_
        clear hT; intro a hT
        replace hT := hT.keep [7, 60, 9, 5, 6, 8, 14, 4, 0, 1] rfl
        refine Sx.ser_nil ?_
        refine Sx.then_normal ?_
        try simp only [List.set_set] at H
        have hup : updG g o.v n1 = (⟨g.name, g.keys + 1, g.nums, g.sum, g.least, g.most⟩ : G6) := by
          unfold updG
          rw [if_neg hk1]
        rw [← hup] at H
        have hfin : (L1.set (m1 - 1) (updG g o.v n1), n1) = gfold cut (l.take (k + 1)) := by
          rw [gfold_snoc ho, ← hfold, gst_eq h1 (by rw [← hm1]; exact hg), if_neg hk1, hm1]
        exact ⟨(k + 1, L1.set (m1 - 1) (updG g o.v n1), m1, n1, ad4, c4, ad5, c5), ⟨by show k + 1 ≤ _; omega, hfin, by show m1 = List.length (List.set _ _ _); rw [List.length_set]; exact hm1, gbound_set hb1 hg, by show m1 ≤ _; omega, by show List.length _ ≤ _; omega⟩, (hT.keep [7, 5, 6, 4, 0, 1] rfl), (H.keep [0, 1] rfl rfl), by show _ - (k + 1) < _ - k; omega⟩
      · try simp only [decide_eq_true_eq, decide_eq_false_iff_not, Bool.not_eq_true', Bool.not_eq_false', Bool.not_eq_true, Bool.not_eq_false, Bool.and_eq_true, Bool.or_eq_false_iff, beq_iff_eq, bne_iff_ne, Int.not_lt, Int.not_le, ne_eq] at hc16
        have hk1 : o.v.k = 1 := by omega
        refine wp_skip ?_
        refine Sx.then_normal (hK14 _ _ ?_)
        clear hK14
        refine wp_seq_k fun K17 hK17 => ?_
        -- region 13 (ref.go:49)
        refine Sx.wp_text [(0, .take), (1, .take), (2, .take), (3, .take), (4, .take), (5, .run), (6, .take)] rfl ?_
        refine Sx.st_take hT rfl rfl rfl rfl (Sx.x_move hT rfl rfl) ?_
        clear hT; intro a hT
        refine Sx.st_take hT rfl rfl rfl rfl (Sx.x_move hT rfl rfl) ?_
        clear hT; intro a hT
        refine Sx.st_take hT rfl rfl rfl rfl (Sx.x_index (k := k) hT rfl Try.underlying33 Try.ti69 (R.at H.ext).sv rfl rfl (by first | rfl | omega) (by omega)) ?_
        clear hT; intro a hT
        refine Sx.st_take hT rfl rfl rfl rfl (Sx.x_fieldAddr hT rfl Try.fa69_1 rfl) ?_
        clear hT; intro a hT
        refine Sx.st_take hT rfl rfl rfl rfl (Sx.x_fieldAddr hT rfl Try.fa48_1 rfl) ?_
        clear hT; intro a hT
        refine Sx.st_run hT rfl rfl rfl rfl (Sx.x_load1 hT rfl Try.fl46 rfl (by first | exact ((R.at H.ext).cell (j := 0) Wt.len ho rfl) | exact ((R.at H.ext).cell (j := 1) Wt.len ho rfl) | exact ((R.at H.ext).cell (j := 2) Wt.len ho rfl) | exact (((H.row 0 rfl).ssn hm).cell (j := 0) G6.len hg0 rfl) | exact (((H.row 0 rfl).ssn (by first | exact hm1 | (simp only [List.length_set]; exact hm1))).cell (j := 1) G6.len hg rfl) | exact (((H.row 0 rfl).ssn (by first | exact hm1 | (simp only [List.length_set]; exact hm1))).cell (j := 2) G6.len (set_at hg) rfl) | exact (((H.row 0 rfl).ssn (by first | exact hm1 | (simp only [List.length_set]; exact hm1))).cell (j := 4) G6.len (set_at (set_at (set_at hg))) rfl) | exact (((H.row 0 rfl).ssn (by first | exact hm1 | (simp only [List.length_set]; exact hm1))).cell (j := 5) G6.len (set_at (set_at (set_at (set_at hg)))) rfl))) ?_
        clear hT; intro a hT
        refine Sx.st_take hT rfl rfl rfl rfl (Sx.x_assign hT rfl rfl) ?_
        clear hT; intro a hT
        replace hT := hT.keep [10, 60, 9, 5, 6, 8, 14, 7, 4, 0, 1] rfl
        refine Sx.ser_nil ?_
        refine Sx.then_normal (hK17 _ _ ?_)
        clear hK17
        refine wp_seq_k fun K18 hK18 => ?_
        refine Sx.wp_join (G := Nat × Nat) (fun ⟨le, mo⟩ => []) (fun ⟨le, mo⟩ => [cR 59 6 ad4 m1 c4 ((L1.set (m1 - 1) (⟨g.name, g.keys + 1, g.nums, g.sum, le, mo⟩ : G6)).flatMap G6.cells)]) (fun ⟨le, mo⟩ => (g.nums = 0 → le = o.v.num ∧ mo = o.v.num) ∧ (g.nums ≠ 0 → le = g.least ∧ mo = g.most)) (hT.keep [10, 60, 9, 5, 6, 8, 14, 7, 4, 0, 1] rfl) (H.keep [1] rfl rfl) hK18 ?_ ?_
        · clear hT H hK18
          rintro ⟨le, mo⟩ a w5 hJ hT H
          replace hT := hT.keep [10, 60, 9, 5, 6, 8, 14, 7, 4, 0, 1] rfl
          replace H := H.keep [0, 1] rfl rfl
          obtain ⟨hz, hnz⟩ := hJ
          refine wp_seq_k fun K19 hK19 => ?_
          -- region 16 (ref.go:53)
          refine Sx.wp_text [(0, .take), (1, .take), (2, .take), (3, .take), (4, .run), (5, .take), (6, .take), (7, .take), (8, .run)] rfl ?_
          refine Sx.st_take hT rfl rfl rfl rfl (Sx.x_move hT rfl rfl) ?_
          clear hT; intro a hT
          refine Sx.st_take hT rfl rfl rfl rfl (Sx.x_move hT rfl rfl) ?_
          clear hT; intro a hT
          refine Sx.st_take hT rfl rfl rfl rfl (Sx.x_index (k := m1 - 1) hT rfl Try.underlying28 Try.ti59 (H.row 0 rfl).sv rfl rfl (by first | rfl | omega) (by omega)) ?_
          clear hT; intro a hT
          refine Sx.st_take hT rfl rfl rfl rfl (Sx.x_fieldAddr hT rfl Try.fa59_2 rfl) ?_
          clear hT; intro a hT
          refine Sx.st_run hT rfl rfl rfl rfl (Sx.x_load1 hT rfl Try.fl3 rfl (by first | exact ((R.at H.ext).cell (j := 0) Wt.len ho rfl) | exact ((R.at H.ext).cell (j := 1) Wt.len ho rfl) | exact ((R.at H.ext).cell (j := 2) Wt.len ho rfl) | exact (((H.row 0 rfl).ssn hm).cell (j := 0) G6.len hg0 rfl) | exact (((H.row 0 rfl).ssn (by first | exact hm1 | (simp only [List.length_set]; exact hm1))).cell (j := 1) G6.len hg rfl) | exact (((H.row 0 rfl).ssn (by first | exact hm1 | (simp only [List.length_set]; exact hm1))).cell (j := 2) G6.len (set_at hg) rfl) | exact (((H.row 0 rfl).ssn (by first | exact hm1 | (simp only [List.length_set]; exact hm1))).cell (j := 4) G6.len (set_at (set_at (set_at hg))) rfl) | exact (((H.row 0 rfl).ssn (by first | exact hm1 | (simp only [List.length_set]; exact hm1))).cell (j := 5) G6.len (set_at (set_at (set_at (set_at hg)))) rfl))) ?_
          clear hT; intro a hT
          refine Sx.st_take hT rfl rfl rfl rfl ((fun w => Sx.x_add w hT rfl rfl rfl (Sx.wrap64 (by dsimp only; omega)))) ?_
          clear hT; intro a hT
          refine Sx.st_take hT rfl rfl rfl rfl (Sx.x_index (k := m1 - 1) hT rfl Try.underlying28 Try.ti59 (H.row 0 rfl).sv rfl rfl (by first | rfl | omega) (by omega)) ?_
          clear hT; intro a hT
          refine Sx.st_take hT rfl rfl rfl rfl (Sx.x_fieldAddr hT rfl Try.fa59_2 rfl) ?_
          clear hT; intro a hT
          refine Sx.st_act hT rfl rfl rfl (Sx.x_storeRowF (k := m1 - 1) (j := 2) (enc := G6.cells) (xs := (L1.set (m1 - 1) (⟨g.name, g.keys + 1, g.nums, g.sum, le, mo⟩ : G6))) (r := (⟨g.name, g.keys + 1, g.nums, g.sum, le, mo⟩ : G6)) (r' := (⟨g.name, g.keys + 1, g.nums + 1, g.sum, le, mo⟩ : G6)) hT rfl Try.ti3 rfl rfl rfl G6.len (H.row 0 rfl) (set_at hg) (by first | exact hm1 | (simp only [List.length_set]; exact hm1)) (by decide) rfl) ?_
          rintro w6 ⟨hr, E, _⟩
          replace H := H.setR 0 rfl hr E (fun _ hk => .inl hk) rfl; clear hr E
          replace hT := hT.keep [10, 60, 9, 5, 6, 8, 14, 7, 4, 0, 1] rfl
          refine Sx.ser_nil ?_
          refine Sx.then_normal (hK19 _ _ ?_)
          clear hK19
          refine wp_seq_k fun K20 hK20 => ?_
          -- region 17 (ref.go:54)
          refine Sx.wp_text [(0, .take), (1, .take), (2, .run), (3, .run), (4, .take)] rfl ?_
          refine Sx.st_take hT rfl rfl rfl rfl (Sx.x_move hT rfl rfl) ?_
          clear hT; intro a hT
          refine Sx.st_take hT rfl rfl rfl rfl (Sx.x_move hT rfl rfl) ?_
          clear hT; intro a hT
          refine Sx.st_eff hT rfl rfl rfl rfl (Sx.y_slice1 hT rfl Try.underlying101 Try.ti46 rfl rfl rfl rfl rfl rfl _) ?_
          clear hT; rintro _ w7 ⟨b1, rfl, N⟩ a hT
          replace H := H.new N; clear N
          refine Sx.st_eff hT rfl rfl rfl rfl (Sx.x_append hT rfl rfl Try.underlying101 Try.ti46 rfl (by decide) rfl rfl (H.row 2 rfl) ((H.blk 0 rfl).sv1 rfl) (by simp [Value.oneCell']) (fun h => by cases h) (by unfold maxLen; omega) (by omega)) ?_
          rintro _ w8 ⟨ad8, c8, rfl, hr, E, hown, -⟩
          clear hT; intro a hT
          replace H := H.setR 2 rfl hr E hown rfl; clear hr E hown
          rw [tk_f] at H
          rw [show n1.length + 1 = (n1 ++ [o.v.num]).length from by simp] at H hT
          refine Sx.st_take hT rfl rfl rfl rfl (Sx.x_assign hT rfl rfl) ?_
          clear hT; intro a hT
          replace hT := hT.keep [6, 10, 60, 9, 5, 8, 14, 7, 4, 0, 1] rfl
          refine Sx.ser_nil ?_
          refine Sx.then_normal (hK20 _ _ ?_)
          clear hK20
          refine wp_seq_k fun K21 hK21 => ?_
          -- region 18 (ref.go:55)
          refine Sx.wp_text [(0, .take), (1, .take), (2, .take), (3, .run), (4, .take), (5, .take), (6, .run)] rfl ?_
          refine Sx.st_take hT rfl rfl rfl rfl (Sx.x_move hT rfl rfl) ?_
          clear hT; intro a hT
          refine Sx.st_take hT rfl rfl rfl rfl (Sx.x_move hT rfl rfl) ?_
          clear hT; intro a hT
          refine Sx.st_take hT rfl rfl rfl rfl (Sx.x_move hT rfl rfl) ?_
          clear hT; intro a hT
          refine Sx.st_call hT rfl rfl rfl rfl rfl Try.can49 rfl (xSum_calls (n1 ++ [o.v.num]) ((H.row 2 rfl).ssn rfl) (by simp only [List.length_append, List.length_cons, List.length_nil]; omega)) ?_
          rintro _ w9 ⟨rfl, E⟩
          refine ⟨_, rfl, ?_⟩
          clear hT; intro a hT
          replace H := H.pure E; clear E
          refine Sx.st_take hT rfl rfl rfl rfl (Sx.x_index (k := m1 - 1) hT rfl Try.underlying28 Try.ti59 (H.row 1 rfl).sv rfl rfl (by first | rfl | omega) (by omega)) ?_
          clear hT; intro a hT
          refine Sx.st_take hT rfl rfl rfl rfl (Sx.x_fieldAddr hT rfl Try.fa59_3 rfl) ?_
          clear hT; intro a hT
          refine Sx.st_act hT rfl rfl rfl (Sx.x_storeRowF (k := m1 - 1) (j := 3) (enc := G6.cells) (xs := ((L1.set (m1 - 1) (⟨g.name, g.keys + 1, g.nums, g.sum, le, mo⟩ : G6)).set (m1 - 1) (⟨g.name, g.keys + 1, g.nums + 1, g.sum, le, mo⟩ : G6))) (r := (⟨g.name, g.keys + 1, g.nums + 1, g.sum, le, mo⟩ : G6)) (r' := (⟨g.name, g.keys + 1, g.nums + 1, (fsum (n1 ++ [o.v.num])), le, mo⟩ : G6)) hT rfl Try.ti46 rfl rfl rfl G6.len (H.row 1 rfl) (set_at (set_at hg)) (by first | exact hm1 | (simp only [List.length_set]; exact hm1)) (by decide) rfl) ?_
          rintro w10 ⟨hr, E, _⟩
          replace H := H.setR 1 rfl hr E (fun _ hk => .inl hk) rfl; clear hr E
          replace hT := hT.keep [6, 10, 60, 9, 5, 8, 14, 7, 4, 0, 1] rfl
          refine Sx.ser_nil ?_
          refine Sx.then_normal (hK21 _ _ ?_)
          clear hK21
          refine wp_seq_k fun K22 hK22 => ?_
          -- region 19 (ref.go:56)
          refine Sx.wp_text [(0, .take), (1, .take), (2, .take), (3, .take), (4, .take), (5, .take), (6, .run), (7, .take), (8, .run), (9, .take), (10, .take), (11, .run)] rfl ?_
          refine Sx.st_take hT rfl rfl rfl rfl (Sx.x_move hT rfl rfl) ?_
          clear hT; intro a hT
          refine Sx.st_take hT rfl rfl rfl rfl (Sx.x_move hT rfl rfl) ?_
          clear hT; intro a hT
          refine Sx.st_take hT rfl rfl rfl rfl (Sx.x_move hT rfl rfl) ?_
          clear hT; intro a hT
          refine Sx.st_take hT rfl rfl rfl rfl (Sx.x_move hT rfl rfl) ?_
          clear hT; intro a hT
          refine Sx.st_take hT rfl rfl rfl rfl (Sx.x_index (k := m1 - 1) hT rfl Try.underlying28 Try.ti59 (H.row 1 rfl).sv rfl rfl (by first | rfl | omega) (by omega)) ?_
          clear hT; intro a hT
          refine Sx.st_take hT rfl rfl rfl rfl (Sx.x_fieldAddr hT rfl Try.fa59_4 rfl) ?_
          clear hT; intro a hT
          refine Sx.st_run hT rfl rfl rfl rfl (Sx.x_load1 hT rfl Try.fl46 rfl (by first | exact ((R.at H.ext).cell (j := 0) Wt.len ho rfl) | exact ((R.at H.ext).cell (j := 1) Wt.len ho rfl) | exact ((R.at H.ext).cell (j := 2) Wt.len ho rfl) | exact (((H.row 1 rfl).ssn hm).cell (j := 0) G6.len hg0 rfl) | exact (((H.row 1 rfl).ssn (by first | exact hm1 | (simp only [List.length_set]; exact hm1))).cell (j := 1) G6.len hg rfl) | exact (((H.row 1 rfl).ssn (by first | exact hm1 | (simp only [List.length_set]; exact hm1))).cell (j := 2) G6.len (set_at hg) rfl) | exact (((H.row 1 rfl).ssn (by first | exact hm1 | (simp only [List.length_set]; exact hm1))).cell (j := 4) G6.len (set_at (set_at (set_at hg))) rfl) | exact (((H.row 1 rfl).ssn (by first | exact hm1 | (simp only [List.length_set]; exact hm1))).cell (j := 5) G6.len (set_at (set_at (set_at (set_at hg)))) rfl))) ?_
          clear hT; intro a hT
          refine Sx.st_take hT rfl rfl rfl rfl (Sx.x_move hT rfl rfl) ?_
          clear hT; intro a hT
          refine Sx.st_call hT rfl rfl rfl rfl rfl Try.can48 rfl (Does_calls _ _ _ _) ?_
          rintro _ w11 ⟨rfl, E⟩
          refine ⟨_, rfl, ?_⟩
          clear hT; intro a hT
          replace H := H.pure E; clear E
          refine Sx.st_take hT rfl rfl rfl rfl (Sx.x_index (k := m1 - 1) hT rfl Try.underlying28 Try.ti59 (H.row 1 rfl).sv rfl rfl (by first | rfl | omega) (by omega)) ?_
          clear hT; intro a hT
          refine Sx.st_take hT rfl rfl rfl rfl (Sx.x_fieldAddr hT rfl Try.fa59_4 rfl) ?_
          clear hT; intro a hT
          refine Sx.st_act hT rfl rfl rfl (Sx.x_storeRowF (k := m1 - 1) (j := 4) (enc := G6.cells) (xs := (((L1.set (m1 - 1) (⟨g.name, g.keys + 1, g.nums, g.sum, le, mo⟩ : G6)).set (m1 - 1) (⟨g.name, g.keys + 1, g.nums + 1, g.sum, le, mo⟩ : G6)).set (m1 - 1) (⟨g.name, g.keys + 1, g.nums + 1, (fsum (n1 ++ [o.v.num])), le, mo⟩ : G6))) (r := (⟨g.name, g.keys + 1, g.nums + 1, (fsum (n1 ++ [o.v.num])), le, mo⟩ : G6)) (r' := (⟨g.name, g.keys + 1, g.nums + 1, (fsum (n1 ++ [o.v.num])), (doesF 4 le o.v.num), mo⟩ : G6)) hT rfl Try.ti46 rfl rfl rfl G6.len (H.row 1 rfl) (set_at (set_at (set_at hg))) (by first | exact hm1 | (simp only [List.length_set]; exact hm1)) (by decide) rfl) ?_
          rintro w12 ⟨hr, E, _⟩
          replace H := H.setR 1 rfl hr E (fun _ hk => .inl hk) rfl; clear hr E
          replace hT := hT.keep [6, 10, 60, 9, 5, 8, 14, 7, 4, 0, 1] rfl
          refine Sx.ser_nil ?_
          refine Sx.then_normal (hK22 _ _ ?_)
          clear hK22
          -- region 20 (ref.go:57)
          refine Sx.wp_text [(0, .take), (1, .take), (2, .take), (3, .take), (4, .take), (5, .take), (6, .run), (7, .take), (8, .run), (9, .take), (10, .take), (11, .run)] rfl ?_
          refine Sx.st_take hT rfl rfl rfl rfl (Sx.x_move hT rfl rfl) ?_
          clear hT; intro a hT
          refine Sx.st_take hT rfl rfl rfl rfl (Sx.x_move hT rfl rfl) ?_
          clear hT; intro a hT
          refine Sx.st_take hT rfl rfl rfl rfl (Sx.x_move hT rfl rfl) ?_
          clear hT; intro a hT
          refine Sx.st_take hT rfl rfl rfl rfl (Sx.x_move hT rfl rfl) ?_
          clear hT; intro a hT
          refine Sx.st_take hT rfl rfl rfl rfl (Sx.x_index (k := m1 - 1) hT rfl Try.underlying28 Try.ti59 (H.row 1 rfl).sv rfl rfl (by first | rfl | omega) (by omega)) ?_
          clear hT; intro a hT
          refine Sx.st_take hT rfl rfl rfl rfl (Sx.x_fieldAddr hT rfl Try.fa59_5 rfl) ?_
          clear hT; intro a hT
          refine Sx.st_run hT rfl rfl rfl rfl (Sx.x_load1 hT rfl Try.fl46 rfl (by first | exact ((R.at H.ext).cell (j := 0) Wt.len ho rfl) | exact ((R.at H.ext).cell (j := 1) Wt.len ho rfl) | exact ((R.at H.ext).cell (j := 2) Wt.len ho rfl) | exact (((H.row 1 rfl).ssn hm).cell (j := 0) G6.len hg0 rfl) | exact (((H.row 1 rfl).ssn (by first | exact hm1 | (simp only [List.length_set]; exact hm1))).cell (j := 1) G6.len hg rfl) | exact (((H.row 1 rfl).ssn (by first | exact hm1 | (simp only [List.length_set]; exact hm1))).cell (j := 2) G6.len (set_at hg) rfl) | exact (((H.row 1 rfl).ssn (by first | exact hm1 | (simp only [List.length_set]; exact hm1))).cell (j := 4) G6.len (set_at (set_at (set_at hg))) rfl) | exact (((H.row 1 rfl).ssn (by first | exact hm1 | (simp only [List.length_set]; exact hm1))).cell (j := 5) G6.len (set_at (set_at (set_at (set_at hg)))) rfl))) ?_
          clear hT; intro a hT
          refine Sx.st_take hT rfl rfl rfl rfl (Sx.x_move hT rfl rfl) ?_
          clear hT; intro a hT
          refine Sx.st_call hT rfl rfl rfl rfl rfl Try.can48 rfl (Does_calls _ _ _ _) ?_
          rintro _ w13 ⟨rfl, E⟩
          refine ⟨_, rfl, ?_⟩
          clear hT; intro a hT
          replace H := H.pure E; clear E
          refine Sx.st_take hT rfl rfl rfl rfl (Sx.x_index (k := m1 - 1) hT rfl Try.underlying28 Try.ti59 (H.row 1 rfl).sv rfl rfl (by first | rfl | omega) (by omega)) ?_
          clear hT; intro a hT
          refine Sx.st_take hT rfl rfl rfl rfl (Sx.x_fieldAddr hT rfl Try.fa59_5 rfl) ?_
          clear hT; intro a hT
          refine Sx.st_act hT rfl rfl rfl (Sx.x_storeRowF (k := m1 - 1) (j := 5) (enc := G6.cells) (xs := ((((L1.set (m1 - 1) (⟨g.name, g.keys + 1, g.nums, g.sum, le, mo⟩ : G6)).set (m1 - 1) (⟨g.name, g.keys + 1, g.nums + 1, g.sum, le, mo⟩ : G6)).set (m1 - 1) (⟨g.name, g.keys + 1, g.nums + 1, (fsum (n1 ++ [o.v.num])), le, mo⟩ : G6)).set (m1 - 1) (⟨g.name, g.keys + 1, g.nums + 1, (fsum (n1 ++ [o.v.num])), (doesF 4 le o.v.num), mo⟩ : G6))) (r := (⟨g.name, g.keys + 1, g.nums + 1, (fsum (n1 ++ [o.v.num])), (doesF 4 le o.v.num), mo⟩ : G6)) (r' := (⟨g.name, g.keys + 1, g.nums + 1, (fsum (n1 ++ [o.v.num])), (doesF 4 le o.v.num), (doesF 5 mo o.v.num)⟩ : G6)) hT rfl Try.ti46 rfl rfl rfl G6.len (H.row 1 rfl) (set_at (set_at (set_at (set_at hg)))) (by first | exact hm1 | (simp only [List.length_set]; exact hm1)) (by decide) rfl) ?_
          rintro w14 ⟨hr, E, _⟩
          replace H := H.setR 1 rfl hr E (fun _ hk => .inl hk) rfl; clear hr E
          replace hT := hT.keep [6, 10, 60, 9, 5, 8, 14, 7, 4, 0, 1] rfl
          refine Sx.ser_nil ?_
          refine Sx.block_normal ?_
          refine Sx.then_normal (hK9 _ _ ?_)
          clear hK9
          -- region 5 (ref.go:38)
          refine Sx.wp_text [(0, .take), (1, .take), (2, .take)] rfl ?_
          refine Sx.st_take hT rfl rfl rfl rfl (Sx.x_move hT rfl rfl) ?_
          clear hT; intro a hT
          refine Sx.st_take hT rfl rfl rfl rfl ((fun w => Sx.x_add w hT rfl rfl rfl (Sx.wrap64 (by omega)))) ?_
          clear hT; intro a hT
          refine Sx.st_take hT rfl rfl rfl rfl (Sx.x_assign hT rfl rfl) ?_
          clear hT; intro a hT
          replace hT := hT.keep [7, 6, 10, 60, 9, 5, 8, 14, 4, 0, 1] rfl
          refine Sx.ser_nil ?_
          refine Sx.then_normal ?_
          try simp only [List.set_set] at H
          have hup : updG g o.v (n1 ++ [o.v.num]) = (⟨g.name, g.keys + 1, g.nums + 1, (fsum (n1 ++ [o.v.num])), (doesF 4 le o.v.num), (doesF 5 mo o.v.num)⟩ : G6) := upd_x hk1 hz hnz
          rw [← hup] at H
          have hfin : (L1.set (m1 - 1) (updG g o.v (n1 ++ [o.v.num])), (n1 ++ [o.v.num])) = gfold cut (l.take (k + 1)) := by
            rw [gfold_snoc ho, ← hfold, gst_eq h1 (by rw [← hm1]; exact hg), if_pos hk1, hm1]
          exact ⟨(k + 1, L1.set (m1 - 1) (updG g o.v (n1 ++ [o.v.num])), m1, (n1 ++ [o.v.num]), ad4, c4, ad8, c8), ⟨by show k + 1 ≤ _; omega, hfin, by show m1 = List.length (List.set _ _ _); rw [List.length_set]; exact hm1, gbound_set hb1 hg, by show m1 ≤ _; omega, by show List.length _ ≤ _; simp only [List.length_append, List.length_cons, List.length_nil]; omega⟩, (hT.keep [7, 5, 6, 4, 0, 1] rfl), (H.keep [1, 2] rfl rfl), by show _ - (k + 1) < _ - k; omega⟩
        · clear hK18; intro hJK18
          refine wp_seq_k fun K23 hK23 => ?_
          -- region 14 (ref.go:50)
          refine Sx.wp_text [(0, .take), (1, .take), (2, .take), (3, .take), (4, .run), (5, .take)] rfl ?_
          refine Sx.st_take hT rfl rfl rfl rfl (Sx.x_move hT rfl rfl) ?_
          clear hT; intro a hT
          refine Sx.st_take hT rfl rfl rfl rfl (Sx.x_move hT rfl rfl) ?_
          clear hT; intro a hT
          refine Sx.st_take hT rfl rfl rfl rfl (Sx.x_index (k := m1 - 1) hT rfl Try.underlying28 Try.ti59 (H.row 0 rfl).sv rfl rfl (by first | rfl | omega) (by omega)) ?_
          clear hT; intro a hT
          refine Sx.st_take hT rfl rfl rfl rfl (Sx.x_fieldAddr hT rfl Try.fa59_2 rfl) ?_
          clear hT; intro a hT
          refine Sx.st_run hT rfl rfl rfl rfl (Sx.x_load1 hT rfl Try.fl3 rfl (by first | exact ((R.at H.ext).cell (j := 0) Wt.len ho rfl) | exact ((R.at H.ext).cell (j := 1) Wt.len ho rfl) | exact ((R.at H.ext).cell (j := 2) Wt.len ho rfl) | exact (((H.row 0 rfl).ssn hm).cell (j := 0) G6.len hg0 rfl) | exact (((H.row 0 rfl).ssn (by first | exact hm1 | (simp only [List.length_set]; exact hm1))).cell (j := 1) G6.len hg rfl) | exact (((H.row 0 rfl).ssn (by first | exact hm1 | (simp only [List.length_set]; exact hm1))).cell (j := 2) G6.len (set_at hg) rfl) | exact (((H.row 0 rfl).ssn (by first | exact hm1 | (simp only [List.length_set]; exact hm1))).cell (j := 4) G6.len (set_at (set_at (set_at hg))) rfl) | exact (((H.row 0 rfl).ssn (by first | exact hm1 | (simp only [List.length_set]; exact hm1))).cell (j := 5) G6.len (set_at (set_at (set_at (set_at hg)))) rfl))) ?_
          clear hT; intro a hT
          refine Sx.st_take hT rfl rfl rfl rfl ((fun w => Sx.x_eq w hT rfl rfl rfl)) ?_
          clear hT; intro a hT
          replace hT := hT.keep [72, 10, 60, 9, 5, 6, 8, 14, 7, 4, 0, 1] rfl
          refine Sx.ser_nil ?_
          refine Sx.then_normal (hK23 _ _ ?_)
          clear hK23
          -- cond 3
          refine Sx.wp_if hT rfl (fun hc24 => ?_) (fun hc24 => ?_)
          · try simp only [decide_eq_true_eq, decide_eq_false_iff_not, Bool.not_eq_true', Bool.not_eq_false', Bool.not_eq_true, Bool.not_eq_false, Bool.and_eq_true, Bool.or_eq_false_iff, beq_iff_eq, bne_iff_ne, Int.not_lt, Int.not_le, ne_eq] at hc24
            have hn0 : g.nums = 0 := hc24
            -- region 15 (ref.go:51)
            refine Sx.wp_text [(0, .take), (1, .take), (2, .take), (3, .take), (4, .take), (5, .take), (6, .take), (7, .take), (8, .run), (9, .take), (10, .take), (11, .run)] rfl ?_
            refine Sx.st_take hT rfl rfl rfl rfl (Sx.x_move hT rfl rfl) ?_
            clear hT; intro a hT
            refine Sx.st_take hT rfl rfl rfl rfl (Sx.x_move hT rfl rfl) ?_
            clear hT; intro a hT
            refine Sx.st_take hT rfl rfl rfl rfl (Sx.x_move hT rfl rfl) ?_
            clear hT; intro a hT
            refine Sx.st_take hT rfl rfl rfl rfl (Sx.x_move hT rfl rfl) ?_
            clear hT; intro a hT
            refine Sx.st_take hT rfl rfl rfl rfl (Sx.x_move hT rfl rfl) ?_
            clear hT; intro a hT
            refine Sx.st_take hT rfl rfl rfl rfl (Sx.x_move hT rfl rfl) ?_
            clear hT; intro a hT
            refine Sx.st_take hT rfl rfl rfl rfl (Sx.x_index (k := m1 - 1) hT rfl Try.underlying28 Try.ti59 (H.row 0 rfl).sv rfl rfl (by first | rfl | omega) (by omega)) ?_
            clear hT; intro a hT
            refine Sx.st_take hT rfl rfl rfl rfl (Sx.x_fieldAddr hT rfl Try.fa59_4 rfl) ?_
            clear hT; intro a hT
            refine Sx.st_act hT rfl rfl rfl (Sx.x_storeRowF (k := m1 - 1) (j := 4) (enc := G6.cells) (xs := (L1.set (m1 - 1) (⟨g.name, g.keys + 1, g.nums, g.sum, g.least, g.most⟩ : G6))) (r := (⟨g.name, g.keys + 1, g.nums, g.sum, g.least, g.most⟩ : G6)) (r' := (⟨g.name, g.keys + 1, g.nums, g.sum, o.v.num, g.most⟩ : G6)) hT rfl Try.ti46 rfl rfl rfl G6.len (H.row 0 rfl) (set_at hg) (by first | exact hm1 | (simp only [List.length_set]; exact hm1)) (by decide) rfl) ?_
            rintro w15 ⟨hr, E, _⟩
            replace H := H.setR 0 rfl hr E (fun _ hk => .inl hk) rfl; clear hr E
            refine Sx.st_take hT rfl rfl rfl rfl (Sx.x_index (k := m1 - 1) hT rfl Try.underlying28 Try.ti59 (H.row 0 rfl).sv rfl rfl (by first | rfl | omega) (by omega)) ?_
            clear hT; intro a hT
            refine Sx.st_take hT rfl rfl rfl rfl (Sx.x_fieldAddr hT rfl Try.fa59_5 rfl) ?_
            clear hT; intro a hT
            refine Sx.st_act hT rfl rfl rfl (Sx.x_storeRowF (k := m1 - 1) (j := 5) (enc := G6.cells) (xs := ((L1.set (m1 - 1) (⟨g.name, g.keys + 1, g.nums, g.sum, g.least, g.most⟩ : G6)).set (m1 - 1) (⟨g.name, g.keys + 1, g.nums, g.sum, o.v.num, g.most⟩ : G6))) (r := (⟨g.name, g.keys + 1, g.nums, g.sum, o.v.num, g.most⟩ : G6)) (r' := (⟨g.name, g.keys + 1, g.nums, g.sum, o.v.num, o.v.num⟩ : G6)) hT rfl Try.ti46 rfl rfl rfl G6.len (H.row 0 rfl) (set_at (set_at hg)) (by first | exact hm1 | (simp only [List.length_set]; exact hm1)) (by decide) rfl) ?_
            rintro w16 ⟨hr, E, _⟩
            replace H := H.setR 0 rfl hr E (fun _ hk => .inl hk) rfl; clear hr E
            replace hT := hT.keep [72, 10, 60, 9, 5, 6, 8, 14, 7, 4, 0, 1] rfl
            refine Sx.ser_nil ?_
            try simp only [List.set_set] at H
            exact Sx.then_normal (hJK18 (o.v.num, o.v.num) _ _ ⟨fun _ => ⟨rfl, rfl⟩, fun h9 => absurd hn0 h9⟩ (hT.keep [10, 60, 9, 5, 6, 8, 14, 7, 4, 0, 1] rfl) (H.keep [0, 1] rfl rfl))
          · try simp only [decide_eq_true_eq, decide_eq_false_iff_not, Bool.not_eq_true', Bool.not_eq_false', Bool.not_eq_true, Bool.not_eq_false, Bool.and_eq_true, Bool.or_eq_false_iff, beq_iff_eq, bne_iff_ne, Int.not_lt, Int.not_le, ne_eq] at hc24
            have hn0 : g.nums ≠ 0 := hc24
            refine wp_skip ?_
            try simp only [List.set_set] at H
            exact Sx.then_normal (hJK18 (g.least, g.most) _ _ ⟨fun h9 => absurd h9 hn0, fun _ => ⟨rfl, rfl⟩⟩ (hT.keep [10, 60, 9, 5, 6, 8, 14, 7, 4, 0, 1] rfl) (H.keep [0, 1] rfl rfl))
    · clear hK11; intro hJK11
      refine wp_seq_k fun K25 hK25 => ?_
      -- region 7 (ref.go:40)
      refine Sx.wp_text [(0, .take), (1, .take), (2, .take), (3, .take), (4, .take), (5, .take), (6, .take), (7, .take), (8, .take), (9, .take), (10, .run), (11, .take), (12, .take), (13, .take)] rfl ?_
      refine Sx.st_take hT rfl rfl rfl rfl (Sx.x_move hT rfl rfl) ?_
      clear hT; intro a hT
      refine Sx.st_take hT rfl rfl rfl rfl (Sx.x_len_slice hT rfl rfl Try.underlying28 rfl) ?_
      clear hT; intro a hT
      refine Sx.st_take hT rfl rfl rfl rfl ((fun w => Sx.x_eq w hT rfl rfl rfl)) ?_
      clear hT; intro a hT
      refine Sx.st_take hT rfl rfl rfl rfl (Sx.x_move hT rfl rfl) ?_
      clear hT; intro a hT
      -- guard (7, 3)
      refine Sx.Sl.two hT 27 rfl (fun hc26 hT => ?_) (fun hc26 hT => ?_)
      · try simp only [decide_eq_true_eq, decide_eq_false_iff_not, Bool.not_eq_true', Bool.not_eq_false', Bool.not_eq_true, Bool.not_eq_false, Bool.and_eq_true, Bool.or_eq_false_iff, beq_iff_eq, bne_iff_ne, Int.not_lt, Int.not_le, ne_eq] at hc26
        have hm0 : m = 0 := by omega
        have hLe : L = [] := List.eq_nil_of_length_eq_zero (by omega)
        refine Sx.st_skip hT rfl rfl rfl rfl ?_
        clear hT; intro a hT
        refine Sx.st_skip hT rfl rfl rfl rfl ?_
        clear hT; intro a hT
        refine Sx.st_skip hT rfl rfl rfl rfl ?_
        clear hT; intro a hT
        refine Sx.st_skip hT rfl rfl rfl rfl ?_
        clear hT; intro a hT
        refine Sx.st_skip hT rfl rfl rfl rfl ?_
        clear hT; intro a hT
        refine Sx.st_skip hT rfl rfl rfl rfl ?_
        clear hT; intro a hT
        refine Sx.st_runskip hT rfl rfl rfl rfl ?_
        clear hT; intro a hT
        refine Sx.st_skip hT rfl rfl rfl rfl ?_
        clear hT; intro a hT
        refine Sx.st_skip hT rfl rfl rfl rfl ?_
        clear hT; intro a hT
        refine Sx.st_take hT rfl rfl rfl rfl (Sx.x_pick_t hT rfl rfl rfl) ?_
        clear hT; intro a hT
        replace hT := hT.keep [37, 8, 14, 7, 5, 6, 4, 0, 1] rfl
        refine Sx.ser_nil ?_
        refine Sx.then_normal (hK25 _ _ ?_)
        clear hK25
        refine Sx.wp_if hT rfl (fun _ => ?_) (fun h => by cases h)
        have hnew : s1F (L, ns) (o.key.take cut) = (L ++ [g6new (o.key.take cut)], []) := s1_new (.inl hLe)
        refine wp_seq_k fun K27 hK27 => ?_
        -- region 8 (ref.go:41)
        refine Sx.wp_text [(0, .take), (1, .take), (2, .take), (3, .run), (4, .run), (5, .take)] rfl ?_
        refine Sx.st_take hT rfl rfl rfl rfl (Sx.x_move hT rfl rfl) ?_
        clear hT; intro a hT
        refine Sx.st_take hT rfl rfl rfl rfl (Sx.x_move hT rfl rfl) ?_
        clear hT; intro a hT
        refine Sx.st_take hT rfl rfl rfl rfl (Sx.x_bld hT rfl Try.bld59 rfl rfl) ?_
        clear hT; intro a hT
        refine Sx.st_eff hT rfl rfl rfl rfl (Sx.y_slice1 hT rfl Try.underlying28 Try.ti59 rfl rfl rfl rfl rfl rfl _) ?_
        clear hT; rintro _ w17 ⟨b2, rfl, N⟩ a hT
        replace H := H.new N; clear N
        refine Sx.st_eff hT rfl rfl rfl rfl (Sx.x_append hT rfl rfl Try.underlying28 Try.ti59 rfl (by decide) rfl rfl (H.row 1 rfl) ((H.blk 0 rfl).sv1 rfl) (by simp [Value.oneCell']) (fun h => by cases h) (by unfold maxLen; omega) (by omega)) ?_
        rintro _ w18 ⟨ad18, c18, rfl, hr, E, hown, -⟩
        clear hT; intro a hT
        replace H := H.setR 1 rfl hr E hown rfl; clear hr E hown
        rw [tk_g] at H
        refine Sx.st_take hT rfl rfl rfl rfl (Sx.x_assign hT rfl rfl) ?_
        clear hT; intro a hT
        replace hT := hT.keep [5, 37, 8, 14, 7, 6, 4, 0, 1] rfl
        refine Sx.ser_nil ?_
        refine Sx.then_normal (hK27 _ _ ?_)
        clear hK27
        -- region 9 (ref.go:42)
        replace H := H.nilR 46 1
        refine Sx.wp_text [(0, .take)] rfl ?_
        refine Sx.st_take hT rfl rfl rfl rfl (Sx.x_assign hT rfl rfl) ?_
        clear hT; intro a hT
        replace hT := hT.keep [6, 5, 37, 8, 14, 7, 4, 0, 1] rfl
        refine Sx.ser_nil ?_
        exact Sx.then_normal (hJK11 (L ++ [g6new (o.key.take cut)], m + 1, [], ad18, c18, none, 0) _ _ ⟨hnew.symm, by show m + 1 = _; simp; exact hm, by show m + 1 ≤ _; omega, Nat.zero_le _, Nat.succ_pos _⟩ (hT.keep [5, 6, 8, 14, 7, 4, 0, 1] rfl) (H.keep [2, 0] rfl rfl))
      · try simp only [decide_eq_true_eq, decide_eq_false_iff_not, Bool.not_eq_true', Bool.not_eq_false', Bool.not_eq_true, Bool.not_eq_false, Bool.and_eq_true, Bool.or_eq_false_iff, beq_iff_eq, bne_iff_ne, Int.not_lt, Int.not_le, ne_eq] at hc26
        have hmp : 0 < m := by omega
        obtain ⟨g0, hg0⟩ : ∃ o, L[m - 1]? = some o := ⟨_, List.getElem?_eq_getElem (by omega)⟩
        refine Sx.st_take hT rfl rfl rfl rfl (Sx.x_move hT rfl rfl) ?_
        clear hT; intro a hT
        refine Sx.st_take hT rfl rfl rfl rfl (Sx.x_move hT rfl rfl) ?_
        clear hT; intro a hT
        refine Sx.st_take hT rfl rfl rfl rfl (Sx.x_len_slice hT rfl rfl Try.underlying28 rfl) ?_
        clear hT; intro a hT
        refine Sx.st_take hT rfl rfl rfl rfl ((fun w => Sx.x_sub w hT rfl rfl rfl (Sx.wrap64 (by omega)))) ?_
        clear hT; intro a hT
        refine Sx.st_take hT rfl rfl rfl rfl (Sx.x_index (k := m - 1) hT rfl Try.underlying28 Try.ti59 (H.row 0 rfl).sv rfl rfl (by first | rfl | omega) (by omega)) ?_
        clear hT; intro a hT
        refine Sx.st_take hT rfl rfl rfl rfl (Sx.x_fieldAddr hT rfl Try.fa59_0 rfl) ?_
        clear hT; intro a hT
        refine Sx.st_run hT rfl rfl rfl rfl (Sx.x_load1 hT rfl Try.fl9 rfl (by first | exact ((R.at H.ext).cell (j := 0) Wt.len ho rfl) | exact ((R.at H.ext).cell (j := 1) Wt.len ho rfl) | exact ((R.at H.ext).cell (j := 2) Wt.len ho rfl) | exact (((H.row 0 rfl).ssn hm).cell (j := 0) G6.len hg0 rfl) | exact (((H.row 0 rfl).ssn (by first | exact hm1 | (simp only [List.length_set]; exact hm1))).cell (j := 1) G6.len hg rfl) | exact (((H.row 0 rfl).ssn (by first | exact hm1 | (simp only [List.length_set]; exact hm1))).cell (j := 2) G6.len (set_at hg) rfl) | exact (((H.row 0 rfl).ssn (by first | exact hm1 | (simp only [List.length_set]; exact hm1))).cell (j := 4) G6.len (set_at (set_at (set_at hg))) rfl) | exact (((H.row 0 rfl).ssn (by first | exact hm1 | (simp only [List.length_set]; exact hm1))).cell (j := 5) G6.len (set_at (set_at (set_at (set_at hg)))) rfl))) ?_
        clear hT; intro a hT
        refine Sx.st_take hT rfl rfl rfl rfl (Sx.x_move hT rfl rfl) ?_
        clear hT; intro a hT
        refine Sx.st_take hT rfl rfl rfl rfl ((fun w => Sx.x_strne w hT rfl rfl rfl)) ?_
        clear hT; intro a hT
        refine Sx.st_take hT rfl rfl rfl rfl (Sx.x_pick_f hT rfl rfl rfl) ?_
        clear hT; intro a hT
        replace hT := hT.keep [37, 8, 14, 7, 5, 6, 4, 0, 1] rfl
        refine Sx.ser_nil ?_
        refine Sx.then_normal (hK25 _ _ ?_)
        clear hK25
        -- cond 1
        refine Sx.wp_if hT rfl (fun hc28 => ?_) (fun hc28 => ?_)
        · try simp only [decide_eq_true_eq, decide_eq_false_iff_not, Bool.not_eq_true', Bool.not_eq_false', Bool.not_eq_true, Bool.not_eq_false, Bool.and_eq_true, Bool.or_eq_false_iff, beq_iff_eq, bne_iff_ne, Int.not_lt, Int.not_le, ne_eq] at hc28
          have hnew : s1F (L, ns) (o.key.take cut) = (L ++ [g6new (o.key.take cut)], []) := s1_new (.inr ⟨g0, by rw [← hm]; exact hg0, hc28⟩)
          refine wp_seq_k fun K29 hK29 => ?_
          -- region 8 (ref.go:41)
          refine Sx.wp_text [(0, .take), (1, .take), (2, .take), (3, .run), (4, .run), (5, .take)] rfl ?_
          refine Sx.st_take hT rfl rfl rfl rfl (Sx.x_move hT rfl rfl) ?_
          clear hT; intro a hT
          refine Sx.st_take hT rfl rfl rfl rfl (Sx.x_move hT rfl rfl) ?_
          clear hT; intro a hT
          refine Sx.st_take hT rfl rfl rfl rfl (Sx.x_bld hT rfl Try.bld59 rfl rfl) ?_
          clear hT; intro a hT
          refine Sx.st_eff hT rfl rfl rfl rfl (Sx.y_slice1 hT rfl Try.underlying28 Try.ti59 rfl rfl rfl rfl rfl rfl _) ?_
          clear hT; rintro _ w19 ⟨b3, rfl, N⟩ a hT
          replace H := H.new N; clear N
          refine Sx.st_eff hT rfl rfl rfl rfl (Sx.x_append hT rfl rfl Try.underlying28 Try.ti59 rfl (by decide) rfl rfl (H.row 1 rfl) ((H.blk 0 rfl).sv1 rfl) (by simp [Value.oneCell']) (fun h => by cases h) (by unfold maxLen; omega) (by omega)) ?_
          rintro _ w20 ⟨ad20, c20, rfl, hr, E, hown, -⟩
          clear hT; intro a hT
          replace H := H.setR 1 rfl hr E hown rfl; clear hr E hown
          rw [tk_g] at H
          refine Sx.st_take hT rfl rfl rfl rfl (Sx.x_assign hT rfl rfl) ?_
          clear hT; intro a hT
          replace hT := hT.keep [5, 37, 8, 14, 7, 6, 4, 0, 1] rfl
          refine Sx.ser_nil ?_
          refine Sx.then_normal (hK29 _ _ ?_)
          clear hK29
          -- region 9 (ref.go:42)
          replace H := H.nilR 46 1
          refine Sx.wp_text [(0, .take)] rfl ?_
          refine Sx.st_take hT rfl rfl rfl rfl (Sx.x_assign hT rfl rfl) ?_
          clear hT; intro a hT
          replace hT := hT.keep [6, 5, 37, 8, 14, 7, 4, 0, 1] rfl
          refine Sx.ser_nil ?_
          exact Sx.then_normal (hJK11 (L ++ [g6new (o.key.take cut)], m + 1, [], ad20, c20, none, 0) _ _ ⟨hnew.symm, by show m + 1 = _; simp; exact hm, by show m + 1 ≤ _; omega, Nat.zero_le _, Nat.succ_pos _⟩ (hT.keep [5, 6, 8, 14, 7, 4, 0, 1] rfl) (H.keep [2, 0] rfl rfl))
        · try simp only [decide_eq_true_eq, decide_eq_false_iff_not, Bool.not_eq_true', Bool.not_eq_false', Bool.not_eq_true, Bool.not_eq_false, Bool.and_eq_true, Bool.or_eq_false_iff, beq_iff_eq, bne_iff_ne, Int.not_lt, Int.not_le, ne_eq] at hc28
          have hsame : s1F (L, ns) (o.key.take cut) = (L, ns) := s1_same (by rw [← hm]; exact hg0) hc28
          refine wp_skip ?_
          exact Sx.then_normal (hJK11 (L, m, ns, ad2, c2, ad3, c3) _ _ ⟨hsame.symm, hm, by show m ≤ _; omega, hnk, hmp⟩ (hT.keep [5, 6, 8, 14, 7, 4, 0, 1] rfl) (H.keep [0, 1] rfl rfl))
  · try simp only [decide_eq_true_eq, decide_eq_false_iff_not, Bool.not_eq_true', Bool.not_eq_false', Bool.not_eq_true, Bool.not_eq_false, Bool.and_eq_true, Bool.or_eq_false_iff, beq_iff_eq, bne_iff_ne, Int.not_lt, Int.not_le, ne_eq] at hc8
    have hkl : k = l.length := by omega
    rw [hkl, List.take_length] at hfold
    refine wp_exit ?_
    refine Sx.then_exit ?_
    refine Sx.then_exit ?_
    refine Sx.block_exit ?_
    refine Sx.then_normal (hK4 _ _ ?_)
    clear hK4
    refine wp_seq_k fun K30 hK30 => ?_
    -- region 21 (ref.go:59)
    refine Sx.wp_text [(0, .take), (1, .take)] rfl ?_
    refine Sx.st_take hT rfl rfl rfl rfl (Sx.x_move hT rfl rfl) ?_
    clear hT; intro a hT
    refine Sx.st_take hT rfl rfl rfl rfl (Sx.x_assign hT rfl rfl) ?_
    clear hT; intro a hT
    replace hT := hT.keep [4, 14, 7, 5, 6, 0, 1] rfl
    refine Sx.ser_nil ?_
    refine Sx.then_normal (hK30 _ _ ?_)
    clear hK30
    refine wp_ret ?_
    refine Sx.done1 (fn := Try.f31) hT rfl (.tmp (hT.get 4 _ rfl)) ?_
    have hgf : groupsF cut l = L := by unfold groupsF; rw [← hfold]
    rw [hgf]
    subst hm
    exact ⟨_, _, rfl, H.keep [0] rfl rfl⟩

end Go.Proofs.Ytakjfnckbidbcaa
