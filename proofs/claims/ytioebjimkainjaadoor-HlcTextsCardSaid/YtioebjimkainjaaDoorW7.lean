/- Walks: numbers as texts; HlcStamps. -/
import Derived.Test.YtioebjimkainjaaDoorW4
set_option linter.unusedSimpArgs false
set_option linter.unusedVariables false
namespace Go.Proofs.YtioebjimkainjaaDoor
open Sx
theorem Tryd.ti5 : Sx.TI Tryd.prog 5 (.int .u8 0) 1 1 := .mk' (by kernel_rfl)
theorem Tryd.can3 : Sx.Can Tryd.prog 3 := ⟨_, Tryd.func3, by kernel_rfl, rfl⟩
theorem Tryd.can20 : Sx.Can Tryd.prog 20 := ⟨_, Tryd.func20, by kernel_rfl, rfl⟩
theorem Tryd.can35 : Sx.Can Tryd.prog 35 := ⟨_, Tryd.func35, by kernel_rfl, rfl⟩
theorem Tab.ext {w w' : World} {name : String} {k : IntKind} {zs : List Int} (h : Lib.TabIs Tryd.prog w name k zs) (x : Ext No w w') : Lib.TabIs Tryd.prog w' name k zs := by
  unfold Lib.TabIs World.var? at *
  cases hg : Tryd.prog.globalNamed name with
  | none => simp [hg] at h
  | some g =>
    simp only [hg, Option.bind_some] at h ⊢
    cases hb : w.heap[g]? with
    | none => simp [hb] at h
    | some o =>
      have hlt := (Array.getElem?_eq_some_iff.1 hb).1
      rw [x.block g hlt (not_No g), hb]
      rw [hb] at h
      exact h
abbrev Tab (w : World) : Prop := Lib.TabIs Tryd.prog w "internal/strconv.uint64pow10" .u64 Lib.pow10Tab
theorem grow_ext (w : World) (k : Nat) (os : Array Obj) : Ext No w (Go.Sort.grow (w.drewN k) os) := by
  refine ⟨rfl, rfl, rfl, ?_, fun i hi _ => ?_⟩
  · simp [Go.Sort.grow, World.drewN]
  · simp only [Go.Sort.grow, World.drewN]
    rw [Array.getElem?_append_left hi]
theorem Itoa_calls (n : Int) (h0 : -9223372036854775808 ≤ n) (h1 : n ≤ 9223372036854775807) (w : World) (ht : Tab w) : Calls Tryd.prog 34 #[.int .i64 n] w fun e w' => e = .returned (.string ⟨(Lib.itoa n).toArray⟩) ∧ Ext No w w' := by
  refine (Tryd.strconv_Itoa n h0 h1 w ht).mono fun e w' h => ?_
  obtain ⟨h2, k, os, rfl⟩ := h
  exact ⟨h2, grow_ext w k os⟩
theorem nd_le (b : Nat) : ∀ u : Nat, u < 10 ^ b → 0 < b → Lib.nDigits u ≤ b := by
  induction b with
  | zero => intro u _ h; omega
  | succ b ih =>
    intro u hu _
    by_cases h : u < 10
    · rw [Lib.nDigits_small h]; omega
    · rw [Lib.nDigits_big h]
      rcases Nat.eq_zero_or_pos b with h0 | h0
      · subst h0; omega
      · have := ih (u / 10) (by rw [Nat.pow_succ] at hu; omega) h0
        omega
theorem itoa_len (n : Int) (h0 : -9223372036854775808 ≤ n) (h1 : n ≤ 9223372036854775807) : (Lib.itoa n).length ≤ 20 := by
  by_cases hneg : n < 0
  · obtain ⟨u, rfl⟩ : ∃ u : Nat, n = -(u : Int) := ⟨n.natAbs, by omega⟩
    rw [Lib.itoa_neg u (by omega), List.length_cons, Lib.decDigits_length]
    have h9 : Lib.nDigits u ≤ 19 := by
      have := nd_le 19 u (by omega) (by omega)
      exact this
    omega
  · obtain ⟨u, rfl⟩ : ∃ u : Nat, n = u := ⟨n.toNat, by omega⟩
    rw [Lib.itoa_nonneg, Lib.decDigits_length]
    have := nd_le 19 u (by omega) (by omega)
    omega

theorem td10 (k : Int) : (0 ≤ k ∧ k.tdiv 10 = k / 10 ∧ k.tmod 10 = k % 10) ∨ (k < 0 ∧ k.tdiv 10 = -((-k) / 10) ∧ k.tmod 10 = -((-k) % 10)) := by
  by_cases h : 0 ≤ k
  · exact .inl ⟨h, Int.tdiv_eq_ediv_of_nonneg h, Int.tmod_eq_emod_of_nonneg h⟩
  · refine .inr ⟨by omega, ?_, ?_⟩
    · rw [← Int.tdiv_eq_ediv_of_nonneg (by omega), Int.neg_tdiv, Int.neg_neg]
    · rw [← Int.tmod_eq_emod_of_nonneg (by omega), Int.neg_tmod, Int.neg_neg]
theorem digits_step {k : Int} (hk : k ≠ 0) {s t : List UInt8} (h : Lib.decDigits k.natAbs ++ s = t) :
    (if k.tdiv 10 = 0 then [] else Lib.decDigits (k.tdiv 10).natAbs) ++ (UInt8.ofNat (48 + k.natAbs % 10) :: s) = t := by
  rw [← h]
  have htd := td10 k
  have e1 : (k.tdiv 10).natAbs = k.natAbs / 10 := by omega
  by_cases h0 : k.natAbs < 10
  · rw [if_pos (by omega), Lib.decDigits_one h0, Nat.mod_eq_of_lt h0]
    rfl
  · rw [if_neg (by omega), e1]
    conv => rhs; rw [Lib.decDigits, dif_neg h0]
    simp
theorem neg_abs (k : Int) (h : k.tmod 10 < 0) : -(k.tmod 10) = ((k.natAbs % 10 : Nat) : Int) := by have htd := td10 k; omega
theorem pos_abs (k : Int) (h : ¬ k.tmod 10 < 0) : k.tmod 10 = ((k.natAbs % 10 : Nat) : Int) := by have htd := td10 k; omega

theorem Dec_calls (n : Int) (h0 : -9223372036854775808 ≤ n) (h1 : n ≤ 9223372036854775807) (w : World) : Calls Tryd.prog 35 #[.int .i64 n] w fun e w' => e = .returned (.string ⟨(Lib.itoa n).toArray⟩) ∧ Ext No w w' := by
  have hlen : (Lib.decDigits n.natAbs).length ≤ 20 := by rw [Lib.decDigits_length]; exact nd_le 20 _ (by omega) (by omega)
  refine Sx.calls_into Tryd.func35 rfl Tryd.ntmps35 rfl fun a hT => ?_
  replace hT := hT.keep [0] rfl
  have H : Sx.Hp w (Sx.No) w [] := Sx.Hp.start _ _
  refine wp_seq_k fun K1 hK1 => ?_
  -- region 0 (same.go:293)
  refine Sx.wp_text [(0, .take)] rfl ?_
  refine Sx.st_take hT rfl rfl rfl rfl (Sx.x_assign hT rfl rfl) ?_
  clear hT; intro a hT
  replace hT := hT.keep [2, 0] rfl
  refine Sx.ser_nil ?_
  refine Sx.then_normal (hK1 _ _ ?_)
  clear hK1
  refine wp_seq_k fun K2 hK2 => ?_
  refine wp_seq_k fun K3 hK3 => ?_
  -- region 1 (same.go:294)
  refine Sx.wp_text [(0, .take), (1, .take)] rfl ?_
  refine Sx.st_take hT rfl rfl rfl rfl (Sx.x_move hT rfl rfl) ?_
  clear hT; intro a hT
  refine Sx.st_take hT rfl rfl rfl rfl ((fun w => Sx.x_eq w hT rfl rfl rfl)) ?_
  clear hT; intro a hT
  replace hT := hT.keep [7, 2, 0] rfl
  refine Sx.ser_nil ?_
  refine Sx.then_normal (hK3 _ _ ?_)
  clear hK3
  -- cond 0
  refine Sx.wp_if hT rfl (fun hc4 => ?_) (fun hc4 => ?_)
  · try simp only [decide_eq_true_eq, decide_eq_false_iff_not, Bool.not_eq_true', Bool.not_eq_false', Bool.not_eq_true, Bool.not_eq_false, Bool.and_eq_true, Bool.or_eq_false_iff, beq_iff_eq, bne_iff_ne, Int.not_lt, Int.not_le, ne_eq] at hc4
    have hn0 := hc4
    refine wp_seq_k fun K5 hK5 => ?_
    -- region 2 (same.go:295)
    refine Sx.wp_text [(0, .take)] rfl ?_
    refine Sx.st_take hT rfl rfl rfl rfl (Sx.x_assign hT rfl rfl) ?_
    clear hT; intro a hT
    replace hT := hT.keep [2, 7, 0] rfl
    refine Sx.ser_nil ?_
    refine Sx.then_normal (hK5 _ _ ?_)
    clear hK5
    refine wp_ret ?_
    refine Sx.then_ret ?_
    refine Sx.done1 (fn := Tryd.f35) hT rfl (.tmp (hT.get 2 _ rfl)) ?_
    subst hn0
    exact ⟨congrArg Ending.returned (congrArg Value.string (by unfold Lib.itoa; rw [if_neg (by omega), show (0 : Int).toNat = 0 from rfl, Lib.decDigits_one (by decide)]; rfl)), H.ext⟩
  · try simp only [decide_eq_true_eq, decide_eq_false_iff_not, Bool.not_eq_true', Bool.not_eq_false', Bool.not_eq_true, Bool.not_eq_false, Bool.and_eq_true, Bool.or_eq_false_iff, beq_iff_eq, bne_iff_ne, Int.not_lt, Int.not_le, ne_eq] at hc4
    refine wp_skip ?_
    refine Sx.then_normal (hK2 _ _ ?_)
    clear hK2
    refine wp_seq_k fun K6 hK6 => ?_
    -- region 3 (same.go:297)
    refine Sx.wp_text [(0, .take)] rfl ?_
    refine Sx.st_take hT rfl rfl rfl rfl (Sx.x_assign hT rfl rfl) ?_
    clear hT; intro a hT
    replace hT := hT.keep [3, 7, 2, 0] rfl
    refine Sx.ser_nil ?_
    refine Sx.then_normal (hK6 _ _ ?_)
    clear hK6
    refine wp_seq_k fun K7 hK7 => ?_
    refine wp_seq_k fun K8 hK8 => ?_
    -- region 4 (same.go:298)
    refine Sx.wp_text [(0, .take), (1, .take)] rfl ?_
    refine Sx.st_take hT rfl rfl rfl rfl (Sx.x_move hT rfl rfl) ?_
    clear hT; intro a hT
    refine Sx.st_take hT rfl rfl rfl rfl (Sx.x_assign hT rfl rfl) ?_
    clear hT; intro a hT
    replace hT := hT.keep [4, 3, 7, 2, 0] rfl
    refine Sx.ser_nil ?_
    refine Sx.then_normal (hK8 _ _ ?_)
    clear hK8
    refine wp_block ?_
    -- loop 0
    refine Sx.wp_loopH (G := Int × List UInt8) (fun ⟨k, s⟩ => [(3, .string ⟨s.toArray⟩), (4, .int .i64 k)]) (fun ⟨k, s⟩ => []) (fun ⟨k, s⟩ => (-9223372036854775808 ≤ k ∧ k ≤ 9223372036854775807) ∧ (if k = 0 then [] else Lib.decDigits k.natAbs) ++ s = Lib.decDigits n.natAbs) (fun ⟨k, s⟩ => k.natAbs) (n, []) (hT.keep [3, 4, 7, 2, 0] rfl) (H.keep [] rfl rfl) (⟨⟨h0, h1⟩, by rw [if_neg (by assumption), List.append_nil]⟩) ?_
    clear hT H
    rintro ⟨k, s⟩ a w1 hJ hT H
    replace hT := hT.keep [3, 4, 7, 2, 0] rfl
    replace H := H.keep [] rfl rfl
    obtain ⟨hkb, hk⟩ := hJ
    have htd := td10 k
    have hsl : s.length ≤ 20 := by have h9 := congrArg List.length hk; rw [List.length_append] at h9; omega
    refine wp_seq_k fun K9 hK9 => ?_
    refine wp_seq_k fun K10 hK10 => ?_
    -- region 5 (same.go:298)
    refine Sx.wp_text [(0, .take), (1, .take)] rfl ?_
    refine Sx.st_take hT rfl rfl rfl rfl (Sx.x_move hT rfl rfl) ?_
    clear hT; intro a hT
    refine Sx.st_take hT rfl rfl rfl rfl ((fun w => Sx.x_ne w hT rfl rfl rfl)) ?_
    clear hT; intro a hT
    replace hT := hT.keep [10, 3, 4, 7, 2, 0] rfl
    refine Sx.ser_nil ?_
    refine Sx.then_normal (hK10 _ _ ?_)
    clear hK10
    -- cond 1
    refine Sx.wp_if hT rfl (fun hc11 => ?_) (fun hc11 => ?_)
    · try simp only [decide_eq_true_eq, decide_eq_false_iff_not, Bool.not_eq_true', Bool.not_eq_false', Bool.not_eq_true, Bool.not_eq_false, Bool.and_eq_true, Bool.or_eq_false_iff, beq_iff_eq, bne_iff_ne, Int.not_lt, Int.not_le, ne_eq] at hc11
      have hk0 : ¬ k = 0 := hc11
      refine wp_skip ?_
      refine Sx.then_normal (hK9 _ _ ?_)
      clear hK9
      refine wp_seq_k fun K12 hK12 => ?_
      refine wp_block ?_
      refine wp_seq_k fun K13 hK13 => ?_
      -- region 7 (same.go:299)
      refine Sx.wp_text [(0, .take), (1, .take), (2, .take)] rfl ?_
      refine Sx.st_take hT rfl rfl rfl rfl (Sx.x_move hT rfl rfl) ?_
      clear hT; intro a hT
      refine Sx.st_take hT rfl rfl rfl rfl ((fun w => Sx.x_rem w hT rfl rfl rfl (by omega))) ?_
      clear hT; intro a hT
      refine Sx.st_take hT rfl rfl rfl rfl (Sx.x_assign hT rfl rfl) ?_
      clear hT; intro a hT
      replace hT := hT.keep [5, 10, 3, 4, 7, 2, 0] rfl
      refine Sx.ser_nil ?_
      refine Sx.then_normal (hK13 _ _ ?_)
      clear hK13
      refine wp_seq_k fun K14 hK14 => ?_
      refine wp_seq_k fun K15 hK15 => ?_
      -- region 8 (same.go:300)
      refine Sx.wp_text [(0, .take), (1, .take)] rfl ?_
      refine Sx.st_take hT rfl rfl rfl rfl (Sx.x_move hT rfl rfl) ?_
      clear hT; intro a hT
      refine Sx.st_take hT rfl rfl rfl rfl ((fun w => Sx.x_lt w hT rfl rfl rfl)) ?_
      clear hT; intro a hT
      replace hT := hT.keep [16, 5, 10, 3, 4, 7, 2, 0] rfl
      refine Sx.ser_nil ?_
      refine Sx.then_normal (hK15 _ _ ?_)
      clear hK15
      -- cond 2
      refine Sx.wp_if hT rfl (fun hc16 => ?_) (fun hc16 => ?_)
      · try simp only [decide_eq_true_eq, decide_eq_false_iff_not, Bool.not_eq_true', Bool.not_eq_false', Bool.not_eq_true, Bool.not_eq_false, Bool.and_eq_true, Bool.or_eq_false_iff, beq_iff_eq, bne_iff_ne, Int.not_lt, Int.not_le, ne_eq] at hc16
        -- region 9 (same.go:301)
        refine Sx.wp_text [(0, .take), (1, .take), (2, .take)] rfl ?_
        refine Sx.st_take hT rfl rfl rfl rfl (Sx.x_move hT rfl rfl) ?_
        clear hT; intro a hT
        refine Sx.st_take hT rfl rfl rfl rfl ((fun w => Sx.x_neg w hT rfl rfl (Sx.wrap64 (by omega)))) ?_
        clear hT; intro a hT
        refine Sx.st_take hT rfl rfl rfl rfl (Sx.x_assign hT rfl rfl) ?_
        clear hT; intro a hT
        replace hT := hT.keep [5, 16, 10, 3, 4, 7, 2, 0] rfl
        refine Sx.ser_nil ?_
        refine Sx.then_normal (hK14 _ _ ?_)
        clear hK14
        -- region 10 (same.go:303)
        rw [neg_abs k (by omega)] at hT
        refine Sx.wp_text [(0, .take), (1, .take), (2, .take), (3, .run), (4, .run), (5, .take), (6, .take), (7, .take)] rfl ?_
        refine Sx.st_take hT rfl rfl rfl rfl (Sx.x_move hT rfl rfl) ?_
        clear hT; intro a hT
        refine Sx.st_take hT rfl rfl rfl rfl ((fun w => Sx.x_add w hT rfl rfl rfl (Sx.wrap64 (by omega)))) ?_
        clear hT; intro a hT
        refine Sx.st_take hT rfl rfl rfl rfl ((fun w => Sx.x_toint w hT rfl Tryd.underlying3 Tryd.underlying5 rfl (Sx.wrap8 (by omega)))) ?_
        clear hT; intro a hT
        refine Sx.st_eff hT rfl rfl rfl rfl (Sx.y_slice1 hT rfl Tryd.underlying66 Tryd.ti5 rfl rfl rfl rfl rfl rfl _) ?_
        clear hT; rintro _ w2 ⟨b1, rfl, N⟩ a hT
        replace H := H.new N; clear N
        refine Sx.st_run hT rfl rfl rfl rfl (Sx.x_bytes_string hT rfl ((H.blk 0 rfl).bs1n (48 + k.natAbs % 10) (by omega) (by omega)) Tryd.underlying66 Tryd.underlying5 Tryd.underlying9 rfl rfl) ?_
        clear hT; intro a hT
        refine Sx.st_take hT rfl rfl rfl rfl (Sx.x_move hT rfl rfl) ?_
        clear hT; intro a hT
        refine Sx.st_take hT rfl rfl rfl rfl ((fun w => Sx.x_catL w hT rfl rfl rfl (by simp only [List.length_append, List.length_cons, List.length_nil]; omega))) ?_
        clear hT; intro a hT
        refine Sx.st_take hT rfl rfl rfl rfl (Sx.x_assign hT rfl rfl) ?_
        clear hT; intro a hT
        replace hT := hT.keep [3, 5, 16, 10, 4, 7, 2, 0] rfl
        refine Sx.ser_nil ?_
        refine Sx.block_normal ?_
        refine Sx.then_normal (hK12 _ _ ?_)
        clear hK12
        -- region 6 (same.go:298)
        refine Sx.wp_text [(0, .take), (1, .take), (2, .take)] rfl ?_
        refine Sx.st_take hT rfl rfl rfl rfl (Sx.x_move hT rfl rfl) ?_
        clear hT; intro a hT
        refine Sx.st_take hT rfl rfl rfl rfl ((fun w => Sx.x_quo w hT rfl rfl rfl (by omega) (Sx.wrap64 (by omega)))) ?_
        clear hT; intro a hT
        refine Sx.st_take hT rfl rfl rfl rfl (Sx.x_assign hT rfl rfl) ?_
        clear hT; intro a hT
        replace hT := hT.keep [4, 3, 5, 16, 10, 7, 2, 0] rfl
        refine Sx.ser_nil ?_
        refine Sx.then_normal ?_
        exact ⟨(k.tdiv 10, UInt8.ofNat (48 + k.natAbs % 10) :: s), ⟨⟨by show _ ≤ k.tdiv 10; omega, by show k.tdiv 10 ≤ _; omega⟩, digits_step hk0 (by simpa [hk0] using hk)⟩, (hT.keep [3, 4, 7, 2, 0] rfl), (H.keep [] rfl rfl), by show (k.tdiv 10).natAbs < k.natAbs; omega⟩
      · try simp only [decide_eq_true_eq, decide_eq_false_iff_not, Bool.not_eq_true', Bool.not_eq_false', Bool.not_eq_true, Bool.not_eq_false, Bool.and_eq_true, Bool.or_eq_false_iff, beq_iff_eq, bne_iff_ne, Int.not_lt, Int.not_le, ne_eq] at hc16
        refine wp_skip ?_
        refine Sx.then_normal (hK14 _ _ ?_)
        clear hK14
        -- region 10 (same.go:303)
        rw [pos_abs k (by omega)] at hT
        refine Sx.wp_text [(0, .take), (1, .take), (2, .take), (3, .run), (4, .run), (5, .take), (6, .take), (7, .take)] rfl ?_
        refine Sx.st_take hT rfl rfl rfl rfl (Sx.x_move hT rfl rfl) ?_
        clear hT; intro a hT
        refine Sx.st_take hT rfl rfl rfl rfl ((fun w => Sx.x_add w hT rfl rfl rfl (Sx.wrap64 (by omega)))) ?_
        clear hT; intro a hT
        refine Sx.st_take hT rfl rfl rfl rfl ((fun w => Sx.x_toint w hT rfl Tryd.underlying3 Tryd.underlying5 rfl (Sx.wrap8 (by omega)))) ?_
        clear hT; intro a hT
        refine Sx.st_eff hT rfl rfl rfl rfl (Sx.y_slice1 hT rfl Tryd.underlying66 Tryd.ti5 rfl rfl rfl rfl rfl rfl _) ?_
        clear hT; rintro _ w3 ⟨b2, rfl, N⟩ a hT
        replace H := H.new N; clear N
        refine Sx.st_run hT rfl rfl rfl rfl (Sx.x_bytes_string hT rfl ((H.blk 0 rfl).bs1n (48 + k.natAbs % 10) (by omega) (by omega)) Tryd.underlying66 Tryd.underlying5 Tryd.underlying9 rfl rfl) ?_
        clear hT; intro a hT
        refine Sx.st_take hT rfl rfl rfl rfl (Sx.x_move hT rfl rfl) ?_
        clear hT; intro a hT
        refine Sx.st_take hT rfl rfl rfl rfl ((fun w => Sx.x_catL w hT rfl rfl rfl (by simp only [List.length_append, List.length_cons, List.length_nil]; omega))) ?_
        clear hT; intro a hT
        refine Sx.st_take hT rfl rfl rfl rfl (Sx.x_assign hT rfl rfl) ?_
        clear hT; intro a hT
        replace hT := hT.keep [3, 16, 5, 10, 4, 7, 2, 0] rfl
        refine Sx.ser_nil ?_
        refine Sx.block_normal ?_
        refine Sx.then_normal (hK12 _ _ ?_)
        clear hK12
        -- region 6 (same.go:298)
        refine Sx.wp_text [(0, .take), (1, .take), (2, .take)] rfl ?_
        refine Sx.st_take hT rfl rfl rfl rfl (Sx.x_move hT rfl rfl) ?_
        clear hT; intro a hT
        refine Sx.st_take hT rfl rfl rfl rfl ((fun w => Sx.x_quo w hT rfl rfl rfl (by omega) (Sx.wrap64 (by omega)))) ?_
        clear hT; intro a hT
        refine Sx.st_take hT rfl rfl rfl rfl (Sx.x_assign hT rfl rfl) ?_
        clear hT; intro a hT
        replace hT := hT.keep [4, 3, 16, 5, 10, 7, 2, 0] rfl
        refine Sx.ser_nil ?_
        refine Sx.then_normal ?_
        exact ⟨(k.tdiv 10, UInt8.ofNat (48 + k.natAbs % 10) :: s), ⟨⟨by show _ ≤ k.tdiv 10; omega, by show k.tdiv 10 ≤ _; omega⟩, digits_step hk0 (by simpa [hk0] using hk)⟩, (hT.keep [3, 4, 7, 2, 0] rfl), (H.keep [] rfl rfl), by show (k.tdiv 10).natAbs < k.natAbs; omega⟩
    · try simp only [decide_eq_true_eq, decide_eq_false_iff_not, Bool.not_eq_true', Bool.not_eq_false', Bool.not_eq_true, Bool.not_eq_false, Bool.and_eq_true, Bool.or_eq_false_iff, beq_iff_eq, bne_iff_ne, Int.not_lt, Int.not_le, ne_eq] at hc11
      obtain rfl : k = 0 := hc11
      have hs0 : s = Lib.decDigits n.natAbs := by simpa using hk
      refine wp_exit ?_
      refine Sx.then_exit ?_
      refine Sx.then_exit ?_
      refine Sx.block_exit ?_
      refine Sx.then_normal (hK7 _ _ ?_)
      clear hK7
      refine wp_seq_k fun K17 hK17 => ?_
      refine wp_seq_k fun K18 hK18 => ?_
      -- region 11 (same.go:305)
      refine Sx.wp_text [(0, .take), (1, .take)] rfl ?_
      refine Sx.st_take hT rfl rfl rfl rfl (Sx.x_move hT rfl rfl) ?_
      clear hT; intro a hT
      refine Sx.st_take hT rfl rfl rfl rfl ((fun w => Sx.x_lt w hT rfl rfl rfl)) ?_
      clear hT; intro a hT
      replace hT := hT.keep [27, 10, 3, 4, 7, 2, 0] rfl
      refine Sx.ser_nil ?_
      refine Sx.then_normal (hK18 _ _ ?_)
      clear hK18
      -- cond 3
      refine Sx.wp_if hT rfl (fun hc19 => ?_) (fun hc19 => ?_)
      · try simp only [decide_eq_true_eq, decide_eq_false_iff_not, Bool.not_eq_true', Bool.not_eq_false', Bool.not_eq_true, Bool.not_eq_false, Bool.and_eq_true, Bool.or_eq_false_iff, beq_iff_eq, bne_iff_ne, Int.not_lt, Int.not_le, ne_eq] at hc19
        refine wp_seq_k fun K20 hK20 => ?_
        -- region 12 (same.go:306)
        refine Sx.wp_text [(0, .take), (1, .take), (2, .take)] rfl ?_
        refine Sx.st_take hT rfl rfl rfl rfl (Sx.x_move hT rfl rfl) ?_
        clear hT; intro a hT
        refine Sx.st_take hT rfl rfl rfl rfl ((fun w => Sx.x_catL w hT rfl rfl rfl (by simp only [List.length_append, List.length_cons, List.length_nil]; omega))) ?_
        clear hT; intro a hT
        refine Sx.st_take hT rfl rfl rfl rfl (Sx.x_assign hT rfl rfl) ?_
        clear hT; intro a hT
        replace hT := hT.keep [2, 27, 10, 3, 4, 7, 0] rfl
        refine Sx.ser_nil ?_
        refine Sx.then_normal (hK20 _ _ ?_)
        clear hK20
        refine wp_ret ?_
        refine Sx.then_ret ?_
        refine Sx.done1 (fn := Tryd.f35) hT rfl (.tmp (hT.get 2 _ rfl)) ?_
        exact ⟨congrArg Ending.returned (congrArg (fun l : List UInt8 => Value.string ⟨l.toArray⟩) (by unfold Lib.itoa; rw [if_pos (by omega), hs0]; rfl)), H.ext⟩
      · try simp only [decide_eq_true_eq, decide_eq_false_iff_not, Bool.not_eq_true', Bool.not_eq_false', Bool.not_eq_true, Bool.not_eq_false, Bool.and_eq_true, Bool.or_eq_false_iff, beq_iff_eq, bne_iff_ne, Int.not_lt, Int.not_le, ne_eq] at hc19
        refine wp_skip ?_
        refine Sx.then_normal (hK17 _ _ ?_)
        clear hK17
        refine wp_seq_k fun K21 hK21 => ?_
        -- region 13 (same.go:308)
        refine Sx.wp_text [(0, .take), (1, .take)] rfl ?_
        refine Sx.st_take hT rfl rfl rfl rfl (Sx.x_move hT rfl rfl) ?_
        clear hT; intro a hT
        refine Sx.st_take hT rfl rfl rfl rfl (Sx.x_assign hT rfl rfl) ?_
        clear hT; intro a hT
        replace hT := hT.keep [2, 27, 10, 3, 4, 7, 0] rfl
        refine Sx.ser_nil ?_
        refine Sx.then_normal (hK21 _ _ ?_)
        clear hK21
        refine wp_ret ?_
        refine Sx.done1 (fn := Tryd.f35) hT rfl (.tmp (hT.get 2 _ rfl)) ?_
        exact ⟨congrArg Ending.returned (congrArg (fun l : List UInt8 => Value.string ⟨l.toArray⟩) (by unfold Lib.itoa; rw [if_neg (by omega), hs0, show n.natAbs = n.toNat from by omega])), H.ext⟩

theorem Print_calls (x y z : Int) (w : World) (hx : -9223372036854775808 ≤ x ∧ x ≤ 9223372036854775807) (hy : -9223372036854775808 ≤ y ∧ y ≤ 9223372036854775807) (hz : -9223372036854775808 ≤ z ∧ z ≤ 9223372036854775807) (ht : Tab w) : Calls Tryd.prog 19 #[.agg #[.int .i64 x, .int .i64 y, .int .i64 z]] w fun e w' => e = .returned (.string ⟨(Lib.itoa x ++ [46] ++ Lib.itoa y ++ [46] ++ Lib.itoa z).toArray⟩) ∧ Ext No w w' := by
  have l0 := itoa_len x hx.1 hx.2
  have l1 := itoa_len y hy.1 hy.2
  have l2 := itoa_len z hz.1 hz.2
  have R : Ro w No _ := Ro.of fun w' x => Tab.ext ht x
  refine Sx.calls_into Tryd.func19 rfl Tryd.ntmps19 rfl fun a hT => ?_
  replace hT := hT.keep [0] rfl
  have H : Sx.Hp w (Sx.No) w [] := Sx.Hp.start _ _
  refine wp_seq_k fun K1 hK1 => ?_
  -- region 0 (hlc.go:59)
  refine Sx.wp_text [(0, .run), (1, .take)] rfl ?_
  refine Sx.st_eff hT rfl rfl rfl rfl (Sx.y_box hT rfl rfl rfl _) ?_
  clear hT; rintro _ w1 ⟨b1, rfl, N⟩ a hT
  replace H := H.new N; clear N
  refine Sx.st_take hT rfl rfl rfl rfl (Sx.x_assign hT rfl rfl) ?_
  clear hT; intro a hT
  replace hT := hT.keep [2, 1, 0] rfl
  refine Sx.ser_nil ?_
  refine Sx.then_normal (hK1 _ _ ?_)
  clear hK1
  refine wp_seq_k fun K2 hK2 => ?_
  -- region 1 (hlc.go:60)
  refine Sx.wp_draws (fun u => Sx.Ext (Sx.No) u) [(0, .take), (1, .held), (4, .take), (5, .held), (9, .take), (10, .held), (2, .keep), (3, .take), (6, .keep), (7, .take), (8, .take), (11, .run), (12, .take), (13, .take)] (by kernel_rfl) (by kernel_rfl) (fun u E _ => ?_)
  replace H := H.pure E; clear E
  have hH : Sx.Ext (Sx.No) u u := Sx.Ext.refl _ _
  have Hu := H
  refine Sx.st_take hT rfl rfl rfl rfl (Sx.x_fieldAddr hT rfl Tryd.fa23_0 rfl) ?_
  clear hT; intro a hT
  refine Sx.st_held hT rfl rfl rfl rfl hH (fun w' h' => Sx.x_load1 hT rfl Tryd.fl3 rfl ((Hu.heldB 0 rfl h' Sx.off_No).nth rfl)) ?_
  clear hT; intro a hT
  refine Sx.st_take hT rfl rfl rfl rfl (Sx.x_fieldAddr hT rfl Tryd.fa23_1 rfl) ?_
  clear hT; intro a hT
  refine Sx.st_held hT rfl rfl rfl rfl hH (fun w' h' => Sx.x_load1 hT rfl Tryd.fl3 rfl ((Hu.heldB 0 rfl h' Sx.off_No).nth rfl)) ?_
  clear hT; intro a hT
  refine Sx.st_take hT rfl rfl rfl rfl (Sx.x_fieldAddr hT rfl Tryd.fa23_2 rfl) ?_
  clear hT; intro a hT
  refine Sx.st_held hT rfl rfl rfl rfl hH (fun w' h' => Sx.x_load1 hT rfl Tryd.fl3 rfl ((Hu.heldB 0 rfl h' Sx.off_No).nth rfl)) ?_
  clear hT; intro a hT
  refine Sx.st_callkeep hT rfl rfl rfl rfl rfl Tryd.can34 rfl (Itoa_calls x hx.1 hx.2 _ (R.at H.ext)) ?_
  rintro _ w2 ⟨rfl, E⟩
  refine ⟨_, rfl, hH.step E, ?_⟩
  replace hH := hH.step E
  clear hT; intro a hT
  replace H := H.pure E; clear E
  refine Sx.st_take hT rfl rfl rfl rfl ((fun w => Sx.x_catL w hT rfl rfl rfl (by simp only [List.length_append, List.length_cons, List.length_nil]; omega))) ?_
  clear hT; intro a hT
  refine Sx.st_callkeep hT rfl rfl rfl rfl rfl Tryd.can34 rfl (Itoa_calls y hy.1 hy.2 _ (R.at H.ext)) ?_
  rintro _ w3 ⟨rfl, E⟩
  refine ⟨_, rfl, hH.step E, ?_⟩
  replace hH := hH.step E
  clear hT; intro a hT
  replace H := H.pure E; clear E
  refine Sx.st_take hT rfl rfl rfl rfl ((fun w => Sx.x_catL w hT rfl rfl rfl (by simp only [List.length_append, List.length_cons, List.length_nil]; omega))) ?_
  clear hT; intro a hT
  refine Sx.st_take hT rfl rfl rfl rfl ((fun w => Sx.x_catL w hT rfl rfl rfl (by simp only [List.length_append, List.length_cons, List.length_nil]; omega))) ?_
  clear hT; intro a hT
  refine Sx.st_call hT rfl rfl rfl rfl rfl Tryd.can34 rfl (Itoa_calls z hz.1 hz.2 _ (R.at H.ext)) ?_
  rintro _ w4 ⟨rfl, E⟩
  refine ⟨_, rfl, ?_⟩
  clear hT; intro a hT
  replace H := H.pure E; clear E
  refine Sx.st_take hT rfl rfl rfl rfl ((fun w => Sx.x_catL w hT rfl rfl rfl (by simp only [List.length_append, List.length_cons, List.length_nil]; omega))) ?_
  clear hT; intro a hT
  refine Sx.st_take hT rfl rfl rfl rfl (Sx.x_assign hT rfl rfl) ?_
  clear hT; intro a hT
  replace hT := hT.keep [2, 1, 0] rfl
  clear Hu hH
  refine Sx.ser_calm ?_
  refine Sx.then_normal (hK2 _ _ ?_)
  clear hK2
  refine wp_ret ?_
  refine Sx.done1 (fn := Tryd.f19) hT rfl (.tmp (hT.get 2 _ rfl)) ?_
  exact ⟨rfl, H.ext⟩

theorem xPrint_calls (x y z : Int) (w : World) (hx : -9223372036854775808 ≤ x ∧ x ≤ 9223372036854775807) (hy : -9223372036854775808 ≤ y ∧ y ≤ 9223372036854775807) (hz : -9223372036854775808 ≤ z ∧ z ≤ 9223372036854775807) : Calls Tryd.prog 20 #[.agg #[.int .i64 x, .int .i64 y, .int .i64 z]] w fun e w' => e = .returned (.string ⟨(Lib.itoa x ++ [46] ++ Lib.itoa y ++ [46] ++ Lib.itoa z).toArray⟩) ∧ Ext No w w' := by
  have l0 := itoa_len x hx.1 hx.2
  have l1 := itoa_len y hy.1 hy.2
  have l2 := itoa_len z hz.1 hz.2
  refine Sx.calls_into Tryd.func20 rfl Tryd.ntmps20 rfl fun a hT => ?_
  replace hT := hT.keep [0] rfl
  have H : Sx.Hp w (Sx.No) w [] := Sx.Hp.start _ _
  refine wp_seq_k fun K1 hK1 => ?_
  -- region 0 (ref.go:68)
  refine Sx.wp_text [(0, .run), (1, .take)] rfl ?_
  refine Sx.st_eff hT rfl rfl rfl rfl (Sx.y_box hT rfl rfl rfl _) ?_
  clear hT; rintro _ w1 ⟨b1, rfl, N⟩ a hT
  replace H := H.new N; clear N
  refine Sx.st_take hT rfl rfl rfl rfl (Sx.x_assign hT rfl rfl) ?_
  clear hT; intro a hT
  replace hT := hT.keep [2, 1, 0] rfl
  refine Sx.ser_nil ?_
  refine Sx.then_normal (hK1 _ _ ?_)
  clear hK1
  refine wp_seq_k fun K2 hK2 => ?_
  -- region 1 (ref.go:69)
  refine Sx.wp_draws (fun u => Sx.Ext (Sx.No) u) [(0, .take), (1, .held), (4, .take), (5, .held), (9, .take), (10, .held), (2, .keep), (3, .take), (6, .keep), (7, .take), (8, .take), (11, .run), (12, .take), (13, .take)] (by kernel_rfl) (by kernel_rfl) (fun u E _ => ?_)
  replace H := H.pure E; clear E
  have hH : Sx.Ext (Sx.No) u u := Sx.Ext.refl _ _
  have Hu := H
  refine Sx.st_take hT rfl rfl rfl rfl (Sx.x_fieldAddr hT rfl Tryd.fa23_0 rfl) ?_
  clear hT; intro a hT
  refine Sx.st_held hT rfl rfl rfl rfl hH (fun w' h' => Sx.x_load1 hT rfl Tryd.fl3 rfl ((Hu.heldB 0 rfl h' Sx.off_No).nth rfl)) ?_
  clear hT; intro a hT
  refine Sx.st_take hT rfl rfl rfl rfl (Sx.x_fieldAddr hT rfl Tryd.fa23_1 rfl) ?_
  clear hT; intro a hT
  refine Sx.st_held hT rfl rfl rfl rfl hH (fun w' h' => Sx.x_load1 hT rfl Tryd.fl3 rfl ((Hu.heldB 0 rfl h' Sx.off_No).nth rfl)) ?_
  clear hT; intro a hT
  refine Sx.st_take hT rfl rfl rfl rfl (Sx.x_fieldAddr hT rfl Tryd.fa23_2 rfl) ?_
  clear hT; intro a hT
  refine Sx.st_held hT rfl rfl rfl rfl hH (fun w' h' => Sx.x_load1 hT rfl Tryd.fl3 rfl ((Hu.heldB 0 rfl h' Sx.off_No).nth rfl)) ?_
  clear hT; intro a hT
  refine Sx.st_callkeep hT rfl rfl rfl rfl rfl Tryd.can35 rfl (Dec_calls x hx.1 hx.2 _) ?_
  rintro _ w2 ⟨rfl, E⟩
  refine ⟨_, rfl, hH.step E, ?_⟩
  replace hH := hH.step E
  clear hT; intro a hT
  replace H := H.pure E; clear E
  refine Sx.st_take hT rfl rfl rfl rfl ((fun w => Sx.x_catL w hT rfl rfl rfl (by simp only [List.length_append, List.length_cons, List.length_nil]; omega))) ?_
  clear hT; intro a hT
  refine Sx.st_callkeep hT rfl rfl rfl rfl rfl Tryd.can35 rfl (Dec_calls y hy.1 hy.2 _) ?_
  rintro _ w3 ⟨rfl, E⟩
  refine ⟨_, rfl, hH.step E, ?_⟩
  replace hH := hH.step E
  clear hT; intro a hT
  replace H := H.pure E; clear E
  refine Sx.st_take hT rfl rfl rfl rfl ((fun w => Sx.x_catL w hT rfl rfl rfl (by simp only [List.length_append, List.length_cons, List.length_nil]; omega))) ?_
  clear hT; intro a hT
  refine Sx.st_take hT rfl rfl rfl rfl ((fun w => Sx.x_catL w hT rfl rfl rfl (by simp only [List.length_append, List.length_cons, List.length_nil]; omega))) ?_
  clear hT; intro a hT
  refine Sx.st_call hT rfl rfl rfl rfl rfl Tryd.can35 rfl (Dec_calls z hz.1 hz.2 _) ?_
  rintro _ w4 ⟨rfl, E⟩
  refine ⟨_, rfl, ?_⟩
  clear hT; intro a hT
  replace H := H.pure E; clear E
  refine Sx.st_take hT rfl rfl rfl rfl ((fun w => Sx.x_catL w hT rfl rfl rfl (by simp only [List.length_append, List.length_cons, List.length_nil]; omega))) ?_
  clear hT; intro a hT
  refine Sx.st_take hT rfl rfl rfl rfl (Sx.x_assign hT rfl rfl) ?_
  clear hT; intro a hT
  replace hT := hT.keep [2, 1, 0] rfl
  clear Hu hH
  refine Sx.ser_calm ?_
  refine Sx.then_normal (hK2 _ _ ?_)
  clear hK2
  refine wp_ret ?_
  refine Sx.done1 (fn := Tryd.f20) hT rfl (.tmp (hT.get 2 _ rfl)) ?_
  exact ⟨rfl, H.ext⟩

theorem Stamps_calls (x y z p q r : Int) (w : World) (hx : -9223372036854775808 ≤ x ∧ x ≤ 9223372036854775807) (hy : -9223372036854775808 ≤ y ∧ y ≤ 9223372036854775807) (hz : -9223372036854775808 ≤ z ∧ z ≤ 9223372036854775807) (ht : Tab w) : Calls Tryd.prog 3 #[.agg #[.int .i64 x, .int .i64 y, .int .i64 z], .agg #[.int .i64 p, .int .i64 q, .int .i64 r]] w fun e w' => e = .returned (.bool true) ∧ Ext No w w' := by
  have R : Ro w No _ := Ro.of fun w' x => Tab.ext ht x
  refine Sx.calls_into Tryd.func3 rfl Tryd.ntmps3 rfl fun a hT => ?_
  replace hT := hT.keep [0, 1] rfl
  have H : Sx.Hp w (Sx.No) w [] := Sx.Hp.start _ _
  refine wp_seq_k fun K1 hK1 => ?_
  -- region 0 (law.go:23)
  refine Sx.wp_text [(0, .run), (1, .run), (2, .take)] rfl ?_
  refine Sx.st_eff hT rfl rfl rfl rfl (Sx.y_box hT rfl rfl rfl _) ?_
  clear hT; rintro _ w1 ⟨b1, rfl, N⟩ a hT
  replace H := H.new N; clear N
  refine Sx.st_eff hT rfl rfl rfl rfl (Sx.y_box hT rfl rfl rfl _) ?_
  clear hT; rintro _ w2 ⟨b2, rfl, N⟩ a hT
  replace H := H.new N; clear N
  refine Sx.st_take hT rfl rfl rfl rfl (Sx.x_assign hT rfl rfl) ?_
  clear hT; intro a hT
  replace hT := hT.keep [4, 3, 2, 0, 1] rfl
  refine Sx.ser_nil ?_
  refine Sx.then_normal (hK1 _ _ ?_)
  clear hK1
  refine wp_seq_k fun K2 hK2 => ?_
  refine wp_seq_k fun K3 hK3 => ?_
  -- region 1 (law.go:24)
  refine Sx.wp_text [(0, .run), (1, .take)] rfl ?_
  refine Sx.st_call hT rfl rfl rfl rfl rfl Tryd.can10 rfl (first_calls _) ?_
  rintro _ w3 ⟨rfl, E⟩
  refine ⟨_, rfl, ?_⟩
  clear hT; intro a hT
  replace H := H.pure E; clear E
  refine Sx.st_take hT rfl rfl rfl rfl (Sx.x_not hT rfl rfl) ?_
  clear hT; intro a hT
  replace hT := hT.keep [10, 4, 3, 2, 0, 1] rfl
  refine Sx.ser_nil ?_
  refine Sx.then_normal (hK3 _ _ ?_)
  clear hK3
  refine Sx.wp_if hT rfl (fun h => by cases h) (fun _ => ?_)
  refine wp_skip ?_
  refine Sx.then_normal (hK2 _ _ ?_)
  clear hK2
  refine wp_seq_k fun K4 hK4 => ?_
  -- region 3 (law.go:27)
  refine Sx.wp_text [(0, .run), (1, .run), (2, .take), (3, .take), (4, .take), (5, .run), (6, .run), (7, .take)] rfl ?_
  refine Sx.st_run hT rfl rfl rfl rfl (Sx.y_loadS hT rfl Tryd.underlying23 Tryd.ti23 rfl ((H.blk 1 rfl).seg (k := 3) rfl) (by rfl)) ?_
  clear hT; intro a hT
  refine Sx.st_call hT rfl rfl rfl rfl rfl Tryd.can11 rfl (Prior_calls x y z _ hx.1 hx.2 hy.2 hz.2) ?_
  rintro _ w4 ⟨rfl, E⟩
  refine ⟨_, rfl, ?_⟩
  clear hT; intro a hT
  replace H := H.pure E; clear E
  refine Sx.st_take hT rfl rfl rfl rfl (Sx.x_move hT rfl rfl) ?_
  clear hT; intro a hT
  refine Sx.st_take hT rfl rfl rfl rfl (Sx.x_extractL hT rfl rfl rfl) ?_
  clear hT; intro a hT
  refine Sx.st_take hT rfl rfl rfl rfl (Sx.x_extractL hT rfl rfl rfl) ?_
  clear hT; intro a hT
  refine Sx.st_eff hT rfl rfl rfl rfl (Sx.y_alloc hT rfl Tryd.ti23 rfl _) ?_
  clear hT; rintro _ w5 ⟨b3, rfl, N⟩ a hT
  replace H := H.new N; clear N
  refine Sx.st_act hT rfl rfl rfl (Sx.y_storeS hT rfl Tryd.ti23 rfl rfl rfl rfl rfl (H.blk 0 rfl) rfl) ?_
  rintro w6 ⟨hb, E, _⟩
  replace H := H.setB 0 rfl hb E rfl; clear hb E
  refine Sx.st_take hT rfl rfl rfl rfl (Sx.x_assign hT rfl rfl) ?_
  clear hT; intro a hT
  replace hT := hT.keep [6, 5, 10, 4, 3, 2, 0, 1] rfl
  refine Sx.ser_nil ?_
  refine Sx.then_normal (hK4 _ _ ?_)
  clear hK4
  refine wp_seq_k fun K5 hK5 => ?_
  -- region 4 (law.go:28)
  refine Sx.wp_text [(0, .run), (1, .run), (2, .take), (3, .take), (4, .take), (5, .run), (6, .run), (7, .take)] rfl ?_
  refine Sx.st_run hT rfl rfl rfl rfl (Sx.y_loadS hT rfl Tryd.underlying23 Tryd.ti23 rfl ((H.blk 2 rfl).seg (k := 3) rfl) (by rfl)) ?_
  clear hT; intro a hT
  refine Sx.st_call hT rfl rfl rfl rfl rfl Tryd.can12 rfl (xPrior_calls x y z _ hx.1 hx.2 hy.2 hz.2) ?_
  rintro _ w7 ⟨rfl, E⟩
  refine ⟨_, rfl, ?_⟩
  clear hT; intro a hT
  replace H := H.pure E; clear E
  refine Sx.st_take hT rfl rfl rfl rfl (Sx.x_move hT rfl rfl) ?_
  clear hT; intro a hT
  refine Sx.st_take hT rfl rfl rfl rfl (Sx.x_extractL hT rfl rfl rfl) ?_
  clear hT; intro a hT
  refine Sx.st_take hT rfl rfl rfl rfl (Sx.x_extractL hT rfl rfl rfl) ?_
  clear hT; intro a hT
  refine Sx.st_eff hT rfl rfl rfl rfl (Sx.y_alloc hT rfl Tryd.ti23 rfl _) ?_
  clear hT; rintro _ w8 ⟨b4, rfl, N⟩ a hT
  replace H := H.new N; clear N
  refine Sx.st_act hT rfl rfl rfl (Sx.y_storeS hT rfl Tryd.ti23 rfl rfl rfl rfl rfl (H.blk 0 rfl) rfl) ?_
  rintro w9 ⟨hb, E, _⟩
  replace H := H.setB 0 rfl hb E rfl; clear hb E
  refine Sx.st_take hT rfl rfl rfl rfl (Sx.x_assign hT rfl rfl) ?_
  clear hT; intro a hT
  replace hT := hT.keep [8, 7, 6, 5, 10, 4, 3, 2, 0, 1] rfl
  refine Sx.ser_nil ?_
  refine Sx.then_normal (hK5 _ _ ?_)
  clear hK5
  refine wp_seq_k fun K6 hK6 => ?_
  -- region 5 (law.go:29)
  refine Sx.wp_draws (fun u => Sx.Ext (Sx.No) u) [(0, .keep), (1, .take), (2, .held), (4, .held), (3, .keep), (5, .keep), (6, .take), (7, .take), (8, .take), (9, .held), (10, .held), (12, .held), (13, .held), (11, .keep), (14, .keep), (15, .take), (16, .take), (17, .take), (18, .held), (19, .held), (21, .held), (22, .held), (20, .keep), (23, .keep), (24, .take), (25, .take), (26, .take), (27, .held), (28, .held), (29, .take), (30, .take), (31, .take), (32, .take), (33, .take), (34, .take), (35, .take), (36, .take), (37, .held), (39, .held), (38, .keep), (40, .run), (41, .take), (42, .take), (43, .take)] (by kernel_rfl) (by kernel_rfl) (fun u E _ => ?_)
  replace H := H.pure E; clear E
  have hH : Sx.Ext (Sx.No) u u := Sx.Ext.refl _ _
  have Hu := H
  refine Sx.st_callkeep hT rfl rfl rfl rfl rfl Tryd.can10 rfl (first_calls _) ?_
  rintro _ w10 ⟨rfl, E⟩
  refine ⟨_, rfl, hH.step E, ?_⟩
  replace hH := hH.step E
  clear hT; intro a hT
  replace H := H.pure E; clear E
  refine Sx.st_take hT rfl rfl rfl rfl (Sx.x_move hT rfl rfl) ?_
  clear hT; intro a hT
  refine Sx.st_held hT rfl rfl rfl rfl hH (fun w' h' => Sx.y_loadS hT rfl Tryd.underlying23 Tryd.ti23 rfl ((Hu.heldB 3 rfl h' Sx.off_No).seg (k := 3) rfl) (by rfl)) ?_
  clear hT; intro a hT
  refine Sx.st_held hT rfl rfl rfl rfl hH (fun w' h' => Sx.y_loadS hT rfl Tryd.underlying23 Tryd.ti23 rfl ((Hu.heldB 3 rfl h' Sx.off_No).seg (k := 3) rfl) (by rfl)) ?_
  clear hT; intro a hT
  refine Sx.st_callkeep hT rfl rfl rfl rfl rfl Tryd.can13 rfl (May_calls _ _ _ _) ?_
  rintro _ w11 ⟨rfl, E⟩
  refine ⟨_, rfl, hH.step E, ?_⟩
  replace hH := hH.step E
  clear hT; intro a hT
  replace H := H.pure E; clear E
  refine Sx.st_callkeep hT rfl rfl rfl rfl rfl Tryd.can14 rfl (xMay_calls _ _ _ _) ?_
  rintro _ w12 ⟨rfl, E⟩
  refine ⟨_, rfl, hH.step E, ?_⟩
  replace hH := hH.step E
  clear hT; intro a hT
  replace H := H.pure E; clear E
  refine Sx.st_take hT rfl rfl rfl rfl (Sx.x_eqb hT rfl Tryd.underlying4 rfl rfl) ?_
  clear hT; intro a hT
  refine Sx.st_take hT rfl rfl rfl rfl (Sx.x_pick_t hT rfl rfl rfl) ?_
  clear hT; intro a hT
  refine Sx.st_take hT rfl rfl rfl rfl (Sx.x_move hT rfl rfl) ?_
  clear hT; intro a hT
  -- guard (5, 8)
  refine Sx.Sl.two hT 29 rfl (fun hc7 hT => ?_) (fun hc7 hT => ?_)
  · try simp only [decide_eq_true_eq, decide_eq_false_iff_not, Bool.not_eq_true', Bool.not_eq_false', Bool.not_eq_true, Bool.not_eq_false, Bool.and_eq_true, Bool.or_eq_false_iff, beq_iff_eq, bne_iff_ne, Int.not_lt, Int.not_le, ne_eq] at hc7
    refine Sx.st_held hT rfl rfl rfl rfl hH (fun w' h' => Sx.y_loadS hT rfl Tryd.underlying23 Tryd.ti23 rfl ((Hu.heldB 3 rfl h' Sx.off_No).seg (k := 3) rfl) (by rfl)) ?_
    clear hT; intro a hT
    refine Sx.st_held hT rfl rfl rfl rfl hH (fun w' h' => Sx.y_loadS hT rfl Tryd.underlying23 Tryd.ti23 rfl ((Hu.heldB 2 rfl h' Sx.off_No).seg (k := 3) rfl) (by rfl)) ?_
    clear hT; intro a hT
    refine Sx.st_held hT rfl rfl rfl rfl hH (fun w' h' => Sx.y_loadS hT rfl Tryd.underlying23 Tryd.ti23 rfl ((Hu.heldB 3 rfl h' Sx.off_No).seg (k := 3) rfl) (by rfl)) ?_
    clear hT; intro a hT
    refine Sx.st_held hT rfl rfl rfl rfl hH (fun w' h' => Sx.y_loadS hT rfl Tryd.underlying23 Tryd.ti23 rfl ((Hu.heldB 2 rfl h' Sx.off_No).seg (k := 3) rfl) (by rfl)) ?_
    clear hT; intro a hT
    refine Sx.st_callkeep hT rfl rfl rfl rfl rfl Tryd.can15 rfl (Compare_calls _ _ _ _ _ _ _) ?_
    rintro _ w13 ⟨rfl, E⟩
    refine ⟨_, rfl, hH.step E, ?_⟩
    replace hH := hH.step E
    clear hT; intro a hT
    replace H := H.pure E; clear E
    refine Sx.st_callkeep hT rfl rfl rfl rfl rfl Tryd.can16 rfl (xCompare_calls _ _ _ _ _ _ _) ?_
    rintro _ w14 ⟨rfl, E⟩
    refine ⟨_, rfl, hH.step E, ?_⟩
    replace hH := hH.step E
    clear hT; intro a hT
    replace H := H.pure E; clear E
    refine Sx.st_take hT rfl rfl rfl rfl ((fun w => Sx.x_eq w hT rfl rfl rfl)) ?_
    clear hT; intro a hT
    refine Sx.st_take hT rfl rfl rfl rfl (Sx.x_pick_t hT rfl rfl rfl) ?_
    clear hT; intro a hT
    refine Sx.st_take hT rfl rfl rfl rfl (Sx.x_move hT rfl rfl) ?_
    clear hT; intro a hT
    -- guard (5, 17)
    refine Sx.Sl.two hT 38 rfl (fun hc8 hT => ?_) (fun hc8 hT => ?_)
    · try simp only [decide_eq_true_eq, decide_eq_false_iff_not, Bool.not_eq_true', Bool.not_eq_false', Bool.not_eq_true, Bool.not_eq_false, Bool.and_eq_true, Bool.or_eq_false_iff, beq_iff_eq, bne_iff_ne, Int.not_lt, Int.not_le, ne_eq] at hc8
      refine Sx.st_held hT rfl rfl rfl rfl hH (fun w' h' => Sx.y_loadS hT rfl Tryd.underlying23 Tryd.ti23 rfl ((Hu.heldB 3 rfl h' Sx.off_No).seg (k := 3) rfl) (by rfl)) ?_
      clear hT; intro a hT
      refine Sx.st_held hT rfl rfl rfl rfl hH (fun w' h' => Sx.y_loadS hT rfl Tryd.underlying23 Tryd.ti23 rfl ((Hu.heldB 2 rfl h' Sx.off_No).seg (k := 3) rfl) (by rfl)) ?_
      clear hT; intro a hT
      refine Sx.st_held hT rfl rfl rfl rfl hH (fun w' h' => Sx.y_loadS hT rfl Tryd.underlying23 Tryd.ti23 rfl ((Hu.heldB 3 rfl h' Sx.off_No).seg (k := 3) rfl) (by rfl)) ?_
      clear hT; intro a hT
      refine Sx.st_held hT rfl rfl rfl rfl hH (fun w' h' => Sx.y_loadS hT rfl Tryd.underlying23 Tryd.ti23 rfl ((Hu.heldB 2 rfl h' Sx.off_No).seg (k := 3) rfl) (by rfl)) ?_
      clear hT; intro a hT
      refine Sx.st_callkeep hT rfl rfl rfl rfl rfl Tryd.can17 rfl (Later_calls _ _ _ _ _ _ _) ?_
      rintro _ w15 ⟨rfl, E⟩
      refine ⟨_, rfl, hH.step E, ?_⟩
      replace hH := hH.step E
      clear hT; intro a hT
      replace H := H.pure E; clear E
      refine Sx.st_callkeep hT rfl rfl rfl rfl rfl Tryd.can18 rfl (xLater_calls _ _ _ _ _ _ _) ?_
      rintro _ w16 ⟨rfl, E⟩
      refine ⟨_, rfl, hH.step E, ?_⟩
      replace hH := hH.step E
      clear hT; intro a hT
      replace H := H.pure E; clear E
      refine Sx.st_take hT rfl rfl rfl rfl (Sx.x_eqS hT rfl (by kernel_rfl) (Tryd.eq23 _ _ _ _ _ _) rfl rfl rfl) ?_
      clear hT; intro a hT
      refine Sx.st_take hT rfl rfl rfl rfl (Sx.x_pick_t hT rfl rfl rfl) ?_
      clear hT; intro a hT
      refine Sx.st_take hT rfl rfl rfl rfl (Sx.x_move hT rfl rfl) ?_
      clear hT; intro a hT
      -- guard (5, 26)
      refine Sx.Sl.two hT 47 rfl (fun hc9 hT => ?_) (fun hc9 hT => ?_)
      · try simp only [decide_eq_true_eq, decide_eq_false_iff_not, Bool.not_eq_true', Bool.not_eq_false', Bool.not_eq_true, Bool.not_eq_false, Bool.and_eq_true, Bool.or_eq_false_iff, beq_iff_eq, bne_iff_ne, Int.not_lt, Int.not_le, ne_eq] at hc9
        refine Sx.st_held hT rfl rfl rfl rfl hH (fun w' h' => Sx.y_loadS hT rfl Tryd.underlying23 Tryd.ti23 rfl ((Hu.heldB 1 rfl h' Sx.off_No).seg (k := 3) rfl) (by rfl)) ?_
        clear hT; intro a hT
        refine Sx.st_held hT rfl rfl rfl rfl hH (fun w' h' => Sx.y_loadS hT rfl Tryd.underlying23 Tryd.ti23 rfl ((Hu.heldB 0 rfl h' Sx.off_No).seg (k := 3) rfl) (by rfl)) ?_
        clear hT; intro a hT
        refine Sx.st_take hT rfl rfl rfl rfl (Sx.x_eqS hT rfl (by kernel_rfl) (Tryd.eq23 _ _ _ _ _ _) rfl rfl rfl) ?_
        clear hT; intro a hT
        refine Sx.st_take hT rfl rfl rfl rfl (Sx.x_pick_t hT rfl rfl rfl) ?_
        clear hT; intro a hT
        refine Sx.st_take hT rfl rfl rfl rfl (Sx.x_move hT rfl rfl) ?_
        clear hT; intro a hT
        -- guard (5, 31)
        refine Sx.Sl.two hT 52 rfl (fun hc10 hT => ?_) (fun hc10 hT => ?_)
        · try simp only [decide_eq_true_eq, decide_eq_false_iff_not, Bool.not_eq_true', Bool.not_eq_false', Bool.not_eq_true, Bool.not_eq_false, Bool.and_eq_true, Bool.or_eq_false_iff, beq_iff_eq, bne_iff_ne, Int.not_lt, Int.not_le, ne_eq] at hc10
          refine Sx.st_take hT rfl rfl rfl rfl (Sx.x_move hT rfl rfl) ?_
          clear hT; intro a hT
          refine Sx.st_take hT rfl rfl rfl rfl (Sx.x_move hT rfl rfl) ?_
          clear hT; intro a hT
          refine Sx.st_take hT rfl rfl rfl rfl (Sx.x_eqb hT rfl Tryd.underlying4 rfl rfl) ?_
          clear hT; intro a hT
          refine Sx.st_take hT rfl rfl rfl rfl (Sx.x_pick_t hT rfl rfl rfl) ?_
          clear hT; intro a hT
          refine Sx.st_take hT rfl rfl rfl rfl (Sx.x_move hT rfl rfl) ?_
          clear hT; intro a hT
          -- guard (5, 36)
          refine Sx.Sl.two hT 57 rfl (fun hc11 hT => ?_) (fun hc11 hT => ?_)
          · try simp only [decide_eq_true_eq, decide_eq_false_iff_not, Bool.not_eq_true', Bool.not_eq_false', Bool.not_eq_true, Bool.not_eq_false, Bool.and_eq_true, Bool.or_eq_false_iff, beq_iff_eq, bne_iff_ne, Int.not_lt, Int.not_le, ne_eq] at hc11
            refine Sx.st_held hT rfl rfl rfl rfl hH (fun w' h' => Sx.y_loadS hT rfl Tryd.underlying23 Tryd.ti23 rfl ((Hu.heldB 3 rfl h' Sx.off_No).seg (k := 3) rfl) (by rfl)) ?_
            clear hT; intro a hT
            refine Sx.st_held hT rfl rfl rfl rfl hH (fun w' h' => Sx.y_loadS hT rfl Tryd.underlying23 Tryd.ti23 rfl ((Hu.heldB 3 rfl h' Sx.off_No).seg (k := 3) rfl) (by rfl)) ?_
            clear hT; intro a hT
            refine Sx.st_callkeep hT rfl rfl rfl rfl rfl Tryd.can19 rfl (Print_calls x y z _ hx hy hz (R.at H.ext)) ?_
            rintro _ w17 ⟨rfl, E⟩
            refine ⟨_, rfl, hH.step E, ?_⟩
            replace hH := hH.step E
            clear hT; intro a hT
            replace H := H.pure E; clear E
            refine Sx.st_call hT rfl rfl rfl rfl rfl Tryd.can20 rfl (xPrint_calls x y z _ hx hy hz) ?_
            rintro _ w18 ⟨rfl, E⟩
            refine ⟨_, rfl, ?_⟩
            clear hT; intro a hT
            replace H := H.pure E; clear E
            refine Sx.st_take hT rfl rfl rfl rfl ((fun w => Sx.x_streq w hT rfl rfl rfl)) ?_
            clear hT; intro a hT
            refine Sx.st_take hT rfl rfl rfl rfl (Sx.x_pick_t hT rfl rfl rfl) ?_
            clear hT; intro a hT
            refine Sx.st_take hT rfl rfl rfl rfl (Sx.x_assign hT rfl rfl) ?_
            clear hT; intro a hT
            replace hT := hT.keep [4, 8, 7, 6, 5, 10, 3, 2, 0, 1] rfl
            clear Hu hH
            refine Sx.ser_calm ?_
            refine Sx.then_normal (hK6 _ _ ?_)
            clear hK6
            refine wp_ret ?_
            refine Sx.done1 (fn := Tryd.f3) hT rfl (.tmp (hT.get 4 _ rfl)) ?_
            first | exact ⟨rfl, H.ext⟩ | exact ⟨ret_b (by simp), H.ext⟩
          · exfalso
            try simp only [decide_eq_true_eq, decide_eq_false_iff_not, Bool.not_eq_true', Bool.not_eq_false', Bool.not_eq_true, Bool.not_eq_false, Bool.and_eq_true, Bool.or_eq_false_iff, beq_iff_eq, bne_iff_ne, Int.not_lt, Int.not_le, ne_eq] at hc11
            first | (simp at hc11; done) | omega | (simp at hc11; omega) | (simp_all; done)
        · exfalso
          try simp only [decide_eq_true_eq, decide_eq_false_iff_not, Bool.not_eq_true', Bool.not_eq_false', Bool.not_eq_true, Bool.not_eq_false, Bool.and_eq_true, Bool.or_eq_false_iff, beq_iff_eq, bne_iff_ne, Int.not_lt, Int.not_le, ne_eq] at hc10
          first | (simp at hc10; done) | omega | (simp at hc10; omega) | (simp_all; done)
      · exfalso
        try simp only [decide_eq_true_eq, decide_eq_false_iff_not, Bool.not_eq_true', Bool.not_eq_false', Bool.not_eq_true, Bool.not_eq_false, Bool.and_eq_true, Bool.or_eq_false_iff, beq_iff_eq, bne_iff_ne, Int.not_lt, Int.not_le, ne_eq] at hc9
        first | (simp at hc9; done) | omega | (simp at hc9; omega) | (simp_all; done)
    · exfalso
      try simp only [decide_eq_true_eq, decide_eq_false_iff_not, Bool.not_eq_true', Bool.not_eq_false', Bool.not_eq_true, Bool.not_eq_false, Bool.and_eq_true, Bool.or_eq_false_iff, beq_iff_eq, bne_iff_ne, Int.not_lt, Int.not_le, ne_eq] at hc8
      first | (simp at hc8; done) | omega | (simp at hc8; omega) | (simp_all; done)
  · exfalso
    try simp only [decide_eq_true_eq, decide_eq_false_iff_not, Bool.not_eq_true', Bool.not_eq_false', Bool.not_eq_true, Bool.not_eq_false, Bool.and_eq_true, Bool.or_eq_false_iff, beq_iff_eq, bne_iff_ne, Int.not_lt, Int.not_le, ne_eq] at hc7
    first | (simp at hc7; done) | omega | (simp at hc7; omega) | (simp_all; done)

end Go.Proofs.YtioebjimkainjaaDoor
