/- Walks: groups. -/
import Derived.Test.YtakohabmcgponaaW12
import Derived.Test.YtakohabmcgponaaN6
set_option linter.unusedSimpArgs false
set_option linter.unusedVariables false
namespace Go.Proofs.Ytakohabmcgponaa
open Sx
theorem Try.ti25 : Sx.TI Try.prog 25 (.slice none 0 0) 1 24 := .mk' (by kernel_rfl)
theorem Try.ti66 : Sx.TI Try.prog 66 (.agg #[.int .i64 0, .int .i64 0, .float .f64 0, .float .f64 0, .slice none 0 0]) 5 56 := .mk' (by kernel_rfl)
theorem Try.bld66 : Sx.Bld Try.prog 66 #[.int .i64 0, .int .i64 0, .float .f64 0, .float .f64 0, .slice none 0 0] #[(0, 4), (4, 1)] := ⟨_, _, _, _, Try.ti66, rfl, Try.underlying66, fun w => by simp [Sx.placesOf, Sx.run_sizeOf Try.ti25, Sx.run_sizeOf Try.ti37]⟩
theorem Try.can23 : Sx.Can Try.prog 23 := ⟨_, Try.func23, by kernel_rfl, rfl⟩
theorem Try.can41 : Sx.Can Try.prog 41 := ⟨_, Try.func41, by kernel_rfl, rfl⟩
theorem Try.can42 : Sx.Can Try.prog 42 := ⟨_, Try.func42, by kernel_rfl, rfl⟩
theorem Try.can43 : Sx.Can Try.prog 43 := ⟨_, Try.func43, by kernel_rfl, rfl⟩
theorem Try.can51 : Sx.Can Try.prog 51 := ⟨_, Try.func51, by kernel_rfl, rfl⟩
theorem nf_mem {l : List (List UInt8)} {k : List UInt8} (h : ∀ (t : Nat) q, t < l.length → l[t]? = some q → q ≠ k) : k ∉ l := fun hk => by
  obtain ⟨t, ht⟩ := List.mem_iff_getElem?.1 hk
  exact h t k (List.getElem?_eq_some_iff.1 ht).1 ht rfl
theorem nq_snoc {l : List (List UInt8)} {n : Nat} {k o : List UInt8} (h : ∀ (t : Nat) q, t < n → l[t]? = some q → q ≠ k) (ho : l[n]? = some o) (hne : o ≠ k) : ∀ (t : Nat) q, t < n + 1 → l[t]? = some q → q ≠ k := fun t q h1 h2 => by
  rcases Nat.lt_or_ge t n with h3 | h3
  · exact h t q h3 h2
  · obtain rfl : t = n := by omega
    rw [ho] at h2; cases h2; exact hne

theorem Index_calls {ad : Option Addr} {c : Nat} (ks : List (List UInt8)) {w : World} (hs : Ss w ad kc 1 ks) (hl : ks.length ≤ 9223372036854775807) (key : List UInt8) : Calls Try.prog 51 #[.slice ad ks.length c, .string ⟨key.toArray⟩] w fun e w' => ∃ z : Int, e = .returned (.int .i64 z) ∧ (0 ≤ z ↔ key ∈ ks) ∧ Ext No w w' := by
  have R : Ro w No _ := Ro.of fun w' x => hs.ext_no x
  refine Sx.calls_into Try.func51 rfl Try.ntmps51 rfl fun a hT => ?_
  replace hT := hT.keep [0, 1] rfl
  have H : Sx.Hp w (Sx.No) w [] := Sx.Hp.start _ _
  refine wp_seq_k fun K1 hK1 => ?_
  -- region 0 (slices.go:96)
  refine Sx.wp_text [(0, .take)] rfl ?_
  refine Sx.st_take hT rfl rfl rfl rfl (Sx.x_assign hT rfl rfl) ?_
  clear hT; intro a hT
  replace hT := hT.keep [4, 0, 1] rfl
  refine Sx.ser_nil ?_
  refine Sx.then_normal (hK1 _ _ ?_)
  clear hK1
  refine wp_seq_k fun K2 hK2 => ?_
  refine wp_seq_k fun K3 hK3 => ?_
  -- region 1 (slices.go:97)
  refine Sx.wp_text [(0, .take), (1, .take), (2, .take)] rfl ?_
  refine Sx.st_take hT rfl rfl rfl rfl (Sx.x_move hT rfl rfl) ?_
  clear hT; intro a hT
  refine Sx.st_take hT rfl rfl rfl rfl (Sx.x_len_slice hT rfl rfl Try.underlying25 rfl) ?_
  clear hT; intro a hT
  refine Sx.st_take hT rfl rfl rfl rfl (Sx.x_move hT rfl rfl) ?_
  clear hT; intro a hT
  replace hT := hT.keep [8, 7, 4, 0, 1] rfl
  refine Sx.ser_nil ?_
  refine Sx.then_normal (hK3 _ _ ?_)
  clear hK3
  refine wp_block ?_
  -- loop 0
  refine Sx.wp_loopH (G := Nat) (fun k => [(8, .int .i64 (k : Int))]) (fun k => []) (fun k => k ≤ ks.length ∧ ∀ (t : Nat) q, t < k → ks[t]? = some q → q ≠ key) (fun k => ks.length - k) 0 (hT.keep [8, 7, 0, 1] rfl) (H.keep [] rfl rfl) (⟨Nat.zero_le _, fun t q h => by omega⟩) ?_
  clear hT H
  rintro k a w1 hJ hT H
  replace hT := hT.keep [8, 7, 0, 1] rfl
  replace H := H.keep [] rfl rfl
  obtain ⟨hk, hnq⟩ := hJ
  refine wp_seq_k fun K4 hK4 => ?_
  -- region 2 (slices.go:97)
  refine Sx.wp_text [(0, .take)] rfl ?_
  refine Sx.st_take hT rfl rfl rfl rfl ((fun w => Sx.x_lt w hT rfl rfl rfl)) ?_
  clear hT; intro a hT
  replace hT := hT.keep [9, 8, 7, 0, 1] rfl
  refine Sx.ser_nil ?_
  refine Sx.then_normal (hK4 _ _ ?_)
  clear hK4
  refine wp_seq_k fun K5 hK5 => ?_
  -- cond 0
  refine Sx.wp_if hT rfl (fun hc6 => ?_) (fun hc6 => ?_)
  · try simp only [decide_eq_true_eq, decide_eq_false_iff_not, Bool.not_eq_true', Bool.not_eq_false', Bool.not_eq_true, Bool.not_eq_false, Bool.and_eq_true, Bool.or_eq_false_iff, beq_iff_eq, bne_iff_ne, Int.not_lt, Int.not_le, ne_eq] at hc6
    obtain ⟨o, ho⟩ : ∃ o, ks[k]? = some o := ⟨_, List.getElem?_eq_getElem (by omega)⟩
    refine wp_skip ?_
    refine Sx.then_normal (hK5 _ _ ?_)
    clear hK5
    refine wp_seq_k fun K7 hK7 => ?_
    refine wp_block ?_
    refine wp_seq_k fun K8 hK8 => ?_
    -- region 3 (slices.go:97)
    refine Sx.wp_text [(0, .take), (1, .take)] rfl ?_
    refine Sx.st_take hT rfl rfl rfl rfl (Sx.x_move hT rfl rfl) ?_
    clear hT; intro a hT
    refine Sx.st_take hT rfl rfl rfl rfl (Sx.x_assign hT rfl rfl) ?_
    clear hT; intro a hT
    replace hT := hT.keep [5, 9, 8, 7, 0, 1] rfl
    refine Sx.ser_nil ?_
    refine Sx.then_normal (hK8 _ _ ?_)
    clear hK8
    refine wp_seq_k fun K9 hK9 => ?_
    -- region 4 (slices.go:98)
    refine Sx.wp_text [(0, .take), (1, .take), (2, .take), (3, .take), (4, .run), (5, .take)] rfl ?_
    refine Sx.st_take hT rfl rfl rfl rfl (Sx.x_move hT rfl rfl) ?_
    clear hT; intro a hT
    refine Sx.st_take hT rfl rfl rfl rfl (Sx.x_move hT rfl rfl) ?_
    clear hT; intro a hT
    refine Sx.st_take hT rfl rfl rfl rfl (Sx.x_move hT rfl rfl) ?_
    clear hT; intro a hT
    refine Sx.st_take hT rfl rfl rfl rfl (Sx.x_index (k := k) hT rfl Try.underlying25 Try.ti9 (R.at H.ext).sv rfl rfl (by first | rfl | omega) (by omega)) ?_
    clear hT; intro a hT
    refine Sx.st_run hT rfl rfl rfl rfl (Sx.x_load1 hT rfl Try.fl9 rfl ((R.at H.ext).cell (j := 0) kc_len ho rfl)) ?_
    clear hT; intro a hT
    refine Sx.st_take hT rfl rfl rfl rfl ((fun w => Sx.x_streq w hT rfl rfl rfl)) ?_
    clear hT; intro a hT
    replace hT := hT.keep [16, 5, 9, 8, 7, 0, 1] rfl
    refine Sx.ser_nil ?_
    refine Sx.then_normal (hK9 _ _ ?_)
    clear hK9
    -- cond 1
    refine Sx.wp_if hT rfl (fun hc10 => ?_) (fun hc10 => ?_)
    · try simp only [decide_eq_true_eq, decide_eq_false_iff_not, Bool.not_eq_true', Bool.not_eq_false', Bool.not_eq_true, Bool.not_eq_false, Bool.and_eq_true, Bool.or_eq_false_iff, beq_iff_eq, bne_iff_ne, Int.not_lt, Int.not_le, ne_eq] at hc10
      have heq : key = o := hc10
      refine wp_seq_k fun K11 hK11 => ?_
      -- region 5 (slices.go:99)
      refine Sx.wp_text [(0, .take), (1, .take)] rfl ?_
      refine Sx.st_take hT rfl rfl rfl rfl (Sx.x_move hT rfl rfl) ?_
      clear hT; intro a hT
      refine Sx.st_take hT rfl rfl rfl rfl (Sx.x_assign hT rfl rfl) ?_
      clear hT; intro a hT
      replace hT := hT.keep [4, 16, 5, 9, 8, 7, 0, 1] rfl
      refine Sx.ser_nil ?_
      refine Sx.then_normal (hK11 _ _ ?_)
      clear hK11
      refine wp_ret ?_
      refine Sx.block_ret ?_
      refine Sx.then_ret ?_
      refine Sx.then_ret ?_
      refine Sx.block_ret ?_
      refine Sx.then_ret ?_
      refine Sx.done1 (fn := Try.f51) hT rfl (.tmp (hT.get 4 _ rfl)) ?_
      exact ⟨_, rfl, ⟨fun _ => heq ▸ List.mem_of_getElem? ho, fun _ => by omega⟩, H.ext⟩
    · try simp only [decide_eq_true_eq, decide_eq_false_iff_not, Bool.not_eq_true', Bool.not_eq_false', Bool.not_eq_true, Bool.not_eq_false, Bool.and_eq_true, Bool.or_eq_false_iff, beq_iff_eq, bne_iff_ne, Int.not_lt, Int.not_le, ne_eq] at hc10
      have hne : o ≠ key := fun h9 => hc10 h9.symm
      refine wp_skip ?_
      refine Sx.block_normal ?_
      refine Sx.then_normal (hK7 _ _ ?_)
      clear hK7
      -- region 6 (slices.go:97)
      refine Sx.wp_text [(0, .take), (1, .take)] rfl ?_
      refine Sx.st_take hT rfl rfl rfl rfl ((fun w => Sx.x_add w hT rfl rfl rfl (Sx.wrap64 (by omega)))) ?_
      clear hT; intro a hT
      refine Sx.st_take hT rfl rfl rfl rfl (Sx.x_move hT rfl rfl) ?_
      clear hT; intro a hT
      replace hT := hT.keep [8, 16, 5, 9, 7, 0, 1] rfl
      refine Sx.ser_nil ?_
      refine Sx.then_normal ?_
      exact ⟨k + 1, ⟨by omega, nq_snoc hnq ho hne⟩, (hT.keep [8, 7, 0, 1] rfl), (H.keep [] rfl rfl), by omega⟩
  · try simp only [decide_eq_true_eq, decide_eq_false_iff_not, Bool.not_eq_true', Bool.not_eq_false', Bool.not_eq_true, Bool.not_eq_false, Bool.and_eq_true, Bool.or_eq_false_iff, beq_iff_eq, bne_iff_ne, Int.not_lt, Int.not_le, ne_eq] at hc6
    have hkl : k = ks.length := by omega
    rw [hkl] at hnq
    refine wp_exit ?_
    refine Sx.then_exit ?_
    refine Sx.then_exit ?_
    refine Sx.block_exit ?_
    refine Sx.then_normal (hK2 _ _ ?_)
    clear hK2
    refine wp_seq_k fun K12 hK12 => ?_
    -- region 7 (slices.go:102)
    refine Sx.wp_text [(0, .take)] rfl ?_
    refine Sx.st_take hT rfl rfl rfl rfl (Sx.x_assign hT rfl rfl) ?_
    clear hT; intro a hT
    replace hT := hT.keep [4, 9, 8, 7, 0, 1] rfl
    refine Sx.ser_nil ?_
    refine Sx.then_normal (hK12 _ _ ?_)
    clear hK12
    refine wp_ret ?_
    refine Sx.done1 (fn := Try.f51) hT rfl (.tmp (hT.get 4 _ rfl)) ?_
    exact ⟨_, rfl, ⟨fun h9 => by omega, fun h9 => absurd h9 (nf_mem hnq)⟩, H.ext⟩

theorem Contains_calls {ad : Option Addr} {c : Nat} (ks : List (List UInt8)) {w : World} (hs : Ss w ad kc 1 ks) (hl : ks.length ≤ 9223372036854775807) (key : List UInt8) : Calls Try.prog 41 #[.slice ad ks.length c, .string ⟨key.toArray⟩] w fun e w' => e = .returned (.bool (decide (key ∈ ks))) ∧ Ext No w w' := by
  have R : Ro w No _ := Ro.of fun w' x => hs.ext_no x
  refine Sx.calls_into Try.func41 rfl Try.ntmps41 rfl fun a hT => ?_
  replace hT := hT.keep [0, 1] rfl
  have H : Sx.Hp w (Sx.No) w [] := Sx.Hp.start _ _
  refine wp_seq_k fun K1 hK1 => ?_
  -- region 0 (slices.go:117)
  refine Sx.wp_text [(0, .take)] rfl ?_
  refine Sx.st_take hT rfl rfl rfl rfl (Sx.x_assign hT rfl rfl) ?_
  clear hT; intro a hT
  replace hT := hT.keep [4, 0, 1] rfl
  refine Sx.ser_nil ?_
  refine Sx.then_normal (hK1 _ _ ?_)
  clear hK1
  refine wp_seq_k fun K2 hK2 => ?_
  -- region 1 (slices.go:118)
  refine Sx.wp_text [(0, .take), (1, .take), (2, .run), (3, .take), (4, .take)] rfl ?_
  refine Sx.st_take hT rfl rfl rfl rfl (Sx.x_move hT rfl rfl) ?_
  clear hT; intro a hT
  refine Sx.st_take hT rfl rfl rfl rfl (Sx.x_move hT rfl rfl) ?_
  clear hT; intro a hT
  refine Sx.st_call hT rfl rfl rfl rfl rfl Try.can51 rfl (Index_calls ks (R.at H.ext) hl key) ?_
  rintro _ w1 ⟨z9, rfl, hz9, E⟩
  refine ⟨_, rfl, ?_⟩
  clear hT; intro a hT
  replace H := H.pure E; clear E
  refine Sx.st_take hT rfl rfl rfl rfl ((fun w => Sx.x_ge w hT rfl rfl rfl)) ?_
  clear hT; intro a hT
  refine Sx.st_take hT rfl rfl rfl rfl (Sx.x_assign hT rfl rfl) ?_
  clear hT; intro a hT
  replace hT := hT.keep [4, 0, 1] rfl
  refine Sx.ser_nil ?_
  refine Sx.then_normal (hK2 _ _ ?_)
  clear hK2
  refine wp_ret ?_
  refine Sx.done1 (fn := Try.f41) hT rfl (.tmp (hT.get 4 _ rfl)) ?_
  exact ⟨by rw [show decide (z9 ≥ 0) = decide (key ∈ ks) from decide_eq_decide.2 hz9], H.ext⟩

theorem Texts_calls {ad ad2 : Option Addr} {c c2 : Nat} (l m : List (List UInt8)) {w : World} (hs : Ss w ad kc 1 l) (hs2 : Ss w ad2 kc 1 m) (hl : l.length ≤ 9223372036854775806) : Calls Try.prog 43 #[.slice ad l.length c, .slice ad2 m.length c2] w fun e w' => e = .returned (.bool (decide (l = m))) ∧ Ext No w w' := by
  have R : Ro w No _ := Ro.of fun w' x => hs.ext_no x
  have R2 : Ro w No _ := Ro.of fun w' x => hs2.ext_no x
  refine Sx.calls_into Try.func43 rfl Try.ntmps43 rfl fun a hT => ?_
  replace hT := hT.keep [0, 1] rfl
  have H : Sx.Hp w (Sx.No) w [] := Sx.Hp.start _ _
  refine wp_seq_k fun K1 hK1 => ?_
  -- region 0 (same.go:32)
  refine Sx.wp_text [(0, .take)] rfl ?_
  refine Sx.st_take hT rfl rfl rfl rfl (Sx.x_assign hT rfl rfl) ?_
  clear hT; intro a hT
  replace hT := hT.keep [4, 0, 1] rfl
  refine Sx.ser_nil ?_
  refine Sx.then_normal (hK1 _ _ ?_)
  clear hK1
  refine wp_seq_k fun K2 hK2 => ?_
  refine wp_seq_k fun K3 hK3 => ?_
  -- region 1 (same.go:33)
  refine Sx.wp_text [(0, .take), (1, .take), (2, .take), (3, .take), (4, .take)] rfl ?_
  refine Sx.st_take hT rfl rfl rfl rfl (Sx.x_move hT rfl rfl) ?_
  clear hT; intro a hT
  refine Sx.st_take hT rfl rfl rfl rfl (Sx.x_len_slice hT rfl rfl Try.underlying25 rfl) ?_
  clear hT; intro a hT
  refine Sx.st_take hT rfl rfl rfl rfl (Sx.x_move hT rfl rfl) ?_
  clear hT; intro a hT
  refine Sx.st_take hT rfl rfl rfl rfl (Sx.x_len_slice hT rfl rfl Try.underlying25 rfl) ?_
  clear hT; intro a hT
  refine Sx.st_take hT rfl rfl rfl rfl ((fun w => Sx.x_ne w hT rfl rfl rfl)) ?_
  clear hT; intro a hT
  replace hT := hT.keep [10, 4, 0, 1] rfl
  refine Sx.ser_nil ?_
  refine Sx.then_normal (hK3 _ _ ?_)
  clear hK3
  -- cond 0
  refine Sx.wp_if hT rfl (fun hc4 => ?_) (fun hc4 => ?_)
  · try simp only [decide_eq_true_eq, decide_eq_false_iff_not, Bool.not_eq_true', Bool.not_eq_false', Bool.not_eq_true, Bool.not_eq_false, Bool.and_eq_true, Bool.or_eq_false_iff, beq_iff_eq, bne_iff_ne, Int.not_lt, Int.not_le, ne_eq] at hc4
    refine wp_seq_k fun K5 hK5 => ?_
    -- region 2 (same.go:34)
    refine Sx.wp_text [(0, .take)] rfl ?_
    refine Sx.st_take hT rfl rfl rfl rfl (Sx.x_assign hT rfl rfl) ?_
    clear hT; intro a hT
    replace hT := hT.keep [4, 10, 0, 1] rfl
    refine Sx.ser_nil ?_
    refine Sx.then_normal (hK5 _ _ ?_)
    clear hK5
    refine wp_ret ?_
    refine Sx.then_ret ?_
    refine Sx.done1 (fn := Try.f43) hT rfl (.tmp (hT.get 4 _ rfl)) ?_
    refine ⟨ret_b (decide_eq_false fun h9 => ?_).symm, H.ext⟩
    subst h9
    omega
  · try simp only [decide_eq_true_eq, decide_eq_false_iff_not, Bool.not_eq_true', Bool.not_eq_false', Bool.not_eq_true, Bool.not_eq_false, Bool.and_eq_true, Bool.or_eq_false_iff, beq_iff_eq, bne_iff_ne, Int.not_lt, Int.not_le, ne_eq] at hc4
    refine wp_skip ?_
    refine Sx.then_normal (hK2 _ _ ?_)
    clear hK2
    refine wp_seq_k fun K6 hK6 => ?_
    refine wp_seq_k fun K7 hK7 => ?_
    -- region 3 (same.go:36)
    refine Sx.wp_text [(0, .take)] rfl ?_
    refine Sx.st_take hT rfl rfl rfl rfl (Sx.x_assign hT rfl rfl) ?_
    clear hT; intro a hT
    replace hT := hT.keep [5, 10, 4, 0, 1] rfl
    refine Sx.ser_nil ?_
    refine Sx.then_normal (hK7 _ _ ?_)
    clear hK7
    refine wp_block ?_
    -- loop 0
    refine Sx.wp_loopH (G := Nat) (fun k => [(5, .int .i64 (k : Int))]) (fun k => []) (fun k => k ≤ l.length ∧ ∀ t, t < k → l[t]? = m[t]?) (fun k => l.length - k) 0 (hT.keep [5, 10, 0, 1] rfl) (H.keep [] rfl rfl) (⟨Nat.zero_le _, fun t h => by omega⟩) ?_
    clear hT H
    rintro k a w1 hJ hT H
    replace hT := hT.keep [5, 10, 0, 1] rfl
    replace H := H.keep [] rfl rfl
    obtain ⟨hk, hsm⟩ := hJ
    refine wp_seq_k fun K8 hK8 => ?_
    refine wp_seq_k fun K9 hK9 => ?_
    -- region 4 (same.go:36)
    refine Sx.wp_text [(0, .take), (1, .take), (2, .take), (3, .take)] rfl ?_
    refine Sx.st_take hT rfl rfl rfl rfl (Sx.x_move hT rfl rfl) ?_
    clear hT; intro a hT
    refine Sx.st_take hT rfl rfl rfl rfl (Sx.x_move hT rfl rfl) ?_
    clear hT; intro a hT
    refine Sx.st_take hT rfl rfl rfl rfl (Sx.x_len_slice hT rfl rfl Try.underlying25 rfl) ?_
    clear hT; intro a hT
    refine Sx.st_take hT rfl rfl rfl rfl ((fun w => Sx.x_lt w hT rfl rfl rfl)) ?_
    clear hT; intro a hT
    replace hT := hT.keep [14, 5, 10, 0, 1] rfl
    refine Sx.ser_nil ?_
    refine Sx.then_normal (hK9 _ _ ?_)
    clear hK9
    -- cond 1
    refine Sx.wp_if hT rfl (fun hc10 => ?_) (fun hc10 => ?_)
    · try simp only [decide_eq_true_eq, decide_eq_false_iff_not, Bool.not_eq_true', Bool.not_eq_false', Bool.not_eq_true, Bool.not_eq_false, Bool.and_eq_true, Bool.or_eq_false_iff, beq_iff_eq, bne_iff_ne, Int.not_lt, Int.not_le, ne_eq] at hc10
      obtain ⟨o, ho⟩ : ∃ o, l[k]? = some o := ⟨_, List.getElem?_eq_getElem (by omega)⟩
      obtain ⟨o2, ho2⟩ : ∃ o, m[k]? = some o := ⟨_, List.getElem?_eq_getElem (by omega)⟩
      refine wp_skip ?_
      refine Sx.then_normal (hK8 _ _ ?_)
      clear hK8
      refine wp_seq_k fun K11 hK11 => ?_
      refine wp_block ?_
      refine wp_seq_k fun K12 hK12 => ?_
      -- region 6 (same.go:37)
      refine Sx.wp_draws (fun u => Sx.Ext (Sx.No) u) [(0, .take), (1, .take), (2, .take), (3, .held), (4, .take), (5, .take), (6, .take), (7, .held), (8, .take)] (by kernel_rfl) (by kernel_rfl) (fun u E _ => ?_)
      replace H := H.pure E; clear E
      have hH : Sx.Ext (Sx.No) u u := Sx.Ext.refl _ _
      have Hu := H
      refine Sx.st_take hT rfl rfl rfl rfl (Sx.x_move hT rfl rfl) ?_
      clear hT; intro a hT
      refine Sx.st_take hT rfl rfl rfl rfl (Sx.x_move hT rfl rfl) ?_
      clear hT; intro a hT
      refine Sx.st_take hT rfl rfl rfl rfl (Sx.x_index (k := k) hT rfl Try.underlying25 Try.ti9 (by first | exact (R.at H.ext).sv | exact (R2.at H.ext).sv) rfl rfl (by first | rfl | omega) (by omega)) ?_
      clear hT; intro a hT
      refine Sx.st_held hT rfl rfl rfl rfl hH (fun w' h' => Sx.x_load1 hT rfl Try.fl9 rfl (by first | exact ((R.at (Hu.ext.step h')).cell (j := 0) kc_len ho rfl) | exact ((R2.at (Hu.ext.step h')).cell (j := 0) kc_len ho2 rfl))) ?_
      clear hT; intro a hT
      refine Sx.st_take hT rfl rfl rfl rfl (Sx.x_move hT rfl rfl) ?_
      clear hT; intro a hT
      refine Sx.st_take hT rfl rfl rfl rfl (Sx.x_move hT rfl rfl) ?_
      clear hT; intro a hT
      refine Sx.st_take hT rfl rfl rfl rfl (Sx.x_index (k := k) hT rfl Try.underlying25 Try.ti9 (by first | exact (R.at H.ext).sv | exact (R2.at H.ext).sv) rfl rfl (by first | rfl | omega) (by omega)) ?_
      clear hT; intro a hT
      refine Sx.st_held hT rfl rfl rfl rfl hH (fun w' h' => Sx.x_load1 hT rfl Try.fl9 rfl (by first | exact ((R.at (Hu.ext.step h')).cell (j := 0) kc_len ho rfl) | exact ((R2.at (Hu.ext.step h')).cell (j := 0) kc_len ho2 rfl))) ?_
      clear hT; intro a hT
      refine Sx.st_take hT rfl rfl rfl rfl ((fun w => Sx.x_strne w hT rfl rfl rfl)) ?_
      clear hT; intro a hT
      replace hT := hT.keep [25, 14, 5, 10, 0, 1] rfl
      clear Hu hH
      refine Sx.ser_calm ?_
      refine Sx.then_normal (hK12 _ _ ?_)
      clear hK12
      -- cond 2
      refine Sx.wp_if hT rfl (fun hc13 => ?_) (fun hc13 => ?_)
      · try simp only [decide_eq_true_eq, decide_eq_false_iff_not, Bool.not_eq_true', Bool.not_eq_false', Bool.not_eq_true, Bool.not_eq_false, Bool.and_eq_true, Bool.or_eq_false_iff, beq_iff_eq, bne_iff_ne, Int.not_lt, Int.not_le, ne_eq] at hc13
        have heq : o ≠ o2 := hc13
        refine wp_seq_k fun K14 hK14 => ?_
        -- region 7 (same.go:38)
        refine Sx.wp_text [(0, .take)] rfl ?_
        refine Sx.st_take hT rfl rfl rfl rfl (Sx.x_assign hT rfl rfl) ?_
        clear hT; intro a hT
        replace hT := hT.keep [4, 25, 14, 5, 10, 0, 1] rfl
        refine Sx.ser_nil ?_
        refine Sx.then_normal (hK14 _ _ ?_)
        clear hK14
        refine wp_ret ?_
        refine Sx.block_ret ?_
        refine Sx.then_ret ?_
        refine Sx.then_ret ?_
        refine Sx.block_ret ?_
        refine Sx.then_ret ?_
        refine Sx.done1 (fn := Try.f43) hT rfl (.tmp (hT.get 4 _ rfl)) ?_
        refine ⟨ret_b (decide_eq_false fun h9 => ?_).symm, H.ext⟩
        subst h9
        rw [ho] at ho2; exact heq (Option.some.inj ho2)
      · try simp only [decide_eq_true_eq, decide_eq_false_iff_not, Bool.not_eq_true', Bool.not_eq_false', Bool.not_eq_true, Bool.not_eq_false, Bool.and_eq_true, Bool.or_eq_false_iff, beq_iff_eq, bne_iff_ne, Int.not_lt, Int.not_le, ne_eq] at hc13
        have heq : o = o2 := hc13
        refine wp_skip ?_
        refine Sx.block_normal ?_
        refine Sx.then_normal (hK11 _ _ ?_)
        clear hK11
        -- region 5 (same.go:36)
        refine Sx.wp_text [(0, .take), (1, .take), (2, .take)] rfl ?_
        refine Sx.st_take hT rfl rfl rfl rfl (Sx.x_move hT rfl rfl) ?_
        clear hT; intro a hT
        refine Sx.st_take hT rfl rfl rfl rfl ((fun w => Sx.x_add w hT rfl rfl rfl (Sx.wrap64 (by omega)))) ?_
        clear hT; intro a hT
        refine Sx.st_take hT rfl rfl rfl rfl (Sx.x_assign hT rfl rfl) ?_
        clear hT; intro a hT
        replace hT := hT.keep [5, 25, 14, 10, 0, 1] rfl
        refine Sx.ser_nil ?_
        refine Sx.then_normal ?_
        exact ⟨k + 1, ⟨by omega, fun t h => by rcases Nat.lt_or_ge t k with h3 | h3; exact hsm t h3; rw [show t = k from by omega, ho, ho2, heq]⟩, (hT.keep [5, 10, 0, 1] rfl), (H.keep [] rfl rfl), by omega⟩
    · try simp only [decide_eq_true_eq, decide_eq_false_iff_not, Bool.not_eq_true', Bool.not_eq_false', Bool.not_eq_true, Bool.not_eq_false, Bool.and_eq_true, Bool.or_eq_false_iff, beq_iff_eq, bne_iff_ne, Int.not_lt, Int.not_le, ne_eq] at hc10
      refine wp_exit ?_
      refine Sx.then_exit ?_
      refine Sx.then_exit ?_
      refine Sx.block_exit ?_
      refine Sx.then_normal (hK6 _ _ ?_)
      clear hK6
      refine wp_seq_k fun K15 hK15 => ?_
      -- region 8 (same.go:41)
      refine Sx.wp_text [(0, .take)] rfl ?_
      refine Sx.st_take hT rfl rfl rfl rfl (Sx.x_assign hT rfl rfl) ?_
      clear hT; intro a hT
      replace hT := hT.keep [4, 14, 5, 10, 0, 1] rfl
      refine Sx.ser_nil ?_
      refine Sx.then_normal (hK15 _ _ ?_)
      clear hK15
      refine wp_ret ?_
      refine Sx.done1 (fn := Try.f43) hT rfl (.tmp (hT.get 4 _ rfl)) ?_
      refine ⟨ret_b (decide_eq_true (List.ext_getElem? fun t => ?_)).symm, H.ext⟩
      rcases Nat.lt_or_ge t k with h3 | h3
      · exact hsm t h3
      · rw [List.getElem?_eq_none (by omega), List.getElem?_eq_none (by omega)]

theorem KeysB_calls (b : Nat) (w : World) : Calls Try.prog 42 #[.map (some b)] w fun e w' => e = .returned (.func (.func 52) #[] #[.pointer (some ⟨w.heap.size, 0, none⟩)]) ∧ Ext No w w' ∧ w' = w.alloc (.cells #[.map (some b)] 85) := by
  have h : CallsIn Fence.wide 5 Try.prog 42 #[.map (some b)] w fun e w' => e = .returned (.func (.func 52) #[] #[.pointer (some ⟨w.heap.size, 0, none⟩)]) ∧ w' = w.alloc (.cells #[.map (some b)] 85) := AnyZI.keys_in Try.keysB Fence.wide 5 trivial rfl (some b) w
  exact (callsIn_wide.1 h).mono fun e w' h => ⟨h.1, by rw [h.2]; exact Ext.alloc w _, h.2⟩
def icd (i : Int) : List Value := [.int .i64 i]
theorem icd_len (i : Int) : (icd i).length = 1 := rfl
theorem icd_flat : ∀ L : List Int, L.map (Value.int .i64) = L.flatMap icd
  | [] => rfl
  | x :: L => by rw [List.map_cons, icd_flat L]; rfl
theorem sorted_idsK {G : List Gk} (h : SrtK ilt Gk.id G) {ss : List Int} (hp : ss.Perm (G.map Gk.id)) : ss.mergeSort (fun x y => decide (x ≤ y)) = G.map Gk.id := by
  rw [mergeSort_of_perm_i hp]
  refine List.mergeSort_of_pairwise ?_
  refine List.pairwise_map.2 (h.imp fun {a b} hab => ?_)
  have hab : a.id < b.id := hab
  simp only [decide_eq_true_eq]
  omega
theorem SortedB_calls {b : Nat} {L : List Gk} {w w1 : World} (hm : Mp Try.prog 3 w b (tg L)) (ew : w1 = w.alloc (.cells #[.map (some b)] 85)) (hs : SrtK ilt Gk.id L) (hL : L.length ≤ 1000000) :
    Calls Try.prog 36 #[.func (.func 52) #[] #[.pointer (some ⟨w.heap.size, 0, none⟩)]] w1 fun e w' => ∃ ad c, e = .returned (.slice ad L.length c) ∧ Hp w1 No w' [cR 3 1 ad L.length c ((L.map Gk.id).flatMap icd)] := by
  subst ew
  have hbl := hm.lt
  have hz : Maps.size (tg L) = L.length := size_tab L
  have hik : intKeys (tg L) = L.map Gk.id := by rw [ints_tab]; rfl
  have hseq : SeqGives Fence.wide 2 Try.prog 52 #[.pointer (some ⟨w.heap.size, 0, none⟩)] encZ (fun ss => ss.Perm (intKeys (tg L))) (Maps.size (tg L)) (w.alloc (.cells #[.map (some b)] 85)) :=
    AnyZI.keys_gives (ρ := Try.keysB_ren) { Try.keysB with } Fence.wide _ trivial rfl (by omega) w.heap.size b _ (tg L) _ (by simp) (by simp) (by
      obtain ⟨es, clock, hb, Ft, hs, hD⟩ := hm
      exact ⟨es, clock, (Go.RowKit.Below.heap_alloc _ _ b hbl).trans hb, Ft, hs, hD⟩)
  have cS := AnyZI.sorted_in Try.sortedA Fence.wide 5 trivial trivial trivial trivial rfl (by omega) (sortsA _) (enters_of Try.func48 (by kernel_rfl) rfl) 52 #[.pointer (some ⟨w.heap.size, 0, none⟩)] trivial (enters_of Try.func52 (by kernel_rfl) rfl) _ _ (by rw [hz]; unfold maxLen; omega) (by rw [hz]; omega) _ hseq
  change CallsIn _ _ Try.prog 36 _ _ _ at cS
  refine (callsIn_wide.1 cS).mono fun e w' h => ?_
  obtain ⟨v, ss, rfl, hp, hrow, -, hb⟩ := h
  rw [hik] at hp
  rw [sorted_idsK hs hp, show ss.length = L.length from by rw [hp.length_eq, List.length_map]] at hrow
  rw [show (L.map Gk.id).map encZ = (L.map Gk.id).flatMap icd from icd_flat _] at hrow
  obtain ⟨ad, c, rfl, H⟩ := Hp.owned hb hrow
  exact ⟨ad, c, rfl, H⟩

theorem tk_grp {D : List Rg} {G : List Gk} {q : Nat} {g : Gk} {r : Rg} (h : G[q]? = some g) (hr : gt D g.id = some r) : ((G.take q).map (grOf D)).flatMap Gr.cells ++ [.int .i64 r.id, .int .i64 r.epoch, .float .f64 r.lo, .float .f64 r.hi, .slice g.ad g.ks.length g.c] = ((G.take (q + 1)).map (grOf D)).flatMap Gr.cells := by
  rw [take_app h, List.map_append, List.flatMap_append]
  congr 1
  simp [grOf, hr, Gr.cells]

theorem fam_ss {w : World} {G : List Gk} (h : Fam 9 1 Gk.rw w G) (i : Int) : Ss w (gz G i).ad kc 1 (gz G i).ks := Row.ssn (xs := (gz G i).ks) (enc := kc) (Fam.look (d := gzero i) iO h rfl) rfl

set_option maxHeartbeats 1000000 in
theorem Group_calls {p b : Nat} {D : List Rg} {ad : Option Addr} {c : Nat} (ks : List (List UInt8)) {w : World} (hD : Blk w p [.map (some b)] 72) (hM : Mp Try.prog 3 w b (tb D)) (hDs : Srt D) (hDl : D.length ≤ 1000000) (hs : Ss w ad kc 1 ks) (hl : ks.length ≤ 1000000) (hkb : ∀ l ∈ ks, l.length ≤ 9223372036854775807) : Calls Try.prog 23 #[.pointer (some ⟨p, 0, none⟩), .slice ad ks.length c] w fun e w' => ∃ ad' c' L, e = .returned (.tuple #[.slice ad' (List.length L) c', .int .i64 (errG D ks)]) ∧ Hp w No w' [cR 66 5 ad' L.length c' (L.flatMap Gr.cells), cF 9 1 Gr.rw L] ∧ L.map Gr.pure = (if errG D ks = 0 then specG D ks else []) := by
  have R : Ro w No _ := Ro.of fun w' x => hs.ext_no x
  have RD : Ro w No _ := Ro.of fun w' x => hD.ext_no x
  refine Sx.calls_into Try.func23 rfl Try.ntmps23 rfl fun a hT => ?_
  replace hT := hT.keep [0, 1] rfl
  have H : Sx.Hp w (Sx.No) w [] := Sx.Hp.start _ _
  refine wp_seq_k fun K1 hK1 => ?_
  -- region 0 (dir.go:70)
  refine Sx.wp_text [(0, .take), (1, .take)] rfl ?_
  refine Sx.st_take hT rfl rfl rfl rfl (Sx.x_assign hT rfl rfl) ?_
  clear hT; intro a hT
  refine Sx.st_take hT rfl rfl rfl rfl (Sx.x_assign hT rfl rfl) ?_
  clear hT; intro a hT
  replace hT := hT.keep [5, 4, 0, 1] rfl
  refine Sx.ser_nil ?_
  refine Sx.then_normal (hK1 _ _ ?_)
  clear hK1
  refine wp_seq_k fun K2 hK2 => ?_
  -- region 1 (dir.go:71)
  refine Sx.wp_text [(0, .run), (1, .take)] rfl ?_
  refine Sx.st_eff hT rfl rfl rfl rfl (Sx.x_makeMap 3 hT rfl _) ?_
  rintro _ w1 ⟨bm3, rfl, N⟩
  clear hT; intro a hT
  replace H := H.newM N; clear N
  refine Sx.st_take hT rfl rfl rfl rfl (Sx.x_assign hT rfl rfl) ?_
  clear hT; intro a hT
  replace hT := hT.keep [6, 5, 4, 0, 1] rfl
  refine Sx.ser_nil ?_
  refine Sx.then_normal (hK2 _ _ ?_)
  clear hK2
  refine wp_seq_k fun K4 hK4 => ?_
  refine wp_seq_k fun K5 hK5 => ?_
  -- region 2 (dir.go:72)
  refine Sx.wp_text [(0, .take), (1, .take), (2, .take)] rfl ?_
  refine Sx.st_take hT rfl rfl rfl rfl (Sx.x_move hT rfl rfl) ?_
  clear hT; intro a hT
  refine Sx.st_take hT rfl rfl rfl rfl (Sx.x_len_slice hT rfl rfl Try.underlying25 rfl) ?_
  clear hT; intro a hT
  refine Sx.st_take hT rfl rfl rfl rfl (Sx.x_move hT rfl rfl) ?_
  clear hT; intro a hT
  replace hT := hT.keep [17, 16, 15, 6, 5, 4, 0, 1] rfl
  refine Sx.ser_nil ?_
  refine Sx.then_normal (hK5 _ _ ?_)
  clear hK5
  refine wp_block ?_
  replace H := H.famNil 9 1 Gk.rw
  rw [show (DataW.map [] : DataW Value) = tg [] from rfl] at H
  -- loop 0
  refine Sx.wp_loopH (G := Nat × List Gk) (fun ⟨k, G⟩ => [(17, .int .i64 (k : Int))]) (fun ⟨k, G⟩ => [cM Try.prog 3 bm3 (tg G), cF 9 1 Gk.rw G]) (fun ⟨k, G⟩ => k ≤ ks.length ∧ GInv D G (ks.take k) ∧ ∀ (t : Nat) q, t < k → ks[t]? = some q → (routeL D q).isSome = true) (fun ⟨k, G⟩ => ks.length - k) (0, []) (hT.keep [17, 16, 15, 6, 0, 1] rfl) (H.keep [1, 0] rfl rfl) (⟨Nat.zero_le _, ginv_nil D, fun t q h => by omega⟩) ?_
  clear hT H
  rintro ⟨k, G⟩ a w2 hJ hT H
  replace hT := hT.keep [17, 16, 15, 6, 0, 1] rfl
  replace H := H.keep [0, 1] rfl rfl
  obtain ⟨hk, hG, hok⟩ := hJ
  have hfew := grp_few hG
  refine wp_seq_k fun K6 hK6 => ?_
  -- region 3 (dir.go:72)
  refine Sx.wp_text [(0, .take)] rfl ?_
  refine Sx.st_take hT rfl rfl rfl rfl ((fun w => Sx.x_lt w hT rfl rfl rfl)) ?_
  clear hT; intro a hT
  replace hT := hT.keep [18, 17, 16, 15, 6, 0, 1] rfl
  refine Sx.ser_nil ?_
  refine Sx.then_normal (hK6 _ _ ?_)
  clear hK6
  refine wp_seq_k fun K7 hK7 => ?_
  -- cond 0
  refine Sx.wp_if hT rfl (fun hc8 => ?_) (fun hc8 => ?_)
  · try simp only [decide_eq_true_eq, decide_eq_false_iff_not, Bool.not_eq_true', Bool.not_eq_false', Bool.not_eq_true, Bool.not_eq_false, Bool.and_eq_true, Bool.or_eq_false_iff, beq_iff_eq, bne_iff_ne, Int.not_lt, Int.not_le, ne_eq] at hc8
    obtain ⟨key, hkey⟩ : ∃ o, ks[k]? = some o := ⟨_, List.getElem?_eq_getElem (by omega)⟩
    have hkl := hkb key (List.mem_of_getElem? hkey)
    refine wp_skip ?_
    refine Sx.then_normal (hK7 _ _ ?_)
    clear hK7
    refine wp_seq_k fun K9 hK9 => ?_
    refine wp_block ?_
    refine wp_seq_k fun K10 hK10 => ?_
    -- region 4 (dir.go:72)
    refine Sx.wp_text [(0, .take), (1, .run), (2, .take)] rfl ?_
    refine Sx.st_take hT rfl rfl rfl rfl (Sx.x_index (k := k) hT rfl Try.underlying25 Try.ti9 (R.at H.ext).sv rfl rfl (by first | rfl | omega) (by omega)) ?_
    clear hT; intro a hT
    refine Sx.st_run hT rfl rfl rfl rfl (Sx.x_load1 hT rfl Try.fl9 rfl (by first | exact ((R.at H.ext).cell (j := 0) kc_len hkey rfl) | exact ((RD.at H.ext).nth rfl))) ?_
    clear hT; intro a hT
    refine Sx.st_take hT rfl rfl rfl rfl (Sx.x_assign hT rfl rfl) ?_
    clear hT; intro a hT
    replace hT := hT.keep [8, 18, 17, 16, 15, 6, 0, 1] rfl
    refine Sx.ser_nil ?_
    refine Sx.then_normal (hK10 _ _ ?_)
    clear hK10
    refine wp_seq_k fun K11 hK11 => ?_
    refine wp_seq_k fun K12 hK12 => ?_
    -- region 5 (dir.go:73)
    refine Sx.wp_text [(0, .take), (1, .run), (2, .take)] rfl ?_
    refine Sx.st_take hT rfl rfl rfl rfl (Sx.x_move hT rfl rfl) ?_
    clear hT; intro a hT
    refine Sx.st_call hT rfl rfl rfl rfl rfl Try.can33 rfl (Key_calls key hkl _) ?_
    rintro _ w3 ⟨rfl, E⟩
    refine ⟨_, rfl, ?_⟩
    clear hT; intro a hT
    replace H := H.pure E; clear E
    refine Sx.st_take hT rfl rfl rfl rfl (Sx.x_not hT rfl rfl) ?_
    clear hT; intro a hT
    replace hT := hT.keep [23, 8, 18, 17, 16, 15, 6, 0, 1] rfl
    refine Sx.ser_nil ?_
    refine Sx.then_normal (hK12 _ _ ?_)
    clear hK12
    -- cond 1
    refine Sx.wp_if hT rfl (fun hc13 => ?_) (fun hc13 => ?_)
    · try simp only [decide_eq_true_eq, decide_eq_false_iff_not, Bool.not_eq_true', Bool.not_eq_false', Bool.not_eq_true, Bool.not_eq_false, Bool.and_eq_true, Bool.or_eq_false_iff, beq_iff_eq, bne_iff_ne, Int.not_lt, Int.not_le, ne_eq] at hc13
      have hky : keyF key = false := hc13
      refine wp_seq_k fun K14 hK14 => ?_
      -- region 6 (dir.go:74)
      refine Sx.wp_text [(0, .take), (1, .take)] rfl ?_
      refine Sx.st_take hT rfl rfl rfl rfl (Sx.x_assign hT rfl rfl) ?_
      clear hT; intro a hT
      refine Sx.st_take hT rfl rfl rfl rfl (Sx.x_assign hT rfl rfl) ?_
      clear hT; intro a hT
      replace hT := hT.keep [5, 4, 23, 8, 18, 17, 16, 15, 6, 0, 1] rfl
      refine Sx.ser_nil ?_
      refine Sx.then_normal (hK14 _ _ ?_)
      clear hK14
      refine wp_ret ?_
      refine Sx.then_ret ?_
      refine Sx.block_ret ?_
      refine Sx.then_ret ?_
      refine Sx.then_ret ?_
      refine Sx.block_ret ?_
      refine Sx.then_ret ?_
      refine Sx.done2 (fn := Try.f23) hT rfl (.tmp (hT.get 4 _ rfl)) (.tmp (hT.get 5 _ rfl)) ?_
      have hrn : routeL D key = none := routeL_no hky
      have hee : errG D ks = 10 := by rw [err_at hok hkey hrn, if_neg (by rw [hky]; decide)]
      refine ⟨none, 0, [], by rw [hee]; rfl, (((H.keep [] rfl rfl).famNil 9 1 Gr.rw).nilR 66 5), ?_⟩
      rw [if_neg (by rw [hee]; decide)]
      rfl
    · try simp only [decide_eq_true_eq, decide_eq_false_iff_not, Bool.not_eq_true', Bool.not_eq_false', Bool.not_eq_true, Bool.not_eq_false, Bool.and_eq_true, Bool.or_eq_false_iff, beq_iff_eq, bne_iff_ne, Int.not_lt, Int.not_le, ne_eq] at hc13
      have hky : keyF key = true := hc13
      refine wp_skip ?_
      refine Sx.then_normal (hK11 _ _ ?_)
      clear hK11
      refine wp_seq_k fun K15 hK15 => ?_
      -- region 7 (dir.go:76)
      refine Sx.wp_text [(0, .take), (1, .take), (2, .run), (3, .take), (4, .take), (5, .take), (6, .run), (7, .run), (8, .take)] rfl ?_
      refine Sx.st_take hT rfl rfl rfl rfl (Sx.x_move hT rfl rfl) ?_
      clear hT; intro a hT
      refine Sx.st_take hT rfl rfl rfl rfl (Sx.x_move hT rfl rfl) ?_
      clear hT; intro a hT
      refine Sx.st_call hT rfl rfl rfl rfl rfl Try.can15 rfl (Route_calls key hkl (RD.at H.ext) (hM.ext H.ext (not_No _))) ?_
      rintro _ w4 ⟨rfl, E⟩
      refine ⟨_, rfl, ?_⟩
      clear hT; intro a hT
      replace H := H.pure E; clear E
      obtain ⟨ro9, hro⟩ : ∃ o, routeL D key = o := ⟨_, rfl⟩
      rw [hro] at hT
      refine Sx.st_take hT rfl rfl rfl rfl (Sx.x_move hT rfl rfl) ?_
      clear hT; intro a hT
      refine Sx.st_take hT rfl rfl rfl rfl (Sx.x_extractL hT rfl rfl rfl) ?_
      clear hT; intro a hT
      refine Sx.st_take hT rfl rfl rfl rfl (Sx.x_extractL hT rfl rfl rfl) ?_
      clear hT; intro a hT
      refine Sx.st_eff hT rfl rfl rfl rfl (Sx.y_alloc hT rfl Try.ti37 rfl _) ?_
      clear hT; rintro _ w5 ⟨b1, rfl, N⟩ a hT
      replace H := H.new N; clear N
      refine Sx.st_act hT rfl rfl rfl (Sx.y_storeS hT rfl Try.ti37 rfl rfl rfl rfl rfl (H.blk 0 rfl) rfl) ?_
      rintro w6 ⟨hb, E, _⟩
      replace H := H.setB 0 rfl hb E rfl; clear hb E
      refine Sx.st_take hT rfl rfl rfl rfl (Sx.x_assign hT rfl rfl) ?_
      clear hT; intro a hT
      replace hT := hT.keep [10, 9, 23, 8, 18, 17, 16, 15, 6, 0, 1] rfl
      refine Sx.ser_nil ?_
      refine Sx.then_normal (hK15 _ _ ?_)
      clear hK15
      refine wp_seq_k fun K16 hK16 => ?_
      refine wp_seq_k fun K17 hK17 => ?_
      -- region 8 (dir.go:77)
      refine Sx.wp_text [(0, .take), (1, .take)] rfl ?_
      refine Sx.st_take hT rfl rfl rfl rfl (Sx.x_move hT rfl rfl) ?_
      clear hT; intro a hT
      refine Sx.st_take hT rfl rfl rfl rfl (Sx.x_not hT rfl rfl) ?_
      clear hT; intro a hT
      replace hT := hT.keep [31, 10, 9, 23, 8, 18, 17, 16, 15, 6, 0, 1] rfl
      refine Sx.ser_nil ?_
      refine Sx.then_normal (hK17 _ _ ?_)
      clear hK17
      -- cond 2
      refine Sx.wp_if hT rfl (fun hc18 => ?_) (fun hc18 => ?_)
      · try simp only [decide_eq_true_eq, decide_eq_false_iff_not, Bool.not_eq_true', Bool.not_eq_false', Bool.not_eq_true, Bool.not_eq_false, Bool.and_eq_true, Bool.or_eq_false_iff, beq_iff_eq, bne_iff_ne, Int.not_lt, Int.not_le, ne_eq] at hc18
        obtain rfl : ro9 = none := by simpa using hc18
        refine wp_seq_k fun K19 hK19 => ?_
        -- region 9 (dir.go:78)
        refine Sx.wp_text [(0, .take), (1, .take)] rfl ?_
        refine Sx.st_take hT rfl rfl rfl rfl (Sx.x_assign hT rfl rfl) ?_
        clear hT; intro a hT
        refine Sx.st_take hT rfl rfl rfl rfl (Sx.x_assign hT rfl rfl) ?_
        clear hT; intro a hT
        replace hT := hT.keep [5, 4, 31, 10, 9, 23, 8, 18, 17, 16, 15, 6, 0, 1] rfl
        refine Sx.ser_nil ?_
        refine Sx.then_normal (hK19 _ _ ?_)
        clear hK19
        refine wp_ret ?_
        refine Sx.then_ret ?_
        refine Sx.block_ret ?_
        refine Sx.then_ret ?_
        refine Sx.then_ret ?_
        refine Sx.block_ret ?_
        refine Sx.then_ret ?_
        refine Sx.done2 (fn := Try.f23) hT rfl (.tmp (hT.get 4 _ rfl)) (.tmp (hT.get 5 _ rfl)) ?_
        have hrn : routeL D key = none := hro
        have hee : errG D ks = 8 := by rw [err_at hok hkey hrn, if_pos hky]
        refine ⟨none, 0, [], by rw [hee]; rfl, (((H.keep [] rfl rfl).famNil 9 1 Gr.rw).nilR 66 5), ?_⟩
        rw [if_neg (by rw [hee]; decide)]
        rfl
      · try simp only [decide_eq_true_eq, decide_eq_false_iff_not, Bool.not_eq_true', Bool.not_eq_false', Bool.not_eq_true, Bool.not_eq_false, Bool.and_eq_true, Bool.or_eq_false_iff, beq_iff_eq, bne_iff_ne, Int.not_lt, Int.not_le, ne_eq] at hc18
        obtain ⟨r, rfl⟩ : ∃ r, ro9 = some r := Option.isSome_iff_exists.1 hc18
        simp only [Option.getD_some] at hT H
        obtain ⟨hgt, hi1, hi2⟩ := routeL_gt hro
        have hrid : rid D key = some r.id := by unfold rid; rw [hro]; rfl
        have hgl : (gz G r.id).ks.length ≤ k := by rw [hG.has]; exact Nat.le_trans (fil_len _ _ _) (List.length_take_le _ _)
        refine wp_skip ?_
        refine Sx.then_normal (hK16 _ _ ?_)
        clear hK16
        refine wp_seq_k fun K20 hK20 => ?_
        -- region 10 (dir.go:80)
        refine Sx.wp_text [(0, .take), (1, .take), (2, .run), (3, .run), (4, .take), (5, .run), (6, .take)] rfl ?_
        refine Sx.st_take hT rfl rfl rfl rfl (Sx.x_move hT rfl rfl) ?_
        clear hT; intro a hT
        refine Sx.st_take hT rfl rfl rfl rfl (Sx.x_fieldAddr hT rfl Try.fa37_0 rfl) ?_
        clear hT; intro a hT
        refine Sx.st_run hT rfl rfl rfl rfl (Sx.x_load1 hT rfl Try.fl3 rfl ((H.blk 0 rfl).nth rfl)) ?_
        clear hT; intro a hT
        refine Sx.st_run hT rfl rfl rfl rfl (Sx.x_lookup hT rfl Try.underlying85 (Go.Maps.int_keyed Try.underlying3) Try.ti25 rfl rfl (Go.Maps.keyOf_int_mk Try.underlying3 (Sx.wf64 (by omega) (by omega))) (H.mp 1 rfl)) ?_
        clear hT; intro a hT
        rw [look_g] at hT
        refine Sx.st_take hT rfl rfl rfl rfl (Sx.x_move hT rfl rfl) ?_
        clear hT; intro a hT
        refine Sx.st_call hT rfl rfl rfl rfl rfl Try.can41 rfl (Contains_calls (gz G r.id).ks (fam_ss (H.at 2 rfl) r.id) (by omega) key) ?_
        rintro _ w7 ⟨rfl, E⟩
        refine ⟨_, rfl, ?_⟩
        clear hT; intro a hT
        replace H := H.pure E; clear E
        refine Sx.st_take hT rfl rfl rfl rfl (Sx.x_not hT rfl rfl) ?_
        clear hT; intro a hT
        replace hT := hT.keep [38, 31, 10, 9, 23, 8, 18, 17, 16, 15, 6, 0, 1] rfl
        refine Sx.ser_nil ?_
        refine Sx.then_normal (hK20 _ _ ?_)
        clear hK20
        -- cond 3
        refine Sx.wp_if hT rfl (fun hc21 => ?_) (fun hc21 => ?_)
        · try simp only [decide_eq_true_eq, decide_eq_false_iff_not, Bool.not_eq_true', Bool.not_eq_false', Bool.not_eq_true, Bool.not_eq_false, Bool.and_eq_true, Bool.or_eq_false_iff, beq_iff_eq, bne_iff_ne, Int.not_lt, Int.not_le, ne_eq] at hc21
          have hnc : key ∉ (gz G r.id).ks := hc21
          -- region 11 (dir.go:81)
          replace H := H.famLook iO hG.srt 2 rfl r.id (gzero r.id) rfl rfl
          replace H : Sx.Hp w Sx.No w7 (cR 9 1 (gz G r.id).ad (gz G r.id).ks.length (gz G r.id).c ((gz G r.id).ks.flatMap kc) :: _) := H
          refine Sx.wp_draws (fun u => Sx.Ext (Sx.Own (gz G r.id).ad) u) [(0, .take), (1, .take), (2, .held), (3, .take), (4, .take), (5, .held), (6, .held), (7, .take), (8, .keep), (9, .keep), (10, .run)] (by kernel_rfl) (by kernel_rfl) (fun u E _ => ?_)
          replace H := H.pure E; clear E
          have hH : Sx.Ext (Sx.Own (gz G r.id).ad) u u := Sx.Ext.refl _ _
          have Hu := H
          refine Sx.st_take hT rfl rfl rfl rfl (Sx.x_move hT rfl rfl) ?_
          clear hT; intro a hT
          refine Sx.st_take hT rfl rfl rfl rfl (Sx.x_fieldAddr hT rfl Try.fa37_0 rfl) ?_
          clear hT; intro a hT
          refine Sx.st_held hT rfl rfl rfl rfl hH (fun w' h' => Sx.x_load1 hT rfl Try.fl3 rfl ((Hu.heldB 1 rfl h' (Hu.off 1 0 rfl rfl rfl)).nth rfl)) ?_
          clear hT; intro a hT
          refine Sx.st_take hT rfl rfl rfl rfl (Sx.x_move hT rfl rfl) ?_
          clear hT; intro a hT
          refine Sx.st_take hT rfl rfl rfl rfl (Sx.x_fieldAddr hT rfl Try.fa37_0 rfl) ?_
          clear hT; intro a hT
          refine Sx.st_held hT rfl rfl rfl rfl hH (fun w' h' => Sx.x_load1 hT rfl Try.fl3 rfl ((Hu.heldB 1 rfl h' (Hu.off 1 0 rfl rfl rfl)).nth rfl)) ?_
          clear hT; intro a hT
          refine Sx.st_held hT rfl rfl rfl rfl hH (fun w' h' => Sx.x_lookup hT rfl Try.underlying85 (Go.Maps.int_keyed Try.underlying3) Try.ti25 rfl rfl (Go.Maps.keyOf_int_mk Try.underlying3 (Sx.wf64 (by omega) (by omega))) (Hu.heldM 2 rfl h' (Hu.off 2 0 rfl rfl rfl))) ?_
          clear hT; intro a hT
          rw [look_g] at hT
          refine Sx.st_take hT rfl rfl rfl rfl (Sx.x_move hT rfl rfl) ?_
          clear hT; intro a hT
          refine Sx.st_effkeep hT rfl rfl rfl rfl (Sx.y_slice1 hT rfl Try.underlying25 Try.ti9 rfl rfl rfl rfl rfl rfl _) ?_
          rintro _ w8 ⟨b2, rfl, N⟩
          have q_b2 : u.heap.size ≤ b2 := by have h8 := hH.size; have h9 := N.at_; omega
          refine ⟨hH.step N.ext, ?_⟩
          replace hH := hH.step N.ext
          clear hT; intro a hT
          replace H := H.new N; clear N
          refine Sx.st_effkeep hT rfl rfl rfl rfl (Sx.x_append hT rfl rfl Try.underlying25 Try.ti9 rfl (by decide) rfl rfl (H.row 1 rfl) ((H.blk 0 rfl).sv1 rfl) (by simp [Value.oneCell']) (fun h => by cases h) (by unfold maxLen; omega) (by omega)) ?_
          rintro _ w9 ⟨ad9, c9, rfl, hr, E, hown, -⟩
          refine ⟨hH.same E, ?_⟩
          replace hH := hH.same E
          clear hT; intro a hT
          replace H := H.setR 1 rfl hr E hown rfl; clear hr E hown
          rw [show (gz G r.id).ks.length + 1 = ((gz G r.id).ks ++ [key]).length from by simp] at H hT
          rw [show (gz G r.id).ks.flatMap kc ++ [.string ⟨key.toArray⟩] = ((gz G r.id).ks ++ [key]).flatMap kc from by rw [List.flatMap_append]; rfl] at H
          refine Sx.st_act hT rfl rfl rfl (Sx.x_mapUpdate hT rfl Try.underlying85 (Go.Maps.int_keyed Try.underlying3) rfl rfl rfl (Go.Maps.keyOf_int_mk Try.underlying3 (Sx.wf64 (by omega) (by omega))) (H.mp 3 rfl) (by rw [Sx.size_tab]; unfold maxLen; omega)) ?_
          rintro w10 ⟨hm, E, _⟩
          replace H := H.setM 3 rfl hm E rfl; clear hm E
          have hp9 := put_g (G := G) ⟨r.id, ad9, c9, (gz G r.id).ks ++ [key]⟩
          dsimp only at hp9
          rw [hp9] at H; clear hp9
          replace H := H.famPut (x := ⟨r.id, ad9, c9, (gz G r.id).ks ++ [key]⟩) 4 1 rfl rfl rfl rfl [0, 2, 3] rfl rfl (iO.put_perm _ G)
          replace hT := hT.keep [38, 31, 10, 9, 23, 8, 18, 17, 16, 15, 6, 0, 1] rfl
          clear Hu hH
          refine Sx.ser_calm ?_
          refine Sx.block_normal ?_
          refine Sx.then_normal (hK9 _ _ ?_)
          clear hK9
          -- region 12 (dir.go:72)
          refine Sx.wp_text [(0, .take), (1, .take)] rfl ?_
          refine Sx.st_take hT rfl rfl rfl rfl ((fun w => Sx.x_add w hT rfl rfl rfl (Sx.wrap64 (by omega)))) ?_
          clear hT; intro a hT
          refine Sx.st_take hT rfl rfl rfl rfl (Sx.x_move hT rfl rfl) ?_
          clear hT; intro a hT
          replace hT := hT.keep [17, 38, 31, 10, 9, 23, 8, 18, 16, 15, 6, 0, 1] rfl
          refine Sx.ser_nil ?_
          refine Sx.then_normal ?_
          exact ⟨(k + 1, ptK ilit Gk.id ⟨r.id, ad9, c9, (gz G r.id).ks ++ [key]⟩ G), ⟨by show k + 1 ≤ _; omega, by show GInv D _ (ks.take (k + 1)); rw [take_app hkey]; exact ginv_new hG hrid hgt ⟨hi1, hi2⟩ hnc _ rfl rfl, ok_snoc hok hkey (by rw [hro]; rfl)⟩, (hT.keep [17, 16, 15, 6, 0, 1] rfl), (H.keep [3, 0] rfl rfl), by show _ - (k + 1) < _ - k; omega⟩
        · try simp only [decide_eq_true_eq, decide_eq_false_iff_not, Bool.not_eq_true', Bool.not_eq_false', Bool.not_eq_true, Bool.not_eq_false, Bool.and_eq_true, Bool.or_eq_false_iff, beq_iff_eq, bne_iff_ne, Int.not_lt, Int.not_le, ne_eq] at hc21
          have hnc : key ∈ (gz G r.id).ks := hc21
          refine wp_skip ?_
          refine Sx.block_normal ?_
          refine Sx.then_normal (hK9 _ _ ?_)
          clear hK9
          -- region 12 (dir.go:72)
          refine Sx.wp_text [(0, .take), (1, .take)] rfl ?_
          refine Sx.st_take hT rfl rfl rfl rfl ((fun w => Sx.x_add w hT rfl rfl rfl (Sx.wrap64 (by omega)))) ?_
          clear hT; intro a hT
          refine Sx.st_take hT rfl rfl rfl rfl (Sx.x_move hT rfl rfl) ?_
          clear hT; intro a hT
          replace hT := hT.keep [17, 38, 31, 10, 9, 23, 8, 18, 16, 15, 6, 0, 1] rfl
          refine Sx.ser_nil ?_
          refine Sx.then_normal ?_
          exact ⟨(k + 1, G), ⟨by show k + 1 ≤ _; omega, by show GInv D _ (ks.take (k + 1)); rw [take_app hkey]; exact ginv_same hG hrid hnc, ok_snoc hok hkey (by rw [hro]; rfl)⟩, (hT.keep [17, 16, 15, 6, 0, 1] rfl), (H.keep [1, 2] rfl rfl), by show _ - (k + 1) < _ - k; omega⟩
  · try simp only [decide_eq_true_eq, decide_eq_false_iff_not, Bool.not_eq_true', Bool.not_eq_false', Bool.not_eq_true, Bool.not_eq_false, Bool.and_eq_true, Bool.or_eq_false_iff, beq_iff_eq, bne_iff_ne, Int.not_lt, Int.not_le, ne_eq] at hc8
    have hkq : k = ks.length := by omega
    rw [hkq] at hG hok
    rw [List.take_length] at hG
    have hee := err_no hok
    refine wp_exit ?_
    refine Sx.then_exit ?_
    refine Sx.then_exit ?_
    refine Sx.block_exit ?_
    refine Sx.then_normal (hK4 _ _ ?_)
    clear hK4
    refine wp_seq_k fun K22 hK22 => ?_
    -- region 13 (dir.go:84)
    refine Sx.wp_text [(0, .take)] rfl ?_
    refine Sx.st_take hT rfl rfl rfl rfl (Sx.x_assign hT rfl rfl) ?_
    clear hT; intro a hT
    replace hT := hT.keep [11, 18, 17, 16, 15, 6, 0, 1] rfl
    refine Sx.ser_nil ?_
    refine Sx.then_normal (hK22 _ _ ?_)
    clear hK22
    refine wp_seq_k fun K23 hK23 => ?_
    refine wp_seq_k fun K24 hK24 => ?_
    -- region 14 (dir.go:85)
    refine Sx.wp_text [(0, .take), (1, .run), (2, .run), (3, .take), (4, .take)] rfl ?_
    refine Sx.st_take hT rfl rfl rfl rfl (Sx.x_move hT rfl rfl) ?_
    clear hT; intro a hT
    have hMG := H.mp 0 rfl
    refine Sx.st_call hT rfl rfl rfl rfl rfl Try.can42 rfl (KeysB_calls _ _) ?_
    rintro _ w11 ⟨rfl, E, ew⟩
    refine ⟨_, rfl, ?_⟩
    clear hT; intro a hT
    replace H := H.pure E; clear E
    refine Sx.st_call hT rfl rfl rfl rfl rfl Try.can36 rfl (SortedB_calls hMG ew hG.srt (by have := grp_few hG; omega)) ?_
    rintro _ w12 ⟨ad1, c1, rfl, K⟩
    refine ⟨_, rfl, ?_⟩
    clear hT; intro a hT
    replace H := H.more K rfl; clear K
    refine Sx.st_take hT rfl rfl rfl rfl (Sx.x_len_slice hT rfl rfl Try.underlying22 rfl) ?_
    clear hT; intro a hT
    refine Sx.st_take hT rfl rfl rfl rfl (Sx.x_move hT rfl rfl) ?_
    clear hT; intro a hT
    replace hT := hT.keep [54, 53, 52, 11, 18, 17, 16, 15, 6, 0, 1] rfl
    refine Sx.ser_nil ?_
    refine Sx.then_normal (hK24 _ _ ?_)
    clear hK24
    refine wp_block ?_
    replace H := H.nilR 66 5
    have hfew2 := grp_few hG
    -- loop 1
    refine Sx.wp_loopH (G := Nat × Option Addr × Nat) (fun ⟨q, ad2, c2⟩ => [(54, .int .i64 (q : Int)), (11, .slice ad2 q c2)]) (fun ⟨q, ad2, c2⟩ => [cR 66 5 ad2 q c2 (((G.take q).map (grOf D)).flatMap Gr.cells)]) (fun ⟨q, ad2, c2⟩ => q ≤ G.length) (fun ⟨q, ad2, c2⟩ => G.length - q) (0, none, 0) (hT.keep [54, 11, 53, 52, 18, 17, 16, 15, 6, 0, 1] rfl) (H.keep [0, 1, 2, 3] rfl rfl) ((Nat.zero_le _)) ?_
    clear hT H
    rintro ⟨q, ad2, c2⟩ a w13 hJ hT H
    replace hT := hT.keep [54, 11, 53, 52, 18, 17, 16, 15, 6, 0, 1] rfl
    replace H := H.keep [0, 1, 2, 3] rfl rfl
    have hq : q ≤ G.length := hJ
    refine wp_seq_k fun K25 hK25 => ?_
    -- region 15 (dir.go:85)
    refine Sx.wp_text [(0, .take)] rfl ?_
    refine Sx.st_take hT rfl rfl rfl rfl ((fun w => Sx.x_lt w hT rfl rfl rfl)) ?_
    clear hT; intro a hT
    replace hT := hT.keep [55, 54, 11, 53, 52, 18, 17, 16, 15, 6, 0, 1] rfl
    refine Sx.ser_nil ?_
    refine Sx.then_normal (hK25 _ _ ?_)
    clear hK25
    refine wp_seq_k fun K26 hK26 => ?_
    -- cond 4
    refine Sx.wp_if hT rfl (fun hc27 => ?_) (fun hc27 => ?_)
    · try simp only [decide_eq_true_eq, decide_eq_false_iff_not, Bool.not_eq_true', Bool.not_eq_false', Bool.not_eq_true, Bool.not_eq_false, Bool.and_eq_true, Bool.or_eq_false_iff, beq_iff_eq, bne_iff_ne, Int.not_lt, Int.not_le, ne_eq] at hc27
      obtain ⟨g, hg⟩ : ∃ o, G[q]? = some o := ⟨_, List.getElem?_eq_getElem (by omega)⟩
      have hid : (G.map Gk.id)[q]? = some g.id := by rw [List.getElem?_map, hg]; rfl
      obtain ⟨r, hgt9⟩ := hG.rt g (List.mem_of_getElem? hg)
      obtain ⟨hi1, hi2⟩ := hG.bd g (List.mem_of_getElem? hg)
      refine wp_skip ?_
      refine Sx.then_normal (hK26 _ _ ?_)
      clear hK26
      refine wp_seq_k fun K28 hK28 => ?_
      refine wp_block ?_
      refine wp_seq_k fun K29 hK29 => ?_
      -- region 16 (dir.go:85)
      refine Sx.wp_text [(0, .take), (1, .run), (2, .take)] rfl ?_
      refine Sx.st_take hT rfl rfl rfl rfl (Sx.x_index (k := q) hT rfl Try.underlying22 Try.ti3 (H.row 1 rfl).sv rfl rfl (by first | rfl | omega) (by omega)) ?_
      clear hT; intro a hT
      refine Sx.st_run hT rfl rfl rfl rfl (Sx.x_load1 hT rfl Try.fl3 rfl (by first | exact (((H.row 1 rfl).ssn (by simp)).cell (j := 0) icd_len hid rfl) | exact ((RD.at H.ext).nth rfl))) ?_
      clear hT; intro a hT
      refine Sx.st_take hT rfl rfl rfl rfl (Sx.x_assign hT rfl rfl) ?_
      clear hT; intro a hT
      replace hT := hT.keep [13, 55, 54, 11, 53, 52, 18, 17, 16, 15, 6, 0, 1] rfl
      refine Sx.ser_nil ?_
      refine Sx.then_normal (hK29 _ _ ?_)
      clear hK29
      -- region 17 (dir.go:86)
      refine Sx.wp_draws (fun u => Sx.Ext (Sx.No) u) [(0, .take), (1, .take), (2, .take), (3, .take), (4, .held), (5, .take), (6, .held), (7, .take), (8, .take), (9, .held), (10, .take), (11, .run), (12, .run), (13, .take)] (by kernel_rfl) (by kernel_rfl) (fun u E _ => ?_)
      replace H := H.pure E; clear E
      have hH : Sx.Ext (Sx.No) u u := Sx.Ext.refl _ _
      have Hu := H
      refine Sx.st_take hT rfl rfl rfl rfl (Sx.x_move hT rfl rfl) ?_
      clear hT; intro a hT
      refine Sx.st_take hT rfl rfl rfl rfl (Sx.x_move hT rfl rfl) ?_
      clear hT; intro a hT
      refine Sx.st_take hT rfl rfl rfl rfl (Sx.x_nilCheck hT rfl rfl) ?_
      clear hT; intro a hT
      refine Sx.st_take hT rfl rfl rfl rfl (Sx.x_fieldAddr hT rfl Try.fa72_0 rfl) ?_
      clear hT; intro a hT
      refine Sx.st_held hT rfl rfl rfl rfl hH (fun w' h' => Sx.x_load1 hT rfl Try.fl70 rfl (by first | exact (((Hu.heldR 1 rfl h' Sx.off_No).ssn (by simp)).cell (j := 0) icd_len hid rfl) | exact ((RD.at (Hu.ext.step h')).nth rfl))) ?_
      clear hT; intro a hT
      refine Sx.st_take hT rfl rfl rfl rfl (Sx.x_move hT rfl rfl) ?_
      clear hT; intro a hT
      refine Sx.st_held hT rfl rfl rfl rfl hH (fun w' h' => Sx.x_lookup hT rfl Try.underlying70 (Go.Maps.int_keyed Try.underlying3) Try.ti37 rfl rfl (Go.Maps.keyOf_int_mk Try.underlying3 (Sx.wf64 (by omega) (by omega))) (hM.ext (Hu.ext.step h') (not_No _))) ?_
      clear hT; intro a hT
      rw [(look_yes hgt9 _).1] at hT
      refine Sx.st_take hT rfl rfl rfl rfl (Sx.x_move hT rfl rfl) ?_
      clear hT; intro a hT
      refine Sx.st_take hT rfl rfl rfl rfl (Sx.x_move hT rfl rfl) ?_
      clear hT; intro a hT
      refine Sx.st_held hT rfl rfl rfl rfl hH (fun w' h' => Sx.x_lookup hT rfl Try.underlying85 (Go.Maps.int_keyed Try.underlying3) Try.ti25 rfl rfl (Go.Maps.keyOf_int_mk Try.underlying3 (Sx.wf64 (by omega) (by omega))) (Hu.heldM 2 rfl h' Sx.off_No)) ?_
      clear hT; intro a hT
      rw [look_g, gz_at hG.srt (List.mem_of_getElem? hg)] at hT
      refine Sx.st_take hT rfl rfl rfl rfl (Sx.x_bld hT rfl Try.bld66 rfl rfl) ?_
      clear hT; intro a hT
      refine Sx.st_eff hT rfl rfl rfl rfl (Sx.y_slice1 hT rfl Try.underlying56 Try.ti66 rfl rfl rfl rfl rfl rfl _) ?_
      clear hT; rintro _ w14 ⟨b3, rfl, N⟩ a hT
      replace H := H.new N; clear N
      refine Sx.st_eff hT rfl rfl rfl rfl (Sx.x_append hT rfl rfl Try.underlying56 Try.ti66 rfl (by decide) rfl rfl (H.row 1 rfl) ((H.blk 0 rfl).sv1 rfl) (by simp [Value.oneCell']) (fun h => by cases h) (by unfold maxLen; omega) (by omega)) ?_
      rintro _ w15 ⟨ad15, c15, rfl, hr, E, hown, -⟩
      clear hT; intro a hT
      replace H := H.setR 1 rfl hr E hown rfl; clear hr E hown
      refine Sx.st_take hT rfl rfl rfl rfl (Sx.x_assign hT rfl rfl) ?_
      clear hT; intro a hT
      replace hT := hT.keep [11, 13, 55, 54, 53, 52, 18, 17, 16, 15, 6, 0, 1] rfl
      clear Hu hH
      refine Sx.ser_calm ?_
      refine Sx.block_normal ?_
      refine Sx.then_normal (hK28 _ _ ?_)
      clear hK28
      -- region 18 (dir.go:85)
      refine Sx.wp_text [(0, .take), (1, .take)] rfl ?_
      refine Sx.st_take hT rfl rfl rfl rfl ((fun w => Sx.x_add w hT rfl rfl rfl (Sx.wrap64 (by omega)))) ?_
      clear hT; intro a hT
      refine Sx.st_take hT rfl rfl rfl rfl (Sx.x_move hT rfl rfl) ?_
      clear hT; intro a hT
      replace hT := hT.keep [54, 11, 13, 55, 53, 52, 18, 17, 16, 15, 6, 0, 1] rfl
      refine Sx.ser_nil ?_
      refine Sx.then_normal ?_
      rw [tk_grp hg hgt9] at H
      exact ⟨(q + 1, ad15, c15), (show q + 1 ≤ _ by omega), (hT.keep [54, 11, 53, 52, 18, 17, 16, 15, 6, 0, 1] rfl), (H.keep [1, 2, 3, 4] rfl rfl), by show _ - (q + 1) < _ - q; omega⟩
    · try simp only [decide_eq_true_eq, decide_eq_false_iff_not, Bool.not_eq_true', Bool.not_eq_false', Bool.not_eq_true, Bool.not_eq_false, Bool.and_eq_true, Bool.or_eq_false_iff, beq_iff_eq, bne_iff_ne, Int.not_lt, Int.not_le, ne_eq] at hc27
      have hqG : q = G.length := by omega
      rw [hqG] at H hT
      rw [List.take_length] at H
      rw [show cR 66 5 ad2 G.length c2 = cR 66 5 ad2 (G.map (grOf D)).length c2 from by rw [List.length_map]] at H
      refine wp_exit ?_
      refine Sx.then_exit ?_
      refine Sx.then_exit ?_
      refine Sx.block_exit ?_
      refine Sx.then_normal (hK23 _ _ ?_)
      clear hK23
      refine wp_seq_k fun K30 hK30 => ?_
      -- region 19 (dir.go:88)
      refine Sx.wp_text [(0, .take), (1, .take), (2, .take)] rfl ?_
      refine Sx.st_take hT rfl rfl rfl rfl (Sx.x_move hT rfl rfl) ?_
      clear hT; intro a hT
      refine Sx.st_take hT rfl rfl rfl rfl (Sx.x_assign hT rfl rfl) ?_
      clear hT; intro a hT
      refine Sx.st_take hT rfl rfl rfl rfl (Sx.x_assign hT rfl rfl) ?_
      clear hT; intro a hT
      replace hT := hT.keep [5, 4, 55, 54, 11, 53, 52, 18, 17, 16, 15, 6, 0, 1] rfl
      refine Sx.ser_nil ?_
      refine Sx.then_normal (hK30 _ _ ?_)
      clear hK30
      refine wp_ret ?_
      refine Sx.done2 (fn := Try.f23) hT rfl (.tmp (hT.get 4 _ rfl)) (.tmp (hT.get 5 _ rfl)) ?_
      refine ⟨_, _, G.map (grOf D), ?_, (H.keep [0, 3] rfl rfl).famMap 1 rfl pure_rw rfl, ?_⟩
      · rw [hee, List.length_map]
      · rw [if_pos hee]; exact spec_of hDs hG

end Go.Proofs.Ytakohabmcgponaa
