/- Walks: where a key lies. -/
import Derived.Test.YtakohabmcgponaaW5
import Derived.Test.YtakohabmcgponaaN3
set_option linter.unusedSimpArgs false
set_option linter.unusedVariables false
namespace Go.Proofs.Ytakohabmcgponaa
open Sx
theorem Try.ti75 : Sx.TI Try.prog 75 (.int .u64 0) 1 8 := .mk' (by kernel_rfl)
theorem Try.ti96 : Sx.TI Try.prog 96 (.agg #[.int .u64 0, .int .u64 0]) 2 16 := .mk' (by kernel_rfl)
theorem Try.fl75 : Sx.Flat Try.prog 75 := ⟨_, Try.underlying75, trivial⟩
theorem Try.can33 : Sx.Can Try.prog 33 := ⟨_, Try.func33, by kernel_rfl, rfl⟩
theorem Try.can34 : Sx.Can Try.prog 34 := ⟨_, Try.func34, by kernel_rfl, rfl⟩
theorem Try.can35 : Sx.Can Try.prog 35 := ⟨_, Try.func35, by kernel_rfl, rfl⟩
theorem Try.can46 : Sx.Can Try.prog 46 := ⟨_, Try.func46, by kernel_rfl, rfl⟩
theorem Hash_calls (l : List UInt8) (hl : l.length ≤ 9223372036854775807) (w : World) : Calls Try.prog 46 #[.string ⟨l.toArray⟩] w fun e w' => e = .returned (.int .u64 (hashF l : Int)) ∧ Ext No w w' := by
  refine Sx.calls_into Try.func46 rfl Try.ntmps46 rfl fun a hT => ?_
  replace hT := hT.keep [0] rfl
  have H : Sx.Hp w (Sx.No) w [] := Sx.Hp.start _ _
  refine wp_seq_k fun K1 hK1 => ?_
  -- region 0 (place.go:12)
  refine Sx.wp_text [(0, .take)] rfl ?_
  refine Sx.st_take hT rfl rfl rfl rfl (Sx.x_assign hT rfl rfl) ?_
  clear hT; intro a hT
  replace hT := hT.keep [2, 0] rfl
  refine Sx.ser_nil ?_
  refine Sx.then_normal (hK1 _ _ ?_)
  clear hK1
  refine wp_seq_k fun K2 hK2 => ?_
  -- region 1 (place.go:13)
  refine Sx.wp_text [(0, .take)] rfl ?_
  refine Sx.st_take hT rfl rfl rfl rfl (Sx.x_assign hT rfl rfl) ?_
  clear hT; intro a hT
  replace hT := hT.keep [3, 2, 0] rfl
  refine Sx.ser_nil ?_
  refine Sx.then_normal (hK2 _ _ ?_)
  clear hK2
  refine wp_seq_k fun K3 hK3 => ?_
  refine wp_seq_k fun K4 hK4 => ?_
  -- region 2 (place.go:14)
  refine Sx.wp_text [(0, .take), (1, .take), (2, .take)] rfl ?_
  refine Sx.st_take hT rfl rfl rfl rfl (Sx.x_move hT rfl rfl) ?_
  clear hT; intro a hT
  refine Sx.st_take hT rfl rfl rfl rfl (Sx.x_lenStr hT rfl rfl Try.underlying9 rfl) ?_
  clear hT; intro a hT
  refine Sx.st_take hT rfl rfl rfl rfl (Sx.x_move hT rfl rfl) ?_
  clear hT; intro a hT
  replace hT := hT.keep [9, 8, 3, 2, 0] rfl
  refine Sx.ser_nil ?_
  refine Sx.then_normal (hK4 _ _ ?_)
  clear hK4
  refine wp_block ?_
  -- loop 0
  refine Sx.wp_loopH (G := Nat) (fun k => [(9, .int .i64 (k : Int)), (3, .int .u64 ((hbase (l.take k) : Nat) : Int))]) (fun k => []) (fun k => k ≤ l.length) (fun k => l.length - k) 0 (hT.keep [9, 3, 8, 2, 0] rfl) (H.keep [] rfl rfl) (Nat.zero_le _) ?_
  clear hT H
  rintro k a w1 hJ hT H
  replace hT := hT.keep [9, 3, 8, 2, 0] rfl
  replace H := H.keep [] rfl rfl
  have hk : k ≤ l.length := hJ
  refine wp_seq_k fun K5 hK5 => ?_
  -- region 3 (place.go:14)
  refine Sx.wp_text [(0, .take)] rfl ?_
  refine Sx.st_take hT rfl rfl rfl rfl ((fun w => Sx.x_lt w hT rfl rfl rfl)) ?_
  clear hT; intro a hT
  replace hT := hT.keep [10, 9, 3, 8, 2, 0] rfl
  refine Sx.ser_nil ?_
  refine Sx.then_normal (hK5 _ _ ?_)
  clear hK5
  refine wp_seq_k fun K6 hK6 => ?_
  -- cond 0
  refine Sx.wp_if hT rfl (fun hc7 => ?_) (fun hc7 => ?_)
  · try simp only [decide_eq_true_eq, decide_eq_false_iff_not, Bool.not_eq_true', Bool.not_eq_false', Bool.not_eq_true, Bool.not_eq_false, Bool.and_eq_true, Bool.or_eq_false_iff, beq_iff_eq, bne_iff_ne, Int.not_lt, Int.not_le, ne_eq] at hc7
    obtain ⟨b, hb⟩ : ∃ o, l[k]? = some o := ⟨_, List.getElem?_eq_getElem (by omega)⟩
    have hb8 := UInt8.toNat_lt b
    refine wp_skip ?_
    refine Sx.then_normal (hK6 _ _ ?_)
    clear hK6
    refine wp_seq_k fun K8 hK8 => ?_
    refine wp_block ?_
    refine wp_seq_k fun K9 hK9 => ?_
    -- region 4 (place.go:14)
    refine Sx.wp_text [(0, .take), (1, .take)] rfl ?_
    refine Sx.st_take hT rfl rfl rfl rfl (Sx.x_move hT rfl rfl) ?_
    clear hT; intro a hT
    refine Sx.st_take hT rfl rfl rfl rfl (Sx.x_assign hT rfl rfl) ?_
    clear hT; intro a hT
    replace hT := hT.keep [4, 10, 9, 3, 8, 2, 0] rfl
    refine Sx.ser_nil ?_
    refine Sx.then_normal (hK9 _ _ ?_)
    clear hK9
    refine wp_seq_k fun K10 hK10 => ?_
    -- region 5 (place.go:15)
    refine Sx.wp_text [(0, .take), (1, .take), (2, .take), (3, .take), (4, .take), (5, .take), (6, .take)] rfl ?_
    refine Sx.st_take hT rfl rfl rfl rfl (Sx.x_move hT rfl rfl) ?_
    clear hT; intro a hT
    refine Sx.st_take hT rfl rfl rfl rfl (Sx.x_move hT rfl rfl) ?_
    clear hT; intro a hT
    refine Sx.st_take hT rfl rfl rfl rfl (Sx.x_move hT rfl rfl) ?_
    clear hT; intro a hT
    refine Sx.st_take hT rfl rfl rfl rfl (Sx.x_indexStr (k := k) hT rfl Try.underlying9 rfl rfl rfl hb) ?_
    clear hT; intro a hT
    refine Sx.st_take hT rfl rfl rfl rfl ((fun w => Sx.x_toint w hT rfl Try.underlying5 Try.underlying75 rfl (Sx.wrap_u64 (by omega) (by omega)))) ?_
    clear hT; intro a hT
    refine Sx.st_take hT rfl rfl rfl rfl (Sx.x_uxor hT rfl rfl rfl) ?_
    clear hT; intro a hT
    refine Sx.st_take hT rfl rfl rfl rfl (Sx.x_assign hT rfl rfl) ?_
    clear hT; intro a hT
    replace hT := hT.keep [3, 4, 10, 9, 8, 2, 0] rfl
    refine Sx.ser_nil ?_
    refine Sx.then_normal (hK10 _ _ ?_)
    clear hK10
    -- region 6 (place.go:16)
    refine Sx.wp_text [(0, .take), (1, .take), (2, .take)] rfl ?_
    refine Sx.st_take hT rfl rfl rfl rfl (Sx.x_move hT rfl rfl) ?_
    clear hT; intro a hT
    refine Sx.st_take hT rfl rfl rfl rfl ((fun w => Sx.x_mul w hT rfl rfl rfl (Sx.wrap_umul _ 1099511628211))) ?_
    clear hT; intro a hT
    refine Sx.st_take hT rfl rfl rfl rfl (Sx.x_assign hT rfl rfl) ?_
    clear hT; intro a hT
    replace hT := hT.keep [3, 4, 10, 9, 8, 2, 0] rfl
    refine Sx.ser_nil ?_
    refine Sx.block_normal ?_
    refine Sx.then_normal (hK8 _ _ ?_)
    clear hK8
    -- region 7 (place.go:14)
    refine Sx.wp_text [(0, .take), (1, .take)] rfl ?_
    refine Sx.st_take hT rfl rfl rfl rfl ((fun w => Sx.x_add w hT rfl rfl rfl (Sx.wrap64 (by omega)))) ?_
    clear hT; intro a hT
    refine Sx.st_take hT rfl rfl rfl rfl (Sx.x_move hT rfl rfl) ?_
    clear hT; intro a hT
    replace hT := hT.keep [9, 3, 4, 10, 8, 2, 0] rfl
    refine Sx.ser_nil ?_
    refine Sx.then_normal ?_
    exact ⟨k + 1, (by omega), ((hT.keep [9, 3, 8, 2, 0] rfl).conv (by rw [hbase_snoc hb, hround_eq]; try rfl)), (H.keep [] rfl rfl), by omega⟩
  · try simp only [decide_eq_true_eq, decide_eq_false_iff_not, Bool.not_eq_true', Bool.not_eq_false', Bool.not_eq_true, Bool.not_eq_false, Bool.and_eq_true, Bool.or_eq_false_iff, beq_iff_eq, bne_iff_ne, Int.not_lt, Int.not_le, ne_eq] at hc7
    have hkl : k = l.length := by omega
    rw [hkl, List.take_length] at hT
    refine wp_exit ?_
    refine Sx.then_exit ?_
    refine Sx.then_exit ?_
    refine Sx.block_exit ?_
    refine Sx.then_normal (hK3 _ _ ?_)
    clear hK3
    refine wp_seq_k fun K11 hK11 => ?_
    refine wp_seq_k fun K12 hK12 => ?_
    -- region 8 (place.go:18)
    refine Sx.wp_text [(0, .take), (1, .take)] rfl ?_
    refine Sx.st_take hT rfl rfl rfl rfl (Sx.x_build2 hT rfl Try.underlying96 Try.ti96 Try.ti75 rfl rfl rfl rfl) ?_
    clear hT; intro a hT
    refine Sx.st_take hT rfl rfl rfl rfl (Sx.x_move hT rfl rfl) ?_
    clear hT; intro a hT
    replace hT := hT.keep [22, 21, 10, 9, 3, 8, 2, 0] rfl
    refine Sx.ser_nil ?_
    refine Sx.then_normal (hK12 _ _ ?_)
    clear hK12
    refine wp_block ?_
    -- loop 1
    refine Sx.wp_loopH (G := Nat) (fun j => [(22, .int .i64 (j : Int)), (3, .int .u64 ((hstage l j : Nat) : Int))]) (fun j => []) (fun j => j ≤ 2) (fun j => 2 - j) 0 (hT.keep [22, 3, 21, 10, 9, 8, 2, 0] rfl) (H.keep [] rfl rfl) (Nat.zero_le _) ?_
    clear hT H
    rintro j a w2 hJ hT H
    replace hT := hT.keep [22, 3, 21, 10, 9, 8, 2, 0] rfl
    replace H := H.keep [] rfl rfl
    have hj : j ≤ 2 := hJ
    refine wp_seq_k fun K13 hK13 => ?_
    -- region 9 (place.go:18)
    refine Sx.wp_text [(0, .take)] rfl ?_
    refine Sx.st_take hT rfl rfl rfl rfl ((fun w => Sx.x_lt w hT rfl rfl rfl)) ?_
    clear hT; intro a hT
    replace hT := hT.keep [23, 22, 3, 21, 10, 9, 8, 2, 0] rfl
    refine Sx.ser_nil ?_
    refine Sx.then_normal (hK13 _ _ ?_)
    clear hK13
    refine wp_seq_k fun K14 hK14 => ?_
    -- cond 1
    refine Sx.wp_if hT rfl (fun hc15 => ?_) (fun hc15 => ?_)
    · try simp only [decide_eq_true_eq, decide_eq_false_iff_not, Bool.not_eq_true', Bool.not_eq_false', Bool.not_eq_true, Bool.not_eq_false, Bool.and_eq_true, Bool.or_eq_false_iff, beq_iff_eq, bne_iff_ne, Int.not_lt, Int.not_le, ne_eq] at hc15
      refine wp_skip ?_
      refine Sx.then_normal (hK14 _ _ ?_)
      clear hK14
      refine wp_seq_k fun K16 hK16 => ?_
      refine wp_block ?_
      refine wp_seq_k fun K17 hK17 => ?_
      -- region 10 (place.go:18)
      refine Sx.wp_text [(0, .take), (1, .take)] rfl ?_
      refine Sx.st_take hT rfl rfl rfl rfl (Sx.x_index2 (j := j) hT rfl Try.underlying96 Try.ti75 Try.fl75 rfl rfl rfl (by omega)) ?_
      clear hT; intro a hT
      rw [show (if j = 0 then Value.int .u64 18397679294719823053 else .int .u64 14181476777654086739) = .int .u64 ((hmul j : Nat) : Int) from by unfold hmul; split <;> rfl] at hT
      refine Sx.st_take hT rfl rfl rfl rfl (Sx.x_assign hT rfl rfl) ?_
      clear hT; intro a hT
      replace hT := hT.keep [6, 23, 22, 3, 21, 10, 9, 8, 2, 0] rfl
      refine Sx.ser_nil ?_
      refine Sx.then_normal (hK17 _ _ ?_)
      clear hK17
      refine wp_seq_k fun K18 hK18 => ?_
      -- region 11 (place.go:19)
      refine Sx.wp_text [(0, .take), (1, .take), (2, .take), (3, .take), (4, .take)] rfl ?_
      refine Sx.st_take hT rfl rfl rfl rfl (Sx.x_move hT rfl rfl) ?_
      clear hT; intro a hT
      refine Sx.st_take hT rfl rfl rfl rfl (Sx.x_move hT rfl rfl) ?_
      clear hT; intro a hT
      refine Sx.st_take hT rfl rfl rfl rfl (Sx.x_ushr (s := 33) hT rfl rfl rfl (by omega)) ?_
      clear hT; intro a hT
      refine Sx.st_take hT rfl rfl rfl rfl (Sx.x_uxor hT rfl rfl rfl) ?_
      clear hT; intro a hT
      refine Sx.st_take hT rfl rfl rfl rfl (Sx.x_assign hT rfl rfl) ?_
      clear hT; intro a hT
      replace hT := hT.keep [3, 6, 23, 22, 21, 10, 9, 8, 2, 0] rfl
      refine Sx.ser_nil ?_
      refine Sx.then_normal (hK18 _ _ ?_)
      clear hK18
      -- region 12 (place.go:20)
      refine Sx.wp_text [(0, .take), (1, .take), (2, .take), (3, .take)] rfl ?_
      refine Sx.st_take hT rfl rfl rfl rfl (Sx.x_move hT rfl rfl) ?_
      clear hT; intro a hT
      refine Sx.st_take hT rfl rfl rfl rfl (Sx.x_move hT rfl rfl) ?_
      clear hT; intro a hT
      refine Sx.st_take hT rfl rfl rfl rfl ((fun w => Sx.x_mul w hT rfl rfl rfl (Sx.wrap_umul _ (hmul j)))) ?_
      clear hT; intro a hT
      refine Sx.st_take hT rfl rfl rfl rfl (Sx.x_assign hT rfl rfl) ?_
      clear hT; intro a hT
      replace hT := hT.keep [3, 6, 23, 22, 21, 10, 9, 8, 2, 0] rfl
      refine Sx.ser_nil ?_
      refine Sx.block_normal ?_
      refine Sx.then_normal (hK16 _ _ ?_)
      clear hK16
      -- region 13 (place.go:18)
      refine Sx.wp_text [(0, .take), (1, .take)] rfl ?_
      refine Sx.st_take hT rfl rfl rfl rfl ((fun w => Sx.x_add w hT rfl rfl rfl (Sx.wrap64 (by omega)))) ?_
      clear hT; intro a hT
      refine Sx.st_take hT rfl rfl rfl rfl (Sx.x_move hT rfl rfl) ?_
      clear hT; intro a hT
      replace hT := hT.keep [22, 3, 6, 23, 21, 10, 9, 8, 2, 0] rfl
      refine Sx.ser_nil ?_
      refine Sx.then_normal ?_
      exact ⟨j + 1, (by omega), ((hT.keep [22, 3, 21, 10, 9, 8, 2, 0] rfl).conv (by rw [hstage_succ, hmix_eq]; try rfl)), (H.keep [] rfl rfl), by omega⟩
    · try simp only [decide_eq_true_eq, decide_eq_false_iff_not, Bool.not_eq_true', Bool.not_eq_false', Bool.not_eq_true, Bool.not_eq_false, Bool.and_eq_true, Bool.or_eq_false_iff, beq_iff_eq, bne_iff_ne, Int.not_lt, Int.not_le, ne_eq] at hc15
      have hj2 : j = 2 := by omega
      rw [hj2] at hT
      refine wp_exit ?_
      refine Sx.then_exit ?_
      refine Sx.then_exit ?_
      refine Sx.block_exit ?_
      refine Sx.then_normal (hK11 _ _ ?_)
      clear hK11
      refine wp_seq_k fun K19 hK19 => ?_
      -- region 14 (place.go:22)
      refine Sx.wp_text [(0, .take), (1, .take), (2, .take), (3, .take), (4, .take)] rfl ?_
      refine Sx.st_take hT rfl rfl rfl rfl (Sx.x_move hT rfl rfl) ?_
      clear hT; intro a hT
      refine Sx.st_take hT rfl rfl rfl rfl (Sx.x_move hT rfl rfl) ?_
      clear hT; intro a hT
      refine Sx.st_take hT rfl rfl rfl rfl (Sx.x_ushr (s := 33) hT rfl rfl rfl (by omega)) ?_
      clear hT; intro a hT
      refine Sx.st_take hT rfl rfl rfl rfl (Sx.x_uxor hT rfl rfl rfl) ?_
      clear hT; intro a hT
      refine Sx.st_take hT rfl rfl rfl rfl (Sx.x_assign hT rfl rfl) ?_
      clear hT; intro a hT
      replace hT := hT.keep [2, 23, 22, 3, 21, 10, 9, 8, 0] rfl
      refine Sx.ser_nil ?_
      refine Sx.then_normal (hK19 _ _ ?_)
      clear hK19
      refine wp_ret ?_
      refine Sx.done1 (fn := Try.f46) hT rfl (.tmp (hT.get 2 _ rfl)) ?_
      refine ⟨?_, H.ext⟩
      unfold hashF
      try rfl

theorem quo_num {n : Int} : fnum (fop .quo (fofint n) 4845873199050653696) = true := by
  have hn : fnum (fofint n) = true := nearest_num _ _ _
  rw [fnum_read] at hn
  unfold fop
  cases hb : floatBits .quo .f64 (fofint n) 4845873199050653696 with
  | some r => exact floatBits_num hb
  | none =>
    exfalso
    have e0 : Ieee.double.read 4845873199050653696 = .number false 4503599627370496 1 := by decide +kernel
    have h2 : (Ieee.double.read (fofint n)).quotient (Ieee.double.fractionBits + 2) (Ieee.double.read 4845873199050653696) = none := by
      have : ((Ieee.double.read (fofint n)).quotient (Ieee.double.fractionBits + 2) (Ieee.double.read 4845873199050653696)).map Ieee.double.write = none := hb
      simpa using this
    rw [e0] at h2
    cases hx : Ieee.double.read (fofint n) with
    | nan s t => rw [hx] at hn; cases hn
    | infinity s => rw [hx] at h2; simp [Ieee.Datum.quotient] at h2
    | number s m i => rw [hx] at h2; simp [Ieee.Datum.quotient] at h2
theorem can_num {v r : Nat} (h : fcan v = r) (hr : fnum r = true) : v = r := by
  cases hv : fnum v with
  | true => rw [fcan_num hv] at h; exact h
  | false =>
    rw [fcan_nan hv] at h
    rw [← h, fnan_not] at hr
    cases hr

theorem Of_calls (l : List UInt8) (hl : l.length ≤ 9223372036854775807) (w : World) : Calls Try.prog 34 #[.string ⟨l.toArray⟩] w fun e w' => e = .returned (.float .f64 (ofF l)) ∧ Ext No w w' := by
  refine Sx.calls_into Try.func34 rfl Try.ntmps34 rfl fun a hT => ?_
  replace hT := hT.keep [0] rfl
  have H : Sx.Hp w (Sx.No) w [] := Sx.Hp.start _ _
  refine wp_seq_k fun K1 hK1 => ?_
  -- region 0 (place.go:26)
  refine Sx.wp_text [(0, .take)] rfl ?_
  refine Sx.st_take hT rfl rfl rfl rfl (Sx.x_assign hT rfl rfl) ?_
  clear hT; intro a hT
  replace hT := hT.keep [2, 0] rfl
  refine Sx.ser_nil ?_
  refine Sx.then_normal (hK1 _ _ ?_)
  clear hK1
  refine wp_seq_k fun K2 hK2 => ?_
  -- region 1 (place.go:26)
  refine Sx.wp_text [(0, .take), (1, .run), (2, .take), (3, .take), (4, .run), (5, .take)] rfl ?_
  refine Sx.st_take hT rfl rfl rfl rfl (Sx.x_move hT rfl rfl) ?_
  clear hT; intro a hT
  refine Sx.st_call hT rfl rfl rfl rfl rfl Try.can46 rfl (Hash_calls l hl _) ?_
  rintro _ w1 ⟨rfl, E⟩
  refine ⟨_, rfl, ?_⟩
  clear hT; intro a hT
  replace H := H.pure E; clear E
  refine Sx.st_take hT rfl rfl rfl rfl (Sx.x_ushr (s := 11) hT rfl rfl rfl (by omega)) ?_
  clear hT; intro a hT
  refine Sx.st_take hT rfl rfl rfl rfl (Sx.x_i2f hT rfl Try.underlying75 Try.underlying35 rfl) ?_
  clear hT; intro a hT
  refine Sx.st_eff hT rfl rfl rfl rfl (Sx.x_farith hT rfl rfl rfl (by simp) _) ?_
  rintro _ w2 ⟨fv1_4, rfl, hf1_4, E⟩
  clear hT; intro a hT
  replace H := H.pure E; clear E
  refine Sx.st_take hT rfl rfl rfl rfl (Sx.x_assign hT rfl rfl) ?_
  clear hT; intro a hT
  replace hT := hT.keep [2, 0] rfl
  refine Sx.ser_nil ?_
  refine Sx.then_normal (hK2 _ _ ?_)
  clear hK2
  refine wp_ret ?_
  refine Sx.done1 (fn := Try.f34) hT rfl (.tmp (hT.get 2 _ rfl)) ?_
  refine ⟨ret_f ?_, H.ext⟩
  clear hT H
  unfold ofF
  exact can_num hf1_4 quo_num

theorem Key_calls (l : List UInt8) (hl : l.length ≤ 9223372036854775807) (w : World) : Calls Try.prog 33 #[.string ⟨l.toArray⟩] w fun e w' => e = .returned (.bool (keyF l)) ∧ Ext No w w' := by
  refine Sx.calls_into Try.func33 rfl Try.ntmps33 rfl fun a hT => ?_
  replace hT := hT.keep [0] rfl
  have H : Sx.Hp w (Sx.No) w [] := Sx.Hp.start _ _
  refine wp_seq_k fun K1 hK1 => ?_
  -- region 0 (datum.go:13)
  refine Sx.wp_text [(0, .take)] rfl ?_
  refine Sx.st_take hT rfl rfl rfl rfl (Sx.x_assign hT rfl rfl) ?_
  clear hT; intro a hT
  replace hT := hT.keep [2, 0] rfl
  refine Sx.ser_nil ?_
  refine Sx.then_normal (hK1 _ _ ?_)
  clear hK1
  refine wp_seq_k fun K2 hK2 => ?_
  -- region 1 (datum.go:13)
  refine Sx.wp_text [(0, .take), (1, .take), (2, .take), (3, .take), (4, .take), (5, .take), (6, .take), (7, .take), (8, .take)] rfl ?_
  refine Sx.st_take hT rfl rfl rfl rfl (Sx.x_move hT rfl rfl) ?_
  clear hT; intro a hT
  refine Sx.st_take hT rfl rfl rfl rfl (Sx.x_lenStr hT rfl rfl Try.underlying9 rfl) ?_
  clear hT; intro a hT
  refine Sx.st_take hT rfl rfl rfl rfl ((fun w => Sx.x_ge w hT rfl rfl rfl)) ?_
  clear hT; intro a hT
  refine Sx.st_take hT rfl rfl rfl rfl (Sx.x_move hT rfl rfl) ?_
  clear hT; intro a hT
  -- guard (1, 3)
  refine Sx.Sl.two hT 6 rfl (fun hc3 hT => ?_) (fun hc3 hT => ?_)
  · try simp only [decide_eq_true_eq, decide_eq_false_iff_not, Bool.not_eq_true', Bool.not_eq_false', Bool.not_eq_true, Bool.not_eq_false, Bool.and_eq_true, Bool.or_eq_false_iff, beq_iff_eq, bne_iff_ne, Int.not_lt, Int.not_le, ne_eq] at hc3
    refine Sx.st_take hT rfl rfl rfl rfl (Sx.x_move hT rfl rfl) ?_
    clear hT; intro a hT
    refine Sx.st_take hT rfl rfl rfl rfl (Sx.x_lenStr hT rfl rfl Try.underlying9 rfl) ?_
    clear hT; intro a hT
    refine Sx.st_take hT rfl rfl rfl rfl ((fun w => Sx.x_le w hT rfl rfl rfl)) ?_
    clear hT; intro a hT
    refine Sx.st_take hT rfl rfl rfl rfl (Sx.x_pick_t hT rfl rfl rfl) ?_
    clear hT; intro a hT
    refine Sx.st_take hT rfl rfl rfl rfl (Sx.x_assign hT rfl rfl) ?_
    clear hT; intro a hT
    replace hT := hT.keep [2, 0] rfl
    refine Sx.ser_nil ?_
    refine Sx.then_normal (hK2 _ _ ?_)
    clear hK2
    refine wp_ret ?_
    refine Sx.done1 (fn := Try.f33) hT rfl (.tmp (hT.get 2 _ rfl)) ?_
    refine ⟨ret_b ?_, H.ext⟩
    clear hT H
    unfold keyF
    rw [Bool.eq_iff_iff]
    simp only [Bool.and_eq_true, decide_eq_true_eq, Bool.false_eq_true, false_iff, not_and]
    omega
  · try simp only [decide_eq_true_eq, decide_eq_false_iff_not, Bool.not_eq_true', Bool.not_eq_false', Bool.not_eq_true, Bool.not_eq_false, Bool.and_eq_true, Bool.or_eq_false_iff, beq_iff_eq, bne_iff_ne, Int.not_lt, Int.not_le, ne_eq] at hc3
    refine Sx.st_skip hT rfl rfl rfl rfl ?_
    clear hT; intro a hT
    refine Sx.st_skip hT rfl rfl rfl rfl ?_
    clear hT; intro a hT
    refine Sx.st_skip hT rfl rfl rfl rfl ?_
    clear hT; intro a hT
    refine Sx.st_take hT rfl rfl rfl rfl (Sx.x_pick_f hT rfl rfl rfl) ?_
    clear hT; intro a hT
    refine Sx.st_take hT rfl rfl rfl rfl (Sx.x_assign hT rfl rfl) ?_
    clear hT; intro a hT
    replace hT := hT.keep [2, 0] rfl
    refine Sx.ser_nil ?_
    refine Sx.then_normal (hK2 _ _ ?_)
    clear hK2
    refine wp_ret ?_
    refine Sx.done1 (fn := Try.f33) hT rfl (.tmp (hT.get 2 _ rfl)) ?_
    refine ⟨ret_b ?_, H.ext⟩
    clear hT H
    unfold keyF
    rw [Bool.eq_iff_iff]
    simp only [Bool.and_eq_true, decide_eq_true_eq, Bool.false_eq_true, false_iff, not_and]
    omega

theorem In_calls (r : Rg) (x : Nat) (w : World) : Calls Try.prog 35 #[.agg #[.int .i64 r.id, .int .i64 r.epoch, .float .f64 r.lo, .float .f64 r.hi], .float .f64 x] w fun e w' => e = .returned (.bool (inF r x)) ∧ Ext No w w' := by
  refine Sx.calls_into Try.func35 rfl Try.ntmps35 rfl fun a hT => ?_
  replace hT := hT.keep [0, 1] rfl
  have H : Sx.Hp w (Sx.No) w [] := Sx.Hp.start _ _
  refine wp_seq_k fun K1 hK1 => ?_
  -- region 0 (place.go:56)
  refine Sx.wp_text [(0, .run), (1, .take)] rfl ?_
  refine Sx.st_eff hT rfl rfl rfl rfl (Sx.y_box hT rfl rfl rfl _) ?_
  clear hT; rintro _ w1 ⟨b1, rfl, N⟩ a hT
  replace H := H.new N; clear N
  refine Sx.st_take hT rfl rfl rfl rfl (Sx.x_assign hT rfl rfl) ?_
  clear hT; intro a hT
  replace hT := hT.keep [4, 2, 0, 1] rfl
  refine Sx.ser_nil ?_
  refine Sx.then_normal (hK1 _ _ ?_)
  clear hK1
  refine wp_seq_k fun K2 hK2 => ?_
  -- region 1 (place.go:56)
  refine Sx.wp_text [(0, .take), (1, .take), (2, .run), (3, .take), (4, .take), (5, .take), (6, .take), (7, .run), (8, .take), (9, .take), (10, .take)] rfl ?_
  refine Sx.st_take hT rfl rfl rfl rfl (Sx.x_move hT rfl rfl) ?_
  clear hT; intro a hT
  refine Sx.st_take hT rfl rfl rfl rfl (Sx.x_fieldAddr hT rfl Try.fa37_2 rfl) ?_
  clear hT; intro a hT
  refine Sx.st_run hT rfl rfl rfl rfl (Sx.x_load1 hT rfl Try.fl35 rfl ((H.blk 0 rfl).nth rfl)) ?_
  clear hT; intro a hT
  refine Sx.st_take hT rfl rfl rfl rfl (Sx.x_fge hT rfl rfl rfl) ?_
  clear hT; intro a hT
  refine Sx.st_take hT rfl rfl rfl rfl (Sx.x_move hT rfl rfl) ?_
  clear hT; intro a hT
  -- guard (1, 4)
  refine Sx.Sl.two hT 9 rfl (fun hc3 hT => ?_) (fun hc3 hT => ?_)
  · try simp only [decide_eq_true_eq, decide_eq_false_iff_not, Bool.not_eq_true', Bool.not_eq_false', Bool.not_eq_true, Bool.not_eq_false, Bool.and_eq_true, Bool.or_eq_false_iff, beq_iff_eq, bne_iff_ne, Int.not_lt, Int.not_le, ne_eq] at hc3
    refine Sx.st_take hT rfl rfl rfl rfl (Sx.x_move hT rfl rfl) ?_
    clear hT; intro a hT
    refine Sx.st_take hT rfl rfl rfl rfl (Sx.x_fieldAddr hT rfl Try.fa37_3 rfl) ?_
    clear hT; intro a hT
    refine Sx.st_run hT rfl rfl rfl rfl (Sx.x_load1 hT rfl Try.fl35 rfl ((H.blk 0 rfl).nth rfl)) ?_
    clear hT; intro a hT
    refine Sx.st_take hT rfl rfl rfl rfl (Sx.x_flt hT rfl rfl rfl) ?_
    clear hT; intro a hT
    refine Sx.st_take hT rfl rfl rfl rfl (Sx.x_pick_t hT rfl rfl rfl) ?_
    clear hT; intro a hT
    refine Sx.st_take hT rfl rfl rfl rfl (Sx.x_assign hT rfl rfl) ?_
    clear hT; intro a hT
    replace hT := hT.keep [4, 2, 0, 1] rfl
    refine Sx.ser_nil ?_
    refine Sx.then_normal (hK2 _ _ ?_)
    clear hK2
    refine wp_ret ?_
    refine Sx.done1 (fn := Try.f35) hT rfl (.tmp (hT.get 4 _ rfl)) ?_
    refine ⟨ret_b ?_, H.ext⟩
    clear hT H
    unfold inF
    simp_all
  · try simp only [decide_eq_true_eq, decide_eq_false_iff_not, Bool.not_eq_true', Bool.not_eq_false', Bool.not_eq_true, Bool.not_eq_false, Bool.and_eq_true, Bool.or_eq_false_iff, beq_iff_eq, bne_iff_ne, Int.not_lt, Int.not_le, ne_eq] at hc3
    refine Sx.st_skip hT rfl rfl rfl rfl ?_
    clear hT; intro a hT
    refine Sx.st_skip hT rfl rfl rfl rfl ?_
    clear hT; intro a hT
    refine Sx.st_runskip hT rfl rfl rfl rfl ?_
    clear hT; intro a hT
    refine Sx.st_skip hT rfl rfl rfl rfl ?_
    clear hT; intro a hT
    refine Sx.st_take hT rfl rfl rfl rfl (Sx.x_pick_f hT rfl rfl rfl) ?_
    clear hT; intro a hT
    refine Sx.st_take hT rfl rfl rfl rfl (Sx.x_assign hT rfl rfl) ?_
    clear hT; intro a hT
    replace hT := hT.keep [4, 2, 0, 1] rfl
    refine Sx.ser_nil ?_
    refine Sx.then_normal (hK2 _ _ ?_)
    clear hK2
    refine wp_ret ?_
    refine Sx.done1 (fn := Try.f35) hT rfl (.tmp (hT.get 4 _ rfl)) ?_
    refine ⟨ret_b ?_, H.ext⟩
    clear hT H
    unfold inF
    simp_all

end Go.Proofs.Ytakohabmcgponaa
