/- Walks: numbers in order. -/
import Derived.Test.YtmhfmbgjnebcfaaW2
import Derived.Test.YtmhfmbgjnebcfaaN2
import Derived.Test.YtmhfmbgjnebcfaaSxU
import Derived.Test.YtmhfmbgjnebcfaaShelf
set_option linter.unusedSimpArgs false
set_option linter.unusedVariables false
namespace Go.Proofs.Ytmhfmbgjnebcfaa
open Sx
theorem Try.can18 : Sx.Can Try.prog 18 := ⟨_, Try.func18, by kernel_rfl, rfl⟩
theorem Try.can26 : Sx.Can Try.prog 26 := ⟨_, Try.func26, by kernel_rfl, rfl⟩
theorem Try.can47 : Sx.Can Try.prog 47 := ⟨_, Try.func47, by kernel_rfl, rfl⟩
theorem fl_map (ls : List CF) : (ls.map CF.v).flatMap fcell = ls.map fval := by
  induction ls with
  | nil => rfl
  | cons x ls ih => rw [List.map_cons, List.flatMap_cons, ih]; rfl
theorem map_can {l : List Nat} : (l.map fcan).map fcan = l.map fcan := by
  rw [List.map_map]
  congr 1
  funext b
  exact fcan_fcan b
theorem SortF_calls {S : Nat → Prop} {ad : Option Addr} {c : Nat} (l : List Nat) (hb : ∀ b ∈ l, b < 2 ^ 64) {w : World} (H : Hp w S w [cR 22 1 ad l.length c ((l.map fcan).flatMap fcell)]) (hl : l.length ≤ 1000000) :
    Calls Try.prog 47 #[.slice ad l.length c, .func (.func 48) #[] #[]] w fun e w' => e = .returned (.tuple #[]) ∧ ∃ s, SortOf l s ∧ Hp w S w' [cR 22 1 ad l.length c (s.flatMap fcell)] := by
  obtain ⟨ls, e⟩ := CF.lists hb
  have hr := H.row 0 rfl
  have e1 : (l.map fcan).flatMap fcell = ls.map fval := by rw [← e, fl_map]
  have e2 : ls.length = l.length := by have := congrArg List.length e; simpa using this
  rcases Nat.eq_zero_or_pos l.length with h0 | h0
  · have hl0 : l = [] := List.eq_nil_of_length_eq_zero h0
    subst hl0
    refine (Try.slices_SortFunc_none (α := CF) ad c _ w).mono fun e w' h => ?_
    obtain ⟨h1, rfl⟩ := h
    exact ⟨h1, [], ⟨.refl _, List.Pairwise.nil⟩, H⟩
  · have hle := hr.le
    obtain ⟨junk, ha, hB, -⟩ := hr.at_ (by omega)
    have hr2 := hr
    rw [e1, ha] at hr2
    have hh := row_holds hr2 (by omega)
    have key := Try.slices_SortFunc_total (α := CF) fval (fun x => rfl) ccf swo_ccf 48 #[] (ab ad) 0 c ls.toArray w (fun args w => Sx.run_callFunc Try.can48) (cmp_lays fun x y w => Cmp_calls x.v y.v w) hh hB.lt (by rw [List.size_toArray]; omega) ccf_total
    rw [List.size_toArray, e2, ← ha] at key
    refine key.mono fun e' w' h => ?_
    obtain ⟨h1, n, os, rfl⟩ := h
    have hd : ((ls.toArray.toList.mergeSort fun x y => !(Go.Proofs.ltOf ccf) y x).toArray : Array CF).size = l.length := by
      rw [List.size_toArray, List.length_mergeSort, ← e2]
    obtain ⟨h3, h4⟩ := sortRow (m := n) (os := os) hr2 (by omega) h0 hd
    rw [← ha] at h3
    have ho : Own ad = One (ab ad) := by rw [ha]; exact Own.one
    refine ⟨h1, _, merge_sort e, ?_⟩
    rw [fl_map]
    exact H.setR 0 rfl h3 (by rw [ho]; exact h4) (fun k hk => .inl hk) rfl

theorem tk_snoc {l : List Nat} {k o : Nat} (h : l[k]? = some o) : (l.map fcan).take (k + 1) = (l.map fcan).take k ++ [fcan o] := by
  obtain ⟨hk, rfl⟩ := List.getElem?_eq_some_iff.1 h
  rw [List.take_succ_eq_append_getElem (by simpa using hk)]
  simp
theorem tk_len {l : List Nat} {k : Nat} (h : k ≤ l.length) : ((l.map fcan).take k).length = k := by rw [List.length_take, List.length_map]; omega
theorem tk_flat {l : List Nat} {k o : Nat} (h : l[k]? = some o) : ((l.map fcan).take k).flatMap fcell ++ [.float .f64 (fcan o)] = ((l.map fcan).take (k + 1)).flatMap fcell := by
  rw [tk_snoc h, List.flatMap_append]; rfl

theorem Sorted_calls (ad : Option Addr) (c : Nat) (l : List Nat) (w : World) (hs : Ss w ad fcell 1 l) (hl : l.length ≤ 1000000) (hb : ∀ b ∈ l, b < 2 ^ 64) : Calls Try.prog 18 #[.slice ad l.length c] w fun e w' => ∃ ad' c' s, e = .returned (.slice ad' l.length c') ∧ SortOf l s ∧ Hp w No w' [cR 22 1 ad' l.length c' (s.flatMap fcell)] := by
  have R : Ro w No _ := Ro.of fun w' x => hs.ext_no x
  refine Sx.calls_into Try.func18 rfl Try.ntmps18 rfl fun a hT => ?_
  replace hT := hT.keep [0] rfl
  have H : Sx.Hp w (Sx.No) w [] := Sx.Hp.start _ _
  refine wp_seq_k fun K1 hK1 => ?_
  -- region 0 (pace.go:33)
  refine Sx.wp_text [(0, .take)] rfl ?_
  refine Sx.st_take hT rfl rfl rfl rfl (Sx.x_assign hT rfl rfl) ?_
  clear hT; intro a hT
  replace hT := hT.keep [2, 0] rfl
  refine Sx.ser_nil ?_
  refine Sx.then_normal (hK1 _ _ ?_)
  clear hK1
  refine wp_seq_k fun K2 hK2 => ?_
  -- region 1 (pace.go:34)
  refine Sx.wp_text [(0, .take)] rfl ?_
  refine Sx.st_take hT rfl rfl rfl rfl (Sx.x_assign hT rfl rfl) ?_
  clear hT; intro a hT
  replace hT := hT.keep [3, 2, 0] rfl
  refine Sx.ser_nil ?_
  refine Sx.then_normal (hK2 _ _ ?_)
  clear hK2
  refine wp_seq_k fun K3 hK3 => ?_
  refine wp_seq_k fun K4 hK4 => ?_
  -- region 2 (pace.go:35)
  refine Sx.wp_text [(0, .take), (1, .take), (2, .take)] rfl ?_
  refine Sx.st_take hT rfl rfl rfl rfl (Sx.x_move hT rfl rfl) ?_
  clear hT; intro a hT
  refine Sx.st_take hT rfl rfl rfl rfl (Sx.x_len_slice hT rfl rfl Try.underlying30 rfl) ?_
  clear hT; intro a hT
  refine Sx.st_take hT rfl rfl rfl rfl (Sx.x_move hT rfl rfl) ?_
  clear hT; intro a hT
  replace hT := hT.keep [8, 7, 6, 3, 2, 0] rfl
  refine Sx.ser_nil ?_
  refine Sx.then_normal (hK4 _ _ ?_)
  clear hK4
  refine wp_block ?_
  replace H := H.nilR 22 1
  -- loop 0
  refine Sx.wp_loopH (G := Nat × Option Addr × Nat) (fun ⟨k, ad2, c2⟩ => [(8, .int .i64 (k : Int)), (3, .slice ad2 k c2)]) (fun ⟨k, ad2, c2⟩ => [cR 22 1 ad2 k c2 (((l.map fcan).take k).flatMap fcell)]) (fun ⟨k, ad2, c2⟩ => k ≤ l.length) (fun ⟨k, ad2, c2⟩ => l.length - k) (0, none, 0) (hT.keep [8, 3, 7, 6, 2, 0] rfl) (H.keep [0] rfl rfl) ((Nat.zero_le _)) ?_
  clear hT H
  rintro ⟨k, ad2, c2⟩ a w1 hJ hT H
  replace hT := hT.keep [8, 3, 7, 6, 2, 0] rfl
  replace H := H.keep [0] rfl rfl
  have hk : k ≤ l.length := hJ
  refine wp_seq_k fun K5 hK5 => ?_
  -- region 3 (pace.go:35)
  refine Sx.wp_text [(0, .take)] rfl ?_
  refine Sx.st_take hT rfl rfl rfl rfl ((fun w => Sx.x_lt w hT rfl rfl rfl)) ?_
  clear hT; intro a hT
  replace hT := hT.keep [9, 8, 3, 7, 6, 2, 0] rfl
  refine Sx.ser_nil ?_
  refine Sx.then_normal (hK5 _ _ ?_)
  clear hK5
  refine wp_seq_k fun K6 hK6 => ?_
  -- cond 0
  refine Sx.wp_if hT rfl (fun hc7 => ?_) (fun hc7 => ?_)
  · try simp only [decide_eq_true_eq, decide_eq_false_iff_not, Bool.not_eq_true', Bool.not_eq_false', Bool.not_eq_true, Bool.not_eq_false, Bool.and_eq_true, Bool.or_eq_false_iff, beq_iff_eq, bne_iff_ne, Int.not_lt, Int.not_le, ne_eq] at hc7
    obtain ⟨o, ho⟩ : ∃ o, l[k]? = some o := ⟨_, List.getElem?_eq_getElem (by omega)⟩
    refine wp_skip ?_
    refine Sx.then_normal (hK6 _ _ ?_)
    clear hK6
    refine wp_seq_k fun K8 hK8 => ?_
    refine wp_block ?_
    refine wp_seq_k fun K9 hK9 => ?_
    -- region 4 (pace.go:35)
    refine Sx.wp_text [(0, .take), (1, .run), (2, .take)] rfl ?_
    refine Sx.st_take hT rfl rfl rfl rfl (Sx.x_index hT rfl Try.underlying30 Try.ti22 (R.at H.ext).sv rfl rfl rfl (by omega)) ?_
    clear hT; intro a hT
    refine Sx.st_run hT rfl rfl rfl rfl (Sx.x_load1 hT rfl Try.fl22 rfl ((R.at H.ext).cell (j := 0) fcell_len ho rfl)) ?_
    clear hT; intro a hT
    refine Sx.st_take hT rfl rfl rfl rfl (Sx.x_assign hT rfl rfl) ?_
    clear hT; intro a hT
    replace hT := hT.keep [5, 9, 8, 3, 7, 6, 2, 0] rfl
    refine Sx.ser_nil ?_
    refine Sx.then_normal (hK9 _ _ ?_)
    clear hK9
    -- region 5 (pace.go:36)
    refine Sx.wp_text [(0, .take), (1, .take), (2, .run), (3, .run), (4, .run), (5, .take)] rfl ?_
    refine Sx.st_take hT rfl rfl rfl rfl (Sx.x_move hT rfl rfl) ?_
    clear hT; intro a hT
    refine Sx.st_take hT rfl rfl rfl rfl (Sx.x_move hT rfl rfl) ?_
    clear hT; intro a hT
    refine Sx.st_call hT rfl rfl rfl rfl rfl Try.can38 rfl (Canon_calls _ _) ?_
    rintro _ w2 ⟨rfl, E⟩
    refine ⟨_, rfl, ?_⟩
    clear hT; intro a hT
    replace H := H.pure E; clear E
    refine Sx.st_eff hT rfl rfl rfl rfl (Sx.y_slice1 hT rfl Try.underlying30 Try.ti22 rfl rfl rfl rfl rfl rfl _) ?_
    clear hT; rintro _ w3 ⟨b1, rfl, N⟩ a hT
    replace H := H.new N; clear N
    refine Sx.st_eff hT rfl rfl rfl rfl (Sx.x_append hT rfl rfl Try.underlying30 Try.ti22 rfl (by decide) rfl rfl (H.row 1 rfl) ((H.blk 0 rfl).sv1 rfl) (by simp [Value.oneCell']) (fun h => by cases h) (by unfold maxLen; omega) (by omega)) ?_
    rintro _ w4 ⟨ad4, c4, rfl, hr, E, hown, -⟩
    clear hT; intro a hT
    replace H := H.setR 1 rfl hr E hown rfl; clear hr E hown
    refine Sx.st_take hT rfl rfl rfl rfl (Sx.x_assign hT rfl rfl) ?_
    clear hT; intro a hT
    replace hT := hT.keep [3, 5, 9, 8, 7, 6, 2, 0] rfl
    refine Sx.ser_nil ?_
    refine Sx.block_normal ?_
    refine Sx.then_normal (hK8 _ _ ?_)
    clear hK8
    -- region 6 (pace.go:35)
    refine Sx.wp_text [(0, .take), (1, .take)] rfl ?_
    refine Sx.st_take hT rfl rfl rfl rfl ((fun w => Sx.x_add w hT rfl rfl rfl (Sx.wrap64 (by omega)))) ?_
    clear hT; intro a hT
    refine Sx.st_take hT rfl rfl rfl rfl (Sx.x_move hT rfl rfl) ?_
    clear hT; intro a hT
    replace hT := hT.keep [8, 3, 5, 9, 7, 6, 2, 0] rfl
    refine Sx.ser_nil ?_
    refine Sx.then_normal ?_
    rw [tk_flat ho] at H
    exact ⟨(k + 1, ad4, c4), (show k + 1 ≤ _ by omega), (hT.keep [8, 3, 7, 6, 2, 0] rfl), (H.keep [1] rfl rfl), by show _ - (k + 1) < _ - k; omega⟩
  · try simp only [decide_eq_true_eq, decide_eq_false_iff_not, Bool.not_eq_true', Bool.not_eq_false', Bool.not_eq_true, Bool.not_eq_false, Bool.and_eq_true, Bool.or_eq_false_iff, beq_iff_eq, bne_iff_ne, Int.not_lt, Int.not_le, ne_eq] at hc7
    obtain rfl : k = l.length := by omega
    rw [List.take_of_length_le (by rw [List.length_map]; exact Nat.le_refl _)] at H
    refine wp_exit ?_
    refine Sx.then_exit ?_
    refine Sx.then_exit ?_
    refine Sx.block_exit ?_
    refine Sx.then_normal (hK3 _ _ ?_)
    clear hK3
    refine wp_seq_k fun K10 hK10 => ?_
    -- region 7 (pace.go:38)
    refine Sx.wp_text [(0, .take), (1, .run)] rfl ?_
    refine Sx.st_take hT rfl rfl rfl rfl (Sx.x_move hT rfl rfl) ?_
    clear hT; intro a hT
    refine Sx.st_call hT rfl rfl rfl rfl rfl Try.can47 rfl (SortF_calls l hb (H.pre [0] rfl rfl) hl) ?_
    rintro _ w5 ⟨rfl, s, hso, K⟩
    refine ⟨_, rfl, ?_⟩
    clear hT; intro a hT
    replace H := H.back [0] [] rfl rfl rfl K rfl; clear K
    replace hT := hT.keep [9, 8, 3, 7, 6, 2, 0] rfl
    refine Sx.ser_nil ?_
    refine Sx.then_normal (hK10 _ _ ?_)
    clear hK10
    refine wp_seq_k fun K11 hK11 => ?_
    -- region 8 (pace.go:39)
    refine Sx.wp_text [(0, .take), (1, .take)] rfl ?_
    refine Sx.st_take hT rfl rfl rfl rfl (Sx.x_move hT rfl rfl) ?_
    clear hT; intro a hT
    refine Sx.st_take hT rfl rfl rfl rfl (Sx.x_assign hT rfl rfl) ?_
    clear hT; intro a hT
    replace hT := hT.keep [2, 9, 8, 3, 7, 6, 0] rfl
    refine Sx.ser_nil ?_
    refine Sx.then_normal (hK11 _ _ ?_)
    clear hK11
    refine wp_ret ?_
    refine Sx.done1 (fn := Try.f18) hT rfl (.tmp (hT.get 2 _ rfl)) ?_
    exact ⟨_, _, s, rfl, hso, H.keep [0] rfl rfl⟩

theorem low_of {l S : List Nat} {j : Nat} {y : Nat} {r : Int} (h : SortOf l S) (hy : S[j]? = some y) (hr : rank y ≤ r) : ∀ t z, t < j + 1 → S[t]? = some z → rank z ≤ r := fun t z ht hz => by
  rcases Nat.lt_or_ge t j with h1 | h1
  · have hp := h.2
    unfold Rising at hp
    rw [List.pairwise_iff_getElem] at hp
    obtain ⟨a1, rfl⟩ := List.getElem?_eq_some_iff.1 hz
    obtain ⟨a2, rfl⟩ := List.getElem?_eq_some_iff.1 hy
    have := hp t j a1 a2 h1
    omega
  · obtain rfl : t = j := by omega
    rw [hy] at hz; cases hz; exact hr
theorem set_mid {S ys : List Nat} {j x : Nat} (hl : ys.length = S.length + 1) (hj : j ≤ S.length) (h1 : ∀ t y, t < j → S[t]? = some y → ys[t]? = some y) (h2 : ∀ t y, j ≤ t → S[t]? = some y → ys[t + 1]? = some y) : ys.set j x = S.take j ++ x :: S.drop j := by
  apply List.ext_getElem?
  intro t
  have htl : (S.take j).length = j := by rw [List.length_take]; omega
  rcases Nat.lt_trichotomy t j with h | h | h
  · rw [List.getElem?_set_ne (by omega), List.getElem?_append_left (by omega), List.getElem?_take, if_pos h]
    obtain ⟨y, hy⟩ : ∃ y, S[t]? = some y := ⟨_, List.getElem?_eq_getElem (by omega)⟩
    rw [h1 t y h hy, hy]
  · subst h
    rw [List.getElem?_set_self (by omega), List.getElem?_append_right (by omega), htl, Nat.sub_self]
    rfl
  · rw [List.getElem?_set_ne (by omega), List.getElem?_append_right (by omega), htl, show t - j = (t - j - 1) + 1 from by omega, List.getElem?_cons_succ, List.getElem?_drop, show j + (t - j - 1) = t - 1 from by omega]
    by_cases ht : t - 1 < S.length
    · obtain ⟨y, hy⟩ : ∃ y, S[t - 1]? = some y := ⟨_, List.getElem?_eq_getElem ht⟩
      rw [hy]
      have := h2 (t - 1) y (by omega) hy
      rwa [show t - 1 + 1 = t from by omega] at this
    · rw [List.getElem?_eq_none (by omega), List.getElem?_eq_none (by omega)]
def XJ (S ys : List Nat) (o j : Nat) : Prop := j ≤ S.length ∧ ys.length = S.length + 1 ∧ (∀ t y, t < j → S[t]? = some y → ys[t]? = some y) ∧ (∀ t y, j ≤ t → S[t]? = some y → ys[t + 1]? = some y ∧ rank o ≤ rank y)
theorem XJ.start (S : List Nat) (o x : Nat) : XJ S (S ++ [x]) o S.length := ⟨Nat.le_refl _, by simp, fun t y ht hy => by rw [List.getElem?_append_left ht]; exact hy, fun t y ht hy => by have := (List.getElem?_eq_some_iff.1 hy).1; omega⟩
theorem XJ.step {S ys : List Nat} {o j y : Nat} (h : XJ S ys o j) (hj : 0 < j) (hy : S[j - 1]? = some y) (hr : rank o ≤ rank y) : XJ S (ys.set j y) o (j - 1) := by
  obtain ⟨h1, h2, h3, h4⟩ := h
  refine ⟨by omega, by rw [List.length_set]; exact h2, fun t z ht hz => ?_, fun t z ht hz => ?_⟩
  · rw [List.getElem?_set_ne (by omega)]
    exact h3 t z (by omega) hz
  · rcases Nat.lt_or_ge t j with h5 | h5
    · obtain rfl : t = j - 1 := by omega
      rw [hy] at hz; cases hz
      rw [show j - 1 + 1 = j from by omega, List.getElem?_set_self (by omega)]
      exact ⟨rfl, hr⟩
    · rw [List.getElem?_set_ne (by omega)]
      exact h4 t z h5 hz
theorem XJ.end_ {S ys : List Nat} {o j x : Nat} (h : XJ S ys o j) : ys.set j x = S.take j ++ x :: S.drop j := set_mid h.2.1 h.1 h.2.2.1 fun t y a b => (h.2.2.2 t y a b).1

theorem xSorted_calls (ad : Option Addr) (c : Nat) (l : List Nat) (w : World) (hs : Ss w ad fcell 1 l) (hl : l.length ≤ 1000000) (hb : ∀ b ∈ l, b < 2 ^ 64) : Calls Try.prog 26 #[.slice ad l.length c] w fun e w' => ∃ ad' c' s, e = .returned (.slice ad' l.length c') ∧ SortOf l s ∧ Hp w No w' [cR 22 1 ad' l.length c' (s.flatMap fcell)] := by
  have R : Ro w No _ := Ro.of fun w' x => hs.ext_no x
  refine Sx.calls_into Try.func26 rfl Try.ntmps26 rfl fun a hT => ?_
  replace hT := hT.keep [0] rfl
  have H : Sx.Hp w (Sx.No) w [] := Sx.Hp.start _ _
  refine wp_seq_k fun K1 hK1 => ?_
  -- region 0 (ref.go:35)
  refine Sx.wp_text [(0, .take)] rfl ?_
  refine Sx.st_take hT rfl rfl rfl rfl (Sx.x_assign hT rfl rfl) ?_
  clear hT; intro a hT
  replace hT := hT.keep [2, 0] rfl
  refine Sx.ser_nil ?_
  refine Sx.then_normal (hK1 _ _ ?_)
  clear hK1
  refine wp_seq_k fun K2 hK2 => ?_
  -- region 1 (ref.go:36)
  refine Sx.wp_text [(0, .take)] rfl ?_
  refine Sx.st_take hT rfl rfl rfl rfl (Sx.x_assign hT rfl rfl) ?_
  clear hT; intro a hT
  replace hT := hT.keep [3, 2, 0] rfl
  refine Sx.ser_nil ?_
  refine Sx.then_normal (hK2 _ _ ?_)
  clear hK2
  refine wp_seq_k fun K3 hK3 => ?_
  refine wp_seq_k fun K4 hK4 => ?_
  -- region 2 (ref.go:37)
  refine Sx.wp_text [(0, .take)] rfl ?_
  refine Sx.st_take hT rfl rfl rfl rfl (Sx.x_assign hT rfl rfl) ?_
  clear hT; intro a hT
  replace hT := hT.keep [4, 3, 2, 0] rfl
  refine Sx.ser_nil ?_
  refine Sx.then_normal (hK4 _ _ ?_)
  clear hK4
  refine wp_block ?_
  replace H := H.nilR 22 1
  -- loop 0
  refine Sx.wp_loopH (G := Nat × Option Addr × Nat × List Nat) (fun ⟨k, ad2, c2, S⟩ => [(4, .int .i64 (k : Int)), (3, .slice ad2 k c2)]) (fun ⟨k, ad2, c2, S⟩ => [cR 22 1 ad2 k c2 (S.flatMap fcell)]) (fun ⟨k, ad2, c2, S⟩ => k ≤ l.length ∧ SortOf (l.take k) S) (fun ⟨k, ad2, c2, S⟩ => l.length - k) (0, none, 0, []) (hT.keep [4, 3, 2, 0] rfl) (H.keep [0] rfl rfl) (⟨Nat.zero_le _, .refl _, List.Pairwise.nil⟩) ?_
  clear hT H
  rintro ⟨k, ad2, c2, S⟩ a w1 hJ hT H
  replace hT := hT.keep [4, 3, 2, 0] rfl
  replace H := H.keep [0] rfl rfl
  obtain ⟨hk, hS⟩ := hJ
  have hSl : S.length = k := by rw [sort_len hS, List.length_take]; omega
  refine wp_seq_k fun K5 hK5 => ?_
  refine wp_seq_k fun K6 hK6 => ?_
  -- region 3 (ref.go:37)
  refine Sx.wp_text [(0, .take), (1, .take), (2, .take), (3, .take)] rfl ?_
  refine Sx.st_take hT rfl rfl rfl rfl (Sx.x_move hT rfl rfl) ?_
  clear hT; intro a hT
  refine Sx.st_take hT rfl rfl rfl rfl (Sx.x_move hT rfl rfl) ?_
  clear hT; intro a hT
  refine Sx.st_take hT rfl rfl rfl rfl (Sx.x_len_slice hT rfl rfl Try.underlying30 rfl) ?_
  clear hT; intro a hT
  refine Sx.st_take hT rfl rfl rfl rfl ((fun w => Sx.x_lt w hT rfl rfl rfl)) ?_
  clear hT; intro a hT
  replace hT := hT.keep [10, 4, 3, 2, 0] rfl
  refine Sx.ser_nil ?_
  refine Sx.then_normal (hK6 _ _ ?_)
  clear hK6
  -- cond 0
  refine Sx.wp_if hT rfl (fun hc7 => ?_) (fun hc7 => ?_)
  · try simp only [decide_eq_true_eq, decide_eq_false_iff_not, Bool.not_eq_true', Bool.not_eq_false', Bool.not_eq_true, Bool.not_eq_false, Bool.and_eq_true, Bool.or_eq_false_iff, beq_iff_eq, bne_iff_ne, Int.not_lt, Int.not_le, ne_eq] at hc7
    obtain ⟨o, ho⟩ : ∃ o, l[k]? = some o := ⟨_, List.getElem?_eq_getElem (by omega)⟩
    refine wp_skip ?_
    refine Sx.then_normal (hK5 _ _ ?_)
    clear hK5
    refine wp_seq_k fun K8 hK8 => ?_
    refine wp_block ?_
    refine wp_seq_k fun K9 hK9 => ?_
    -- region 5 (ref.go:38)
    refine Sx.wp_text [(0, .take), (1, .take), (2, .take), (3, .run), (4, .run), (5, .take)] rfl ?_
    refine Sx.st_take hT rfl rfl rfl rfl (Sx.x_move hT rfl rfl) ?_
    clear hT; intro a hT
    refine Sx.st_take hT rfl rfl rfl rfl (Sx.x_move hT rfl rfl) ?_
    clear hT; intro a hT
    refine Sx.st_take hT rfl rfl rfl rfl (Sx.x_index (k := k) hT rfl Try.underlying30 Try.ti22 (R.at H.ext).sv rfl rfl (by first | rfl | omega) (by omega)) ?_
    clear hT; intro a hT
    refine Sx.st_run hT rfl rfl rfl rfl (Sx.x_load1 hT rfl Try.fl22 rfl (by first | exact ((R.at H.ext).cell (j := 0) fcell_len ho rfl) | exact (((H.row 0 rfl).ssn hyl).cell (j := 0) fcell_len hyy rfl))) ?_
    clear hT; intro a hT
    refine Sx.st_call hT rfl rfl rfl rfl rfl Try.can20 rfl (xCanon_calls _ _) ?_
    rintro _ w2 ⟨rfl, E⟩
    refine ⟨_, rfl, ?_⟩
    clear hT; intro a hT
    replace H := H.pure E; clear E
    refine Sx.st_take hT rfl rfl rfl rfl (Sx.x_assign hT rfl rfl) ?_
    clear hT; intro a hT
    replace hT := hT.keep [5, 10, 4, 3, 2, 0] rfl
    refine Sx.ser_nil ?_
    refine Sx.then_normal (hK9 _ _ ?_)
    clear hK9
    refine wp_seq_k fun K10 hK10 => ?_
    -- region 6 (ref.go:39)
    refine Sx.wp_text [(0, .take), (1, .take), (2, .run), (3, .run), (4, .take)] rfl ?_
    refine Sx.st_take hT rfl rfl rfl rfl (Sx.x_move hT rfl rfl) ?_
    clear hT; intro a hT
    refine Sx.st_take hT rfl rfl rfl rfl (Sx.x_move hT rfl rfl) ?_
    clear hT; intro a hT
    refine Sx.st_eff hT rfl rfl rfl rfl (Sx.y_slice1 hT rfl Try.underlying30 Try.ti22 rfl rfl rfl rfl rfl rfl _) ?_
    clear hT; rintro _ w3 ⟨b1, rfl, N⟩ a hT
    replace H := H.new N; clear N
    refine Sx.st_eff hT rfl rfl rfl rfl (Sx.x_append hT rfl rfl Try.underlying30 Try.ti22 rfl (by decide) rfl rfl (H.row 1 rfl) ((H.blk 0 rfl).sv1 rfl) (by simp [Value.oneCell']) (fun h => by cases h) (by unfold maxLen; omega) (by omega)) ?_
    rintro _ w4 ⟨ad4, c4, rfl, hr, E, hown, -⟩
    clear hT; intro a hT
    replace H := H.setR 1 rfl hr E hown rfl; clear hr E hown
    rw [show S.flatMap fcell ++ [.float .f64 (fcan o)] = (S ++ [fcan o]).flatMap fcell from by rw [List.flatMap_append]; rfl] at H
    refine Sx.st_take hT rfl rfl rfl rfl (Sx.x_assign hT rfl rfl) ?_
    clear hT; intro a hT
    replace hT := hT.keep [3, 5, 10, 4, 2, 0] rfl
    refine Sx.ser_nil ?_
    refine Sx.then_normal (hK10 _ _ ?_)
    clear hK10
    refine wp_seq_k fun K11 hK11 => ?_
    -- region 7 (ref.go:40)
    refine Sx.wp_text [(0, .take), (1, .take), (2, .take), (3, .take)] rfl ?_
    refine Sx.st_take hT rfl rfl rfl rfl (Sx.x_move hT rfl rfl) ?_
    clear hT; intro a hT
    refine Sx.st_take hT rfl rfl rfl rfl (Sx.x_len_slice hT rfl rfl Try.underlying30 rfl) ?_
    clear hT; intro a hT
    refine Sx.st_take hT rfl rfl rfl rfl ((fun w => Sx.x_sub w hT rfl rfl rfl (Sx.wrap64 (by omega)))) ?_
    clear hT; intro a hT
    rw [show ((k + 1 : Nat) : Int) - 1 = (k : Int) from by omega] at hT
    refine Sx.st_take hT rfl rfl rfl rfl (Sx.x_assign hT rfl rfl) ?_
    clear hT; intro a hT
    replace hT := hT.keep [6, 3, 5, 10, 4, 2, 0] rfl
    refine Sx.ser_nil ?_
    refine Sx.then_normal (hK11 _ _ ?_)
    clear hK11
    refine wp_seq_k fun K12 hK12 => ?_
    refine wp_block ?_
    -- loop 1
    refine Sx.wp_loopH (G := Nat × List Nat) (fun ⟨j, ys⟩ => [(6, .int .i64 (j : Int))]) (fun ⟨j, ys⟩ => [cR 22 1 ad4 (k + 1) c4 (ys.flatMap fcell)]) (fun ⟨j, ys⟩ => XJ S ys o j) (fun ⟨j, ys⟩ => j) (k, S ++ [fcan o]) (hT.keep [6, 3, 5, 10, 4, 2, 0] rfl) (H.keep [1, 0] rfl rfl) ((by have := XJ.start S o (fcan o); rw [hSl] at this; exact this)) ?_
    clear hT H
    rintro ⟨j, ys⟩ a w5 hJ hT H
    replace hT := hT.keep [6, 3, 5, 10, 4, 2, 0] rfl
    replace H := H.keep [0, 1] rfl rfl
    have hx : XJ S ys o j := hJ
    have hyl : k + 1 = ys.length := by have := hx.2.1; omega
    have hjk := hx.1
    refine wp_seq_k fun K13 hK13 => ?_
    refine wp_seq_k fun K14 hK14 => ?_
    -- region 8 (ref.go:41)
    refine Sx.wp_text [(0, .take), (1, .take), (2, .take), (3, .take), (4, .take), (5, .take), (6, .take), (7, .run), (8, .take), (9, .run), (10, .take), (11, .take)] rfl ?_
    refine Sx.st_take hT rfl rfl rfl rfl (Sx.x_move hT rfl rfl) ?_
    clear hT; intro a hT
    refine Sx.st_take hT rfl rfl rfl rfl ((fun w => Sx.x_gt w hT rfl rfl rfl)) ?_
    clear hT; intro a hT
    refine Sx.st_take hT rfl rfl rfl rfl (Sx.x_move hT rfl rfl) ?_
    clear hT; intro a hT
    -- guard (8, 2)
    refine Sx.Sl.two hT 27 rfl (fun hc15 hT => ?_) (fun hc15 hT => ?_)
    · try simp only [decide_eq_true_eq, decide_eq_false_iff_not, Bool.not_eq_true', Bool.not_eq_false', Bool.not_eq_true, Bool.not_eq_false, Bool.and_eq_true, Bool.or_eq_false_iff, beq_iff_eq, bne_iff_ne, Int.not_lt, Int.not_le, ne_eq] at hc15
      obtain ⟨y, hy⟩ : ∃ y, S[j - 1]? = some y := ⟨_, List.getElem?_eq_getElem (by omega)⟩
      have hyy := hx.2.2.1 (j - 1) y (by omega) hy
      refine Sx.st_take hT rfl rfl rfl rfl (Sx.x_move hT rfl rfl) ?_
      clear hT; intro a hT
      refine Sx.st_take hT rfl rfl rfl rfl (Sx.x_move hT rfl rfl) ?_
      clear hT; intro a hT
      refine Sx.st_take hT rfl rfl rfl rfl ((fun w => Sx.x_sub w hT rfl rfl rfl (Sx.wrap64 (by omega)))) ?_
      clear hT; intro a hT
      refine Sx.st_take hT rfl rfl rfl rfl (Sx.x_index (k := j - 1) hT rfl Try.underlying30 Try.ti22 (H.row 0 rfl).sv rfl rfl (by first | rfl | omega) (by omega)) ?_
      clear hT; intro a hT
      refine Sx.st_run hT rfl rfl rfl rfl (Sx.x_load1 hT rfl Try.fl22 rfl (by first | exact ((R.at H.ext).cell (j := 0) fcell_len ho rfl) | exact (((H.row 0 rfl).ssn hyl).cell (j := 0) fcell_len hyy rfl))) ?_
      clear hT; intro a hT
      refine Sx.st_take hT rfl rfl rfl rfl (Sx.x_move hT rfl rfl) ?_
      clear hT; intro a hT
      refine Sx.st_call hT rfl rfl rfl rfl rfl Try.can17 rfl (xCmp_calls _ _ _) ?_
      rintro _ w6 ⟨rfl, E⟩
      refine ⟨_, rfl, ?_⟩
      clear hT; intro a hT
      replace H := H.pure E; clear E
      refine Sx.st_take hT rfl rfl rfl rfl ((fun w => Sx.x_gt w hT rfl rfl rfl)) ?_
      clear hT; intro a hT
      refine Sx.st_take hT rfl rfl rfl rfl (Sx.x_pick_t hT rfl rfl rfl) ?_
      clear hT; intro a hT
      replace hT := hT.keep [36, 6, 3, 5, 10, 4, 2, 0] rfl
      refine Sx.ser_nil ?_
      refine Sx.then_normal (hK14 _ _ ?_)
      clear hK14
      -- cond 1
      refine Sx.wp_if hT rfl (fun hc16 => ?_) (fun hc16 => ?_)
      · try simp only [decide_eq_true_eq, decide_eq_false_iff_not, Bool.not_eq_true', Bool.not_eq_false', Bool.not_eq_true, Bool.not_eq_false, Bool.and_eq_true, Bool.or_eq_false_iff, beq_iff_eq, bne_iff_ne, Int.not_lt, Int.not_le, ne_eq] at hc16
        rw [order_gt, rank_can] at hc16
        refine wp_skip ?_
        refine Sx.then_normal (hK13 _ _ ?_)
        clear hK13
        refine wp_block ?_
        refine wp_seq_k fun K17 hK17 => ?_
        -- region 9 (ref.go:42)
        refine Sx.wp_text [(0, .take), (1, .take), (2, .take), (3, .take), (4, .take), (5, .take), (6, .run), (7, .take), (8, .run)] rfl ?_
        refine Sx.st_take hT rfl rfl rfl rfl (Sx.x_move hT rfl rfl) ?_
        clear hT; intro a hT
        refine Sx.st_take hT rfl rfl rfl rfl (Sx.x_move hT rfl rfl) ?_
        clear hT; intro a hT
        refine Sx.st_take hT rfl rfl rfl rfl (Sx.x_move hT rfl rfl) ?_
        clear hT; intro a hT
        refine Sx.st_take hT rfl rfl rfl rfl (Sx.x_move hT rfl rfl) ?_
        clear hT; intro a hT
        refine Sx.st_take hT rfl rfl rfl rfl ((fun w => Sx.x_sub w hT rfl rfl rfl (Sx.wrap64 (by omega)))) ?_
        clear hT; intro a hT
        refine Sx.st_take hT rfl rfl rfl rfl (Sx.x_index (k := j - 1) hT rfl Try.underlying30 Try.ti22 (H.row 0 rfl).sv rfl rfl (by first | rfl | omega) (by omega)) ?_
        clear hT; intro a hT
        refine Sx.st_run hT rfl rfl rfl rfl (Sx.x_load1 hT rfl Try.fl22 rfl (by first | exact ((R.at H.ext).cell (j := 0) fcell_len ho rfl) | exact (((H.row 0 rfl).ssn hyl).cell (j := 0) fcell_len hyy rfl))) ?_
        clear hT; intro a hT
        refine Sx.st_take hT rfl rfl rfl rfl (Sx.x_index (k := j) hT rfl Try.underlying30 Try.ti22 (H.row 0 rfl).sv rfl rfl (by first | rfl | omega) (by omega)) ?_
        clear hT; intro a hT
        refine Sx.st_act hT rfl rfl rfl (Sx.x_storeRowS (k := j) (r := y) hT rfl Try.ti22 rfl rfl fcell_len fcell_one rfl (H.row 0 rfl) hyl (by omega)) ?_
        rintro w7 ⟨hr, E, _⟩
        replace H := H.setR 0 rfl hr E (fun _ hk => .inl hk) rfl; clear hr E
        replace hT := hT.keep [36, 6, 3, 5, 10, 4, 2, 0] rfl
        refine Sx.ser_nil ?_
        refine Sx.then_normal (hK17 _ _ ?_)
        clear hK17
        -- region 10 (ref.go:43)
        refine Sx.wp_text [(0, .take), (1, .take), (2, .take)] rfl ?_
        refine Sx.st_take hT rfl rfl rfl rfl (Sx.x_move hT rfl rfl) ?_
        clear hT; intro a hT
        refine Sx.st_take hT rfl rfl rfl rfl ((fun w => Sx.x_sub w hT rfl rfl rfl (Sx.wrap64 (by omega)))) ?_
        clear hT; intro a hT
        refine Sx.st_take hT rfl rfl rfl rfl (Sx.x_assign hT rfl rfl) ?_
        clear hT; intro a hT
        replace hT := hT.keep [6, 36, 3, 5, 10, 4, 2, 0] rfl
        refine Sx.ser_nil ?_
        refine Sx.block_normal ?_
        refine Sx.then_normal ?_
        exact ⟨(j - 1, ys.set j y), (hx.step (by omega) hy (by omega)), ((hT.keep [6, 3, 5, 10, 4, 2, 0] rfl).conv (by rw [show ((j : Int) - 1) = ((j - 1 : Nat) : Int) from by omega]; rfl)), (H.keep [0, 1] rfl rfl), (show j - 1 < j by omega)⟩
      · try simp only [decide_eq_true_eq, decide_eq_false_iff_not, Bool.not_eq_true', Bool.not_eq_false', Bool.not_eq_true, Bool.not_eq_false, Bool.and_eq_true, Bool.or_eq_false_iff, beq_iff_eq, bne_iff_ne, Int.not_lt, Int.not_le, ne_eq] at hc16
        have h9 : ¬ 0 < order (rank y) (rank (fcan o)) := by omega
        rw [order_gt, rank_can] at h9
        have hlo := low_of (r := rank o) hS hy (by omega)
        rw [show j - 1 + 1 = j from by omega] at hlo
        refine wp_exit ?_
        refine Sx.then_exit ?_
        refine Sx.then_exit ?_
        refine Sx.block_exit ?_
        refine Sx.then_normal (hK12 _ _ ?_)
        clear hK12
        -- region 11 (ref.go:45)
        refine Sx.wp_text [(0, .take), (1, .take), (2, .take), (3, .take), (4, .run)] rfl ?_
        refine Sx.st_take hT rfl rfl rfl rfl (Sx.x_move hT rfl rfl) ?_
        clear hT; intro a hT
        refine Sx.st_take hT rfl rfl rfl rfl (Sx.x_move hT rfl rfl) ?_
        clear hT; intro a hT
        refine Sx.st_take hT rfl rfl rfl rfl (Sx.x_move hT rfl rfl) ?_
        clear hT; intro a hT
        refine Sx.st_take hT rfl rfl rfl rfl (Sx.x_index (k := j) hT rfl Try.underlying30 Try.ti22 (H.row 0 rfl).sv rfl rfl (by first | rfl | omega) (by omega)) ?_
        clear hT; intro a hT
        refine Sx.st_act hT rfl rfl rfl (Sx.x_storeRowS (k := j) (r := fcan o) hT rfl Try.ti22 rfl rfl fcell_len fcell_one rfl (H.row 0 rfl) hyl (by omega)) ?_
        rintro w8 ⟨hr, E, _⟩
        replace H := H.setR 0 rfl hr E (fun _ hk => .inl hk) rfl; clear hr E
        rw [hx.end_] at H
        have hS2 := ins_sort ho hS hlo (fun t y a b => (hx.2.2.2 t y a b).2)
        replace hT := hT.keep [36, 6, 3, 5, 10, 4, 2, 0] rfl
        refine Sx.ser_nil ?_
        refine Sx.block_normal ?_
        refine Sx.then_normal (hK8 _ _ ?_)
        clear hK8
        -- region 4 (ref.go:37)
        refine Sx.wp_text [(0, .take), (1, .take), (2, .take)] rfl ?_
        refine Sx.st_take hT rfl rfl rfl rfl (Sx.x_move hT rfl rfl) ?_
        clear hT; intro a hT
        refine Sx.st_take hT rfl rfl rfl rfl ((fun w => Sx.x_add w hT rfl rfl rfl (Sx.wrap64 (by omega)))) ?_
        clear hT; intro a hT
        refine Sx.st_take hT rfl rfl rfl rfl (Sx.x_assign hT rfl rfl) ?_
        clear hT; intro a hT
        replace hT := hT.keep [4, 36, 6, 3, 5, 10, 2, 0] rfl
        refine Sx.ser_nil ?_
        refine Sx.then_normal ?_
        exact ⟨(k + 1, ad4, c4, S.take j ++ fcan o :: S.drop j), ⟨show k + 1 ≤ _ by omega, hS2⟩, (hT.keep [4, 3, 2, 0] rfl), (H.keep [0] rfl rfl), by show _ - (k + 1) < _ - k; omega⟩
    · try simp only [decide_eq_true_eq, decide_eq_false_iff_not, Bool.not_eq_true', Bool.not_eq_false', Bool.not_eq_true, Bool.not_eq_false, Bool.and_eq_true, Bool.or_eq_false_iff, beq_iff_eq, bne_iff_ne, Int.not_lt, Int.not_le, ne_eq] at hc15
      have hlo : ∀ t z, t < j → S[t]? = some z → rank z ≤ rank o := fun t z h9 => by omega
      refine Sx.st_skip hT rfl rfl rfl rfl ?_
      clear hT; intro a hT
      refine Sx.st_skip hT rfl rfl rfl rfl ?_
      clear hT; intro a hT
      refine Sx.st_skip hT rfl rfl rfl rfl ?_
      clear hT; intro a hT
      refine Sx.st_skip hT rfl rfl rfl rfl ?_
      clear hT; intro a hT
      refine Sx.st_runskip hT rfl rfl rfl rfl ?_
      clear hT; intro a hT
      refine Sx.st_skip hT rfl rfl rfl rfl ?_
      clear hT; intro a hT
      refine Sx.st_runskip hT rfl rfl rfl rfl ?_
      clear hT; intro a hT
      refine Sx.st_skip hT rfl rfl rfl rfl ?_
      clear hT; intro a hT
      refine Sx.st_take hT rfl rfl rfl rfl (Sx.x_pick_f hT rfl rfl rfl) ?_
      clear hT; intro a hT
      replace hT := hT.keep [36, 6, 3, 5, 10, 4, 2, 0] rfl
      refine Sx.ser_nil ?_
      refine Sx.then_normal (hK14 _ _ ?_)
      clear hK14
      refine Sx.wp_if hT rfl (fun h => by cases h) (fun _ => ?_)
      skip
      refine wp_exit ?_
      refine Sx.then_exit ?_
      refine Sx.then_exit ?_
      refine Sx.block_exit ?_
      refine Sx.then_normal (hK12 _ _ ?_)
      clear hK12
      -- region 11 (ref.go:45)
      refine Sx.wp_text [(0, .take), (1, .take), (2, .take), (3, .take), (4, .run)] rfl ?_
      refine Sx.st_take hT rfl rfl rfl rfl (Sx.x_move hT rfl rfl) ?_
      clear hT; intro a hT
      refine Sx.st_take hT rfl rfl rfl rfl (Sx.x_move hT rfl rfl) ?_
      clear hT; intro a hT
      refine Sx.st_take hT rfl rfl rfl rfl (Sx.x_move hT rfl rfl) ?_
      clear hT; intro a hT
      refine Sx.st_take hT rfl rfl rfl rfl (Sx.x_index (k := j) hT rfl Try.underlying30 Try.ti22 (H.row 0 rfl).sv rfl rfl (by first | rfl | omega) (by omega)) ?_
      clear hT; intro a hT
      refine Sx.st_act hT rfl rfl rfl (Sx.x_storeRowS (k := j) (r := fcan o) hT rfl Try.ti22 rfl rfl fcell_len fcell_one rfl (H.row 0 rfl) hyl (by omega)) ?_
      rintro w9 ⟨hr, E, _⟩
      replace H := H.setR 0 rfl hr E (fun _ hk => .inl hk) rfl; clear hr E
      rw [hx.end_] at H
      have hS2 := ins_sort ho hS hlo (fun t y a b => (hx.2.2.2 t y a b).2)
      replace hT := hT.keep [36, 6, 3, 5, 10, 4, 2, 0] rfl
      refine Sx.ser_nil ?_
      refine Sx.block_normal ?_
      refine Sx.then_normal (hK8 _ _ ?_)
      clear hK8
      -- region 4 (ref.go:37)
      refine Sx.wp_text [(0, .take), (1, .take), (2, .take)] rfl ?_
      refine Sx.st_take hT rfl rfl rfl rfl (Sx.x_move hT rfl rfl) ?_
      clear hT; intro a hT
      refine Sx.st_take hT rfl rfl rfl rfl ((fun w => Sx.x_add w hT rfl rfl rfl (Sx.wrap64 (by omega)))) ?_
      clear hT; intro a hT
      refine Sx.st_take hT rfl rfl rfl rfl (Sx.x_assign hT rfl rfl) ?_
      clear hT; intro a hT
      replace hT := hT.keep [4, 36, 6, 3, 5, 10, 2, 0] rfl
      refine Sx.ser_nil ?_
      refine Sx.then_normal ?_
      exact ⟨(k + 1, ad4, c4, S.take j ++ fcan o :: S.drop j), ⟨show k + 1 ≤ _ by omega, hS2⟩, (hT.keep [4, 3, 2, 0] rfl), (H.keep [0] rfl rfl), by show _ - (k + 1) < _ - k; omega⟩
  · try simp only [decide_eq_true_eq, decide_eq_false_iff_not, Bool.not_eq_true', Bool.not_eq_false', Bool.not_eq_true, Bool.not_eq_false, Bool.and_eq_true, Bool.or_eq_false_iff, beq_iff_eq, bne_iff_ne, Int.not_lt, Int.not_le, ne_eq] at hc7
    obtain rfl : k = l.length := by omega
    rw [List.take_length] at hS
    refine wp_exit ?_
    refine Sx.then_exit ?_
    refine Sx.then_exit ?_
    refine Sx.block_exit ?_
    refine Sx.then_normal (hK3 _ _ ?_)
    clear hK3
    refine wp_seq_k fun K18 hK18 => ?_
    -- region 12 (ref.go:47)
    refine Sx.wp_text [(0, .take), (1, .take)] rfl ?_
    refine Sx.st_take hT rfl rfl rfl rfl (Sx.x_move hT rfl rfl) ?_
    clear hT; intro a hT
    refine Sx.st_take hT rfl rfl rfl rfl (Sx.x_assign hT rfl rfl) ?_
    clear hT; intro a hT
    replace hT := hT.keep [2, 10, 4, 3, 0] rfl
    refine Sx.ser_nil ?_
    refine Sx.then_normal (hK18 _ _ ?_)
    clear hK18
    refine wp_ret ?_
    refine Sx.done1 (fn := Try.f26) hT rfl (.tmp (hT.get 2 _ rfl)) ?_
    exact ⟨_, _, S, rfl, hS, H.keep [0] rfl rfl⟩

end Go.Proofs.Ytmhfmbgjnebcfaa
