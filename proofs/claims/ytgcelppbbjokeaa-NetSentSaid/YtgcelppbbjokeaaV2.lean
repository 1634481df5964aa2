/- Walk: place. -/
import Derived.Test.YtgcelppbbjokeaaV1
set_option linter.unusedSimpArgs false
set_option linter.unusedVariables false
namespace Go.Proofs.Ytgcelppbbjokeaa
open Sx
theorem Try.can23 : Sx.Can Try.prog 23 := ⟨_, Try.func23, by kernel_rfl, rfl⟩
theorem _root_.Go.Sx.All2.get_is {w : World} {rs : List RM} {ts : List Mail} (h : All2 (RM.is w) rs ts) {k : Nat} {r : RM} {t : Mail} (hr : rs[k]? = some r) (ht : ts[k]? = some t) : r.is w t := by
  obtain ⟨a, h1, h2⟩ := h.get ht
  rw [hr] at h1
  cases h1
  exact h2
theorem take_snoc9 {ts : List Mail} {k : Nat} {t : Mail} (h : ts[k]? = some t) : ts.take (k + 1) = ts.take k ++ [t] := by
  obtain ⟨hk, rfl⟩ := List.getElem?_eq_some_iff.1 h
  rw [List.take_succ_eq_append_getElem hk]

theorem place_calls (ad : Option Addr) (c : Nat) (rs : List RM) (ts : List Mail) (w : World) (hs : Ss w ad RM.cells 3 rs) (ha : All2 (RM.is w) rs ts) (hl : rs.length ≤ 100000) (m : Mail) (ad2 : Option Addr) (n2 c2 : Nat) (hb : Bs w ad2 m.data) (hn2 : n2 = m.data.length) :
    Calls Try.prog 23 #[.slice ad rs.length c, .agg #[.int .i64 m.src, .int .i64 m.dst, .slice ad2 n2 c2]] w fun e w' => ∃ j : Int, e = .returned (.int .i64 j) ∧ ((∃ i : Nat, j = i ∧ ts[i]? = some m) ∨ (j < 0 ∧ m ∉ ts)) ∧ Ext No w w' := by
  have hll := ha.length
  have R : Ro w No _ := Ro.of fun w' x => hs.ext_no x
  have RA : Ro w No _ := Ro.of fun w' x => (ha.mono fun a b h => h.ext x fun _ => not_No _ : All2 (RM.is w') rs ts)
  have RB : Ro w No _ := Ro.of fun w' x => hb.ext_no x
  refine Sx.calls_into Try.func23 rfl Try.ntmps23 rfl fun a hT => ?_
  replace hT := hT.keep [0, 1] rfl
  have H : Sx.Hp w (Sx.No) w [] := Sx.Hp.start _ _
  refine wp_seq_k fun K1 hK1 => ?_
  -- region 0 (law.go:183)
  refine Sx.wp_text [(0, .run), (1, .take)] rfl ?_
  refine Sx.st_eff hT rfl rfl rfl rfl (Sx.y_box hT rfl rfl rfl _) ?_
  clear hT; rintro _ w1 ⟨b1, rfl, N⟩ a hT
  replace H := H.new N; clear N
  refine Sx.st_take hT rfl rfl rfl rfl (Sx.x_assign hT rfl rfl) ?_
  clear hT; intro a hT
  replace hT := hT.keep [4, 3, 0, 1] rfl
  refine Sx.ser_nil ?_
  refine Sx.then_normal (hK1 _ _ ?_)
  clear hK1
  refine wp_seq_k fun K2 hK2 => ?_
  refine wp_seq_k fun K3 hK3 => ?_
  -- region 1 (law.go:184)
  refine Sx.wp_text [(0, .take)] rfl ?_
  refine Sx.st_take hT rfl rfl rfl rfl (Sx.x_assign hT rfl rfl) ?_
  clear hT; intro a hT
  replace hT := hT.keep [5, 4, 3, 0, 1] rfl
  refine Sx.ser_nil ?_
  refine Sx.then_normal (hK3 _ _ ?_)
  clear hK3
  refine wp_block ?_
  -- loop 0
  refine Sx.wp_loopH (G := Nat) (fun k => [(5, .int .i64 (k : Int))]) (fun k => []) (fun k => k ≤ rs.length ∧ m ∉ ts.take k) (fun k => rs.length - k) 0 (hT.keep [5, 3, 0, 1] rfl) (H.keep [0] rfl rfl) (⟨Nat.zero_le _, by simp⟩) ?_
  clear hT H
  rintro k a w2 hJ hT H
  replace hT := hT.keep [5, 3, 0, 1] rfl
  replace H := H.keep [0] rfl rfl
  obtain ⟨hk, hno⟩ := hJ
  refine wp_seq_k fun K4 hK4 => ?_
  refine wp_seq_k fun K5 hK5 => ?_
  -- region 2 (law.go:184)
  refine Sx.wp_text [(0, .take), (1, .take), (2, .take), (3, .take)] rfl ?_
  refine Sx.st_take hT rfl rfl rfl rfl (Sx.x_move hT rfl rfl) ?_
  clear hT; intro a hT
  refine Sx.st_take hT rfl rfl rfl rfl (Sx.x_move hT rfl rfl) ?_
  clear hT; intro a hT
  refine Sx.st_take hT rfl rfl rfl rfl (Sx.x_len_slice hT rfl rfl Try.underlying52 rfl) ?_
  clear hT; intro a hT
  refine Sx.st_take hT rfl rfl rfl rfl ((fun w => Sx.x_lt w hT rfl rfl rfl)) ?_
  clear hT; intro a hT
  replace hT := hT.keep [9, 5, 3, 0, 1] rfl
  refine Sx.ser_nil ?_
  refine Sx.then_normal (hK5 _ _ ?_)
  clear hK5
  -- cond 0
  refine Sx.wp_if hT rfl (fun hc6 => ?_) (fun hc6 => ?_)
  · try simp only [decide_eq_true_eq, decide_eq_false_iff_not, Bool.not_eq_true', Bool.not_eq_false', Bool.not_eq_true, Bool.not_eq_false, Bool.and_eq_true, Bool.or_eq_false_iff, beq_iff_eq, bne_iff_ne, Int.not_lt, Int.not_le, ne_eq] at hc6
    obtain ⟨r, hr⟩ : ∃ o, rs[k]? = some o := ⟨_, List.getElem?_eq_getElem (by omega)⟩
    obtain ⟨t, ht⟩ : ∃ o, ts[k]? = some o := ⟨_, List.getElem?_eq_getElem (by omega)⟩
    refine wp_skip ?_
    refine Sx.then_normal (hK4 _ _ ?_)
    clear hK4
    refine wp_seq_k fun K7 hK7 => ?_
    refine wp_block ?_
    refine wp_seq_k fun K8 hK8 => ?_
    -- region 4 (law.go:185)
    refine Sx.wp_draws (fun u => Sx.Ext (Sx.No) u) [(0, .take), (1, .take), (2, .take), (3, .held), (4, .held), (5, .run)] (by kernel_rfl) (by kernel_rfl) (fun u E _ => ?_)
    replace H := H.pure E; clear E
    have hH : Sx.Ext (Sx.No) u u := Sx.Ext.refl _ _
    have Hu := H
    refine Sx.st_take hT rfl rfl rfl rfl (Sx.x_move hT rfl rfl) ?_
    clear hT; intro a hT
    refine Sx.st_take hT rfl rfl rfl rfl (Sx.x_move hT rfl rfl) ?_
    clear hT; intro a hT
    refine Sx.st_take hT rfl rfl rfl rfl (Sx.x_index hT rfl Try.underlying52 Try.ti34 (R.at H.ext).sv rfl rfl rfl (by omega)) ?_
    clear hT; intro a hT
    refine Sx.st_held hT rfl rfl rfl rfl hH (fun w' h' => Sx.y_loadS hT rfl Try.underlying34 Try.ti34 rfl (by first | exact ((Hu.heldB 0 rfl h' Sx.off_No).seg (k := 3) rfl) | exact ((R.at (Hu.ext.step h')).cs RM.len hr)) (by rfl)) ?_
    clear hT; intro a hT
    refine Sx.st_held hT rfl rfl rfl rfl hH (fun w' h' => Sx.y_loadS hT rfl Try.underlying34 Try.ti34 rfl ((Hu.heldB 0 rfl h' Sx.off_No).seg (k := 3) rfl) (by rfl)) ?_
    clear hT; intro a hT
    have hrm := (RA.at H.ext).get_is hr ht
    refine Sx.st_call hT rfl rfl rfl rfl rfl Try.can14 rfl (alike_calls r.f r.t m.src m.dst r.ad ad2 r.n n2 r.c c2 t.data m.data _ hrm.bs (RB.at H.ext) hrm.n hn2) ?_
    rintro _ w3 ⟨rfl, E⟩
    refine ⟨_, rfl, ?_⟩
    clear hT; intro a hT
    replace H := H.pure E; clear E
    replace hT := hT.keep [17, 9, 5, 3, 0, 1] rfl
    clear Hu hH
    refine Sx.ser_calm ?_
    refine Sx.then_normal (hK8 _ _ ?_)
    clear hK8
    -- cond 1
    refine Sx.wp_if hT rfl (fun hc9 => ?_) (fun hc9 => ?_)
    · try simp only [decide_eq_true_eq, decide_eq_false_iff_not, Bool.not_eq_true', Bool.not_eq_false', Bool.not_eq_true, Bool.not_eq_false, Bool.and_eq_true, Bool.or_eq_false_iff, beq_iff_eq, bne_iff_ne, Int.not_lt, Int.not_le, ne_eq] at hc9
      refine wp_seq_k fun K10 hK10 => ?_
      -- region 5 (law.go:186)
      refine Sx.wp_text [(0, .take), (1, .take)] rfl ?_
      refine Sx.st_take hT rfl rfl rfl rfl (Sx.x_move hT rfl rfl) ?_
      clear hT; intro a hT
      refine Sx.st_take hT rfl rfl rfl rfl (Sx.x_assign hT rfl rfl) ?_
      clear hT; intro a hT
      replace hT := hT.keep [4, 17, 9, 5, 3, 0, 1] rfl
      refine Sx.ser_nil ?_
      refine Sx.then_normal (hK10 _ _ ?_)
      clear hK10
      refine wp_ret ?_
      refine Sx.block_ret ?_
      refine Sx.then_ret ?_
      refine Sx.then_ret ?_
      refine Sx.block_ret ?_
      refine Sx.then_ret ?_
      refine Sx.done1 (fn := Try.f23) hT rfl (.tmp (hT.get 4 _ rfl)) ?_
      have h9 : (⟨r.f, r.t, t.data⟩ : Mail) = m := by assumption
      rw [hrm.src, hrm.dst] at h9
      exact ⟨_, rfl, .inl ⟨k, rfl, by rw [ht]; exact congrArg some h9⟩, H.ext⟩
    · try simp only [decide_eq_true_eq, decide_eq_false_iff_not, Bool.not_eq_true', Bool.not_eq_false', Bool.not_eq_true, Bool.not_eq_false, Bool.and_eq_true, Bool.or_eq_false_iff, beq_iff_eq, bne_iff_ne, Int.not_lt, Int.not_le, ne_eq] at hc9
      have hne := hc9
      refine wp_skip ?_
      refine Sx.block_normal ?_
      refine Sx.then_normal (hK7 _ _ ?_)
      clear hK7
      -- region 3 (law.go:184)
      refine Sx.wp_text [(0, .take), (1, .take), (2, .take)] rfl ?_
      refine Sx.st_take hT rfl rfl rfl rfl (Sx.x_move hT rfl rfl) ?_
      clear hT; intro a hT
      refine Sx.st_take hT rfl rfl rfl rfl ((fun w => Sx.x_add w hT rfl rfl rfl (Sx.wrap64 (by omega)))) ?_
      clear hT; intro a hT
      refine Sx.st_take hT rfl rfl rfl rfl (Sx.x_assign hT rfl rfl) ?_
      clear hT; intro a hT
      replace hT := hT.keep [5, 17, 9, 3, 0, 1] rfl
      refine Sx.ser_nil ?_
      refine Sx.then_normal ?_
      exact ⟨k + 1, ⟨by omega, by rw [take_snoc9 ht]; simp only [List.mem_append, List.mem_singleton, not_or]; exact ⟨hno, fun h9 => hne (by rw [h9, hrm.src, hrm.dst])⟩⟩, (hT.keep [5, 3, 0, 1] rfl), (H.keep [0] rfl rfl), by omega⟩
  · try simp only [decide_eq_true_eq, decide_eq_false_iff_not, Bool.not_eq_true', Bool.not_eq_false', Bool.not_eq_true, Bool.not_eq_false, Bool.and_eq_true, Bool.or_eq_false_iff, beq_iff_eq, bne_iff_ne, Int.not_lt, Int.not_le, ne_eq] at hc6
    refine wp_exit ?_
    refine Sx.then_exit ?_
    refine Sx.then_exit ?_
    refine Sx.block_exit ?_
    refine Sx.then_normal (hK2 _ _ ?_)
    clear hK2
    refine wp_seq_k fun K11 hK11 => ?_
    -- region 6 (law.go:189)
    refine Sx.wp_text [(0, .take)] rfl ?_
    refine Sx.st_take hT rfl rfl rfl rfl (Sx.x_assign hT rfl rfl) ?_
    clear hT; intro a hT
    replace hT := hT.keep [4, 9, 5, 3, 0, 1] rfl
    refine Sx.ser_nil ?_
    refine Sx.then_normal (hK11 _ _ ?_)
    clear hK11
    refine wp_ret ?_
    refine Sx.done1 (fn := Try.f23) hT rfl (.tmp (hT.get 4 _ rfl)) ?_
    have hkk : k = ts.length := by omega
    subst hkk
    rw [List.take_length] at hno
    exact ⟨_, rfl, .inr ⟨by decide, hno⟩, H.ext⟩

end Go.Proofs.Ytgcelppbbjokeaa
