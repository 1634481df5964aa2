/- Walks: lists of texts, versions, writes. -/
import Derived.Test.YtpnfpndhdnmhkaaGreatC2
import Derived.Test.YtpnfpndhdnmhkaaGreatK1
set_option linter.unusedSimpArgs false
set_option linter.unusedVariables false
namespace Go.Proofs.YtpnfpndhdnmhkaaGreat
open Sx
theorem Tryz.ti53 : Sx.TI Tryz.prog 53 (.agg #[.string .empty, .int .i64 0, .float .f64 0, .string .empty, .int .i64 0, .int .i64 0, .int .i64 0]) 7 72 := .mk' (by kernel_rfl)
theorem Tryz.ti86 : Sx.TI Tryz.prog 86 (.map none) 1 8 := .mk' (by kernel_rfl)
theorem Tryz.ti87 : Sx.TI Tryz.prog 87 (.map none) 1 8 := .mk' (by kernel_rfl)
theorem Tryz.ti89 : Sx.TI Tryz.prog 89 (.agg #[.map none, .map none, .int .i64 0, .int .i64 0, .int .i64 0]) 5 40 := .mk' (by kernel_rfl)
theorem Tryz.ti90 : Sx.TI Tryz.prog 90 (.slice none 0 0) 1 24 := .mk' (by kernel_rfl)
theorem Tryz.ti92 : Sx.TI Tryz.prog 92 (.agg #[.int .i64 0, .int .i64 0, .int .i64 0, .int .i64 0, .float .f64 0, .string .empty]) 6 56 := .mk' (by kernel_rfl)
theorem Tryz.fl86 : Sx.Flat Tryz.prog 86 := ⟨_, Tryz.underlying86, trivial⟩
theorem Tryz.fl87 : Sx.Flat Tryz.prog 87 := ⟨_, Tryz.underlying87, trivial⟩
theorem Tryz.fa53_0 : Sx.FA Tryz.prog 53 0 0 := ⟨_, _, _, _, _, Tryz.underlying53, rfl, rfl, Tryz.ti9, by decide⟩
theorem Tryz.fa53_1 : Sx.FA Tryz.prog 53 1 1 := ⟨_, _, _, _, _, Tryz.underlying53, rfl, rfl, Tryz.ti51, by decide⟩
theorem Tryz.fa53_2 : Sx.FA Tryz.prog 53 2 4 := ⟨_, _, _, _, _, Tryz.underlying53, rfl, rfl, Tryz.ti26, by decide⟩
theorem Tryz.fa89_0 : Sx.FA Tryz.prog 89 0 0 := ⟨_, _, _, _, _, Tryz.underlying89, rfl, rfl, Tryz.ti86, by decide⟩
theorem Tryz.fa89_1 : Sx.FA Tryz.prog 89 1 1 := ⟨_, _, _, _, _, Tryz.underlying89, rfl, rfl, Tryz.ti87, by decide⟩
theorem Tryz.fa89_2 : Sx.FA Tryz.prog 89 2 2 := ⟨_, _, _, _, _, Tryz.underlying89, rfl, rfl, Tryz.ti26, by decide⟩
theorem Tryz.fa92_0 : Sx.FA Tryz.prog 92 0 0 := ⟨_, _, _, _, _, Tryz.underlying92, rfl, rfl, Tryz.ti26, by decide⟩
theorem Tryz.fa92_1 : Sx.FA Tryz.prog 92 1 3 := ⟨_, _, _, _, _, Tryz.underlying92, rfl, rfl, Tryz.ti51, by decide⟩
theorem Tryz.fv36_3 : Sx.FV Tryz.prog 36 3 7 34 := ⟨_, _, Tryz.underlying36, rfl, rfl, rfl⟩
theorem Tryz.fv53_2 : Sx.FV Tryz.prog 53 2 4 26 := ⟨_, _, Tryz.underlying53, rfl, rfl, rfl⟩
theorem Tryz.bld53 : Sx.Bld Tryz.prog 53 #[.string .empty, .int .i64 0, .float .f64 0, .string .empty, .int .i64 0, .int .i64 0, .int .i64 0] #[(0, 1), (1, 3), (4, 3)] := ⟨_, _, _, _, Tryz.ti53, rfl, Tryz.underlying53, fun w => by simp [Sx.placesOf, Sx.run_sizeOf Tryz.ti26, Sx.run_sizeOf Tryz.ti51, Sx.run_sizeOf Tryz.ti9]⟩
theorem Tryz.bld89 : Sx.Bld Tryz.prog 89 #[.map none, .map none, .int .i64 0, .int .i64 0, .int .i64 0] #[(0, 1), (1, 1), (2, 3)] := ⟨_, _, _, _, Tryz.ti89, rfl, Tryz.underlying89, fun w => by simp [Sx.placesOf, Sx.run_sizeOf Tryz.ti26, Sx.run_sizeOf Tryz.ti86, Sx.run_sizeOf Tryz.ti87]⟩
theorem Tryz.bld92 : Sx.Bld Tryz.prog 92 #[.int .i64 0, .int .i64 0, .int .i64 0, .int .i64 0, .float .f64 0, .string .empty] #[(0, 3), (3, 3)] := ⟨_, _, _, _, Tryz.ti92, rfl, Tryz.underlying92, fun w => by simp [Sx.placesOf, Sx.run_sizeOf Tryz.ti26, Sx.run_sizeOf Tryz.ti51]⟩
theorem Tryz.can10 : Sx.Can Tryz.prog 10 := ⟨_, Tryz.func10, by kernel_rfl, rfl⟩
theorem Tryz.can12 : Sx.Can Tryz.prog 12 := ⟨_, Tryz.func12, by kernel_rfl, rfl⟩
theorem Tryz.can18 : Sx.Can Tryz.prog 18 := ⟨_, Tryz.func18, by kernel_rfl, rfl⟩
theorem Tryz.can24 : Sx.Can Tryz.prog 24 := ⟨_, Tryz.func24, by kernel_rfl, rfl⟩
theorem Tryz.can37 : Sx.Can Tryz.prog 37 := ⟨_, Tryz.func37, by kernel_rfl, rfl⟩
theorem Tryz.can39 : Sx.Can Tryz.prog 39 := ⟨_, Tryz.func39, by kernel_rfl, rfl⟩
theorem Tryz.can42 : Sx.Can Tryz.prog 42 := ⟨_, Tryz.func42, by kernel_rfl, rfl⟩
theorem Tryz.can43 : Sx.Can Tryz.prog 43 := ⟨_, Tryz.func43, by kernel_rfl, rfl⟩
theorem Tryz.can46 : Sx.Can Tryz.prog 46 := ⟨_, Tryz.func46, by kernel_rfl, rfl⟩
theorem Tryz.can50 : Sx.Can Tryz.prog 50 := ⟨_, Tryz.func50, by kernel_rfl, rfl⟩
theorem Tryz.can52 : Sx.Can Tryz.prog 52 := ⟨_, Tryz.func52, by kernel_rfl, rfl⟩
theorem Tryz.can53 : Sx.Can Tryz.prog 53 := ⟨_, Tryz.func53, by kernel_rfl, rfl⟩
theorem Tryz.can54 : Sx.Can Tryz.prog 54 := ⟨_, Tryz.func54, by kernel_rfl, rfl⟩
theorem Tryz.can55 : Sx.Can Tryz.prog 55 := ⟨_, Tryz.func55, by kernel_rfl, rfl⟩
theorem Tryz.can60 : Sx.Can Tryz.prog 60 := ⟨_, Tryz.func60, by kernel_rfl, rfl⟩
theorem Tryz.can61 : Sx.Can Tryz.prog 61 := ⟨_, Tryz.func61, by kernel_rfl, rfl⟩
theorem Tryz.can86 : Sx.Can Tryz.prog 86 := ⟨_, Tryz.func86, by kernel_rfl, rfl⟩
theorem Tryz.can87 : Sx.Can Tryz.prog 87 := ⟨_, Tryz.func87, by kernel_rfl, rfl⟩
theorem Tryz.can93 : Sx.Can Tryz.prog 93 := ⟨_, Tryz.func93, by kernel_rfl, rfl⟩
theorem Tryz.can94 : Sx.Can Tryz.prog 94 := ⟨_, Tryz.func94, by kernel_rfl, rfl⟩
theorem Tryz.can101 : Sx.Can Tryz.prog 101 := ⟨_, Tryz.func101, by kernel_rfl, rfl⟩
theorem Tryz.can102 : Sx.Can Tryz.prog 102 := ⟨_, Tryz.func102, by kernel_rfl, rfl⟩
theorem Tryz.can103 : Sx.Can Tryz.prog 103 := ⟨_, Tryz.func103, by kernel_rfl, rfl⟩
theorem Tryz.can117 : Sx.Can Tryz.prog 117 := ⟨_, Tryz.func117, by kernel_rfl, rfl⟩
theorem Tryz.can118 : Sx.Can Tryz.prog 118 := ⟨_, Tryz.func118, by kernel_rfl, rfl⟩
theorem Tryz.can133 : Sx.Can Tryz.prog 133 := ⟨_, Tryz.func133, by kernel_rfl, rfl⟩
theorem Tryz.can134 : Sx.Can Tryz.prog 134 := ⟨_, Tryz.func134, by kernel_rfl, rfl⟩
theorem keyedTx : Go.Maps.Keyed Tryz.prog 24 := Go.Maps.Keyed.of_law (deep_law (m := 2) (by decide) (by kernel_rfl) (by kernel_rfl) (by rw [Tryz.underlying24]))
theorem keyedS : Go.Maps.Keyed Tryz.prog 9 := Go.Maps.string_keyed Tryz.underlying9
theorem kl_int {d : Nat} {n : Int} (h : (Lit.int .i64 n).wf = true) : Tryz.prog.keyLits (d + 1) 3 [.int .i64 n] = some [.int .i64 n] := by
  unfold Program.keyLits
  rw [Tryz.underlying3]
  dsimp only
  rw [if_pos ⟨rfl, h⟩]
theorem key_txn (t : Tn) (h : t.wf) : keyOf Tryz.prog 24 (.agg #[.int .i64 t.co, .int .i64 t.li, .int .i64 t.sq]) = some (slit (tb t)) := by
  have h1 : (Lit.int .i64 t.co).wf = true := wf64 h.c.1 h.c.2
  have h2 : (Lit.int .i64 t.li).wf = true := wf64 h.l.1 h.l.2
  have h3 : (Lit.int .i64 t.sq).wf = true := wf64 h.s.1 h.s.2
  have e1 : Tryz.prog.keyType 24 = true := by kernel_rfl
  have e2 : Tryz.prog.cellsOf 24 = 3 := by kernel_rfl
  have e3 : Tryz.prog.cellsOf 3 = 1 := by kernel_rfl
  have e4 : Value.formed Tryz.prog 24 (.agg #[.int .i64 t.co, .int .i64 t.li, .int .i64 t.sq]) = true := by
    unfold Value.formed
    rw [Tryz.underlying24, e2]
    rfl
  unfold keyOf
  rw [Tryz.underlying24]
  dsimp only
  rw [e1, e4]
  simp only [Bool.and_self, if_true, Value.cells]
  have e5 : ∀ d, Tryz.prog.keyLits (d + 1 + 1) 24 [.int .i64 t.co, .int .i64 t.li, .int .i64 t.sq] = some [.int .i64 t.co, .int .i64 t.li, .int .i64 t.sq] := by
    intro d
    conv => lhs; unfold Program.keyLits
    rw [Tryz.underlying24]
    dsimp only
    rw [e2, if_pos ⟨rfl, by decide +kernel⟩]
    simp only [List.mapM_cons, List.mapM_nil, e3, List.drop_zero, List.drop_succ_cons, List.take_succ_cons, List.take_zero]
    rw [kl_int h1, kl_int h2, kl_int h3]
    rfl
  have hd : Tryz.prog.types.size + 1 = 205 + 1 + 1 := by kernel_rfl
  rw [hd, e5]
  rfl
theorem Index_calls {ad : Option Addr} {c : Nat} (ks : List Key) {w : World} (hs : Ss w ad kc 1 ks) (hl : ks.length ≤ 9223372036854775806) (key : Key) : Calls Tryz.prog 133 #[.slice ad ks.length c, .string ⟨key.toArray⟩] w fun e w' => ∃ z : Int, e = .returned (.int .i64 z) ∧ (0 ≤ z ↔ key ∈ ks) ∧ Ext No w w' := by
  have R : Ro w No _ := Ro.of fun w' x => hs.ext_no x; refine calls_into Tryz.func133 rfl Tryz.ntmps133 rfl fun a hT => ?_; replace hT := hT.keep [0,1] rfl; have H : Sx.Hp w (Sx.No) w [] := Sx.Hp.start _ _; refine sj (zz 0 [tt]) rfl fun K1 hK1 => ?_; refine asn hT rfl fun a hT => ?_; revert hT; revert hK1; refine rq [4,0,1] rfl fun K2 hK2 hT => ?_; refine sj (zz 0 [tt,tt,tt]) rfl fun K3 hK3 => ?_; refine mv hT rfl fun a hT => ?_; refine tk hT rfl (x_len_slice hT rfl rfl Tryz.underlying33 rfl) fun a hT => mv hT rfl fun a hT => ?_; revert hT; revert hK3; refine rp [8,7,4,0,1] rfl fun hT => ?_; refine wp_block ?_; refine wp_loopH (G := Nat) (fun k => [(8, .int .i64 (k : Int))]) (fun k => []) (fun k => k ≤ ks.length ∧ ∀ (t : Nat) q, t < k → ks[t]? = some q → decide (q = key) = false) (fun k => ks.length - k) 0 (hT.keep [8,7,0,1] rfl) (H.keep [] rfl rfl) (⟨Nat.zero_le _, fun t q h => by omega⟩) ?_; clear hT H; rintro k a w1 hJ hT H; replace hT := hT.keep [8,7,0,1] rfl; replace H := H.keep [] rfl rfl; obtain ⟨hk, hnq⟩ := hJ; refine sj (zz 0 [tt]) rfl fun K4 hK4 => ?_; refine tk hT rfl ((fun w => x_lt w hT rfl rfl rfl)) ?_
  clear hT; intro a hT; revert hT; revert hK4; refine rq [9,8,7,0,1] rfl fun K5 hK5 hT => ?_; refine wp_if hT rfl (fun hc6 => ?_) (fun hc6 => ?_)
  · try simp only [bq] at hc6
    obtain ⟨o, ho⟩ : ∃ q9, ks[k]? = some q9 := ⟨_, List.getElem?_eq_getElem (by omega)⟩; refine wp_skip ?_; revert hK5; refine nx fun K7 hK7 => ?_; refine wp_block ?_; refine sj (zz 0 [tt,tt]) rfl fun K8 hK8 => ?_; refine mv hT rfl fun a hT => asn hT rfl fun a hT => ?_; revert hT; revert hK8; refine rg [5,9,8,7,0,1] (zz 0 [tt,tt,tt,tt,uu,tt]) rfl fun K9 hK9 hT => ?_; refine mv hT rfl fun a hT => mv hT rfl fun a hT => mv hT rfl fun a hT => ?_; refine tk hT rfl (x_index (k := k) hT rfl Tryz.underlying33 Tryz.ti9 (R.at H.ext).sv rfl rfl (by first | rfl | omega) (by omega)) fun a hT => ?_; refine rn hT rfl (x_load1 hT rfl Tryz.fl9 rfl ((R.at H.ext).cell (j := 0) kc_len ho rfl)) fun a hT => ?_; refine tk hT rfl ((fun w => x_streq w hT rfl rfl rfl)) fun a hT => ?_; revert hT; revert hK9; refine rif [16,5,9,8,7,0,1] rfl (fun hT hc10 => ?_) (fun hT hc10 => ?_)
    · try simp only [bq] at hc10
      have heq : key = o := hc10; refine sj (zz 0 [tt,tt]) rfl fun K11 hK11 => ?_; refine mv hT rfl fun a hT => asn hT rfl fun a hT => ?_; revert hT; revert hK11; refine rp [4,16,5,9,8,7,0,1] rfl fun hT => ?_; refine wp_ret <| block_ret ?_; refine then_ret <| then_ret ?_; refine block_ret <| then_ret ?_; refine dn Tryz.f133 hT rfl ?_; exact ⟨_, rfl, ⟨fun _ => heq ▸ List.mem_of_getElem? ho, fun _ => by omega⟩, H.ext⟩
    · try simp only [bq] at hc10
      have hne : ¬ o = key := fun h9 => hc10 h9.symm; refine wp_skip <| block_normal ?_; refine then_normal (hK7 _ _ ?_); clear hK7; refine wp_text (zz 0 [tt,tt]) rfl ?_; refine tk hT rfl ((fun w => x_add w hT rfl rfl rfl (wrap64 (by omega)))) fun a hT => mv hT rfl fun a hT => ?_; replace hT := hT.keep [8,16,5,9,7,0,1] rfl; refine ser_nil ?_; refine then_normal ?_; exact ⟨k + 1, ⟨by omega, upto_snoc (p := fun q => decide (q = key)) hnq ho (decide_eq_false hne)⟩, (hT.keep [8,7,0,1] rfl), (H.keep [] rfl rfl), by omega⟩
  · try simp only [bq] at hc6
    have hkl : k = ks.length := by omega
    rw [hkl] at hnq; refine wp_exit <| then_exit ?_; refine then_exit <| block_exit ?_; revert hK2; refine nx fun K12 hK12 => ?_; refine wp_text (zz 0 [tt]) rfl ?_; refine asn hT rfl fun a hT => ?_; revert hT; revert hK12; refine rp [4,9,8,7,0,1] rfl fun hT => ?_; refine wp_ret ?_; refine dn Tryz.f133 hT rfl ?_; refine ⟨_, rfl, ⟨fun h9 => by omega, fun h9 => ?_⟩, H.ext⟩; obtain ⟨t, ht⟩ := List.mem_iff_getElem?.1 h9; have := hnq t key (List.getElem?_eq_some_iff.1 ht).1 ht; simp at this
theorem Contains_calls {ad : Option Addr} {c : Nat} (ks : List Key) {w : World} (hs : Ss w ad kc 1 ks) (hl : ks.length ≤ 9223372036854775806) (key : Key) : Calls Tryz.prog 101 #[.slice ad ks.length c, .string ⟨key.toArray⟩] w fun e w' => e = .returned (.bool (rds ks key)) ∧ Ext No w w' := by
  have R : Ro w No _ := Ro.of fun w' x => hs.ext_no x; refine calls_into Tryz.func101 rfl Tryz.ntmps101 rfl fun a hT => ?_; replace hT := hT.keep [0,1] rfl; have H : Sx.Hp w (Sx.No) w [] := Sx.Hp.start _ _; refine sj (zz 0 [tt]) rfl fun K1 hK1 => ?_; refine asn hT rfl fun a hT => ?_; revert hT; revert hK1; refine rg [4,0,1] (zz 0 [tt,tt,uu,tt,tt]) rfl fun K2 hK2 hT => ?_; refine mv hT rfl fun a hT => mv hT rfl fun a hT => ?_; refine st_call hT rfl rfl rfl rfl rfl Tryz.can133 rfl (Index_calls ks (R.at H.ext) hl key) ?_; rintro _ w1 ⟨z9, rfl, hz9, E⟩; refine ⟨_, rfl, ?_⟩; clear hT; intro a hT; replace H := H.pure E; clear E; refine tk hT rfl ((fun w => x_ge w hT rfl rfl rfl)) fun a hT => asn hT rfl fun a hT => ?_; revert hT; revert hK2; refine rp [4,0,1] rfl fun hT => ?_; refine wp_ret ?_; refine dn Tryz.f101 hT rfl ?_; exact ⟨ret_b (decide_eq_decide.2 hz9), H.ext⟩
theorem nilcut2 {ad : Option Addr} {n c sz lo : Nat} (hn : ad = none → n = 0 ∧ c = 0) (hc : cutAt ad sz lo c = none) : n - lo = 0 ∧ c - lo = 0 := by
  cases ad with
  | none => have := hn rfl; omega
  | some x =>
    unfold cutAt at hc
    split at hc <;> cases hc
theorem rownil {w : World} {e : TypeId} {sz n c : Nat} {ad : Option Addr} {xs : List Value} (h : Row w e sz ad n c xs) : ad = none → n = 0 ∧ c = 0 := fun hn => by
  subst hn
  have := h.nilcut (lo := 0) (cutAt_zero _ _ _)
  omega
theorem CloneV_calls {ad : Option Addr} {c : Nat} (l : List Vr) {w : World} (hs : Ss w ad Vr.cells 6 l) (hn : ad = none → l.length = 0 ∧ c = 0) (hl : l.length ≤ 1000000) : Calls Tryz.prog 42 #[.slice ad l.length c] w fun e w' => ∃ ad' c', e = .returned (.slice ad' l.length c') ∧ Hp w No w' [cR 92 6 ad' l.length c' (l.flatMap Vr.cells)] := by
  have R : Ro w No _ := Ro.of fun w' x => hs.ext_no x; refine calls_into Tryz.func42 rfl Tryz.ntmps42 rfl fun a hT => ?_; replace hT := hT.keep [0] rfl; have H : Sx.Hp w (Sx.No) w [] := Sx.Hp.start _ _; refine sj (zz 0 [tt]) rfl fun K1 hK1 => ?_; refine asn hT rfl fun a hT => ?_; revert hT; revert hK1; refine rq [2,0] rfl fun K2 hK2 hT => ?_; refine sj (zz 0 [tt,tt]) rfl fun K3 hK3 => ?_; refine mv hT rfl fun a hT => ?_; refine tk hT rfl (x_eqnilS hT rfl Tryz.underlying90 rfl rfl) fun a hT => ?_; revert hT; revert hK3; refine rif [4,2,0] rfl (fun hT hc4 => ?_) (fun hT hc4 => ?_)
  · try simp only [bq] at hc4
    obtain rfl : ad = none := by simpa using hc4
    obtain rfl : l = [] := List.eq_nil_of_length_eq_zero (hn rfl).1; refine sj (zz 0 [tt]) rfl fun K5 hK5 => ?_; refine asn hT rfl fun a hT => ?_; revert hT; revert hK5; refine rp [2,4,0] rfl fun hT => ?_; refine wp_ret <| then_ret ?_; refine dn Tryz.f42 hT rfl ?_; exact ⟨none, 0, rfl, (H.keep [] rfl rfl).nilR 92 6⟩
  · try simp only [bq] at hc4
    refine wp_skip ?_; revert hK2; refine nx fun K6 hK6 => ?_; refine wp_text (zz 0 [uu,tt,uu,tt]) rfl ?_; refine st_eff hT rfl rfl rfl rfl (y_slice0 hT rfl Tryz.underlying90 Tryz.ti92 _) ?_; clear hT; rintro _ w1 ⟨b1, rfl, N⟩ a hT; replace H := H.new N; clear N; refine mv hT rfl fun a hT => ?_; replace H := H.rowN 6 0 0 rfl rfl (by unfold maxLen; omega) rfl; refine st_eff hT rfl rfl rfl rfl (x_append hT rfl rfl Tryz.underlying90 Tryz.ti92 rfl (by decide) rfl rfl (H.row 0 rfl) (R.at H.ext).sv (fun u hu => flat_one Vr.one _ u hu) hn (by unfold maxLen; omega) (by omega)) ?_; rintro _ w2 ⟨ad2, c2, rfl, hr, E, hown, -⟩; clear hT; intro a hT; replace H := H.setR 0 rfl hr E hown rfl; clear hr E hown; rw [Nat.zero_add] at H hT; rw [List.nil_append] at H; refine asn hT rfl fun a hT => ?_; revert hT; revert hK6; refine rp [2,4,0] rfl fun hT => ?_; refine wp_ret ?_; refine dn Tryz.f42 hT rfl ?_; exact ⟨_, _, rfl, H.keep [0] rfl rfl⟩
theorem CloneW_calls {ad : Option Addr} {c : Nat} (l : List Wt) {w : World} (hs : Ss w ad Wt.cells 4 l) (hn : ad = none → l.length = 0 ∧ c = 0) (hl : l.length ≤ 1000000) : Calls Tryz.prog 94 #[.slice ad l.length c] w fun e w' => ∃ ad' c', e = .returned (.slice ad' l.length c') ∧ Hp w No w' [cR 65 4 ad' l.length c' (l.flatMap Wt.cells)] := by
  have R : Ro w No _ := Ro.of fun w' x => hs.ext_no x; refine calls_into Tryz.func94 rfl Tryz.ntmps94 rfl fun a hT => ?_; replace hT := hT.keep [0] rfl; have H : Sx.Hp w (Sx.No) w [] := Sx.Hp.start _ _; refine sj (zz 0 [tt]) rfl fun K1 hK1 => ?_; refine asn hT rfl fun a hT => ?_; revert hT; revert hK1; refine rq [2,0] rfl fun K2 hK2 hT => ?_; refine sj (zz 0 [tt,tt]) rfl fun K3 hK3 => ?_; refine mv hT rfl fun a hT => ?_; refine tk hT rfl (x_eqnilS hT rfl Tryz.underlying34 rfl rfl) fun a hT => ?_; revert hT; revert hK3; refine rif [4,2,0] rfl (fun hT hc4 => ?_) (fun hT hc4 => ?_)
  · try simp only [bq] at hc4
    obtain rfl : ad = none := by simpa using hc4
    obtain rfl : l = [] := List.eq_nil_of_length_eq_zero (hn rfl).1; refine sj (zz 0 [tt]) rfl fun K5 hK5 => ?_; refine asn hT rfl fun a hT => ?_; revert hT; revert hK5; refine rp [2,4,0] rfl fun hT => ?_; refine wp_ret <| then_ret ?_; refine dn Tryz.f94 hT rfl ?_; exact ⟨none, 0, rfl, (H.keep [] rfl rfl).nilR 65 4⟩
  · try simp only [bq] at hc4
    refine wp_skip ?_; revert hK2; refine nx fun K6 hK6 => ?_; refine wp_text (zz 0 [uu,tt,uu,tt]) rfl ?_; refine st_eff hT rfl rfl rfl rfl (y_slice0 hT rfl Tryz.underlying34 Tryz.ti65 _) ?_; clear hT; rintro _ w1 ⟨b1, rfl, N⟩ a hT; replace H := H.new N; clear N; refine mv hT rfl fun a hT => ?_; replace H := H.rowN 4 0 0 rfl rfl (by unfold maxLen; omega) rfl; refine st_eff hT rfl rfl rfl rfl (x_append hT rfl rfl Tryz.underlying34 Tryz.ti65 rfl (by decide) rfl rfl (H.row 0 rfl) (R.at H.ext).sv (fun u hu => flat_one Wt.one _ u hu) hn (by unfold maxLen; omega) (by omega)) ?_; rintro _ w2 ⟨ad2, c2, rfl, hr, E, hown, -⟩; clear hT; intro a hT; replace H := H.setR 0 rfl hr E hown rfl; clear hr E hown; rw [Nat.zero_add] at H hT; rw [List.nil_append] at H; refine asn hT rfl fun a hT => ?_; revert hT; revert hK6; refine rp [2,4,0] rfl fun hT => ?_; refine wp_ret ?_; refine dn Tryz.f94 hT rfl ?_; exact ⟨_, _, rfl, H.keep [0] rfl rfl⟩
theorem CloneS_calls {ad : Option Addr} {c : Nat} (l : List Key) {w : World} (hs : Ss w ad kc 1 l) (hn : ad = none → l.length = 0 ∧ c = 0) (hl : l.length ≤ 1000000) : Calls Tryz.prog 93 #[.slice ad l.length c] w fun e w' => ∃ ad' c', e = .returned (.slice ad' l.length c') ∧ Hp w No w' [cR 9 1 ad' l.length c' (l.flatMap kc)] := by
  have R : Ro w No _ := Ro.of fun w' x => hs.ext_no x; refine calls_into Tryz.func93 rfl Tryz.ntmps93 rfl fun a hT => ?_; replace hT := hT.keep [0] rfl; have H : Sx.Hp w (Sx.No) w [] := Sx.Hp.start _ _; refine sj (zz 0 [tt]) rfl fun K1 hK1 => ?_; refine asn hT rfl fun a hT => ?_; revert hT; revert hK1; refine rq [2,0] rfl fun K2 hK2 hT => ?_; refine sj (zz 0 [tt,tt]) rfl fun K3 hK3 => ?_; refine mv hT rfl fun a hT => ?_; refine tk hT rfl (x_eqnilS hT rfl Tryz.underlying33 rfl rfl) fun a hT => ?_; revert hT; revert hK3; refine rif [4,2,0] rfl (fun hT hc4 => ?_) (fun hT hc4 => ?_)
  · try simp only [bq] at hc4
    obtain rfl : ad = none := by simpa using hc4
    obtain rfl : l = [] := List.eq_nil_of_length_eq_zero (hn rfl).1; refine sj (zz 0 [tt]) rfl fun K5 hK5 => ?_; refine asn hT rfl fun a hT => ?_; revert hT; revert hK5; refine rp [2,4,0] rfl fun hT => ?_; refine wp_ret <| then_ret ?_; refine dn Tryz.f93 hT rfl ?_; exact ⟨none, 0, rfl, (H.keep [] rfl rfl).nilR 9 1⟩
  · try simp only [bq] at hc4
    refine wp_skip ?_; revert hK2; refine nx fun K6 hK6 => ?_; refine wp_text (zz 0 [uu,tt,uu,tt]) rfl ?_; refine st_eff hT rfl rfl rfl rfl (y_slice0 hT rfl Tryz.underlying33 Tryz.ti9 _) ?_; clear hT; rintro _ w1 ⟨b1, rfl, N⟩ a hT; replace H := H.new N; clear N; refine mv hT rfl fun a hT => ?_; replace H := H.rowN 1 0 0 rfl rfl (by unfold maxLen; omega) rfl; refine st_eff hT rfl rfl rfl rfl (x_append hT rfl rfl Tryz.underlying33 Tryz.ti9 rfl (by decide) rfl rfl (H.row 0 rfl) (R.at H.ext).sv (fun u hu => by obtain ⟨x, -, hx⟩ := List.mem_flatMap.1 hu; simp only [kc, List.mem_singleton] at hx; subst hx; rfl) hn (by unfold maxLen; omega) (by omega)) ?_; rintro _ w2 ⟨ad2, c2, rfl, hr, E, hown, -⟩; clear hT; intro a hT; replace H := H.setR 0 rfl hr E hown rfl; clear hr E hown; rw [Nat.zero_add] at H hT; rw [List.nil_append] at H; refine asn hT rfl fun a hT => ?_; revert hT; revert hK6; refine rp [2,4,0] rfl fun hT => ?_; refine wp_ret ?_; refine dn Tryz.f93 hT rfl ?_; exact ⟨_, _, rfl, H.keep [0] rfl rfl⟩
theorem IndexWt_calls {ad : Option Addr} {c : Nat} (l : List Wt) {g : FuncId} {cs : List Value} (p : Wt → Bool) {Q : World → Prop} {w : World} (hs : Ss w ad Wt.cells 4 l) (hl : l.length ≤ 1000000) (hc : Sx.Can Tryz.prog g) (hQ : Ro w No Q) (hp : ∀ x ∈ l, ∀ w1, Q w1 → Calls Tryz.prog g ([Value.agg (Wt.cells x).toArray] ++ cs).toArray w1 fun e w2 => e = .returned (.bool (p x)) ∧ Ext No w1 w2) : Calls Tryz.prog 134 #[.slice ad l.length c, .func (.func g) #[] cs.toArray] w fun e w' => ∃ z : Int, e = .returned (.int .i64 z) ∧ (0 ≤ z ↔ ∃ x ∈ l, p x = true) ∧ Ext No w w' := by
  have R : Ro w No _ := Ro.of fun w' x => hs.ext_no x; refine calls_into Tryz.func134 rfl Tryz.ntmps134 rfl fun a hT => ?_; replace hT := hT.keep [0,1] rfl; have H : Sx.Hp w (Sx.No) w [] := Sx.Hp.start _ _; refine sj (zz 0 [tt]) rfl fun K1 hK1 => ?_; refine asn hT rfl fun a hT => ?_; revert hT; revert hK1; refine rq [4,0,1] rfl fun K2 hK2 hT => ?_; refine sj (zz 0 [tt,tt,tt]) rfl fun K3 hK3 => ?_; refine mv hT rfl fun a hT => ?_; refine tk hT rfl (x_len_slice hT rfl rfl Tryz.underlying34 rfl) fun a hT => mv hT rfl fun a hT => ?_; revert hT; revert hK3; refine rp [8,7,4,0,1] rfl fun hT => ?_; refine wp_block ?_; refine wp_loopH (G := Nat) (fun k => [(8, .int .i64 (k : Int))]) (fun k => []) (fun k => k ≤ l.length ∧ ∀ (t : Nat) q, t < k → l[t]? = some q → p q = false) (fun k => l.length - k) 0 (hT.keep [8,7,0,1] rfl) (H.keep [] rfl rfl) (⟨Nat.zero_le _, fun t q h => by omega⟩) ?_; clear hT H; rintro k a w1 hJ hT H; replace hT := hT.keep [8,7,0,1] rfl; replace H := H.keep [] rfl rfl; obtain ⟨hk, hnp⟩ := hJ; refine sj (zz 0 [tt]) rfl fun K4 hK4 => ?_; refine tk hT rfl ((fun w => x_lt w hT rfl rfl rfl)) ?_
  clear hT; intro a hT; revert hT; revert hK4; refine rq [9,8,7,0,1] rfl fun K5 hK5 hT => ?_; refine wp_if hT rfl (fun hc6 => ?_) (fun hc6 => ?_)
  · try simp only [bq] at hc6
    obtain ⟨o, ho⟩ : ∃ q9, l[k]? = some q9 := ⟨_, List.getElem?_eq_getElem (by omega)⟩; have hom := List.mem_of_getElem? ho; refine wp_skip ?_; revert hK5; refine nx fun K7 hK7 => ?_; refine wp_block ?_; refine sj (zz 0 [tt,tt]) rfl fun K8 hK8 => ?_; refine mv hT rfl fun a hT => asn hT rfl fun a hT => ?_; revert hT; revert hK8; refine rg [5,9,8,7,0,1] (zz 0 [tt,tt,tt,tt,uu,uu]) rfl fun K9 hK9 hT => ?_; refine mv hT rfl fun a hT => mv hT rfl fun a hT => mv hT rfl fun a hT => ?_; refine tk hT rfl (x_index (k := k) hT rfl Tryz.underlying34 Tryz.ti65 (R.at H.ext).sv rfl rfl (by first | rfl | omega) (by omega)) fun a hT => ?_; refine rn hT rfl (y_loadS hT rfl Tryz.underlying65 Tryz.ti65 rfl ((R.at H.ext).cs Wt.len ho) (by rfl)) fun a hT => ?_; refine st_callV hT rfl rfl rfl rfl rfl rfl hc rfl (hp o hom _ (hQ.at H.ext)) ?_; rintro _ w2 ⟨rfl, E⟩; refine ⟨_, rfl, ?_⟩; clear hT; intro a hT; replace H := H.pure E; clear E; revert hT; revert hK9
    refine rif [16,5,9,8,7,0,1] rfl (fun hT hc10 => ?_) (fun hT hc10 => ?_)
    · try simp only [bq] at hc10
      have hpo : p o = true := hc10; refine sj (zz 0 [tt,tt]) rfl fun K11 hK11 => ?_; refine mv hT rfl fun a hT => asn hT rfl fun a hT => ?_; revert hT; revert hK11; refine rp [4,16,5,9,8,7,0,1] rfl fun hT => ?_; refine wp_ret <| block_ret ?_; refine then_ret <| then_ret ?_; refine block_ret <| then_ret ?_; refine dn Tryz.f134 hT rfl ?_; exact ⟨_, rfl, ⟨fun _ => ⟨o, hom, hpo⟩, fun _ => by omega⟩, H.ext⟩
    · try simp only [bq] at hc10
      have hpo : p o = false := hc10; refine wp_skip <| block_normal ?_; refine then_normal (hK7 _ _ ?_); clear hK7; refine wp_text (zz 0 [tt,tt]) rfl ?_; refine tk hT rfl ((fun w => x_add w hT rfl rfl rfl (wrap64 (by omega)))) fun a hT => mv hT rfl fun a hT => ?_; replace hT := hT.keep [8,16,5,9,7,0,1] rfl; refine ser_nil ?_; refine then_normal ?_; exact ⟨k + 1, ⟨by omega, fun t q h3 h4 => by rcases Nat.lt_or_ge t k with h5 | h5; exact hnp t q h5 h4; obtain rfl : t = k := (by omega); rw [ho] at h4; cases h4; exact hpo⟩, (hT.keep [8,7,0,1] rfl), (H.keep [] rfl rfl), by omega⟩
  · try simp only [bq] at hc6
    have hkl : k = l.length := by omega
    rw [hkl] at hnp; refine wp_exit <| then_exit ?_; refine then_exit <| block_exit ?_; revert hK2; refine nx fun K12 hK12 => ?_; refine wp_text (zz 0 [tt]) rfl ?_; refine asn hT rfl fun a hT => ?_; revert hT; revert hK12; refine rp [4,9,8,7,0,1] rfl fun hT => ?_; refine wp_ret ?_; refine dn Tryz.f134 hT rfl ?_; refine ⟨_, rfl, ⟨fun h9 => by omega, fun ⟨x, hx, hpx⟩ => ?_⟩, H.ext⟩; obtain ⟨t, ht⟩ := List.mem_iff_getElem?.1 hx; rw [hnp t x (List.getElem?_eq_some_iff.1 ht).1 ht] at hpx; cases hpx
theorem ContainsWt_calls {ad : Option Addr} {c : Nat} (l : List Wt) {g : FuncId} {cs : List Value} (p : Wt → Bool) {Q : World → Prop} {w : World} (hs : Ss w ad Wt.cells 4 l) (hl : l.length ≤ 1000000) (hc : Sx.Can Tryz.prog g) (hQ : Ro w No Q) (hp : ∀ x ∈ l, ∀ w1, Q w1 → Calls Tryz.prog g ([Value.agg (Wt.cells x).toArray] ++ cs).toArray w1 fun e w2 => e = .returned (.bool (p x)) ∧ Ext No w1 w2) : Calls Tryz.prog 102 #[.slice ad l.length c, .func (.func g) #[] cs.toArray] w fun e w' => e = .returned (.bool (l.any p)) ∧ Ext No w w' := by
  have R : Ro w No _ := Ro.of fun w' x => hs.ext_no x; refine calls_into Tryz.func102 rfl Tryz.ntmps102 rfl fun a hT => ?_; replace hT := hT.keep [0,1] rfl; have H : Sx.Hp w (Sx.No) w [] := Sx.Hp.start _ _; refine sj (zz 0 [tt]) rfl fun K1 hK1 => ?_; refine asn hT rfl fun a hT => ?_; revert hT; revert hK1; refine rg [4,0,1] (zz 0 [tt,tt,uu,tt,tt]) rfl fun K2 hK2 hT => ?_; refine mv hT rfl fun a hT => mv hT rfl fun a hT => ?_; refine st_call hT rfl rfl rfl rfl rfl Tryz.can134 rfl (IndexWt_calls l p (R.at H.ext) hl hc (Ro.of fun w1 x1 => hQ.at (H.ext.trans x1 fun _ _ h => h)) hp) ?_; rintro _ w1 ⟨z9, rfl, hz9, E⟩; refine ⟨_, rfl, ?_⟩; clear hT; intro a hT; replace H := H.pure E; clear E; refine tk hT rfl ((fun w => x_ge w hT rfl rfl rfl)) fun a hT => asn hT rfl fun a hT => ?_; revert hT; revert hK2; refine rp [4,0,1] rfl fun hT => ?_; refine wp_ret ?_; refine dn Tryz.f102 hT rfl ?_; refine ⟨ret_b ?_, H.ext⟩; rw [Bool.eq_iff_iff, List.any_eq_true, decide_eq_true_eq]; exact hz9
theorem IndexVr_calls {ad : Option Addr} {c : Nat} (l : List Vr) {g : FuncId} {cs : List Value} (p : Vr → Bool) {Q : World → Prop} {w : World} (hs : Ss w ad Vr.cells 6 l) (hl : l.length ≤ 1000000) (hc : Sx.Can Tryz.prog g) (hQ : Ro w No Q) (hp : ∀ x ∈ l, ∀ w1, Q w1 → Calls Tryz.prog g ([Value.agg (Vr.cells x).toArray] ++ cs).toArray w1 fun e w2 => e = .returned (.bool (p x)) ∧ Ext No w1 w2) : Calls Tryz.prog 118 #[.slice ad l.length c, .func (.func g) #[] cs.toArray] w fun e w' => ∃ z : Int, e = .returned (.int .i64 z) ∧ (0 ≤ z ↔ ∃ x ∈ l, p x = true) ∧ Ext No w w' := by
  have R : Ro w No _ := Ro.of fun w' x => hs.ext_no x; refine calls_into Tryz.func118 rfl Tryz.ntmps118 rfl fun a hT => ?_; replace hT := hT.keep [0,1] rfl; have H : Sx.Hp w (Sx.No) w [] := Sx.Hp.start _ _; refine sj (zz 0 [tt]) rfl fun K1 hK1 => ?_; refine asn hT rfl fun a hT => ?_; revert hT; revert hK1; refine rq [4,0,1] rfl fun K2 hK2 hT => ?_; refine sj (zz 0 [tt,tt,tt]) rfl fun K3 hK3 => ?_; refine mv hT rfl fun a hT => ?_; refine tk hT rfl (x_len_slice hT rfl rfl Tryz.underlying90 rfl) fun a hT => mv hT rfl fun a hT => ?_; revert hT; revert hK3; refine rp [8,7,4,0,1] rfl fun hT => ?_; refine wp_block ?_; refine wp_loopH (G := Nat) (fun k => [(8, .int .i64 (k : Int))]) (fun k => []) (fun k => k ≤ l.length ∧ ∀ (t : Nat) q, t < k → l[t]? = some q → p q = false) (fun k => l.length - k) 0 (hT.keep [8,7,0,1] rfl) (H.keep [] rfl rfl) (⟨Nat.zero_le _, fun t q h => by omega⟩) ?_; clear hT H; rintro k a w1 hJ hT H; replace hT := hT.keep [8,7,0,1] rfl; replace H := H.keep [] rfl rfl; obtain ⟨hk, hnp⟩ := hJ; refine sj (zz 0 [tt]) rfl fun K4 hK4 => ?_; refine tk hT rfl ((fun w => x_lt w hT rfl rfl rfl)) ?_
  clear hT; intro a hT; revert hT; revert hK4; refine rq [9,8,7,0,1] rfl fun K5 hK5 hT => ?_; refine wp_if hT rfl (fun hc6 => ?_) (fun hc6 => ?_)
  · try simp only [bq] at hc6
    obtain ⟨o, ho⟩ : ∃ q9, l[k]? = some q9 := ⟨_, List.getElem?_eq_getElem (by omega)⟩; have hom := List.mem_of_getElem? ho; refine wp_skip ?_; revert hK5; refine nx fun K7 hK7 => ?_; refine wp_block ?_; refine sj (zz 0 [tt,tt]) rfl fun K8 hK8 => ?_; refine mv hT rfl fun a hT => asn hT rfl fun a hT => ?_; revert hT; revert hK8; refine rg [5,9,8,7,0,1] (zz 0 [tt,tt,tt,tt,uu,uu]) rfl fun K9 hK9 hT => ?_; refine mv hT rfl fun a hT => mv hT rfl fun a hT => mv hT rfl fun a hT => ?_; refine tk hT rfl (x_index (k := k) hT rfl Tryz.underlying90 Tryz.ti92 (R.at H.ext).sv rfl rfl (by first | rfl | omega) (by omega)) fun a hT => ?_; refine rn hT rfl (y_loadS hT rfl Tryz.underlying92 Tryz.ti92 rfl ((R.at H.ext).cs Vr.len ho) (by rfl)) fun a hT => ?_; refine st_callV hT rfl rfl rfl rfl rfl rfl hc rfl (hp o hom _ (hQ.at H.ext)) ?_; rintro _ w2 ⟨rfl, E⟩; refine ⟨_, rfl, ?_⟩; clear hT; intro a hT; replace H := H.pure E; clear E; revert hT; revert hK9
    refine rif [16,5,9,8,7,0,1] rfl (fun hT hc10 => ?_) (fun hT hc10 => ?_)
    · try simp only [bq] at hc10
      have hpo : p o = true := hc10; refine sj (zz 0 [tt,tt]) rfl fun K11 hK11 => ?_; refine mv hT rfl fun a hT => asn hT rfl fun a hT => ?_; revert hT; revert hK11; refine rp [4,16,5,9,8,7,0,1] rfl fun hT => ?_; refine wp_ret <| block_ret ?_; refine then_ret <| then_ret ?_; refine block_ret <| then_ret ?_; refine dn Tryz.f118 hT rfl ?_; exact ⟨_, rfl, ⟨fun _ => ⟨o, hom, hpo⟩, fun _ => by omega⟩, H.ext⟩
    · try simp only [bq] at hc10
      have hpo : p o = false := hc10; refine wp_skip <| block_normal ?_; refine then_normal (hK7 _ _ ?_); clear hK7; refine wp_text (zz 0 [tt,tt]) rfl ?_; refine tk hT rfl ((fun w => x_add w hT rfl rfl rfl (wrap64 (by omega)))) fun a hT => mv hT rfl fun a hT => ?_; replace hT := hT.keep [8,16,5,9,7,0,1] rfl; refine ser_nil ?_; refine then_normal ?_; exact ⟨k + 1, ⟨by omega, fun t q h3 h4 => by rcases Nat.lt_or_ge t k with h5 | h5; exact hnp t q h5 h4; obtain rfl : t = k := (by omega); rw [ho] at h4; cases h4; exact hpo⟩, (hT.keep [8,7,0,1] rfl), (H.keep [] rfl rfl), by omega⟩
  · try simp only [bq] at hc6
    have hkl : k = l.length := by omega
    rw [hkl] at hnp; refine wp_exit <| then_exit ?_; refine then_exit <| block_exit ?_; revert hK2; refine nx fun K12 hK12 => ?_; refine wp_text (zz 0 [tt]) rfl ?_; refine asn hT rfl fun a hT => ?_; revert hT; revert hK12; refine rp [4,9,8,7,0,1] rfl fun hT => ?_; refine wp_ret ?_; refine dn Tryz.f118 hT rfl ?_; refine ⟨_, rfl, ⟨fun h9 => by omega, fun ⟨x, hx, hpx⟩ => ?_⟩, H.ext⟩; obtain ⟨t, ht⟩ := List.mem_iff_getElem?.1 hx; rw [hnp t x (List.getElem?_eq_some_iff.1 ht).1 ht] at hpx; cases hpx
theorem ContainsVr_calls {ad : Option Addr} {c : Nat} (l : List Vr) {g : FuncId} {cs : List Value} (p : Vr → Bool) {Q : World → Prop} {w : World} (hs : Ss w ad Vr.cells 6 l) (hl : l.length ≤ 1000000) (hc : Sx.Can Tryz.prog g) (hQ : Ro w No Q) (hp : ∀ x ∈ l, ∀ w1, Q w1 → Calls Tryz.prog g ([Value.agg (Vr.cells x).toArray] ++ cs).toArray w1 fun e w2 => e = .returned (.bool (p x)) ∧ Ext No w1 w2) : Calls Tryz.prog 86 #[.slice ad l.length c, .func (.func g) #[] cs.toArray] w fun e w' => e = .returned (.bool (l.any p)) ∧ Ext No w w' := by
  have R : Ro w No _ := Ro.of fun w' x => hs.ext_no x; refine calls_into Tryz.func86 rfl Tryz.ntmps86 rfl fun a hT => ?_; replace hT := hT.keep [0,1] rfl; have H : Sx.Hp w (Sx.No) w [] := Sx.Hp.start _ _; refine sj (zz 0 [tt]) rfl fun K1 hK1 => ?_; refine asn hT rfl fun a hT => ?_; revert hT; revert hK1; refine rg [4,0,1] (zz 0 [tt,tt,uu,tt,tt]) rfl fun K2 hK2 hT => ?_; refine mv hT rfl fun a hT => mv hT rfl fun a hT => ?_; refine st_call hT rfl rfl rfl rfl rfl Tryz.can118 rfl (IndexVr_calls l p (R.at H.ext) hl hc (Ro.of fun w1 x1 => hQ.at (H.ext.trans x1 fun _ _ h => h)) hp) ?_; rintro _ w1 ⟨z9, rfl, hz9, E⟩; refine ⟨_, rfl, ?_⟩; clear hT; intro a hT; replace H := H.pure E; clear E; refine tk hT rfl ((fun w => x_ge w hT rfl rfl rfl)) fun a hT => asn hT rfl fun a hT => ?_; revert hT; revert hK2; refine rp [4,0,1] rfl fun hT => ?_; refine wp_ret ?_; refine dn Tryz.f86 hT rfl ?_; refine ⟨ret_b ?_, H.ext⟩; rw [Bool.eq_iff_iff, List.any_eq_true, decide_eq_true_eq]; exact hz9
theorem TxnLess_calls (t q : Tn) (w : World) : Calls Tryz.prog 46 #[.agg #[.int .i64 t.co, .int .i64 t.li, .int .i64 t.sq], .agg #[.int .i64 q.co, .int .i64 q.li, .int .i64 q.sq]] w fun e w' => e = .returned (.bool (decide (tless t q))) ∧ Ext No w w' := by
  refine calls_into Tryz.func46 rfl Tryz.ntmps46 rfl fun a hT => ?_; replace hT := hT.keep [0,1] rfl; have H : Sx.Hp w (Sx.No) w [] := Sx.Hp.start _ _; refine sj (zz 0 [uu,uu,tt]) rfl fun K1 hK1 => ?_; refine st_eff hT rfl rfl rfl rfl (y_box hT rfl rfl rfl _) ?_; clear hT; rintro _ w1 ⟨b1, rfl, N⟩ a hT; replace H := H.new N; clear N; refine st_eff hT rfl rfl rfl rfl (y_box hT rfl rfl rfl _) ?_; clear hT; rintro _ w2 ⟨b2, rfl, N⟩ a hT; replace H := H.new N; clear N; refine asn hT rfl fun a hT => ?_; revert hT; revert hK1; refine rq [4,3,2,0,1] rfl fun K2 hK2 hT => ?_; refine wp_block ?_; refine sj (zz 0 [tt,uu,tt,uu,tt,tt]) rfl fun K3 hK3 => ?_; refine fad hT Tryz.fa24_0 rfl fun a hT => ?_; refine rn hT rfl (x_load1 hT rfl Tryz.fl3 rfl ((H.blk 1 rfl).nth rfl)) fun a hT => fad hT Tryz.fa24_0 rfl fun a hT => ?_; refine rn hT rfl (x_load1 hT rfl Tryz.fl3 rfl ((H.blk 0 rfl).nth rfl)) fun a hT => ?_; refine tk hT rfl ((fun w => x_ne w hT rfl rfl rfl)) fun a hT => asn hT rfl fun a hT => ?_; revert hT; revert hK3
  refine rif [5,4,3,2,0,1] rfl (fun hT hc4 => ?_) (fun hT hc4 => ?_)
  · try simp only [bq] at hc4
    refine sj (zz 0 [tt,uu,tt,uu,tt,tt]) rfl fun K5 hK5 => ?_; refine fad hT Tryz.fa24_0 rfl fun a hT => ?_; refine rn hT rfl (x_load1 hT rfl Tryz.fl3 rfl ((H.blk 1 rfl).nth rfl)) fun a hT => fad hT Tryz.fa24_0 rfl fun a hT => ?_; refine rn hT rfl (x_load1 hT rfl Tryz.fl3 rfl ((H.blk 0 rfl).nth rfl)) fun a hT => ?_; refine tk hT rfl ((fun w => x_lt w hT rfl rfl rfl)) fun a hT => asn hT rfl fun a hT => ?_; revert hT; revert hK5; refine rp [4,5,3,2,0,1] rfl fun hT => ?_; refine wp_ret <| block_ret <| then_ret ?_; refine dn Tryz.f46 hT rfl ?_; exact ⟨ret_b (decide_eq_decide.2 (by unfold tless; omega)), H.ext⟩
  · try simp only [bq] at hc4
    refine sj (zz 0 [tt,uu,tt,uu,tt,tt]) rfl fun K6 hK6 => ?_; refine fad hT Tryz.fa24_1 rfl fun a hT => ?_; refine rn hT rfl (x_load1 hT rfl Tryz.fl3 rfl ((H.blk 1 rfl).nth rfl)) fun a hT => fad hT Tryz.fa24_1 rfl fun a hT => ?_; refine rn hT rfl (x_load1 hT rfl Tryz.fl3 rfl ((H.blk 0 rfl).nth rfl)) fun a hT => ?_; refine tk hT rfl ((fun w => x_ne w hT rfl rfl rfl)) fun a hT => asn hT rfl fun a hT => ?_; revert hT; revert hK6; refine rif [16,5,4,3,2,0,1] rfl (fun hT hc7 => ?_) (fun hT hc7 => ?_)
    · try simp only [bq] at hc7
      refine sj (zz 0 [tt,uu,tt,uu,tt,tt]) rfl fun K8 hK8 => ?_; refine fad hT Tryz.fa24_1 rfl fun a hT => ?_; refine rn hT rfl (x_load1 hT rfl Tryz.fl3 rfl ((H.blk 1 rfl).nth rfl)) fun a hT => fad hT Tryz.fa24_1 rfl fun a hT => ?_; refine rn hT rfl (x_load1 hT rfl Tryz.fl3 rfl ((H.blk 0 rfl).nth rfl)) fun a hT => ?_; refine tk hT rfl ((fun w => x_lt w hT rfl rfl rfl)) fun a hT => asn hT rfl fun a hT => ?_; revert hT; revert hK8; refine rp [4,16,5,3,2,0,1] rfl fun hT => ?_; refine wp_ret <| block_ret <| then_ret ?_; refine dn Tryz.f46 hT rfl ?_; exact ⟨ret_b (decide_eq_decide.2 (by unfold tless; omega)), H.ext⟩
    · try simp only [bq] at hc7
      refine wp_skip <| block_normal ?_; revert hK2; refine nx fun K9 hK9 => ?_; refine wp_text (zz 0 [tt,uu,tt,uu,tt,tt]) rfl ?_; refine fad hT Tryz.fa24_2 rfl fun a hT => ?_; refine rn hT rfl (x_load1 hT rfl Tryz.fl3 rfl ((H.blk 1 rfl).nth rfl)) fun a hT => fad hT Tryz.fa24_2 rfl fun a hT => ?_; refine rn hT rfl (x_load1 hT rfl Tryz.fl3 rfl ((H.blk 0 rfl).nth rfl)) fun a hT => ?_; refine tk hT rfl ((fun w => x_lt w hT rfl rfl rfl)) fun a hT => asn hT rfl fun a hT => ?_; revert hT; revert hK9; refine rp [4,16,5,3,2,0,1] rfl fun hT => ?_; refine wp_ret ?_; refine dn Tryz.f46 hT rfl ?_; exact ⟨ret_b (decide_eq_decide.2 (by unfold tless; omega)), H.ext⟩
theorem xTxnLess_calls (t q : Tn) (w : World) : Calls Tryz.prog 117 #[.agg #[.int .i64 t.co, .int .i64 t.li, .int .i64 t.sq], .agg #[.int .i64 q.co, .int .i64 q.li, .int .i64 q.sq]] w fun e w' => e = .returned (.bool (decide (tless t q))) ∧ Ext No w w' := by
  refine calls_into Tryz.func117 rfl Tryz.ntmps117 rfl fun a hT => ?_; replace hT := hT.keep [0,1] rfl; have H : Sx.Hp w (Sx.No) w [] := Sx.Hp.start _ _; refine sj (zz 0 [uu,uu,tt]) rfl fun K1 hK1 => ?_; refine st_eff hT rfl rfl rfl rfl (y_box hT rfl rfl rfl _) ?_; clear hT; rintro _ w1 ⟨b1, rfl, N⟩ a hT; replace H := H.new N; clear N; refine st_eff hT rfl rfl rfl rfl (y_box hT rfl rfl rfl _) ?_; clear hT; rintro _ w2 ⟨b2, rfl, N⟩ a hT; replace H := H.new N; clear N; refine asn hT rfl fun a hT => ?_; revert hT; revert hK1; refine rq [4,3,2,0,1] rfl fun K2 hK2 hT => ?_; refine wp_block ?_; refine sj (zz 0 [tt,uu,tt,uu,tt,tt]) rfl fun K3 hK3 => ?_; refine fad hT Tryz.fa24_0 rfl fun a hT => ?_; refine rn hT rfl (x_load1 hT rfl Tryz.fl3 rfl ((H.blk 1 rfl).nth rfl)) fun a hT => fad hT Tryz.fa24_0 rfl fun a hT => ?_; refine rn hT rfl (x_load1 hT rfl Tryz.fl3 rfl ((H.blk 0 rfl).nth rfl)) fun a hT => ?_; refine tk hT rfl ((fun w => x_ne w hT rfl rfl rfl)) fun a hT => asn hT rfl fun a hT => ?_; revert hT; revert hK3
  refine rif [5,4,3,2,0,1] rfl (fun hT hc4 => ?_) (fun hT hc4 => ?_)
  · try simp only [bq] at hc4
    refine sj (zz 0 [tt,uu,tt,uu,tt,tt]) rfl fun K5 hK5 => ?_; refine fad hT Tryz.fa24_0 rfl fun a hT => ?_; refine rn hT rfl (x_load1 hT rfl Tryz.fl3 rfl ((H.blk 1 rfl).nth rfl)) fun a hT => fad hT Tryz.fa24_0 rfl fun a hT => ?_; refine rn hT rfl (x_load1 hT rfl Tryz.fl3 rfl ((H.blk 0 rfl).nth rfl)) fun a hT => ?_; refine tk hT rfl ((fun w => x_lt w hT rfl rfl rfl)) fun a hT => asn hT rfl fun a hT => ?_; revert hT; revert hK5; refine rp [4,5,3,2,0,1] rfl fun hT => ?_; refine wp_ret <| block_ret <| then_ret ?_; refine dn Tryz.f117 hT rfl ?_; exact ⟨ret_b (decide_eq_decide.2 (by unfold tless; omega)), H.ext⟩
  · try simp only [bq] at hc4
    refine sj (zz 0 [tt,uu,tt,uu,tt,tt]) rfl fun K6 hK6 => ?_; refine fad hT Tryz.fa24_1 rfl fun a hT => ?_; refine rn hT rfl (x_load1 hT rfl Tryz.fl3 rfl ((H.blk 1 rfl).nth rfl)) fun a hT => fad hT Tryz.fa24_1 rfl fun a hT => ?_; refine rn hT rfl (x_load1 hT rfl Tryz.fl3 rfl ((H.blk 0 rfl).nth rfl)) fun a hT => ?_; refine tk hT rfl ((fun w => x_ne w hT rfl rfl rfl)) fun a hT => asn hT rfl fun a hT => ?_; revert hT; revert hK6; refine rif [16,5,4,3,2,0,1] rfl (fun hT hc7 => ?_) (fun hT hc7 => ?_)
    · try simp only [bq] at hc7
      refine sj (zz 0 [tt,uu,tt,uu,tt,tt]) rfl fun K8 hK8 => ?_; refine fad hT Tryz.fa24_1 rfl fun a hT => ?_; refine rn hT rfl (x_load1 hT rfl Tryz.fl3 rfl ((H.blk 1 rfl).nth rfl)) fun a hT => fad hT Tryz.fa24_1 rfl fun a hT => ?_; refine rn hT rfl (x_load1 hT rfl Tryz.fl3 rfl ((H.blk 0 rfl).nth rfl)) fun a hT => ?_; refine tk hT rfl ((fun w => x_lt w hT rfl rfl rfl)) fun a hT => asn hT rfl fun a hT => ?_; revert hT; revert hK8; refine rp [4,16,5,3,2,0,1] rfl fun hT => ?_; refine wp_ret <| block_ret <| then_ret ?_; refine dn Tryz.f117 hT rfl ?_; exact ⟨ret_b (decide_eq_decide.2 (by unfold tless; omega)), H.ext⟩
    · try simp only [bq] at hc7
      refine wp_skip <| block_normal ?_; revert hK2; refine nx fun K9 hK9 => ?_; refine wp_text (zz 0 [tt,uu,tt,uu,tt,tt]) rfl ?_; refine fad hT Tryz.fa24_2 rfl fun a hT => ?_; refine rn hT rfl (x_load1 hT rfl Tryz.fl3 rfl ((H.blk 1 rfl).nth rfl)) fun a hT => fad hT Tryz.fa24_2 rfl fun a hT => ?_; refine rn hT rfl (x_load1 hT rfl Tryz.fl3 rfl ((H.blk 0 rfl).nth rfl)) fun a hT => ?_; refine tk hT rfl ((fun w => x_lt w hT rfl rfl rfl)) fun a hT => asn hT rfl fun a hT => ?_; revert hT; revert hK9; refine rp [4,16,5,3,2,0,1] rfl fun hT => ?_; refine wp_ret ?_; refine dn Tryz.f117 hT rfl ?_; exact ⟨ret_b (decide_eq_decide.2 (by unfold tless; omega)), H.ext⟩
theorem Later_calls (s q : Stp) (w : World) : Calls Tryz.prog 61 #[.agg #[.int .i64 s.w, .int .i64 s.l, .int .i64 s.n], .agg #[.int .i64 q.w, .int .i64 q.l, .int .i64 q.n]] w fun e w' => e = .returned (.agg #[.int .i64 (laterS s q).w, .int .i64 (laterS s q).l, .int .i64 (laterS s q).n]) ∧ Ext No w w' := by
  refine calls_into Tryz.func61 rfl Tryz.ntmps61 rfl fun a hT => ?_; replace hT := hT.keep [0,1] rfl; have H : Sx.Hp w (Sx.No) w [] := Sx.Hp.start _ _; refine sj (zz 0 [uu,uu,uu]) rfl fun K1 hK1 => ?_; refine st_eff hT rfl rfl rfl rfl (y_box hT rfl rfl rfl _) ?_; clear hT; rintro _ w1 ⟨b1, rfl, N⟩ a hT; replace H := H.new N; clear N; refine st_eff hT rfl rfl rfl rfl (y_box hT rfl rfl rfl _) ?_; clear hT; rintro _ w2 ⟨b2, rfl, N⟩ a hT; replace H := H.new N; clear N; refine st_eff hT rfl rfl rfl rfl (y_alloc hT rfl Tryz.ti26 rfl _) ?_; clear hT; rintro _ w3 ⟨b3, rfl, N⟩ a hT; replace H := H.new N; clear N; revert hT; revert hK1; refine rq [4,3,2,0,1] rfl fun K2 hK2 hT => ?_; refine sj (zz 0 [uu,uu,uu,tt]) rfl fun K3 hK3 => ?_; refine rn hT rfl (y_loadS hT rfl Tryz.underlying26 Tryz.ti26 rfl ((H.blk 2 rfl).seg (k := 3) rfl) (by rfl)) fun a hT => ?_; refine rn hT rfl (y_loadS hT rfl Tryz.underlying26 Tryz.ti26 rfl ((H.blk 1 rfl).seg (k := 3) rfl) (by rfl)) fun a hT => ?_; refine st_call hT rfl rfl rfl rfl rfl Tryz.can38 rfl (Compare_calls _ _ _) ?_; rintro _ w4 ⟨rfl, E⟩; refine ⟨_, rfl, ?_⟩; clear hT; intro a hT; replace H := H.pure E; clear E; refine tk hT rfl ((fun w => x_lt w hT rfl rfl rfl)) fun a hT => ?_; revert hT; revert hK3
  refine rif [8,4,3,2,0,1] rfl (fun hT hc4 => ?_) (fun hT hc4 => ?_)
  · try simp only [bq] at hc4
    have hlt : ltS s q := (cmp_lt s q).1 hc4; refine sj (zz 0 [uu,uu]) rfl fun K5 hK5 => ?_; refine rn hT rfl (y_loadS hT rfl Tryz.underlying26 Tryz.ti26 rfl ((H.blk 1 rfl).seg (k := 3) rfl) (by rfl)) fun a hT => ?_; refine st_act hT rfl rfl rfl (y_storeS hT rfl Tryz.ti26 rfl rfl rfl rfl rfl (H.blk 0 rfl) rfl) ?_; rintro w5 ⟨hb, E, _⟩; replace H := H.setB 0 rfl hb E rfl; clear hb E; revert hT; revert hK5; refine rp [8,4,3,2,0,1] rfl fun hT => ?_; refine wp_ret <| then_ret ?_; refine done1 (fn := Tryz.f61) hT rfl (.cell (hT.get 4 _ rfl) (Sx.run_resS Tryz.underlying26 Tryz.ti26 ((H.blk 0 rfl).seg (k := 3) rfl) (by rfl))) ?_; rw [show laterS s q = q from if_pos hlt]; exact ⟨rfl, H.ext⟩
  · try simp only [bq] at hc4
    have hlt : ¬ ltS s q := fun h9 => by have := (cmp_lt s q).2 h9; omega
    refine wp_skip ?_; revert hK2; refine nx fun K6 hK6 => ?_; refine wp_text (zz 0 [uu,uu]) rfl ?_; refine rn hT rfl (y_loadS hT rfl Tryz.underlying26 Tryz.ti26 rfl ((H.blk 2 rfl).seg (k := 3) rfl) (by rfl)) fun a hT => ?_; refine st_act hT rfl rfl rfl (y_storeS hT rfl Tryz.ti26 rfl rfl rfl rfl rfl (H.blk 0 rfl) rfl) ?_; rintro w6 ⟨hb, E, _⟩; replace H := H.setB 0 rfl hb E rfl; clear hb E; revert hT; revert hK6; refine rp [8,4,3,2,0,1] rfl fun hT => ?_; refine wp_ret ?_; refine done1 (fn := Tryz.f61) hT rfl (.cell (hT.get 4 _ rfl) (Sx.run_resS Tryz.underlying26 Tryz.ti26 ((H.blk 0 rfl).seg (k := 3) rfl) (by rfl))) ?_; rw [show laterS s q = s from if_neg hlt]; exact ⟨rfl, H.ext⟩
theorem writes1_calls (y : Wt) {b : Nat} (k : Key) {w : World} (hB : Blk w b (kc k) 9) : Calls Tryz.prog 103 #[.agg #[.string ⟨y.key.toArray⟩, .int .i64 y.v.k, .float .f64 y.v.num, .string ⟨y.v.tx.toArray⟩], .pointer (some ⟨b, 0, none⟩)] w fun e w' => e = .returned (.bool (decide (y.key = k))) ∧ Ext No w w' := by
  have RB : Ro w No _ := Ro.of fun w' x => hB.ext_no x; refine calls_into Tryz.func103 rfl Tryz.ntmps103 rfl fun a hT => ?_; replace hT := hT.keep [0,1] rfl; have H : Sx.Hp w (Sx.No) w [] := Sx.Hp.start _ _; refine sj (zz 0 [uu,tt]) rfl fun K1 hK1 => ?_; refine st_eff hT rfl rfl rfl rfl (y_box hT rfl rfl rfl _) ?_; clear hT; rintro _ w1 ⟨b1, rfl, N⟩ a hT; replace H := H.new N; clear N; refine asn hT rfl fun a hT => ?_; revert hT; revert hK1; refine rg [3,2,0,1] (zz 0 [tt,uu,uu,tt,tt]) rfl fun K2 hK2 hT => ?_; refine fad hT Tryz.fa65_0 rfl fun a hT => ?_; refine rn hT rfl (x_load1 hT rfl Tryz.fl9 rfl ((H.blk 0 rfl).nth rfl)) fun a hT => ?_; refine rn hT rfl (x_load1 hT rfl Tryz.fl9 rfl (by first | exact ((H.blk 0 rfl).nth rfl) | exact ((RB.at H.ext).nth (j := 0) rfl))) fun a hT => ?_; refine tk hT rfl ((fun w => x_streq w hT rfl rfl rfl)) fun a hT => asn hT rfl fun a hT => ?_; revert hT; revert hK2; refine rp [3,2,0,1] rfl fun hT => ?_; refine wp_ret ?_; refine dn Tryz.f103 hT rfl ?_; exact ⟨rfl, H.ext⟩
theorem writes_calls (x : Pn) (k : Key) {w : World} (hs2 : Ss w x.wa Wt.cells 4 x.ws) (hl2 : x.ws.length ≤ 1000000) : Calls Tryz.prog 60 #[.agg #[.int .i64 x.t.co, .int .i64 x.t.li, .int .i64 x.t.sq, .int .i64 x.s.w, .int .i64 x.s.l, .int .i64 x.s.n, .slice x.ra x.rs.length x.rc, .slice x.wa x.ws.length x.wc], .string ⟨k.toArray⟩] w fun e w' => e = .returned (.bool (wrts x.ws k)) ∧ Ext No w w' := by
  have R2 : Ro w No _ := Ro.of fun w' x => hs2.ext_no x; refine calls_into Tryz.func60 rfl Tryz.ntmps60 rfl fun a hT => ?_; replace hT := hT.keep [0,1] rfl; have H : Sx.Hp w (Sx.No) w [] := Sx.Hp.start _ _; refine sj (zz 0 [uu,uu,tt]) rfl fun K1 hK1 => ?_; refine st_eff hT rfl rfl rfl rfl (y_box hT rfl rfl rfl _) ?_; clear hT; rintro _ w1 ⟨b1, rfl, N⟩ a hT; replace H := H.new N; clear N; refine st_eff hT rfl rfl rfl rfl (y_box hT rfl rfl rfl _) ?_; clear hT; rintro _ w2 ⟨b2, rfl, N⟩ a hT; replace H := H.new N; clear N; refine asn hT rfl fun a hT => ?_; revert hT; revert hK1; refine rg [4,3,2,0,1] (zz 0 [tt,uu,tt,uu,tt]) rfl fun K2 hK2 hT => ?_; refine fad hT Tryz.fa36_3 rfl fun a hT => ?_; refine rn hT rfl (x_load1 hT rfl Tryz.fl34 rfl ((H.blk 1 rfl).nth rfl)) fun a hT => ?_; refine tk hT rfl (x_makeFunc hT rfl rfl) fun a hT => ?_; refine st_call hT rfl rfl rfl rfl rfl Tryz.can102 rfl (ContainsWt_calls x.ws (fun y => decide (y.key = k)) (cs := [.pointer (some ⟨b2, 0, none⟩)]) (R2.at H.ext) hl2 Tryz.can103 (Q := fun u => Blk u b2 (kc k) 9) (Ro.of fun w1 x1 => ((H.blk 0 rfl)).ext_no x1) (fun y _ w1 hq => writes1_calls y k hq)) ?_; rintro _ w3 ⟨rfl, E⟩
  refine ⟨_, rfl, ?_⟩; clear hT; intro a hT; replace H := H.pure E; clear E; refine asn hT rfl fun a hT => ?_; revert hT; revert hK2; refine rp [4,3,2,0,1] rfl fun hT => ?_; refine wp_ret ?_; refine dn Tryz.f60 hT rfl ?_; exact ⟨rfl, H.ext⟩
theorem clone_calls (x : Pn) {w : World} (hs : Ss w x.ra kc 1 x.rs) (hs2 : Ss w x.wa Wt.cells 4 x.ws) (hl : x.rs.length ≤ 1000000) (hl2 : x.ws.length ≤ 1000000) (hn : x.ra = none → x.rs.length = 0 ∧ x.rc = 0) (hn2 : x.wa = none → x.ws.length = 0 ∧ x.wc = 0) : Calls Tryz.prog 43 #[.agg #[.int .i64 x.t.co, .int .i64 x.t.li, .int .i64 x.t.sq, .int .i64 x.s.w, .int .i64 x.s.l, .int .i64 x.s.n, .slice x.ra x.rs.length x.rc, .slice x.wa x.ws.length x.wc]] w fun e w' => ∃ ad1 c1 ad2 c2, e = .returned (.agg #[.int .i64 x.t.co, .int .i64 x.t.li, .int .i64 x.t.sq, .int .i64 x.s.w, .int .i64 x.s.l, .int .i64 x.s.n, .slice ad1 x.rs.length c1, .slice ad2 x.ws.length c2]) ∧ Hp w No w' [cR 9 1 ad1 x.rs.length c1 (x.rs.flatMap kc), cR 65 4 ad2 x.ws.length c2 (x.ws.flatMap Wt.cells)] := by
  have R : Ro w No _ := Ro.of fun w' x => hs.ext_no x; have R2 : Ro w No _ := Ro.of fun w' x => hs2.ext_no x; refine calls_into Tryz.func43 rfl Tryz.ntmps43 rfl fun a hT => ?_; replace hT := hT.keep [0] rfl; have H : Sx.Hp w (Sx.No) w [] := Sx.Hp.start _ _; refine sj (zz 0 [uu,uu]) rfl fun K1 hK1 => ?_; refine st_eff hT rfl rfl rfl rfl (y_box hT rfl rfl rfl _) ?_; clear hT; rintro _ w1 ⟨b1, rfl, N⟩ a hT; replace H := H.new N; clear N; refine st_eff hT rfl rfl rfl rfl (y_alloc hT rfl Tryz.ti36 rfl _) ?_; clear hT; rintro _ w2 ⟨b2, rfl, N⟩ a hT; replace H := H.new N; clear N; revert hT; revert hK1; refine rg [2,1,0] (zz 0 [tt,uu,uu,tt,uu]) rfl fun K2 hK2 hT => ?_; refine fad hT Tryz.fa36_2 rfl fun a hT => ?_; refine rn hT rfl (x_load1 hT rfl Tryz.fl33 rfl ((H.blk 1 rfl).nth rfl)) fun a hT => ?_; refine st_call hT rfl rfl rfl rfl rfl Tryz.can93 rfl (CloneS_calls x.rs (R.at H.ext) hn hl) ?_; rintro _ w3 ⟨ad8, c8, rfl, K⟩; refine ⟨_, rfl, ?_⟩; clear hT; intro a hT; replace H := H.more K rfl; clear K; refine fad hT Tryz.fa36_2 rfl fun a hT => ?_; refine st_act hT rfl rfl rfl (y_store1 hT rfl Tryz.ti33 rfl rfl rfl (H.blk 2 rfl) rfl) ?_; rintro w4 ⟨hb, E, _⟩; replace H := H.setB 2 rfl hb E rfl; clear hb E
  revert hT; revert hK2; refine rg [2,1,0] (zz 0 [tt,uu,uu,tt,uu]) rfl fun K3 hK3 hT => ?_; refine fad hT Tryz.fa36_3 rfl fun a hT => ?_; refine rn hT rfl (x_load1 hT rfl Tryz.fl34 rfl ((H.blk 2 rfl).nth rfl)) fun a hT => ?_; refine st_call hT rfl rfl rfl rfl rfl Tryz.can94 rfl (CloneW_calls x.ws (R2.at H.ext) hn2 hl2) ?_; rintro _ w5 ⟨ad9, c9, rfl, K⟩; refine ⟨_, rfl, ?_⟩; clear hT; intro a hT; replace H := H.more K rfl; clear K; refine fad hT Tryz.fa36_3 rfl fun a hT => ?_; refine st_act hT rfl rfl rfl (y_store1 hT rfl Tryz.ti34 rfl rfl rfl (H.blk 3 rfl) rfl) ?_; rintro w6 ⟨hb, E, _⟩; replace H := H.setB 3 rfl hb E rfl; clear hb E; revert hT; revert hK3; refine rg [2,1,0] (zz 0 [uu,uu]) rfl fun K4 hK4 hT => ?_; refine rn hT rfl (y_loadS hT rfl Tryz.underlying36 Tryz.ti36 rfl ((H.blk 3 rfl).seg (k := 8) rfl) (by rfl)) fun a hT => ?_; refine st_act hT rfl rfl rfl (y_storeS hT rfl Tryz.ti36 rfl rfl rfl rfl rfl (H.blk 2 rfl) rfl) ?_; rintro w7 ⟨hb, E, _⟩; replace H := H.setB 2 rfl hb E rfl; clear hb E; revert hT; revert hK4; refine rp [2,1,0] rfl fun hT => ?_; refine wp_ret ?_; refine done1 (fn := Tryz.f43) hT rfl (.cell (hT.get 2 _ rfl) (Sx.run_resS Tryz.underlying36 Tryz.ti36 ((H.blk 2 rfl).seg (k := 8) rfl) (by rfl))) ?_; exact ⟨_, _, _, _, rfl, H.keep [1,0] rfl rfl⟩
theorem Prep1_calls (k : Key) (x : Sn) (w : World) : Calls Tryz.prog 53 #[.string ⟨k.toArray⟩, .agg #[.string ⟨x.key.toArray⟩, .int .i64 x.v.k, .float .f64 x.v.num, .string ⟨x.v.tx.toArray⟩, .int .i64 x.s.w, .int .i64 x.s.l, .int .i64 x.s.n]] w fun e w' => e = .returned (.bool (decide (k = x.key))) ∧ Ext No w w' := by
  refine calls_into Tryz.func53 rfl Tryz.ntmps53 rfl fun a hT => ?_; replace hT := hT.keep [0,1] rfl; have H : Sx.Hp w (Sx.No) w [] := Sx.Hp.start _ _; refine sj (zz 0 [uu,tt]) rfl fun K1 hK1 => ?_; refine st_eff hT rfl rfl rfl rfl (y_box hT rfl rfl rfl _) ?_; clear hT; rintro _ w1 ⟨b1, rfl, N⟩ a hT; replace H := H.new N; clear N; refine asn hT rfl fun a hT => ?_; revert hT; revert hK1; refine rg [4,3,0,1] (zz 0 [tt,tt,uu,tt,tt]) rfl fun K2 hK2 hT => ?_; refine mv hT rfl fun a hT => fad hT Tryz.fa53_0 rfl fun a hT => ?_; refine rn hT rfl (x_load1 hT rfl Tryz.fl9 rfl ((H.blk 0 rfl).nth rfl)) fun a hT => ?_; refine tk hT rfl ((fun w => x_streq w hT rfl rfl rfl)) fun a hT => asn hT rfl fun a hT => ?_; revert hT; revert hK2; refine rp [4,3,0,1] rfl fun hT => ?_; refine wp_ret ?_; refine dn Tryz.f53 hT rfl ?_; exact ⟨rfl, H.ext⟩
theorem EqualF_calls {ad ad2 : Option Addr} {c c2 : Nat} (ks : List Key) (l : List Sn) {w : World} (hs : Ss w ad kc 1 ks) (hs3 : Ss w ad2 Sn.cells 7 l) (hl : ks.length ≤ 1000000) : Calls Tryz.prog 52 #[.slice ad ks.length c, .slice ad2 l.length c2, .func (.func 53) #[] #[]] w fun e w' => e = .returned (.bool (decide (ks = l.map Sn.key))) ∧ Ext No w w' := by
  have R : Ro w No _ := Ro.of fun w' x => hs.ext_no x; have R3 : Ro w No _ := Ro.of fun w' x => hs3.ext_no x; refine calls_into Tryz.func52 rfl Tryz.ntmps52 rfl fun a hT => ?_; replace hT := hT.keep [0,1,2] rfl; have H : Sx.Hp w (Sx.No) w [] := Sx.Hp.start _ _; refine sj (zz 0 [tt]) rfl fun K1 hK1 => ?_; refine asn hT rfl fun a hT => ?_; revert hT; revert hK1; refine rq [6,0,1,2] rfl fun K2 hK2 hT => ?_; refine sj (zz 0 [tt,tt,tt,tt,tt]) rfl fun K3 hK3 => ?_; refine mv hT rfl fun a hT => ?_; refine tk hT rfl (x_len_slice hT rfl rfl Tryz.underlying33 rfl) fun a hT => mv hT rfl fun a hT => ?_; refine tk hT rfl (x_len_slice hT rfl rfl Tryz.underlying37 rfl) fun a hT => ?_; refine tk hT rfl ((fun w => x_ne w hT rfl rfl rfl)) fun a hT => ?_; revert hT; revert hK3; refine rif [14,6,0,1,2] rfl (fun hT hc4 => ?_) (fun hT hc4 => ?_)
  · try simp only [bq] at hc4
    refine sj (zz 0 [tt]) rfl fun K5 hK5 => ?_; refine asn hT rfl fun a hT => ?_; revert hT; revert hK5; refine rp [6,14,0,1,2] rfl fun hT => ?_; refine wp_ret <| then_ret ?_; refine dn Tryz.f52 hT rfl ?_; refine ⟨ret_b (decide_eq_false fun h9 => ?_).symm, H.ext⟩; have := congrArg List.length h9; rw [List.length_map] at this; omega
  · try simp only [bq] at hc4
    have hlen : ks.length = l.length := by omega
    refine wp_skip ?_; revert hK2; refine nx fun K6 hK6 => ?_; refine sj (zz 0 [tt,tt,tt]) rfl fun K7 hK7 => ?_; refine mv hT rfl fun a hT => ?_; refine tk hT rfl (x_len_slice hT rfl rfl Tryz.underlying33 rfl) fun a hT => mv hT rfl fun a hT => ?_; revert hT; revert hK7; refine rp [17,16,15,14,6,0,1,2] rfl fun hT => ?_; refine wp_block ?_; refine wp_loopH (G := Nat) (fun k => [(17, .int .i64 (k : Int))]) (fun k => []) (fun k => k ≤ ks.length ∧ ∀ t, t < k → ks[t]? = (l.map Sn.key)[t]?) (fun k => ks.length - k) 0 (hT.keep [17,16,15,14,0,1,2] rfl) (H.keep [] rfl rfl) (⟨Nat.zero_le _, fun t h => by omega⟩) ?_; clear hT H; rintro k a w1 hJ hT H; replace hT := hT.keep [17,16,15,14,0,1,2] rfl; replace H := H.keep [] rfl rfl; obtain ⟨hk, hsm⟩ := hJ; refine sj (zz 0 [tt]) rfl fun K8 hK8 => ?_; refine tk hT rfl ((fun w => x_lt w hT rfl rfl rfl)) fun a hT => ?_; revert hT; revert hK8; refine rq [18,17,16,15,14,0,1,2] rfl fun K9 hK9 hT => ?_; refine wp_if hT rfl (fun hc10 => ?_) (fun hc10 => ?_)
    · try simp only [bq] at hc10
      obtain ⟨o, ho⟩ : ∃ q9, ks[k]? = some q9 := ⟨_, List.getElem?_eq_getElem (by omega)⟩; obtain ⟨o2, ho2⟩ : ∃ q9, l[k]? = some q9 := ⟨_, List.getElem?_eq_getElem (by omega)⟩; refine wp_skip ?_; revert hK9; refine nx fun K11 hK11 => ?_; refine wp_block ?_; refine sj (zz 0 [tt,tt,uu,tt,tt]) rfl fun K12 hK12 => ?_; refine mv hT rfl fun a hT => ?_; refine tk hT rfl (x_index (k := k) hT rfl Tryz.underlying33 Tryz.ti9 (by first | exact (R.at H.ext).sv | exact (R3.at H.ext).sv) rfl rfl (by first | rfl | omega) (by omega)) fun a hT => ?_; refine rn hT rfl (x_load1 hT rfl Tryz.fl9 rfl ((R.at H.ext).cell (j := 0) kc_len ho rfl)) fun a hT => asn hT rfl fun a hT => asn hT rfl fun a hT => ?_; revert hT; revert hK12; refine rg [8,7,18,17,16,15,14,0,1,2] (zz 0 [tt,tt,tt,uu,uu,uu]) rfl fun K13 hK13 hT => ?_; refine mv hT rfl fun a hT => mv hT rfl fun a hT => ?_; refine tk hT rfl (x_index (k := k) hT rfl Tryz.underlying37 Tryz.ti53 (by first | exact (R.at H.ext).sv | exact (R3.at H.ext).sv) rfl rfl (by first | rfl | omega) (by omega)) ?_
      clear hT; intro a hT; refine rn hT rfl (y_loadS hT rfl Tryz.underlying53 Tryz.ti53 rfl ((R3.at H.ext).cs Sn.len ho2) (by rfl)) fun a hT => ?_; refine st_eff hT rfl rfl rfl rfl (y_alloc hT rfl Tryz.ti53 rfl _) ?_; clear hT; rintro _ w2 ⟨b1, rfl, N⟩ a hT; replace H := H.new N; clear N; refine st_act hT rfl rfl rfl (y_storeS hT rfl Tryz.ti53 rfl rfl rfl rfl rfl (H.blk 0 rfl) rfl) ?_; rintro w3 ⟨hb, E, _⟩; replace H := H.setB 0 rfl hb E rfl; clear hb E; revert hT; revert hK13; refine rg [9,8,7,18,17,16,15,14,0,1,2] (zz 0 [tt,tt,uu,uu,tt]) rfl fun K14 hK14 hT => ?_; refine mv hT rfl fun a hT => mv hT rfl fun a hT => ?_; refine rn hT rfl (y_loadS hT rfl Tryz.underlying53 Tryz.ti53 rfl ((H.blk 0 rfl).seg (k := 7) rfl) (by rfl)) fun a hT => ?_; refine st_callV hT rfl rfl rfl rfl rfl rfl Tryz.can53 rfl (Prep1_calls o o2 _) ?_; rintro _ w4 ⟨rfl, E⟩; refine ⟨_, rfl, ?_⟩; clear hT; intro a hT; replace H := H.pure E; clear E; refine tk hT rfl (x_not hT rfl rfl) fun a hT => ?_; revert hT; revert hK14; refine rif [30,9,8,7,18,17,16,15,14,0,1,2] rfl (fun hT hc15 => ?_) (fun hT hc15 => ?_)
      · try simp only [bq] at hc15
        have hne : ¬ o = o2.key := by simpa using hc15
        refine sj (zz 0 [tt]) rfl fun K16 hK16 => ?_; refine asn hT rfl fun a hT => ?_; revert hT; revert hK16; refine rp [6,30,9,8,7,18,17,16,15,14,0,1,2] rfl fun hT => ?_; refine wp_ret <| block_ret ?_; refine then_ret <| then_ret ?_; refine block_ret <| then_ret ?_; refine dn Tryz.f52 hT rfl ?_; refine ⟨ret_b (decide_eq_false fun h9 => ?_).symm, H.ext⟩; rw [h9, List.getElem?_map, ho2] at ho; exact hne (Option.some.inj ho).symm
      · try simp only [bq] at hc15
        have heq : o = o2.key := by simpa using hc15
        refine wp_skip <| block_normal ?_; refine then_normal (hK11 _ _ ?_); clear hK11; refine wp_text (zz 0 [tt,tt]) rfl ?_; refine tk hT rfl ((fun w => x_add w hT rfl rfl rfl (wrap64 (by omega)))) fun a hT => mv hT rfl fun a hT => ?_; replace hT := hT.keep [17,30,9,8,7,18,16,15,14,0,1,2] rfl; refine ser_nil ?_; refine then_normal ?_; exact ⟨k + 1, ⟨by omega, fun t h => by rcases Nat.lt_or_ge t k with h3 | h3; exact hsm t h3; rw [show t = k from by omega, ho, List.getElem?_map, ho2, heq]; rfl⟩, (hT.keep [17,16,15,14,0,1,2] rfl), (H.keep [] rfl rfl), by omega⟩
    · try simp only [bq] at hc10
      refine wp_exit <| then_exit ?_; refine then_exit <| block_exit ?_; revert hK6; refine nx fun K17 hK17 => ?_; refine wp_text (zz 0 [tt]) rfl ?_; refine asn hT rfl fun a hT => ?_; revert hT; revert hK17; refine rp [6,18,17,16,15,14,0,1,2] rfl fun hT => ?_; refine wp_ret ?_; refine dn Tryz.f52 hT rfl ?_; refine ⟨ret_b (decide_eq_true (List.ext_getElem? fun t => ?_)).symm, H.ext⟩; rcases Nat.lt_or_ge t k with h3 | h3
      · exact hsm t h3
      · rw [List.getElem?_eq_none (by omega), List.getElem?_eq_none (by rw [List.length_map]; omega)]
def th (H : List Hs) : DataW Value := tab (fun x => slit x.key) Hs.val H
def tp (P : List Pn) : DataW Value := tab (fun x => slit (kbn x)) Pn.val P
def gh (H : List Hs) (k : Key) : Hs := (gtK slit Hs.key H k).getD hz0
theorem th_size (H : List Hs) : Maps.size (th H) = H.length := size_tab _
theorem tp_size (P : List Pn) : Maps.size (tp P) = P.length := size_tab _
def pz0 : Pn := ⟨⟨0, 0, 0⟩, sz0, [], none, 0, [], none, 0⟩
def gp (P : List Pn) (t : Tn) : Pn := (gtK slit kbn P (tb t)).getD pz0
theorem look_h (H : List Hs) (k : Key) : atV (th H) (slit k) (.slice none 0 0) = .slice (gh H k).ad (gh H k).vs.length (gh H k).c := by
  unfold th gh
  rw [lookK (κ := Hs.key)]
  cases gtK slit Hs.key H k <;> rfl
theorem look_p (P : List Pn) (t : Tn) : atV (tp P) (slit (tb t)) (.agg #[.int .i64 0, .int .i64 0, .int .i64 0, .int .i64 0, .int .i64 0, .int .i64 0, .slice none 0 0, .slice none 0 0]) = .agg (gp P t).cells.toArray := by
  unfold tp gp
  rw [lookK (κ := kbn)]
  cases gtK slit kbn P (tb t) <;> rfl
theorem has_p (P : List Pn) (t : Tn) : Maps.has (tp P) (slit (tb t)) = (gtK slit kbn P (tb t)).isSome := hasK (κ := kbn) _
structure Sto (w : World) (p bk bp : Nat) (low : Stp) (H : List Hs) (P : List Pn) : Prop where
  B : Blk w p [.map (some bk), .map (some bp), .int .i64 low.w, .int .i64 low.l, .int .i64 low.n] 89
  K : Mp Tryz.prog 9 w bk (th H)
  V : Fam 92 6 Hs.rw w H
  M : Mp Tryz.prog 24 w bp (tp P)
  R : Fam 9 1 Pn.rr w P
  W : Fam 65 4 Pn.rw w P
theorem Sto.ext_no {w w' : World} {p bk bp : Nat} {low : Stp} {H : List Hs} {P : List Pn} (h : Sto w p bk bp low H P) (x : Ext No w w') : Sto w' p bk bp low H P :=
  ⟨h.B.ext_no x, h.K.ext x (not_No _), h.V.ext x fun _ _ => not_No _, h.M.ext x (not_No _), h.R.ext x fun _ _ => not_No _, h.W.ext x fun _ _ => not_No _⟩
structure Bd (n : Nat) (H : List Hs) (P : List Pn) : Prop where
  nn : n ≤ 1000000
  hs : SrtK slt Hs.key H
  ps : SrtK slt kbn P
  hl : H.length ≤ n
  pl : P.length ≤ n
  vl : ∀ x ∈ H, x.key.length ≤ 140737488351232 ∧ x.vs.length ≤ n
  wl : ∀ x ∈ P, x.t.pos ∧ x.rs.length ≤ 16 ∧ x.ws.length ≤ 16 ∧ ∀ y ∈ x.ws, y.key.length ≤ 140737488351232
section
variable {n : Nat} {H : List Hs} {P : List Pn} (h : Bd n H P)
include h
theorem Bd.gn (k : Key) : (gh H k).vs.length ≤ n := by
  unfold gh
  cases hg : gtK slit Hs.key H k with
  | none => exact Nat.zero_le _
  | some x => exact (h.vl x (sO.get_some hg).1).2
theorem Bd.gv (k : Key) : (gh H k).vs.length ≤ 1000000 := Nat.le_trans (h.gn k) h.nn
theorem Bd.gw (t : Tn) : (gp P t).rs.length ≤ 16 ∧ (gp P t).ws.length ≤ 16 ∧ ∀ y ∈ (gp P t).ws, y.key.length ≤ 140737488351232 := by
  unfold gp
  cases hg : gtK slit kbn P (tb t) with
  | none => exact ⟨Nat.zero_le _, Nat.zero_le _, fun y hy => by cases hy⟩
  | some x => exact (h.wl x (sO.get_some hg).1).2
theorem Bd.up {m : Nat} (hm : n ≤ m) (h2 : m ≤ 1000000) : Bd m H P := ⟨h2, h.hs, h.ps, Nat.le_trans h.hl hm, Nat.le_trans h.pl hm, fun x hx => ⟨(h.vl x hx).1, Nat.le_trans (h.vl x hx).2 hm⟩, h.wl⟩
theorem Bd.put (h2 : n + 1 ≤ 1000000) {k : Key} (hk : k.length ≤ 140737488351232) (x : Vr) (ad : Option Addr) (c : Nat) : Bd (n + 1) (ptK slit Hs.key ⟨k, insV x (gh H k).vs, ad, c⟩ H) P :=
  ⟨h2, sO.put_srt _ h.hs, h.ps, Nat.le_trans (sO.put_len _) (Nat.succ_le_succ h.hl), Nat.le_trans h.pl (Nat.le_succ n), fun y hy => by
    rcases sO.put_mem.1 hy with rfl | ⟨hy, -⟩
    · exact ⟨hk, by show (insV x (gh H k).vs).length ≤ n + 1; rw [ins_len]; exact Nat.succ_le_succ (h.gn k)⟩
    · exact ⟨(h.vl y hy).1, Nat.le_trans (h.vl y hy).2 (Nat.le_succ n)⟩, h.wl⟩
theorem Bd.del (k : Key) : Bd n H (dlK kbn k P) :=
  ⟨h.nn, h.hs, dlK_srt h.ps, h.hl, Nat.le_trans (List.length_filter_le _ _) h.pl, h.vl, fun x hx => h.wl x (dlK_mem.1 hx).1⟩
theorem Bd.add (h2 : n + 1 ≤ 1000000) {x : Pn} (hx : x.t.pos ∧ x.rs.length ≤ 16 ∧ x.ws.length ≤ 16 ∧ ∀ y ∈ x.ws, y.key.length ≤ 140737488351232) : Bd (n + 1) H (ptK slit kbn x P) :=
  ⟨h2, h.hs, sO.put_srt _ h.ps, Nat.le_trans h.hl (Nat.le_succ n), Nat.le_trans (sO.put_len _) (Nat.succ_le_succ h.pl), fun y hy => ⟨(h.vl y hy).1, Nat.le_trans (h.vl y hy).2 (Nat.le_succ n)⟩, fun y hy => by
    rcases sO.put_mem.1 hy with rfl | ⟨hy, -⟩
    · exact hx
    · exact h.wl y hy⟩
end
section
variable {w : World} {p bk bp : Nat} {low : Stp} {H : List Hs} {P : List Pn}
theorem Sto.ver (h : Sto w p bk bp low H P) (k : Key) : Ss w (gh H k).ad Vr.cells 6 (gh H k).vs := Row.ssn (xs := (gh H k).vs) (enc := Vr.cells) (Fam.look (d := hz0) sO h.V rfl) rfl
theorem Sto.vern (h : Sto w p bk bp low H P) (k : Key) : (gh H k).ad = none → (gh H k).vs.length = 0 ∧ (gh H k).c = 0 := rownil (Fam.look (κ := Hs.key) (i := k) (d := hz0) sO h.V rfl)
theorem Sto.rds (h : Sto w p bk bp low H P) {x : Pn} (hx : x ∈ P) : Ss w x.ra kc 1 x.rs := Row.ssn (xs := x.rs) (enc := kc) (h.R.row x hx) rfl
theorem Sto.wrs (h : Sto w p bk bp low H P) {x : Pn} (hx : x ∈ P) : Ss w x.wa Wt.cells 4 x.ws := Row.ssn (xs := x.ws) (enc := Wt.cells) (h.W.row x hx) rfl
theorem Sto.rdn (h : Sto w p bk bp low H P) {x : Pn} (hx : x ∈ P) : x.ra = none → x.rs.length = 0 ∧ x.rc = 0 := rownil (h.R.row x hx)
theorem Sto.wrn (h : Sto w p bk bp low H P) {x : Pn} (hx : x ∈ P) : x.wa = none → x.ws.length = 0 ∧ x.wc = 0 := rownil (h.W.row x hx)
theorem Sto.grs (h : Sto w p bk bp low H P) (t : Tn) : Ss w (gp P t).ra kc 1 (gp P t).rs := Row.ssn (xs := (gp P t).rs) (enc := kc) (Fam.look (κ := kbn) (i := tb t) (d := pz0) sO h.R rfl) rfl
theorem Sto.gws (h : Sto w p bk bp low H P) (t : Tn) : Ss w (gp P t).wa Wt.cells 4 (gp P t).ws := Row.ssn (xs := (gp P t).ws) (enc := Wt.cells) (Fam.look (κ := kbn) (i := tb t) (d := pz0) sO h.W rfl) rfl
theorem Sto.grn (h : Sto w p bk bp low H P) (t : Tn) : (gp P t).ra = none → (gp P t).rs.length = 0 ∧ (gp P t).rc = 0 := rownil (Fam.look (κ := kbn) (i := tb t) (d := pz0) sO h.R rfl)
theorem Sto.gwn (h : Sto w p bk bp low H P) (t : Tn) : (gp P t).wa = none → (gp P t).ws.length = 0 ∧ (gp P t).wc = 0 := rownil (Fam.look (κ := kbn) (i := tb t) (d := pz0) sO h.W rfl)
end
theorem vsOf_gh (H : List Hs) (k : Key) : vsOf (H.map Hs.p) k = (gh H k).vs := vsOf_map H k
theorem find_gp (P : List Pn) (t : Tn) : findF (P.map Pn.p) t = (gtK slit kbn P (tb t)).map Pn.p := get_map (κ := kbn) (κ' := kbp) (f := Pn.p) (fun _ => rfl) P (tb t)
theorem newest_calls {p bk bp : Nat} {low : Stp} {H0 : List Hs} {P0 : List Pn} (key : Key) (hk : key.length ≤ 140737488351232) (at_ : Stp) (all : Bool) {w : World} {n9 : Nat} (hS : Sto w p bk bp low H0 P0) (hB : Bd n9 H0 P0) : Calls Tryz.prog 50 #[.pointer (some ⟨p, 0, none⟩), .string ⟨key.toArray⟩, .agg #[.int .i64 at_.w, .int .i64 at_.l, .int .i64 at_.n], .bool all] w fun e w' => e = .returned (.agg #[.string ⟨(newF (H0.map Hs.p) key at_ all).key.toArray⟩, .int .i64 (newF (H0.map Hs.p) key at_ all).v.k, .float .f64 (newF (H0.map Hs.p) key at_ all).v.num, .string ⟨(newF (H0.map Hs.p) key at_ all).v.tx.toArray⟩, .int .i64 (newF (H0.map Hs.p) key at_ all).s.w, .int .i64 (newF (H0.map Hs.p) key at_ all).s.l, .int .i64 (newF (H0.map Hs.p) key at_ all).s.n]) ∧ Ext No w w' := by
  have RS : Ro w No (fun u => Sto u p bk bp low H0 P0) := Ro.of fun w' x => hS.ext_no x; have hvl := hB.gv key; refine calls_into Tryz.func50 rfl Tryz.ntmps50 rfl fun a hT => ?_; replace hT := hT.keep [0,1,2,3] rfl; have H : Sx.Hp w (Sx.No) w [] := Sx.Hp.start _ _; refine sj (zz 0 [uu,uu]) rfl fun K1 hK1 => ?_; refine st_eff hT rfl rfl rfl rfl (y_box hT rfl rfl rfl _) ?_; clear hT; rintro _ w1 ⟨b1, rfl, N⟩ a hT; replace H := H.new N; clear N; refine st_eff hT rfl rfl rfl rfl (y_alloc hT rfl Tryz.ti53 rfl _) ?_; clear hT; rintro _ w2 ⟨b2, rfl, N⟩ a hT; replace H := H.new N; clear N; revert hT; revert hK1; refine rg [8,6,0,1,2,3] (zz 0 [tt,tt,uu,uu]) rfl fun K2 hK2 hT => ?_; refine mv hT rfl fun a hT => ?_; refine tk hT rfl (x_bld hT rfl Tryz.bld53 rfl rfl) fun a hT => ?_; refine st_eff hT rfl rfl rfl rfl (y_alloc hT rfl Tryz.ti53 rfl _) ?_; clear hT; rintro _ w3 ⟨b3, rfl, N⟩ a hT; replace H := H.new N; clear N; refine st_act hT rfl rfl rfl (y_storeS hT rfl Tryz.ti53 rfl rfl rfl rfl rfl (H.blk 0 rfl) rfl) ?_; rintro w4 ⟨hb, E, _⟩; replace H := H.setB 0 rfl hb E rfl; clear hb E; revert hT; revert hK2; refine rq [9,8,6,0,1,2,3] rfl fun K3 hK3 hT => ?_; refine sj (zz 0 [tt,tt,tt,uu,tt,uu,tt,tt]) rfl fun K4 hK4 => ?_; refine mv hT rfl fun a hT => nck hT rfl fun a hT => fad hT Tryz.fa89_0 rfl fun a hT => ?_; refine rn hT rfl (x_load1 hT rfl Tryz.fl86 rfl (by first | exact ((H.blk 0 rfl).nth rfl) | exact ((H.blk 1 rfl).nth rfl) | exact ((H.blk 2 rfl).nth rfl) | exact ((RS.at H.ext).B.nth (j := 0) rfl))) fun a hT => mv hT rfl fun a hT => ?_; refine rn hT rfl (x_lookup hT rfl Tryz.underlying86 keyedS Tryz.ti90 rfl rfl (key_str Tryz.underlying9 key hk) ((RS.at H.ext).K)) fun a hT => ?_; rw [look_h] at hT; refine tk hT rfl (x_len_slice hT rfl rfl Tryz.underlying90 rfl) fun a hT => mv hT rfl fun a hT => ?_; revert hT; revert hK4; refine rp [21,20,19,9,8,6,0,1,2,3] rfl fun hT => ?_; refine wp_block ?_; refine wp_loopH (G := Nat × Vr) (fun ⟨k, x9⟩ => [(21, .int .i64 (k : Int))]) (fun ⟨k, x9⟩ => [cB b3 (Sn.cells ⟨key, x9.v, x9.s⟩) 53]) (fun ⟨k, x9⟩ => k ≤ (gh H0 key).vs.length ∧ x9 = newV ((gh H0 key).vs.take k) at_ all) (fun ⟨k, x9⟩ => (gh H0 key).vs.length - k) (0, rz0) (hT.keep [21,20,19,9,8,6,0,1,2,3] rfl) (H.keep [0,1,2] rfl rfl) (⟨Nat.zero_le _, rfl⟩) ?_
  clear hT H; rintro ⟨k, x9⟩ a w5 hJ hT H; replace hT := hT.keep [21,20,19,9,8,6,0,1,2,3] rfl; replace H := H.keep [0,1,2] rfl rfl; obtain ⟨hk9, hx9⟩ := hJ; refine sj (zz 0 [tt]) rfl fun K5 hK5 => ?_; refine tk hT rfl ((fun w => x_lt w hT rfl rfl rfl)) fun a hT => ?_; revert hT; revert hK5; refine rq [22,21,20,19,9,8,6,0,1,2,3] rfl fun K6 hK6 hT => ?_; refine wp_if hT rfl (fun hc7 => ?_) (fun hc7 => ?_)
  · try simp only [bq] at hc7
    obtain ⟨o, ho⟩ : ∃ q9, (gh H0 key).vs[k]? = some q9 := ⟨_, List.getElem?_eq_getElem (by omega)⟩; refine wp_skip ?_; revert hK6; refine nx fun K8 hK8 => ?_; refine wp_block ?_; refine sj (zz 0 [tt,uu,uu,uu]) rfl fun K9 hK9 => ?_; refine tk hT rfl (x_index (k := k) hT rfl Tryz.underlying90 Tryz.ti92 ((RS.at H.ext).ver key).sv rfl rfl (by first | rfl | omega) (by omega)) fun a hT => ?_; refine rn hT rfl (y_loadS hT rfl Tryz.underlying92 Tryz.ti92 rfl (by first | exact ((H.blk 0 rfl).seg (k := 6) rfl) | exact ((H.blk 1 rfl).seg (k := 6) rfl) | exact ((H.blk 2 rfl).seg (k := 6) rfl) | exact (((RS.at H.ext).ver key).cs Vr.len ho)) (by rfl)) fun a hT => ?_; refine st_eff hT rfl rfl rfl rfl (y_alloc hT rfl Tryz.ti92 rfl _) ?_; clear hT; rintro _ w6 ⟨b4, rfl, N⟩ a hT; replace H := H.new N; clear N; refine st_act hT rfl rfl rfl (y_storeS hT rfl Tryz.ti92 rfl rfl rfl rfl rfl (H.blk 0 rfl) rfl) ?_; rintro w7 ⟨hb, E, _⟩; replace H := H.setB 0 rfl hb E rfl; clear hb E; revert hT; revert hK9; refine rg [11,22,21,20,19,9,8,6,0,1,2,3] (zz 0 [tt,tt,tt,uu,uu,uu,tt,tt]) rfl fun K10 hK10 hT => ?_; refine mv hT rfl fun a hT => mv hT rfl ?_
    clear hT; intro a hT; refine Sl.two hT 26 rfl (fun hc11 hT => ?_) (fun hc11 hT => ?_)
    · try simp only [bq] at hc11
      have hall : all = true := hc11; refine sk hT rfl fun a hT => ?_; refine st_runskip hT rfl rfl rfl rfl fun a hT => ?_; refine st_runskip hT rfl rfl rfl rfl fun a hT => ?_; refine st_runskip hT rfl rfl rfl rfl fun a hT => sk hT rfl fun a hT => ?_; refine tk hT rfl (x_pick_t hT rfl rfl rfl) fun a hT => ?_; replace hT := hT.keep [32,11,22,21,20,19,9,8,6,0,1,2,3] rfl; refine ser_nil ?_; refine then_normal (hK10 _ _ ?_); clear hK10; refine wp_if hT rfl (fun _ => ?_) (fun h => by cases h); have hcd : (all || decide (cmpS o.s at_ ≤ 0)) = true := by rw [hall]; rfl
      revert H; refine drw (Sx.One b3) [(0, .take), (1, .held), (2, .take), (3, .held), (4, .take), (5, .keep), (6, .take), (7, .run)] (by kernel_rfl) (by kernel_rfl) fun u H hH => ?_; have Hu := H; refine fad hT Tryz.fa92_1 rfl fun a hT => ?_; refine hed hT rfl hH (fun w' h' => y_loadS hT rfl Tryz.underlying51 Tryz.ti51 rfl ((Hu.heldB 0 rfl h' (Hu.off 0 1 rfl rfl rfl)).seg (k := 3) rfl) (by rfl)) fun a hT => fad hT Tryz.fa92_0 rfl fun a hT => ?_; refine hed hT rfl hH (fun w' h' => y_loadS hT rfl Tryz.underlying26 Tryz.ti26 rfl ((Hu.heldB 0 rfl h' (Hu.off 0 1 rfl rfl rfl)).seg (k := 3) rfl) (by rfl)) fun a hT => fad hT Tryz.fa53_1 rfl fun a hT => ?_; refine st_actkeep hT rfl rfl rfl (y_storeS hT rfl Tryz.ti51 rfl rfl rfl rfl rfl (H.blk 1 rfl) rfl) ?_; rintro w8 ⟨hb, E, _⟩; refine ⟨hH.same E, ?_⟩; replace hH := hH.same E; replace H := H.setB 1 rfl hb E rfl; clear hb E; refine fad hT Tryz.fa53_2 rfl fun a hT => ?_; refine st_act hT rfl rfl rfl (y_storeS hT rfl Tryz.ti26 rfl rfl rfl rfl rfl (H.blk 1 rfl) rfl) ?_; rintro w9 ⟨hb, E, _⟩; replace H := H.setB 1 rfl hb E rfl; clear hb E; replace hT := hT.keep [32,11,22,21,20,19,9,8,6,0,1,2,3] rfl
      clear Hu hH; refine ser_calm ?_; refine block_normal ?_; refine then_normal (hK8 _ _ ?_); clear hK8; refine wp_text (zz 0 [tt,tt]) rfl ?_; refine tk hT rfl ((fun w => x_add w hT rfl rfl rfl (wrap64 (by omega)))) fun a hT => mv hT rfl fun a hT => ?_; replace hT := hT.keep [21,32,11,22,20,19,9,8,6,0,1,2,3] rfl; refine ser_nil ?_; refine then_normal ?_; exact ⟨(k + 1, o), ⟨by show k + 1 ≤ _; omega, by show o = _; rw [take_app ho, newV_snoc, if_pos hcd]⟩, (hT.keep [21,20,19,9,8,6,0,1,2,3] rfl), (H.keep [1,2,3] rfl rfl), by show _ - (k + 1) < _ - k; omega⟩
    · try simp only [bq] at hc11
      have hall : all = false := hc11; refine fad hT Tryz.fa92_0 rfl fun a hT => ?_; refine rn hT rfl (y_loadS hT rfl Tryz.underlying26 Tryz.ti26 rfl ((H.blk 0 rfl).seg (k := 3) rfl) (by rfl)) fun a hT => ?_; refine rn hT rfl (y_loadS hT rfl Tryz.underlying26 Tryz.ti26 rfl ((H.blk 3 rfl).seg (k := 3) rfl) (by rfl)) fun a hT => ?_; refine st_call hT rfl rfl rfl rfl rfl Tryz.can38 rfl (Compare_calls _ _ _) ?_; rintro _ w10 ⟨rfl, E⟩; refine ⟨_, rfl, ?_⟩; clear hT; intro a hT; replace H := H.pure E; clear E; refine tk hT rfl ((fun w => x_le w hT rfl rfl rfl)) fun a hT => ?_; refine tk hT rfl (x_pick_f hT rfl rfl rfl) fun a hT => ?_; revert hT; revert hK10; refine rif [32,11,22,21,20,19,9,8,6,0,1,2,3] rfl (fun hT hc12 => ?_) (fun hT hc12 => ?_)
      · try simp only [bq] at hc12
        have hcd : (all || decide (cmpS o.s at_ ≤ 0)) = true := by rw [hall, Bool.false_or]; exact decide_eq_true hc12
        revert H; refine drw (Sx.One b3) [(0, .take), (1, .held), (2, .take), (3, .held), (4, .take), (5, .keep), (6, .take), (7, .run)] (by kernel_rfl) (by kernel_rfl) fun u H hH => ?_; have Hu := H; refine fad hT Tryz.fa92_1 rfl fun a hT => ?_; refine hed hT rfl hH (fun w' h' => y_loadS hT rfl Tryz.underlying51 Tryz.ti51 rfl ((Hu.heldB 0 rfl h' (Hu.off 0 1 rfl rfl rfl)).seg (k := 3) rfl) (by rfl)) fun a hT => fad hT Tryz.fa92_0 rfl fun a hT => ?_; refine hed hT rfl hH (fun w' h' => y_loadS hT rfl Tryz.underlying26 Tryz.ti26 rfl ((Hu.heldB 0 rfl h' (Hu.off 0 1 rfl rfl rfl)).seg (k := 3) rfl) (by rfl)) fun a hT => fad hT Tryz.fa53_1 rfl fun a hT => ?_; refine st_actkeep hT rfl rfl rfl (y_storeS hT rfl Tryz.ti51 rfl rfl rfl rfl rfl (H.blk 1 rfl) rfl) ?_; rintro w11 ⟨hb, E, _⟩; refine ⟨hH.same E, ?_⟩; replace hH := hH.same E; replace H := H.setB 1 rfl hb E rfl; clear hb E; refine fad hT Tryz.fa53_2 rfl fun a hT => ?_; refine st_act hT rfl rfl rfl (y_storeS hT rfl Tryz.ti26 rfl rfl rfl rfl rfl (H.blk 1 rfl) rfl) ?_; rintro w12 ⟨hb, E, _⟩; replace H := H.setB 1 rfl hb E rfl; clear hb E; replace hT := hT.keep [32,11,22,21,20,19,9,8,6,0,1,2,3] rfl
        clear Hu hH; refine ser_calm ?_; refine block_normal ?_; refine then_normal (hK8 _ _ ?_); clear hK8; refine wp_text (zz 0 [tt,tt]) rfl ?_; refine tk hT rfl ((fun w => x_add w hT rfl rfl rfl (wrap64 (by omega)))) fun a hT => mv hT rfl fun a hT => ?_; replace hT := hT.keep [21,32,11,22,20,19,9,8,6,0,1,2,3] rfl; refine ser_nil ?_; refine then_normal ?_; exact ⟨(k + 1, o), ⟨by show k + 1 ≤ _; omega, by show o = _; rw [take_app ho, newV_snoc, if_pos hcd]⟩, (hT.keep [21,20,19,9,8,6,0,1,2,3] rfl), (H.keep [1,2,3] rfl rfl), by show _ - (k + 1) < _ - k; omega⟩
      · try simp only [bq] at hc12
        have hcd : (all || decide (cmpS o.s at_ ≤ 0)) = false := by rw [hall, Bool.false_or]; exact decide_eq_false (by omega)
        refine wp_skip <| block_normal ?_; refine then_normal (hK8 _ _ ?_); clear hK8; refine wp_text (zz 0 [tt,tt]) rfl ?_; refine tk hT rfl ((fun w => x_add w hT rfl rfl rfl (wrap64 (by omega)))) fun a hT => mv hT rfl fun a hT => ?_; replace hT := hT.keep [21,32,11,22,20,19,9,8,6,0,1,2,3] rfl; refine ser_nil ?_; refine then_normal ?_; exact ⟨(k + 1, x9), ⟨by show k + 1 ≤ _; omega, by show x9 = _; rw [take_app ho, newV_snoc, if_neg (by rw [hcd]; decide), ← hx9]⟩, (hT.keep [21,20,19,9,8,6,0,1,2,3] rfl), (H.keep [1,2,3] rfl rfl), by show _ - (k + 1) < _ - k; omega⟩
  · try simp only [bq] at hc7
    have hkl : k = (gh H0 key).vs.length := by omega
    rw [hkl, List.take_length] at hx9; refine wp_exit <| then_exit ?_; refine then_exit <| block_exit ?_; revert hK3; refine nx fun K13 hK13 => ?_; refine wp_text (zz 0 [uu,uu]) rfl ?_; refine rn hT rfl (y_loadS hT rfl Tryz.underlying53 Tryz.ti53 rfl ((H.blk 0 rfl).seg (k := 7) rfl) (by rfl)) fun a hT => ?_; refine st_act hT rfl rfl rfl (y_storeS hT rfl Tryz.ti53 rfl rfl rfl rfl rfl (H.blk 1 rfl) rfl) ?_; rintro w13 ⟨hb, E, _⟩; replace H := H.setB 1 rfl hb E rfl; clear hb E; revert hT; revert hK13; refine rp [22,21,20,19,9,8,6,0,1,2,3] rfl fun hT => ?_; refine wp_ret ?_; refine done1 (fn := Tryz.f50) hT rfl (.cell (hT.get 8 _ rfl) (Sx.run_resS Tryz.underlying53 Tryz.ti53 ((H.blk 1 rfl).seg (k := 7) rfl) (by rfl))) ?_; unfold newF; rw [vsOf_gh, ← hx9]; exact ⟨rfl, H.ext⟩
theorem Newest_calls {p bk bp : Nat} {low : Stp} {H0 : List Hs} {P0 : List Pn} (key : Key) (hk : key.length ≤ 140737488351232) {w : World} {n9 : Nat} (hS : Sto w p bk bp low H0 P0) (hB : Bd n9 H0 P0) : Calls Tryz.prog 18 #[.pointer (some ⟨p, 0, none⟩), .string ⟨key.toArray⟩] w fun e w' => e = .returned (.agg #[.string ⟨(newF (H0.map Hs.p) key sz0 true).key.toArray⟩, .int .i64 (newF (H0.map Hs.p) key sz0 true).v.k, .float .f64 (newF (H0.map Hs.p) key sz0 true).v.num, .string ⟨(newF (H0.map Hs.p) key sz0 true).v.tx.toArray⟩, .int .i64 (newF (H0.map Hs.p) key sz0 true).s.w, .int .i64 (newF (H0.map Hs.p) key sz0 true).s.l, .int .i64 (newF (H0.map Hs.p) key sz0 true).s.n]) ∧ Ext No w w' := by
  have RS : Ro w No (fun u => Sto u p bk bp low H0 P0) := Ro.of fun w' x => hS.ext_no x; refine calls_into Tryz.func18 rfl Tryz.ntmps18 rfl fun a hT => ?_; replace hT := hT.keep [0,1] rfl; have H : Sx.Hp w (Sx.No) w [] := Sx.Hp.start _ _; refine sj (zz 0 [uu]) rfl fun K1 hK1 => ?_; refine st_eff hT rfl rfl rfl rfl (y_alloc hT rfl Tryz.ti53 rfl _) ?_; clear hT; rintro _ w1 ⟨b1, rfl, N⟩ a hT; replace H := H.new N; clear N; revert hT; revert hK1; refine rg [4,0,1] (zz 0 [tt,tt,tt,uu,uu]) rfl fun K2 hK2 hT => ?_; refine mv hT rfl fun a hT => mv hT rfl fun a hT => ?_; refine tk hT rfl (x_bld hT rfl Tryz.bld26 rfl rfl) fun a hT => ?_; refine st_call hT rfl rfl rfl rfl rfl Tryz.can50 rfl (newest_calls key hk sz0 true (RS.at H.ext) hB) ?_; rintro _ w2 ⟨rfl, E⟩; refine ⟨_, rfl, ?_⟩; clear hT; intro a hT; replace H := H.pure E; clear E; refine st_act hT rfl rfl rfl (y_storeS hT rfl Tryz.ti53 rfl rfl rfl rfl rfl (H.blk 0 rfl) rfl) ?_; rintro w3 ⟨hb, E, _⟩; replace H := H.setB 0 rfl hb E rfl; clear hb E; revert hT; revert hK2; refine rp [4,0,1] rfl fun hT => ?_; refine wp_ret ?_; refine done1 (fn := Tryz.f18) hT rfl (.cell (hT.get 4 _ rfl) (Sx.run_resS Tryz.underlying53 Tryz.ti53 ((H.blk 0 rfl).seg (k := 7) rfl) (by rfl))) ?_
  exact ⟨rfl, H.ext⟩
theorem old_calls {p bk bp : Nat} {low : Stp} {H0 : List Hs} {P0 : List Pn} (x : Pn) {w : World} (hs : Ss w x.ra kc 1 x.rs) (hs2 : Ss w x.wa Wt.cells 4 x.ws) (hl : x.rs.length ≤ 1000000) (hl2 : x.ws.length ≤ 1000000) (hkl : ∀ y ∈ x.ws, y.key.length ≤ 140737488351232) {n9 : Nat} (hS : Sto w p bk bp low H0 P0) (hB : Bd n9 H0 P0) : Calls Tryz.prog 55 #[.pointer (some ⟨p, 0, none⟩), .agg #[.int .i64 x.t.co, .int .i64 x.t.li, .int .i64 x.t.sq, .int .i64 x.s.w, .int .i64 x.s.l, .int .i64 x.s.n, .slice x.ra x.rs.length x.rc, .slice x.wa x.ws.length x.wc]] w fun e w' => e = .returned (.bool (oldF (H0.map Hs.p) x.p)) ∧ Ext No w w' := by
  have RS : Ro w No (fun u => Sto u p bk bp low H0 P0) := Ro.of fun w' x => hS.ext_no x; have R2 : Ro w No _ := Ro.of fun w' x => hs2.ext_no x; refine calls_into Tryz.func55 rfl Tryz.ntmps55 rfl fun a hT => ?_; replace hT := hT.keep [0,1] rfl; have H : Sx.Hp w (Sx.No) w [] := Sx.Hp.start _ _; refine sj (zz 0 [uu,tt]) rfl fun K1 hK1 => ?_; refine st_eff hT rfl rfl rfl rfl (y_box hT rfl rfl rfl _) ?_; clear hT; rintro _ w1 ⟨b1, rfl, N⟩ a hT; replace H := H.new N; clear N; refine asn hT rfl fun a hT => ?_; revert hT; revert hK1; refine rq [4,3,0,1] rfl fun K2 hK2 hT => ?_; refine sj (zz 0 [tt,uu,tt,tt]) rfl fun K3 hK3 => ?_; refine fad hT Tryz.fa36_3 rfl fun a hT => ?_; refine rn hT rfl (x_load1 hT rfl Tryz.fl34 rfl ((H.blk 0 rfl).nth rfl)) fun a hT => ?_; refine tk hT rfl (x_len_slice hT rfl rfl Tryz.underlying34 rfl) fun a hT => mv hT rfl fun a hT => ?_; revert hT; revert hK3; refine rp [10,9,8,4,3,0,1] rfl fun hT => ?_; refine wp_block ?_; refine wp_loopH (G := Nat) (fun k => [(10, .int .i64 (k : Int))]) (fun k => []) (fun k => k ≤ x.ws.length ∧ ∀ (t : Nat) q, t < k → x.ws[t]? = some q → decide (0 ≤ cmpS (newF (H0.map Hs.p) q.key sz0 true).s x.s) = false) (fun k => x.ws.length - k) 0 (hT.keep [10,9,8,3,0,1] rfl) (H.keep [0] rfl rfl) (⟨Nat.zero_le _, fun t q h => by omega⟩) ?_
  clear hT H; rintro k a w2 hJ hT H; replace hT := hT.keep [10,9,8,3,0,1] rfl; replace H := H.keep [0] rfl rfl; obtain ⟨hk, hno⟩ := hJ; refine sj (zz 0 [tt]) rfl fun K4 hK4 => ?_; refine tk hT rfl ((fun w => x_lt w hT rfl rfl rfl)) fun a hT => ?_; revert hT; revert hK4; refine rq [11,10,9,8,3,0,1] rfl fun K5 hK5 hT => ?_; refine wp_if hT rfl (fun hc6 => ?_) (fun hc6 => ?_)
  · try simp only [bq] at hc6
    obtain ⟨o, ho⟩ : ∃ q9, x.ws[k]? = some q9 := ⟨_, List.getElem?_eq_getElem (by omega)⟩; have hok := hkl o (List.mem_of_getElem? ho); refine wp_skip ?_; revert hK5; refine nx fun K7 hK7 => ?_; refine wp_block ?_; refine sj (zz 0 [tt,uu,uu,uu]) rfl fun K8 hK8 => ?_; refine tk hT rfl (x_index (k := k) hT rfl Tryz.underlying34 Tryz.ti65 (R2.at H.ext).sv rfl rfl (by first | rfl | omega) (by omega)) fun a hT => ?_; refine rn hT rfl (y_loadS hT rfl Tryz.underlying65 Tryz.ti65 rfl (by first | exact ((H.blk 0 rfl).seg (k := 4) rfl) | exact ((R2.at H.ext).cs Wt.len ho)) (by rfl)) fun a hT => ?_; refine st_eff hT rfl rfl rfl rfl (y_alloc hT rfl Tryz.ti65 rfl _) ?_; clear hT; rintro _ w3 ⟨b2, rfl, N⟩ a hT; replace H := H.new N; clear N; refine st_act hT rfl rfl rfl (y_storeS hT rfl Tryz.ti65 rfl rfl rfl rfl rfl (H.blk 0 rfl) rfl) ?_; rintro w4 ⟨hb, E, _⟩; replace H := H.setB 0 rfl hb E rfl; clear hb E; revert hT; revert hK8; refine rq [6,11,10,9,8,3,0,1] rfl fun K9 hK9 hT => ?_; revert H; refine drw (Sx.No) [(0, .take), (1, .take), (2, .held), (5, .take), (6, .held), (3, .keep), (4, .take), (7, .run), (8, .take)] (by kernel_rfl) (by kernel_rfl) fun u H hH => ?_; have Hu := H
    refine mv hT rfl fun a hT => fad hT Tryz.fa65_0 rfl fun a hT => ?_; refine hed hT rfl hH (fun w' h' => x_load1 hT rfl Tryz.fl9 rfl ((Hu.heldB 0 rfl h' off_No).nth rfl)) fun a hT => fad hT Tryz.fa36_1 rfl fun a hT => ?_; refine hed hT rfl hH (fun w' h' => y_loadS hT rfl Tryz.underlying26 Tryz.ti26 rfl ((Hu.heldB 1 rfl h' off_No).seg (k := 3) rfl) (by rfl)) fun a hT => ?_; refine st_callkeep hT rfl rfl rfl rfl rfl Tryz.can18 rfl (Newest_calls o.key hok (RS.at H.ext) hB) ?_; rintro _ w5 ⟨rfl, E⟩; refine ⟨_, rfl, hH.step E, ?_⟩; replace hH := hH.step E; clear hT; intro a hT; replace H := H.pure E; clear E; refine tk hT rfl (x_fieldSL hT rfl Tryz.fv53_2 Tryz.underlying26 Tryz.ti26 rfl rfl) fun a hT => ?_; refine st_call hT rfl rfl rfl rfl rfl Tryz.can38 rfl (Compare_calls _ _ _) ?_; rintro _ w6 ⟨rfl, E⟩; refine ⟨_, rfl, ?_⟩; clear hT; intro a hT; replace H := H.pure E; clear E; refine tk hT rfl ((fun w => x_ge w hT rfl rfl rfl)) fun a hT => ?_; replace hT := hT.keep [22,6,11,10,9,8,3,0,1] rfl; clear Hu hH; refine ser_calm ?_; refine then_normal (hK9 _ _ ?_); clear hK9; refine wp_if hT rfl (fun hc10 => ?_) (fun hc10 => ?_)
    · try simp only [bq] at hc10
      refine sj (zz 0 [tt]) rfl fun K11 hK11 => ?_; refine asn hT rfl fun a hT => ?_; revert hT; revert hK11; refine rp [4,22,6,11,10,9,8,3,0,1] rfl fun hT => ?_; refine wp_ret <| block_ret ?_; refine then_ret <| then_ret ?_; refine block_ret <| then_ret ?_; refine dn Tryz.f55 hT rfl ?_; exact ⟨ret_b (any_at (p := fun q : Wt => decide (0 ≤ cmpS (newF (H0.map Hs.p) q.key sz0 true).s x.s)) ho (decide_eq_true (by omega))).symm, H.ext⟩
    · try simp only [bq] at hc10
      refine wp_skip <| block_normal ?_; refine then_normal (hK7 _ _ ?_); clear hK7; refine wp_text (zz 0 [tt,tt]) rfl ?_; refine tk hT rfl ((fun w => x_add w hT rfl rfl rfl (wrap64 (by omega)))) fun a hT => mv hT rfl fun a hT => ?_; replace hT := hT.keep [10,22,6,11,9,8,3,0,1] rfl; refine ser_nil ?_; refine then_normal ?_; exact ⟨k + 1, ⟨by omega, upto_snoc (p := fun q : Wt => decide (0 ≤ cmpS (newF (H0.map Hs.p) q.key sz0 true).s x.s)) hno ho (decide_eq_false (by omega))⟩, (hT.keep [10,9,8,3,0,1] rfl), (H.keep [1] rfl rfl), by omega⟩
  · try simp only [bq] at hc6
    have hkl9 : k = x.ws.length := by omega
    rw [hkl9] at hno; refine wp_exit <| then_exit ?_; refine then_exit <| block_exit ?_; revert hK2; refine nx fun K12 hK12 => ?_; refine wp_text (zz 0 [tt]) rfl ?_; refine asn hT rfl fun a hT => ?_; revert hT; revert hK12; refine rp [4,11,10,9,8,3,0,1] rfl fun hT => ?_; refine wp_ret ?_; refine dn Tryz.f55 hT rfl ?_; exact ⟨ret_b (any_none (p := fun q : Wt => decide (0 ≤ cmpS (newF (H0.map Hs.p) q.key sz0 true).s x.s)) hno).symm, H.ext⟩
theorem Would1_calls (y : Vr) {b : Nat} (s : Stp) {w : World} (hB : Blk w b s.cells 26) : Calls Tryz.prog 87 #[.agg #[.int .i64 y.s.w, .int .i64 y.s.l, .int .i64 y.s.n, .int .i64 y.v.k, .float .f64 y.v.num, .string ⟨y.v.tx.toArray⟩], .pointer (some ⟨b, 0, none⟩)] w fun e w' => e = .returned (.bool (decide (y.s = s))) ∧ Ext No w w' := by
  have RB : Ro w No _ := Ro.of fun w' x => hB.ext_no x; refine calls_into Tryz.func87 rfl Tryz.ntmps87 rfl fun a hT => ?_; replace hT := hT.keep [0,1] rfl; have H : Sx.Hp w (Sx.No) w [] := Sx.Hp.start _ _; refine sj (zz 0 [uu,tt]) rfl fun K1 hK1 => ?_; refine st_eff hT rfl rfl rfl rfl (y_box hT rfl rfl rfl _) ?_; clear hT; rintro _ w1 ⟨b1, rfl, N⟩ a hT; replace H := H.new N; clear N; refine asn hT rfl fun a hT => ?_; revert hT; revert hK1; refine rg [3,2,0,1] (zz 0 [tt,uu,uu,tt,tt]) rfl fun K2 hK2 hT => ?_; refine fad hT Tryz.fa92_0 rfl fun a hT => ?_; refine rn hT rfl (y_loadS hT rfl Tryz.underlying26 Tryz.ti26 rfl ((H.blk 0 rfl).seg (k := 3) rfl) (by rfl)) fun a hT => ?_; refine rn hT rfl (y_loadS hT rfl Tryz.underlying26 Tryz.ti26 rfl (by first | exact ((H.blk 0 rfl).seg (k := 3) rfl) | exact ((RB.at H.ext).seg (k := 3) rfl)) (by rfl)) fun a hT => ?_; refine tk hT rfl (x_eqS hT rfl (by kernel_rfl) (Tryz.eq26 _ _ _ _ _ _) rfl rfl rfl) fun a hT => asn hT rfl fun a hT => ?_; revert hT; revert hK2; refine rp [3,2,0,1] rfl fun hT => ?_; refine wp_ret ?_; refine dn Tryz.f87 hT rfl ?_; refine ⟨ret_b ?_, H.ext⟩; clear hT H; obtain ⟨a, b, c⟩ := s; obtain ⟨⟨a2, b2, c2⟩, _⟩ := y; simp_all [Stp.mk.injEq]
theorem Would_calls {p bk bp : Nat} {low : Stp} {H0 : List Hs} {P0 : List Pn} (t : Tn) (ht : t.wf) (commit : Bool) (at_ : Stp) {w : World} {n9 : Nat} (hS : Sto w p bk bp low H0 P0) (hB : Bd n9 H0 P0) : Calls Tryz.prog 37 #[.pointer (some ⟨p, 0, none⟩), .agg #[.int .i64 t.co, .int .i64 t.li, .int .i64 t.sq], .bool commit, .agg #[.int .i64 at_.w, .int .i64 at_.l, .int .i64 at_.n]] w fun e w' => e = .returned (.int .i64 (wldE ⟨H0.map Hs.p, P0.map Pn.p, low⟩ t commit at_)) ∧ Ext No w w' := by
  have RS : Ro w No (fun u => Sto u p bk bp low H0 P0) := Ro.of fun w' x => hS.ext_no x; have hwl := hB.gw t; refine calls_into Tryz.func37 rfl Tryz.ntmps37 rfl fun a hT => ?_; replace hT := hT.keep [0,1,2,3] rfl; have H : Sx.Hp w (Sx.No) w [] := Sx.Hp.start _ _; refine sj (zz 0 [uu,uu,tt]) rfl fun K1 hK1 => ?_; refine st_eff hT rfl rfl rfl rfl (y_box hT rfl rfl rfl _) ?_; clear hT; rintro _ w1 ⟨b1, rfl, N⟩ a hT; replace H := H.new N; clear N; refine st_eff hT rfl rfl rfl rfl (y_box hT rfl rfl rfl _) ?_; clear hT; rintro _ w2 ⟨b2, rfl, N⟩ a hT; replace H := H.new N; clear N; refine asn hT rfl fun a hT => ?_; revert hT; revert hK1; refine rq [8,7,5,0,1,2,3] rfl fun K2 hK2 hT => ?_; revert H; refine drw (Sx.No) [(0, .take), (1, .take), (2, .take), (3, .held), (4, .held), (5, .held), (6, .take), (7, .take), (8, .take), (9, .keep), (10, .run), (11, .take)] (by kernel_rfl) (by kernel_rfl) fun u H hH => ?_; have Hu := H; refine mv hT rfl fun a hT => nck hT rfl fun a hT => fad hT Tryz.fa89_1 rfl fun a hT => ?_; refine hed hT rfl hH (fun w' h' => x_load1 hT rfl Tryz.fl87 rfl (by first | exact ((Hu.heldB 0 rfl h' off_No).nth rfl) | exact ((Hu.heldB 1 rfl h' off_No).nth rfl) | exact ((RS.at (Hu.ext.step h')).B.nth (j := 0) rfl) | exact ((RS.at (Hu.ext.step h')).B.nth (j := 1) rfl))) ?_
  clear hT; intro a hT; refine hed hT rfl hH (fun w' h' => y_loadS hT rfl Tryz.underlying24 Tryz.ti24 rfl ((Hu.heldB 1 rfl h' off_No).seg (k := 3) rfl) (by rfl)) fun a hT => ?_; refine hed hT rfl hH (fun w' h' => x_lookupOk hT rfl Tryz.underlying87 keyedTx Tryz.ti36 rfl rfl (key_txn t ht) ((RS.at (Hu.ext.step h')).M)) fun a hT => ?_; rw [look_p, has_p] at hT; refine mv hT rfl fun a hT => ?_; refine tk hT rfl (x_extractL hT rfl rfl rfl) fun a hT => ?_; refine tk hT rfl (x_extractL hT rfl rfl rfl) fun a hT => ?_; refine st_effkeep hT rfl rfl rfl rfl (y_alloc hT rfl Tryz.ti36 rfl _) ?_; rintro _ w3 ⟨b3, rfl, N⟩; have q_b3 : u.heap.size ≤ b3 := by have h8 := hH.size; have h9 := N.at_; omega
  refine ⟨hH.step N.ext, ?_⟩; replace hH := hH.step N.ext; clear hT; intro a hT; replace H := H.new N; clear N; refine st_act hT rfl rfl rfl (y_storeS hT rfl Tryz.ti36 rfl rfl rfl rfl rfl (H.blk 0 rfl) rfl) ?_; rintro w4 ⟨hb, E, _⟩; replace H := H.setB 0 rfl hb E rfl; clear hb E; refine asn hT rfl fun a hT => ?_; replace hT := hT.keep [10,9,8,7,5,0,1,2,3] rfl; clear Hu hH; refine ser_calm ?_; revert hK2; refine nx fun K3 hK3 => ?_; refine wp_block ?_; refine sj (zz 0 [tt,tt,tt]) rfl fun K4 hK4 => ?_; refine mv hT rfl fun a hT => ?_; refine tk hT rfl (x_not hT rfl rfl) fun a hT => asn hT rfl fun a hT => ?_; revert hT; revert hK4; refine rif [22,10,9,8,7,5,0,1,2,3] rfl (fun hT hc5 => ?_) (fun hT hc5 => ?_)
  · try simp only [bq] at hc5
    have hg : gtK slit kbn P0 (tb t) = none := by simpa using hc5
    refine sj (zz 0 [tt]) rfl fun K6 hK6 => ?_; refine asn hT rfl fun a hT => ?_; revert hT; revert hK6; refine rp [8,22,10,9,7,5,0,1,2,3] rfl fun hT => ?_; refine wp_ret <| block_ret <| then_ret ?_; refine dn Tryz.f37 hT rfl ?_; refine ⟨ret_i ?_, H.ext⟩; unfold wldE; rw [find_gp]; rw [hg]
    rfl
  · try simp only [bq] at hc5
    obtain ⟨x9, hg⟩ : ∃ x9, gtK slit kbn P0 (tb t) = some x9 := Option.isSome_iff_exists.1 (by simpa using hc5); have hgx : gp P0 t = x9 := by unfold gp; rw [hg]; rfl
    refine sj (zz 0 [tt,tt,tt]) rfl fun K7 hK7 => ?_; refine mv hT rfl fun a hT => ?_; refine tk hT rfl (x_not hT rfl rfl) fun a hT => asn hT rfl fun a hT => ?_; revert hT; revert hK7; refine rif [25,22,10,9,8,7,5,0,1,2,3] rfl (fun hT hc8 => ?_) (fun hT hc8 => ?_)
    · try simp only [bq] at hc8
      have hcm : commit = false := by simpa using hc8
      refine sj (zz 0 [tt]) rfl fun K9 hK9 => ?_; refine asn hT rfl fun a hT => ?_; revert hT; revert hK9; refine rp [8,25,22,10,9,7,5,0,1,2,3] rfl fun hT => ?_; refine wp_ret <| block_ret <| then_ret ?_; refine dn Tryz.f37 hT rfl ?_; refine ⟨ret_i ?_, H.ext⟩; unfold wldE; rw [find_gp]; rw [hg]; show _ = if commit = false then (0 : Int) else _
      rw [if_pos hcm]
    · try simp only [bq] at hc8
      have hcm : commit = true := by simpa using hc8
      refine sj (zz 0 [uu,uu,tt,tt]) rfl fun K10 hK10 => ?_; refine rn hT rfl (y_loadS hT rfl Tryz.underlying26 Tryz.ti26 rfl ((H.blk 1 rfl).seg (k := 3) rfl) (by rfl)) fun a hT => ?_; refine st_call hT rfl rfl rfl rfl rfl Tryz.can59 rfl (MayS_calls _ _) ?_; rintro _ w5 ⟨rfl, E⟩; refine ⟨_, rfl, ?_⟩; clear hT; intro a hT; replace H := H.pure E; clear E; refine tk hT rfl (x_not hT rfl rfl) fun a hT => asn hT rfl fun a hT => ?_; revert hT; revert hK10; refine rif [28,25,22,10,9,8,7,5,0,1,2,3] rfl (fun hT hc11 => ?_) (fun hT hc11 => ?_)
      · try simp only [bq] at hc11
        have hms : mayS at_ = false := by simpa using hc11
        refine sj (zz 0 [tt]) rfl fun K12 hK12 => ?_; refine asn hT rfl fun a hT => ?_; revert hT; revert hK12; refine rp [8,28,25,22,10,9,7,5,0,1,2,3] rfl fun hT => ?_; refine wp_ret <| block_ret <| then_ret ?_; refine dn Tryz.f37 hT rfl ?_; refine ⟨ret_i ?_, H.ext⟩; unfold wldE; rw [find_gp]; rw [hg]; show _ = if commit = false then (0 : Int) else _
        rw [if_neg (by rw [hcm]; decide)]; rw [if_pos hms]
      · try simp only [bq] at hc11
        have hms : mayS at_ = true := by simpa using hc11
        refine sj (zz 0 [uu,tt,uu,uu,tt,tt]) rfl fun K13 hK13 => ?_; refine rn hT rfl (y_loadS hT rfl Tryz.underlying26 Tryz.ti26 rfl ((H.blk 1 rfl).seg (k := 3) rfl) (by rfl)) fun a hT => fad hT Tryz.fa36_1 rfl fun a hT => ?_; refine rn hT rfl (y_loadS hT rfl Tryz.underlying26 Tryz.ti26 rfl ((H.blk 0 rfl).seg (k := 3) rfl) (by rfl)) fun a hT => ?_; refine st_call hT rfl rfl rfl rfl rfl Tryz.can38 rfl (Compare_calls _ _ _) ?_; rintro _ w6 ⟨rfl, E⟩; refine ⟨_, rfl, ?_⟩; clear hT; intro a hT; replace H := H.pure E; clear E; refine tk hT rfl ((fun w => x_lt w hT rfl rfl rfl)) fun a hT => asn hT rfl fun a hT => ?_; revert hT; revert hK13; refine rif [32,28,25,22,10,9,8,7,5,0,1,2,3] rfl (fun hT hc14 => ?_) (fun hT hc14 => ?_)
        · try simp only [bq] at hc14
          have hlt : cmpS at_ x9.s < 0 := by rw [← hgx]; omega
          refine sj (zz 0 [tt]) rfl fun K15 hK15 => ?_; refine asn hT rfl fun a hT => ?_; revert hT; revert hK15; refine rp [8,32,28,25,22,10,9,7,5,0,1,2,3] rfl fun hT => ?_; refine wp_ret <| block_ret <| then_ret ?_; refine dn Tryz.f37 hT rfl ?_; refine ⟨ret_i ?_, H.ext⟩; unfold wldE; rw [find_gp]; rw [hg]; show _ = if commit = false then (0 : Int) else _
          rw [if_neg (by rw [hcm]; decide)]; rw [if_neg (by rw [hms]; decide)]; rw [if_pos (show cmpS at_ (Pn.p x9).s < 0 from hlt)]
        · try simp only [bq] at hc14
          have hlt : ¬ cmpS at_ x9.s < 0 := by rw [← hgx]; omega
          refine wp_skip <| block_normal ?_; revert hK3; refine nx fun K16 hK16 => ?_; refine sj (zz 0 [tt,uu,tt,tt]) rfl fun K17 hK17 => ?_; refine fad hT Tryz.fa36_3 rfl fun a hT => ?_; refine rn hT rfl (x_load1 hT rfl Tryz.fl34 rfl ((H.blk 0 rfl).nth rfl)) fun a hT => ?_; refine tk hT rfl (x_len_slice hT rfl rfl Tryz.underlying34 rfl) fun a hT => mv hT rfl fun a hT => ?_; revert hT; revert hK17; refine rp [41,40,39,32,28,25,22,10,9,8,7,5,0,1,2,3] rfl fun hT => ?_; refine wp_block ?_; refine wp_loopH (G := Nat) (fun k => [(41, .int .i64 (k : Int))]) (fun k => []) (fun k => k ≤ (gp P0 t).ws.length ∧ ∀ (t9 : Nat) q, t9 < k → (gp P0 t).ws[t9]? = some q → hasV (vsOf (H0.map Hs.p) q.key) at_ = false) (fun k => (gp P0 t).ws.length - k) 0 (hT.keep [41,40,39,32,28,25,22,10,9,7,5,0,1,2,3] rfl) (H.keep [0,1,2] rfl rfl) (⟨Nat.zero_le _, fun t q h => by omega⟩) ?_; clear hT H; rintro k a w7 hJ hT H; replace hT := hT.keep [41,40,39,32,28,25,22,10,9,7,5,0,1,2,3] rfl; replace H := H.keep [0,1,2] rfl rfl; obtain ⟨hk, hno⟩ := hJ; refine sj (zz 0 [tt]) rfl fun K18 hK18 => ?_; refine tk hT rfl ((fun w => x_lt w hT rfl rfl rfl)) ?_
          clear hT; intro a hT; revert hT; revert hK18; refine rq [42,41,40,39,32,28,25,22,10,9,7,5,0,1,2,3] rfl fun K19 hK19 hT => ?_; refine wp_if hT rfl (fun hc20 => ?_) (fun hc20 => ?_)
          · try simp only [bq] at hc20
            obtain ⟨o, ho⟩ : ∃ q9, (gp P0 t).ws[k]? = some q9 := ⟨_, List.getElem?_eq_getElem (by omega)⟩; have hok := hwl.2.2 o (List.mem_of_getElem? ho); refine wp_skip ?_; revert hK19; refine nx fun K21 hK21 => ?_; refine wp_block ?_; refine sj (zz 0 [tt,uu,uu,uu]) rfl fun K22 hK22 => ?_; refine tk hT rfl (x_index (k := k) hT rfl Tryz.underlying34 Tryz.ti65 ((RS.at H.ext).gws t).sv rfl rfl (by first | rfl | omega) (by omega)) fun a hT => ?_; refine rn hT rfl (y_loadS hT rfl Tryz.underlying65 Tryz.ti65 rfl (by first | exact ((H.blk 0 rfl).seg (k := 4) rfl) | exact ((H.blk 1 rfl).seg (k := 4) rfl) | exact ((H.blk 2 rfl).seg (k := 4) rfl) | exact (((RS.at H.ext).gws t).cs Wt.len ho)) (by rfl)) fun a hT => ?_; refine st_eff hT rfl rfl rfl rfl (y_alloc hT rfl Tryz.ti65 rfl _) ?_; clear hT; rintro _ w8 ⟨b4, rfl, N⟩ a hT; replace H := H.new N; clear N; refine st_act hT rfl rfl rfl (y_storeS hT rfl Tryz.ti65 rfl rfl rfl rfl rfl (H.blk 0 rfl) rfl) ?_; rintro w9 ⟨hb, E, _⟩; replace H := H.setB 0 rfl hb E rfl; clear hb E; revert hT; revert hK22; refine rq [12,42,41,40,39,32,28,25,22,10,9,7,5,0,1,2,3] rfl fun K23 hK23 hT => ?_; revert H
            refine drw (Sx.No) [(0, .take), (1, .take), (2, .take), (3, .held), (4, .take), (5, .held), (6, .held), (7, .take), (8, .run)] (by kernel_rfl) (by kernel_rfl) fun u H hH => ?_; have Hu := H; refine mv hT rfl fun a hT => nck hT rfl fun a hT => fad hT Tryz.fa89_0 rfl fun a hT => ?_; refine hed hT rfl hH (fun w' h' => x_load1 hT rfl Tryz.fl86 rfl (by first | exact ((Hu.heldB 0 rfl h' off_No).nth rfl) | exact ((Hu.heldB 1 rfl h' off_No).nth rfl) | exact ((Hu.heldB 2 rfl h' off_No).nth rfl) | exact ((Hu.heldB 3 rfl h' off_No).nth rfl) | exact ((RS.at (Hu.ext.step h')).B.nth (j := 0) rfl) | exact ((RS.at (Hu.ext.step h')).B.nth (j := 1) rfl))) fun a hT => fad hT Tryz.fa65_0 rfl fun a hT => ?_; refine hed hT rfl hH (fun w' h' => x_load1 hT rfl Tryz.fl9 rfl ((Hu.heldB 0 rfl h' off_No).nth rfl)) fun a hT => ?_; refine hed hT rfl hH (fun w' h' => x_lookup hT rfl Tryz.underlying86 keyedS Tryz.ti90 rfl rfl (key_str Tryz.underlying9 o.key hok) ((RS.at (Hu.ext.step h')).K)) fun a hT => ?_; rw [look_h] at hT; refine tk hT rfl (x_makeFunc hT rfl rfl) fun a hT => ?_; refine st_call hT rfl rfl rfl rfl rfl Tryz.can86 rfl (ContainsVr_calls (gh H0 o.key).vs (fun y => decide (y.s = at_)) (cs := [.pointer (some ⟨b2, 0, none⟩)]) ((RS.at H.ext).ver o.key) (hB.gv o.key) Tryz.can87 (Q := fun u => Blk u b2 at_.cells 26) (Ro.of fun w1 x1 => ((H.blk 2 rfl)).ext_no x1) (fun y _ w1 hq => Would1_calls y at_ hq)) ?_
            rintro _ w10 ⟨rfl, E⟩; refine ⟨_, rfl, ?_⟩; clear hT; intro a hT; replace H := H.pure E; clear E; replace hT := hT.keep [53,12,42,41,40,39,32,28,25,22,10,9,7,5,0,1,2,3] rfl; clear Hu hH; refine ser_calm ?_; refine then_normal (hK23 _ _ ?_); clear hK23; refine wp_if hT rfl (fun hc24 => ?_) (fun hc24 => ?_)
            · try simp only [bq] at hc24
              have hov : hasV (gh H0 o.key).vs at_ = true := hc24; rw [hgx] at ho; refine sj (zz 0 [tt]) rfl fun K25 hK25 => ?_; refine asn hT rfl fun a hT => ?_; revert hT; revert hK25; refine rp [8,53,12,42,41,40,39,32,28,25,22,10,9,7,5,0,1,2,3] rfl fun hT => ?_; refine wp_ret <| block_ret ?_; refine then_ret <| then_ret ?_; refine block_ret <| then_ret ?_; refine dn Tryz.f37 hT rfl ?_; refine ⟨ret_i ?_, H.ext⟩; unfold wldE; rw [find_gp]; rw [hg]; show _ = if commit = false then (0 : Int) else _
              rw [if_neg (by rw [hcm]; decide)]; rw [if_neg (by rw [hms]; decide)]; rw [if_neg (show ¬ cmpS at_ (Pn.p x9).s < 0 from hlt)]; dsimp only; rw [if_pos (any_at (l := (Pn.p x9).ws) (p := fun w : Wt => hasV (vsOf (H0.map Hs.p) w.key) at_) ho (by rw [vsOf_gh]; exact hov))]
            · try simp only [bq] at hc24
              have hov : hasV (gh H0 o.key).vs at_ = false := hc24; refine wp_skip <| block_normal ?_; refine then_normal (hK21 _ _ ?_); clear hK21; refine wp_text (zz 0 [tt,tt]) rfl ?_; refine tk hT rfl ((fun w => x_add w hT rfl rfl rfl (wrap64 (by omega)))) fun a hT => mv hT rfl fun a hT => ?_; replace hT := hT.keep [41,53,12,42,40,39,32,28,25,22,10,9,7,5,0,1,2,3] rfl; refine ser_nil ?_; refine then_normal ?_; exact ⟨k + 1, ⟨by omega, upto_snoc (p := fun q : Wt => hasV (vsOf (H0.map Hs.p) q.key) at_) hno ho (by rw [vsOf_gh]; exact hov)⟩, (hT.keep [41,40,39,32,28,25,22,10,9,7,5,0,1,2,3] rfl), (H.keep [1,2,3] rfl rfl), by omega⟩
          · try simp only [bq] at hc20
            have hkl : k = (gp P0 t).ws.length := by omega
            rw [hkl, hgx] at hno; refine wp_exit <| then_exit ?_; refine then_exit <| block_exit ?_; revert hK16; refine nx fun K26 hK26 => ?_; refine wp_text (zz 0 [tt]) rfl ?_; refine asn hT rfl fun a hT => ?_; revert hT; revert hK26; refine rp [8,42,41,40,39,32,28,25,22,10,9,7,5,0,1,2,3] rfl fun hT => ?_; refine wp_ret ?_; refine dn Tryz.f37 hT rfl ?_; refine ⟨ret_i ?_, H.ext⟩; unfold wldE; rw [find_gp]; rw [hg]; show _ = if commit = false then (0 : Int) else _
            rw [if_neg (by rw [hcm]; decide)]; rw [if_neg (by rw [hms]; decide)]; rw [if_neg (show ¬ cmpS at_ (Pn.p x9).s < 0 from hlt)]; dsimp only; rw [if_neg (by rw [any_none (l := (Pn.p x9).ws) (p := fun w : Wt => hasV (vsOf (H0.map Hs.p) w.key) at_) hno]; decide)]
theorem vrInsert (ad : Option Addr) (n c i bv : Nat) (xs vs : List Value) (w : World) (hr : Sx.Row w 92 6 ad n c xs) (hv : Sx.Blk w bv vs 92) (hvl : vs.length = 6) (h1 : ∀ u ∈ xs, u.oneCell' = true) (h1v : ∀ u ∈ vs, u.oneCell' = true)
    (hi : i ≤ n) (hne : ∀ k, Sx.Own ad k → k ≠ bv) (hby : (n + 1) * 56 ≤ 140737488355328) :
    Calls Tryz.prog 39 #[.slice ad n c, .int .i64 i, .slice (some ⟨bv, 0, none⟩) 1 1] w fun r w' => ∃ ad' c', r = .returned (.slice ad' (n + 1) c') ∧ Sx.Row w' 92 6 ad' (n + 1) c' (xs.take (i * 6) ++ vs ++ xs.drop (i * 6)) ∧ Sx.Ext (Sx.Own ad) w w' ∧
      (∀ k, Sx.Own ad' k → Sx.Own ad k ∨ w.heap.size ≤ k) := by
  have hle := hr.le
  have hm := hle.2
  unfold maxLen at hm
  have hxl := hr.len
  refine calls_into Tryz.func39 rfl Tryz.ntmps39 rfl fun a hT => ?_
  replace hT := hT.keep [0,1,2] rfl
  have X : Sx.Ext ((Sx.Own ad)) w w := Sx.Ext.refl _ _
  have X0 : Sx.Ext Sx.No w w := Sx.Ext.refl _ _
  have hbv := hv.lt
  refine wp_seq_k fun K1 hK1 => ?_
  -- region 0 (slices.go:136)
  refine wp_text (zz 0 [tt]) rfl ?_
  refine asn hT rfl ?_
  clear hT; intro a hT
  revert hT; revert hK1
  refine rq [6,0,1,2] rfl fun K2 hK2 hT => ?_
  -- region 1 (slices.go:137)
  refine wp_text (zz 0 [tt,tt,tt]) rfl ?_
  refine mv hT rfl ?_
  clear hT; intro a hT
  refine mv hT rfl ?_
  clear hT; intro a hT
  refine tk hT rfl (x_slice_l hT rfl Tryz.underlying90 Tryz.ti92 rfl rfl rfl hi) ?_
  clear hT; intro a hT
  revert hT; revert hK2
  refine rq [6,0,1,2] rfl fun K3 hK3 hT => ?_
  -- region 2 (slices.go:139)
  refine wp_text (zz 0 [tt,tt,tt]) rfl ?_
  refine mv hT rfl ?_
  clear hT; intro a hT
  refine tk hT rfl (x_len_slice hT rfl rfl Tryz.underlying90 rfl) ?_
  clear hT; intro a hT
  refine asn hT rfl ?_
  clear hT; intro a hT
  revert hT; revert hK3
  refine rq [7,6,0,1,2] rfl fun K4 hK4 hT => ?_
  refine wp_seq_k fun K5 hK5 => ?_
  -- region 3 (slices.go:140)
  refine wp_text (zz 0 [tt,tt]) rfl ?_
  refine mv hT rfl ?_
  clear hT; intro a hT
  refine tk hT rfl ((fun w => x_eq w hT rfl rfl rfl)) ?_
  clear hT; intro a hT
  replace hT := hT.keep [16,7,6,0,1,2] rfl
  refine ser_nil ?_
  refine then_normal (hK5 _ _ ?_)
  clear hK5
  -- cond 0
  refine wp_if hT rfl (fun hc6 => ?_) (fun hc6 => ?_)
  · exfalso
    try simp only [decide_eq_true_eq, decide_eq_false_iff_not, Bool.not_eq_true', Bool.not_eq_false', Bool.not_eq_true, Bool.not_eq_false, Bool.and_eq_true, Bool.or_eq_false_iff, beq_iff_eq, bne_iff_ne, Int.not_lt, Int.not_le, ne_eq] at hc6
    first | omega | simp at hc6
  · try simp only [decide_eq_true_eq, decide_eq_false_iff_not, Bool.not_eq_true', Bool.not_eq_false', Bool.not_eq_true, Bool.not_eq_false, Bool.and_eq_true, Bool.or_eq_false_iff, beq_iff_eq, bne_iff_ne, Int.not_lt, Int.not_le, ne_eq] at hc6
    refine wp_skip ?_
    revert hK4
    refine nx fun K7 hK7 => ?_
    -- region 5 (slices.go:143)
    refine wp_text (zz 0 [tt,tt,tt]) rfl ?_
    refine mv hT rfl ?_
    clear hT; intro a hT
    refine tk hT rfl (x_len_slice hT rfl rfl Tryz.underlying90 rfl) ?_
    clear hT; intro a hT
    refine asn hT rfl ?_
    clear hT; intro a hT
    revert hT; revert hK7
    refine rq [8,16,7,6,0,1,2] rfl fun K8 hK8 hT => ?_
    refine wp_seq_k fun K9 hK9 => ?_
    -- region 6 (slices.go:144)
    refine wp_text (zz 0 [tt,tt,tt]) rfl ?_
    refine mv hT rfl ?_
    clear hT; intro a hT
    refine mv hT rfl ?_
    clear hT; intro a hT
    refine tk hT rfl ((fun w => x_eq w hT rfl rfl rfl)) ?_
    clear hT; intro a hT
    replace hT := hT.keep [22,8,16,7,6,0,1,2] rfl
    refine ser_nil ?_
    refine then_normal (hK9 _ _ ?_)
    clear hK9
    -- cond 1
    refine wp_if hT rfl (fun hc10 => ?_) (fun hc10 => ?_)
    · try simp only [decide_eq_true_eq, decide_eq_false_iff_not, Bool.not_eq_true', Bool.not_eq_false', Bool.not_eq_true, Bool.not_eq_false, Bool.and_eq_true, Bool.or_eq_false_iff, beq_iff_eq, bne_iff_ne, Int.not_lt, Int.not_le, ne_eq] at hc10
      refine wp_seq_k fun K11 hK11 => ?_
      -- region 7 (slices.go:145)
      refine wp_text (zz 0 [tt,tt,uu,tt]) rfl ?_
      refine mv hT rfl ?_
      clear hT; intro a hT
      refine mv hT rfl ?_
      clear hT; intro a hT
      refine st_eff hT rfl rfl rfl rfl (x_append hT rfl rfl Tryz.underlying90 Tryz.ti92 rfl (by decide) rfl rfl hr (hv.sv1 hvl) h1v (fun h => by cases h) (by unfold maxLen; omega) (by omega)) ?_
      clear hT; rintro _ w1 ⟨ad2, c2, rfl, hr2, E, hown, -⟩ a hT
      replace X := X.same E
      refine asn hT rfl ?_
      clear hT; intro a hT
      revert hT; revert hK11
      refine rp [6,22,8,16,7,0,1,2] rfl fun hT => ?_
      refine wp_ret <| then_ret ?_
      refine dn Tryz.f39 hT rfl ?_
      have hin2 : i = n := by omega
      subst hin2
      rw [List.take_of_length_le (by omega), List.drop_eq_nil_of_le (by omega), List.append_nil]
      exact ⟨_, _, rfl, hr2, X, hown⟩
    · try simp only [decide_eq_true_eq, decide_eq_false_iff_not, Bool.not_eq_true', Bool.not_eq_false', Bool.not_eq_true, Bool.not_eq_false, Bool.and_eq_true, Bool.or_eq_false_iff, beq_iff_eq, bne_iff_ne, Int.not_lt, Int.not_le, ne_eq] at hc10
      refine wp_skip ?_
      revert hK8
      refine nx fun K12 hK12 => ?_
      refine wp_seq_k fun K13 hK13 => ?_
      -- region 8 (slices.go:147)
      refine wp_text (zz 0 [tt,tt,tt,tt,tt,tt]) rfl ?_
      refine mv hT rfl ?_
      clear hT; intro a hT
      refine mv hT rfl ?_
      clear hT; intro a hT
      refine tk hT rfl ((fun w => x_add w hT rfl rfl rfl (wrap64 (by omega)))) ?_
      clear hT; intro a hT
      refine mv hT rfl ?_
      clear hT; intro a hT
      refine tk hT rfl (x_cap hT rfl rfl Tryz.underlying90 rfl) ?_
      clear hT; intro a hT
      refine tk hT rfl ((fun w => x_gt w hT rfl rfl rfl)) ?_
      clear hT; intro a hT
      replace hT := hT.keep [31,22,8,16,7,6,0,1,2] rfl
      refine ser_nil ?_
      refine then_normal (hK13 _ _ ?_)
      clear hK13
      -- cond 2
      refine wp_if hT rfl (fun hc14 => ?_) (fun hc14 => ?_)
      · try simp only [decide_eq_true_eq, decide_eq_false_iff_not, Bool.not_eq_true', Bool.not_eq_false', Bool.not_eq_true, Bool.not_eq_false, Bool.and_eq_true, Bool.or_eq_false_iff, beq_iff_eq, bne_iff_ne, Int.not_lt, Int.not_le, ne_eq] at hc14
        refine wp_seq_k fun K15 hK15 => ?_
        -- region 9 (slices.go:152)
        refine wp_text (zz 0 [tt,tt,tt,tt,tt,tt,tt,tt,uu,tt]) rfl ?_
        refine mv hT rfl ?_
        clear hT; intro a hT
        refine mv hT rfl ?_
        clear hT; intro a hT
        refine tk hT rfl (x_slice_h hT rfl Tryz.underlying90 Tryz.ti92 rfl rfl rfl (by omega)) ?_
        clear hT; intro a hT
        refine mv hT rfl ?_
        clear hT; intro a hT
        refine mv hT rfl ?_
        clear hT; intro a hT
        refine tk hT rfl ((fun w => x_add w hT rfl rfl rfl (wrap64 (by omega)))) ?_
        clear hT; intro a hT
        refine mv hT rfl ?_
        clear hT; intro a hT
        refine tk hT rfl ((fun w => x_sub w hT rfl rfl rfl (wrap64 (by omega)))) ?_
        clear hT; intro a hT
        refine st_eff hT rfl rfl rfl rfl (x_append_zeros (k := n + 1 - i) hT rfl rfl Tryz.underlying90 Tryz.underlying3 Tryz.ti92 rfl (by decide) rfl rfl (by omega) (hr.take hi) (by omega) (by omega) (by unfold maxLen; omega) (by omega)) ?_
        clear hT; rintro _ w1 ⟨b2, c2, rfl, hb2, hr2, E⟩ a hT
        replace X := X.step E
        have hq := hr.lt
        replace hr := hr.ext_no E
        replace hv := hv.ext_no E
        have hn2 : i + (n + 1 - i) = n + 1 := by omega
        rw [hn2] at hr2 hT
        have hle2 := hr2.le
        have hm2 := hle2.2
        unfold maxLen at hm2
        refine asn hT rfl ?_
        clear hT; intro a hT
        revert hT; revert hK15
        refine rq [9,31,22,8,16,7,6,0,1,2] rfl fun K16 hK16 hT => ?_
        -- region 10 (slices.go:153)
        refine wp_text (zz 0 [tt,tt,tt,tt,uu]) rfl ?_
        refine mv hT rfl ?_
        clear hT; intro a hT
        refine mv hT rfl ?_
        clear hT; intro a hT
        refine tk hT rfl (x_slice_l hT rfl Tryz.underlying90 Tryz.ti92 rfl rfl rfl (by omega)) ?_
        clear hT; intro a hT
        refine mv hT rfl ?_
        clear hT; intro a hT
        refine st_eff hT rfl rfl rfl rfl (x_copy (k := i) (m := n + 1) hT rfl rfl Tryz.underlying90 Tryz.ti92 rfl rfl rfl rfl rfl hr2 (by omega) (hv.sv1 hvl) (fun u hu => h1v u (List.mem_of_mem_take hu))) ?_
        clear hT; rintro _ w2 ⟨rfl, hr3, E, -⟩ a hT
        rw [Sx.Own.one] at E
        replace hv := hv.ext E (by unfold Sx.One; omega)
        replace X := X.fresh E (by omega)
        replace hr := hr.ext E (fun k hk h => by unfold Sx.One at h; have := hq k hk; omega)
        replace hr2 := hr3
        clear hr3
        rw [show Nat.min 1 (n + 1 - i) = 1 from by simp only [Nat.min_def]; split <;> omega, Nat.one_mul] at hr2
        revert hT; revert hK16
        refine rq [9,31,22,8,16,7,6,0,1,2] rfl fun K17 hK17 hT => ?_
        -- region 11 (slices.go:154)
        refine wp_draws (fun u => Sx.Ext Sx.No u) [(0, .take), (1, .take), (2, .take), (3, .take), (4, .take), (5, .take), (6, .take), (7, .take), (8, .run)] (by kernel_rfl) (by kernel_rfl) (fun u E z => ?_)
        replace X := X.step E
        replace hv := hv.ext_no E
        replace hr := hr.ext_no E
        replace hr2 := hr2.ext_no E
        have hH : Sx.Ext Sx.No u u := Sx.Ext.refl _ _
        refine mv hT rfl ?_
        clear hT; intro a hT
        refine mv hT rfl ?_
        clear hT; intro a hT
        refine mv hT rfl ?_
        clear hT; intro a hT
        refine tk hT rfl ((fun w => x_add w hT rfl rfl rfl (wrap64 (by omega)))) ?_
        clear hT; intro a hT
        refine tk hT rfl (x_slice_l (p := i + 1) hT rfl Tryz.underlying90 Tryz.ti92 rfl rfl (by omega) (by omega)) ?_
        clear hT; intro a hT
        refine mv hT rfl ?_
        clear hT; intro a hT
        refine mv hT rfl ?_
        clear hT; intro a hT
        refine tk hT rfl (x_slice_l hT rfl Tryz.underlying90 Tryz.ti92 rfl rfl rfl hi) ?_
        clear hT; intro a hT
        refine st_eff hT rfl rfl rfl rfl (x_copy (k := i + 1) (m := n + 1) hT rfl rfl Tryz.underlying90 Tryz.ti92 rfl rfl rfl rfl rfl hr2 (by omega) (hr.sv.cut (lo := i) (hi := n) hi (Nat.le_refl _) hle.1) (fun u hu => h1 u (List.mem_of_mem_drop (List.mem_of_mem_take (List.mem_of_mem_take hu))))) ?_
        clear hT; rintro _ w3 ⟨rfl, hr3, E2, -⟩ a hT
        rw [Sx.Own.one] at E2
        replace X := X.fresh E2 (by omega)
        replace hr2 := hr3
        replace hv := hv.ext E2 (by unfold Sx.One; omega)
        replace hr := hr.ext E2 (fun k hk h => by unfold Sx.One at h; have := hq k hk; omega)
        clear hr3
        rw [show Nat.min (n - i) (n + 1 - (i + 1)) = n - i from by simp only [Nat.min_def]; split <;> omega, List.take_of_length_le (l := xs.drop (i * 6)) (i := (n - i) * 6) (by rw [List.length_drop, hxl]; omega)] at hr2
        replace hT := hT.keep [9,31,22,8,16,7,6,0,1,2] rfl
        refine ser_calm ?_
        revert hK17
        refine nx fun K18 hK18 => ?_
        -- region 12 (slices.go:155)
        refine wp_text (zz 0 [tt,tt]) rfl ?_
        refine mv hT rfl ?_
        clear hT; intro a hT
        refine asn hT rfl ?_
        clear hT; intro a hT
        revert hT; revert hK18
        refine rp [6,9,31,22,8,16,7,0,1,2] rfl fun hT => ?_
        refine wp_ret <| then_ret ?_
        refine dn Tryz.f39 hT rfl ?_
        have hz1 : (Builtin.zeroCells (.agg #[.int .i64 0, .int .i64 0, .int .i64 0, .int .i64 0, .float .f64 0, .string .empty] : Value).cells (n + 1 - i)).toList.length = 6 + (n - i) * 6 := by
          rw [Array.length_toList, size_zeroCells, show (.agg #[.int .i64 0, .int .i64 0, .int .i64 0, .int .i64 0, .float .f64 0, .string .empty] : Value).cells.size = 6 from rfl]; omega
        have hA : (xs.take (i * 6)).length = i * 6 := by rw [List.length_take, hxl]; omega
        have hB : (xs.drop (i * 6)).length = (n - i) * 6 := by rw [List.length_drop, hxl]; omega
        have h9 := Sx.ins_grow hA hvl hB hz1
        simp only [show (i + 1) * 6 = i * 6 + 6 from by omega, show (i + 1 + (n - i)) * 6 = i * 6 + 6 + (n - i) * 6 from by omega] at hr2
        rw [List.take_of_length_le (l := vs) (by omega), List.take_of_length_le (l := xs.drop (i * 6)) (by omega), h9] at hr2
        exact ⟨_, _, rfl, hr2, X, fun k hk => .inr (by rw [Sx.Own.one] at hk; unfold Sx.One at hk; omega)⟩
      · try simp only [decide_eq_true_eq, decide_eq_false_iff_not, Bool.not_eq_true', Bool.not_eq_false', Bool.not_eq_true, Bool.not_eq_false, Bool.and_eq_true, Bool.or_eq_false_iff, beq_iff_eq, bne_iff_ne, Int.not_lt, Int.not_le, ne_eq] at hc14
        refine wp_skip ?_
        revert hK12
        refine nx fun K19 hK19 => ?_
        -- region 13 (slices.go:157)
        refine wp_text (zz 0 [tt,tt,tt,tt,tt,tt]) rfl ?_
        refine mv hT rfl ?_
        clear hT; intro a hT
        refine mv hT rfl ?_
        clear hT; intro a hT
        refine mv hT rfl ?_
        clear hT; intro a hT
        refine tk hT rfl ((fun w => x_add w hT rfl rfl rfl (wrap64 (by omega)))) ?_
        clear hT; intro a hT
        refine tk hT rfl (x_slice_h (q := n + 1) hT rfl Tryz.underlying90 Tryz.ti92 rfl rfl rfl (by omega)) ?_
        clear hT; intro a hT
        obtain ⟨ys, hr2⟩ := hr.upto (q := n + 1) (by omega) (by omega)
        have hys : ys.length = 6 := by have := hr2.len; rw [List.length_append, hxl] at this; omega
        obtain ⟨junk, ha, hB, -⟩ := hr2.at_ (by omega)
        refine asn hT rfl ?_
        clear hT; intro a hT
        revert hT; revert hK19
        refine rq [0,31,22,8,16,7,6,1,2] rfl fun K20 hK20 hT => ?_
        refine wp_seq_k fun K21 hK21 => ?_
        -- region 14 (slices.go:173)
        refine wp_text (zz 0 [tt,tt,tt,tt,tt,tt,uu,tt]) rfl ?_
        refine mv hT rfl ?_
        clear hT; intro a hT
        refine mv hT rfl ?_
        clear hT; intro a hT
        refine mv hT rfl ?_
        clear hT; intro a hT
        refine mv hT rfl ?_
        clear hT; intro a hT
        refine tk hT rfl ((fun w => x_add w hT rfl rfl rfl (wrap64 (by omega)))) ?_
        clear hT; intro a hT
        refine tk hT rfl (x_slice_l (p := i + 1) hT rfl Tryz.underlying90 Tryz.ti92 rfl rfl (by omega) (by omega)) ?_
        clear hT; intro a hT
        refine rn hT rfl (x_callext hT rfl rfl (Sx.run_overlaps (tR := 4) Tryz.func88 (by kernel_rfl) rfl (by kernel_rfl) (by kernel_rfl) Tryz.underlying90 Tryz.ti92 hv hB (fun h => hne (Sx.ab ad) (by rw [ha]; rfl) h.symm) (fun h => by have := congrArg List.length h; simp only [List.length_append, hys, List.length_nil] at this; omega) ⟨_, Sx.cutAt_row ha (by omega)⟩)) ?_
        clear hT; intro a hT
        refine tk hT rfl (x_not hT rfl rfl) ?_
        clear hT; intro a hT
        replace hT := hT.keep [68,0,31,22,8,16,7,6,1,2] rfl
        refine ser_nil ?_
        refine then_normal (hK21 _ _ ?_)
        clear hK21
        refine wp_if hT rfl (fun _ => ?_) (fun h => by cases h)
        refine wp_seq_k fun K22 hK22 => ?_
        -- region 15 (slices.go:178)
        refine wp_draws (fun u => Sx.Ext Sx.No u) [(0, .take), (1, .take), (2, .take), (3, .take), (4, .take), (5, .take), (6, .take), (7, .take), (8, .run)] (by kernel_rfl) (by kernel_rfl) (fun u E z => ?_)
        replace X := X.step E
        replace hv := hv.ext_no E
        replace hr := hr.ext_no E
        replace hr2 := hr2.ext_no E
        have hH : Sx.Ext Sx.No u u := Sx.Ext.refl _ _
        refine mv hT rfl ?_
        clear hT; intro a hT
        refine mv hT rfl ?_
        clear hT; intro a hT
        refine mv hT rfl ?_
        clear hT; intro a hT
        refine tk hT rfl ((fun w => x_add w hT rfl rfl rfl (wrap64 (by omega)))) ?_
        clear hT; intro a hT
        refine tk hT rfl (x_slice_l (p := i + 1) hT rfl Tryz.underlying90 Tryz.ti92 rfl rfl (by omega) (by omega)) ?_
        clear hT; intro a hT
        refine mv hT rfl ?_
        clear hT; intro a hT
        refine mv hT rfl ?_
        clear hT; intro a hT
        refine tk hT rfl (x_slice_l hT rfl Tryz.underlying90 Tryz.ti92 rfl rfl rfl (by omega)) ?_
        clear hT; intro a hT
        refine st_eff hT rfl rfl rfl rfl (x_copy (k := i + 1) (m := n + 1) hT rfl rfl Tryz.underlying90 Tryz.ti92 rfl rfl rfl rfl rfl hr2 (by omega) (hr2.sv.cut (lo := i) (hi := n + 1) (by omega) (Nat.le_refl _) (by omega)) (fun u hu => h1 u (by rw [show Nat.min (n + 1 - i) (n + 1 - (i + 1)) = n - i from by simp only [Nat.min_def]; split <;> omega, List.take_take, Nat.min_eq_left (by omega), List.drop_append_of_le_length (by omega), List.take_append_of_le_length (by rw [List.length_drop]; omega)] at hu; exact List.mem_of_mem_drop (List.mem_of_mem_take hu)))) ?_
        clear hT; rintro _ w1 ⟨rfl, hr3, E2, -⟩ a hT
        have hvb := hv
        replace hv := hv.ext E2 (fun h => hne _ h rfl)
        replace X := X.same E2
        replace hr2 := hr3
        clear hr3
        rw [show Nat.min (n + 1 - i) (n + 1 - (i + 1)) = n - i from by simp only [Nat.min_def]; split <;> omega, List.take_take, Nat.min_eq_left (by omega)] at hr2
        replace hT := hT.keep [68,0,31,22,8,16,7,6,1,2] rfl
        refine ser_calm ?_
        revert hK22
        refine nx fun K23 hK23 => ?_
        -- region 16 (slices.go:186)
        refine wp_text (zz 0 [tt,tt,tt,tt,uu]) rfl ?_
        refine mv hT rfl ?_
        clear hT; intro a hT
        refine mv hT rfl ?_
        clear hT; intro a hT
        refine tk hT rfl (x_slice_l hT rfl Tryz.underlying90 Tryz.ti92 rfl rfl rfl (by omega)) ?_
        clear hT; intro a hT
        refine mv hT rfl ?_
        clear hT; intro a hT
        refine st_eff hT rfl rfl rfl rfl (x_copy (k := i) (m := n + 1) hT rfl rfl Tryz.underlying90 Tryz.ti92 rfl rfl rfl rfl rfl hr2 (by omega) (hv.sv1 hvl) (fun u hu => h1v u (List.mem_of_mem_take hu))) ?_
        clear hT; rintro _ w2 ⟨rfl, hr3, E3, -⟩ a hT
        replace X := X.same E3
        replace hr2 := hr3
        clear hr3
        rw [show Nat.min 1 (n + 1 - i) = 1 from by simp only [Nat.min_def]; split <;> omega, Nat.one_mul] at hr2
        revert hT; revert hK23
        refine rq [68,0,31,22,8,16,7,6,1,2] rfl fun K24 hK24 hT => ?_
        -- region 17 (slices.go:193)
        refine wp_text (zz 0 [tt,tt]) rfl ?_
        refine mv hT rfl ?_
        clear hT; intro a hT
        refine asn hT rfl ?_
        clear hT; intro a hT
        revert hT; revert hK24
        refine rp [6,68,0,31,22,8,16,7,1,2] rfl fun hT => ?_
        refine wp_ret <| then_ret ?_
        refine dn Tryz.f39 hT rfl ?_
        have hA : (xs.take (i * 6)).length = i * 6 := by rw [List.length_take, hxl]; omega
        have hB : (xs.drop (i * 6)).length = (n - i) * 6 := by rw [List.length_drop, hxl]; omega
        have h9 := Sx.ins_room hA hvl hB hys
        rw [List.take_append_drop] at h9
        simp only [show (i + 1) * 6 = i * 6 + 6 from by omega, show (i + 1 + (n - i)) * 6 = i * 6 + 6 + (n - i) * 6 from by omega] at hr2
        rw [List.take_of_length_le (l := vs) (by omega), h9] at hr2
        exact ⟨_, _, rfl, hr2, X, fun k hk => .inl hk⟩
theorem ins_cells {L : List Vr} {i : Nat} {x : Vr} (hi : i ≤ L.length) : (L.flatMap Vr.cells).take (i * 6) ++ x.cells ++ (L.flatMap Vr.cells).drop (i * 6) = (L.take i ++ x :: L.drop i).flatMap Vr.cells := by
  have h1 : (L.flatMap Vr.cells).take (i * 6) = (L.take i).flatMap Vr.cells := by
    have h2 : L.flatMap Vr.cells = (L.take i).flatMap Vr.cells ++ (L.drop i).flatMap Vr.cells := by rw [← List.flatMap_append, List.take_append_drop]
    rw [h2, List.take_append_of_le_length (by rw [flat_len Vr.len, List.length_take]; omega), List.take_of_length_le (by rw [flat_len Vr.len, List.length_take]; omega)]
  rw [h1, flat_drop Vr.len, List.flatMap_append, List.flatMap_cons, List.append_assoc]
theorem wld_some {H0 : List Hs} {P0 : List Pn} {low : Stp} {t : Tn} {commit : Bool} {at_ : Stp} (h : wldE ⟨H0.map Hs.p, P0.map Pn.p, low⟩ t commit at_ = 0) : ∃ x9, gtK slit kbn P0 (tb t) = some x9 ∧ ((findF (P0.map Pn.p) t).map Pp.ws).getD [] = x9.ws := by
  rw [find_gp]
  cases hg : gtK slit kbn P0 (tb t) with
  | some x => exact ⟨x, rfl, rfl⟩
  | none =>
    rw [wld_none (by show findF (P0.map Pn.p) t = none; rw [find_gp, hg]; rfl)] at h
    cases h
theorem com_step {H0 : List Hy} {H1 : List Hs} {l : List Wt} {k : Nat} {o : Wt} {at_ : Stp} (ho : l[k]? = some o) (h : H1.map Hs.p = comH H0 (l.take k) at_) (ad : Option Addr) (c : Nat) : (ptK slit Hs.key ⟨o.key, insV ⟨at_, o.v⟩ (gh H1 o.key).vs, ad, c⟩ H1).map Hs.p = comH H0 (l.take (k + 1)) at_ := by
  rw [put_map (κ := Hs.key) (κ' := Hy.key) (f := Hs.p) sO (fun _ => rfl)]
  unfold comH at *
  rw [take_app ho, List.foldl_append, ← h]
  show ptK slit Hy.key ⟨o.key, insV ⟨at_, o.v⟩ (gh H1 o.key).vs⟩ _ = putH (H1.map Hs.p) o.key ⟨at_, o.v⟩
  unfold putH
  rw [vsOf_gh]
theorem New_calls (w : World) : Calls Tryz.prog 10 #[] w fun e w' => ∃ p bk bp, e = .returned (.pointer (some ⟨p, 0, none⟩)) ∧ Hp w No w' [cB p [.map (some bk), .map (some bp), .int .i64 sz0.w, .int .i64 sz0.l, .int .i64 sz0.n] 89, cM Tryz.prog 9 bk (th []), cF 92 6 Hs.rw [], cM Tryz.prog 24 bp (tp []), cF 9 1 Pn.rr [], cF 65 4 Pn.rw []] := by
  refine calls_into Tryz.func10 rfl Tryz.ntmps10 rfl fun a hT => ?_; replace hT := hT.keep [] rfl; have H : Sx.Hp w (Sx.No) w [] := Sx.Hp.start _ _; refine sj (zz 0 [tt]) rfl fun K1 hK1 => ?_; refine asn hT rfl fun a hT => ?_; revert hT; revert hK1; refine rg [0] (zz 0 [uu,uu,tt,uu,tt]) rfl fun K2 hK2 hT => ?_; refine st_eff hT rfl rfl rfl rfl (x_makeMap 9 hT rfl _) ?_; rintro _ w1 ⟨bm3, rfl, N⟩; clear hT; intro a hT; replace H := H.newM N; clear N; refine st_eff hT rfl rfl rfl rfl (x_makeMap 24 hT rfl _) ?_; rintro _ w2 ⟨bm4, rfl, N⟩; clear hT; intro a hT; replace H := H.newM N; clear N; refine tk hT rfl (x_bld hT rfl Tryz.bld89 rfl rfl) fun a hT => ?_; refine st_eff hT rfl rfl rfl rfl (y_box hT rfl rfl rfl _) ?_; clear hT; rintro _ w3 ⟨b1, rfl, N⟩ a hT; replace H := H.new N; clear N; refine asn hT rfl fun a hT => ?_; revert hT; revert hK2; refine rp [0] rfl fun hT => ?_; refine wp_ret ?_; refine dn Tryz.f10 hT rfl ?_; exact ⟨_, _, _, rfl, (((H.keep [0,2,1] rfl rfl).famNil 65 4 Pn.rw).famNil 9 1 Pn.rr).famNil 92 6 Hs.rw |>.keep [3, 4, 0, 5, 1, 2] rfl rfl⟩
theorem Resolve_calls {S : Nat → Prop} {p bk bp : Nat} {low : Stp} {H0 : List Hs} {P0 : List Pn} (t : Tn) (ht : t.wf) (commit : Bool) (at_ : Stp) {w : World} (H : Hp w S w [cB p [.map (some bk), .map (some bp), .int .i64 low.w, .int .i64 low.l, .int .i64 low.n] 89, cM Tryz.prog 9 bk (th H0), cF 92 6 Hs.rw H0, cM Tryz.prog 24 bp (tp P0), cF 9 1 Pn.rr P0, cF 65 4 Pn.rw P0]) {n9 : Nat} (hB : Bd n9 H0 P0) (hn9 : n9 + 16 ≤ 1000000) : Calls Tryz.prog 12 #[.pointer (some ⟨p, 0, none⟩), .agg #[.int .i64 t.co, .int .i64 t.li, .int .i64 t.sq], .bool commit, .agg #[.int .i64 at_.w, .int .i64 at_.l, .int .i64 at_.n]] w fun e w' => ∃ H' P', e = .returned (.int .i64 (wldE ⟨H0.map Hs.p, P0.map Pn.p, low⟩ t commit at_)) ∧ Hp w S w' [cB p [.map (some bk), .map (some bp), .int .i64 low.w, .int .i64 low.l, .int .i64 low.n] 89, cM Tryz.prog 9 bk (th H'), cF 92 6 Hs.rw H', cM Tryz.prog 24 bp (tp P'), cF 9 1 Pn.rr P', cF 65 4 Pn.rw P'] ∧ (⟨H'.map Hs.p, P'.map Pn.p, low⟩ : Ms) = resM ⟨H0.map Hs.p, P0.map Pn.p, low⟩ t commit at_ ∧ Bd (n9 + 16) H' P' := by
  refine calls_into Tryz.func12 rfl Tryz.ntmps12 rfl fun a hT => ?_; replace hT := hT.keep [0,1,2,3] rfl; refine sj (zz 0 [uu,uu,tt]) rfl fun K1 hK1 => ?_; refine st_eff hT rfl rfl rfl rfl (y_box hT rfl rfl rfl _) ?_; clear hT; rintro _ w1 ⟨b1, rfl, N⟩ a hT; replace H := H.new N; clear N; refine st_eff hT rfl rfl rfl rfl (y_box hT rfl rfl rfl _) ?_; clear hT; rintro _ w2 ⟨b2, rfl, N⟩ a hT; replace H := H.new N; clear N; refine asn hT rfl fun a hT => ?_; revert hT; revert hK1; refine rq [8,7,5,0,1,2,3] rfl fun K2 hK2 hT => ?_; refine sj (zz 0 [tt,uu,tt,uu,uu,tt]) rfl fun K3 hK3 => ?_; refine mv hT rfl fun a hT => ?_; refine rn hT rfl (y_loadS hT rfl Tryz.underlying24 Tryz.ti24 rfl ((H.blk 1 rfl).seg (k := 3) rfl) (by rfl)) fun a hT => mv hT rfl fun a hT => ?_; refine rn hT rfl (y_loadS hT rfl Tryz.underlying26 Tryz.ti26 rfl ((H.blk 0 rfl).seg (k := 3) rfl) (by rfl)) fun a hT => ?_; refine st_call hT rfl rfl rfl rfl rfl Tryz.can37 rfl (Would_calls t ht commit at_ (⟨(H.blk 2 rfl), H.mp 3 rfl, H.fam 4 rfl, H.mp 5 rfl, H.fam 6 rfl, H.fam 7 rfl⟩ : Sto _ _ _ _ _ _ _) hB) ?_; rintro _ w3 ⟨rfl, E⟩
  refine ⟨_, rfl, ?_⟩; clear hT; intro a hT; replace H := H.pure E; clear E; refine asn hT rfl fun a hT => ?_; revert hT; revert hK3; refine rg [9,8,7,5,0,1,2,3] (zz 0 [tt,tt]) rfl fun K4 hK4 hT => ?_; refine mv hT rfl fun a hT => ?_; refine tk hT rfl ((fun w => x_ne w hT rfl rfl rfl)) fun a hT => ?_; revert hT; revert hK4; refine rif [20,9,8,7,5,0,1,2,3] rfl (fun hT hc5 => ?_) (fun hT hc5 => ?_)
  · try simp only [bq] at hc5
    have hne : ¬ wldE ⟨H0.map Hs.p, P0.map Pn.p, low⟩ t commit at_ = 0 := hc5; refine sj (zz 0 [tt,tt]) rfl fun K6 hK6 => ?_; refine mv hT rfl fun a hT => asn hT rfl fun a hT => ?_; revert hT; revert hK6; refine rp [8,20,9,7,5,0,1,2,3] rfl fun hT => ?_; refine wp_ret <| then_ret ?_; refine dn Tryz.f12 hT rfl ?_; refine ⟨H0, P0, rfl, H.keep [2,3,4,5,6,7] rfl rfl, ?_, hB.up (by omega) hn9⟩; unfold resM; rw [if_neg hne]
  · try simp only [bq] at hc5
    have h0 : wldE ⟨H0.map Hs.p, P0.map Pn.p, low⟩ t commit at_ = 0 := by simpa using hc5
    obtain ⟨x9, hg, hfw⟩ := wld_some h0; have hgx : gp P0 t = x9 := by unfold gp; rw [hg]; rfl
    have hxm := (sO.get_some hg).1; have hwl := (hB.wl x9 hxm).2; refine wp_skip ?_; revert hK2; refine nx fun K7 hK7 => ?_; refine sj (zz 0 [tt]) rfl fun K8 hK8 => ?_; refine mv hT rfl fun a hT => ?_; revert hT; revert hK8; refine rif [22,20,9,8,7,5,0,1,2,3] rfl (fun hT hc9 => ?_) (fun hT hc9 => ?_)
    · try simp only [bq] at hc9
      have hcm : commit = true := hc9; refine wp_seq_k fun K10 hK10 => ?_; revert H; refine drw (Sx.No) [(0, .take), (1, .take), (2, .take), (3, .held), (4, .held), (5, .held), (6, .take), (7, .take), (8, .take)] (by kernel_rfl) (by kernel_rfl) fun u H hH => ?_; have Hu := H; refine mv hT rfl fun a hT => nck hT rfl fun a hT => fad hT Tryz.fa89_1 rfl fun a hT => ?_; refine hed hT rfl hH (fun w' h' => x_load1 hT rfl Tryz.fl87 rfl ((Hu.heldB 2 rfl h' off_No).nth rfl)) fun a hT => ?_; refine hed hT rfl hH (fun w' h' => y_loadS hT rfl Tryz.underlying24 Tryz.ti24 rfl ((Hu.heldB 1 rfl h' off_No).seg (k := 3) rfl) (by rfl)) fun a hT => ?_; refine hed hT rfl hH (fun w' h' => x_lookup hT rfl Tryz.underlying87 keyedTx Tryz.ti36 rfl rfl (key_txn t ht) (Hu.heldM 5 rfl h' off_No)) fun a hT => ?_; rw [look_p, hgx] at hT; refine tk hT rfl (x_field1L hT rfl Tryz.fv36_3 Tryz.fl34 rfl rfl) fun a hT => ?_; refine tk hT rfl (x_len_slice hT rfl rfl Tryz.underlying34 rfl) fun a hT => mv hT rfl fun a hT => ?_; replace hT := hT.keep [31,30,29,22,20,9,8,7,5,0,1,2,3] rfl
      clear Hu hH; refine ser_calm ?_; refine then_normal (hK10 _ _ ?_); clear hK10; refine wp_block ?_; refine wp_loopH (G := Nat × List Hs) (fun ⟨k, H1⟩ => [(31, .int .i64 (k : Int))]) (fun ⟨k, H1⟩ => [cM Tryz.prog 9 bk (th H1), cF 92 6 Hs.rw H1]) (fun ⟨k, H1⟩ => k ≤ x9.ws.length ∧ H1.map Hs.p = comH (H0.map Hs.p) (x9.ws.take k) at_ ∧ Bd (n9 + k) H1 P0) (fun ⟨k, H1⟩ => x9.ws.length - k) (0, H0) (hT.keep [31,30,29,22,20,9,8,7,5,0,1,2,3] rfl) (H.keep [3,4,0,1,2,5,6,7] rfl rfl) (⟨Nat.zero_le _, rfl, hB⟩) ?_; clear hT H; rintro ⟨k, H1⟩ a w4 hJ hT H; replace hT := hT.keep [31,30,29,22,20,9,8,7,5,0,1,2,3] rfl; replace H := H.keep [0,1,2,3,4,5,6,7] rfl rfl; obtain ⟨hk, hH1, hB1⟩ := hJ; refine sj (zz 0 [tt]) rfl fun K11 hK11 => ?_; refine tk hT rfl ((fun w => x_lt w hT rfl rfl rfl)) fun a hT => ?_; revert hT; revert hK11; refine rq [32,31,30,29,22,20,9,8,7,5,0,1,2,3] rfl fun K12 hK12 hT => ?_; refine wp_if hT rfl (fun hc13 => ?_) (fun hc13 => ?_)
      · try simp only [bq] at hc13
        obtain ⟨o, ho⟩ : ∃ q9, x9.ws[k]? = some q9 := ⟨_, List.getElem?_eq_getElem (by omega)⟩; have hok := hwl.2.2 o (List.mem_of_getElem? ho); have hgv := hB1.gv o.key; refine wp_skip ?_; revert hK12; refine nx fun K14 hK14 => ?_; refine wp_block ?_; refine sj (zz 0 [tt,uu,uu,uu]) rfl fun K15 hK15 => ?_; refine tk hT rfl (x_index (k := k) hT rfl Tryz.underlying34 Tryz.ti65 (Row.ssn (xs := x9.ws) (enc := Wt.cells) ((H.fam 7 rfl).row x9 hxm) rfl).sv rfl rfl (by first | rfl | omega) (by omega)) fun a hT => ?_; refine rn hT rfl (y_loadS hT rfl Tryz.underlying65 Tryz.ti65 rfl (by first | exact ((H.blk 2 rfl).seg (k := 4) rfl) | exact ((H.blk 3 rfl).seg (k := 4) rfl) | exact ((H.blk 4 rfl).seg (k := 4) rfl) | exact ((Row.ssn (xs := x9.ws) (enc := Wt.cells) ((H.fam 7 rfl).row x9 hxm) rfl).cs Wt.len ho)) (by rfl)) fun a hT => ?_; refine st_eff hT rfl rfl rfl rfl (y_alloc hT rfl Tryz.ti65 rfl _) ?_; clear hT; rintro _ w5 ⟨b3, rfl, N⟩ a hT; replace H := H.new N; clear N; refine st_act hT rfl rfl rfl (y_storeS hT rfl Tryz.ti65 rfl rfl rfl rfl rfl (H.blk 0 rfl) rfl) ?_; rintro w6 ⟨hb, E, _⟩; replace H := H.setB 0 rfl hb E rfl; clear hb E; revert hT; revert hK15; refine rq [11,32,31,30,29,22,20,9,8,7,5,0,1,2,3] rfl fun K16 hK16 hT => ?_; replace H := H.famLook sO hB1.hs 2 rfl o.key hz0 rfl rfl
        replace H : Sx.Hp w S w6 (cR 92 6 (gh H1 o.key).ad (gh H1 o.key).vs.length (gh H1 o.key).c ((gh H1 o.key).vs.flatMap Vr.cells) :: _) := H; revert H; refine drw (Sx.No) [(0, .take), (1, .take), (2, .take), (3, .held), (4, .take), (5, .held), (6, .held), (7, .take)] (by kernel_rfl) (by kernel_rfl) fun u H hH => ?_; have Hu := H; refine mv hT rfl fun a hT => nck hT rfl fun a hT => fad hT Tryz.fa89_0 rfl fun a hT => ?_; refine hed hT rfl hH (fun w' h' => x_load1 hT rfl Tryz.fl86 rfl ((Hu.heldB 6 rfl h' off_No).nth rfl)) fun a hT => fad hT Tryz.fa65_0 rfl fun a hT => ?_; refine hed hT rfl hH (fun w' h' => x_load1 hT rfl Tryz.fl9 rfl ((Hu.heldB 1 rfl h' off_No).nth rfl)) fun a hT => ?_; refine hed hT rfl hH (fun w' h' => x_lookup hT rfl Tryz.underlying86 (Go.Maps.string_keyed Tryz.underlying9) Tryz.ti90 rfl rfl (key_str Tryz.underlying9 o.key hok) (Hu.heldM 2 rfl h' off_No)) fun a hT => ?_; rw [look_h] at hT; refine asn hT rfl fun a hT => ?_; replace hT := hT.keep [12,11,32,31,30,29,22,20,9,8,7,5,0,1,2,3] rfl
        clear Hu hH; refine ser_calm ?_; revert hK16; refine nx fun K17 hK17 => ?_; refine wp_text (zz 0 [tt,tt,tt]) rfl ?_; refine mv hT rfl fun a hT => ?_; refine tk hT rfl (x_len_slice hT rfl rfl Tryz.underlying90 rfl) fun a hT => asn hT rfl fun a hT => ?_; revert hT; revert hK17; refine rq [13,12,11,32,31,30,29,22,20,9,8,7,5,0,1,2,3] rfl fun K18 hK18 hT => ?_; refine wp_block ?_; refine wp_loopH (G := Nat) (fun i => [(13, .int .i64 (i : Int))]) (fun i => []) (fun i => i ≤ (gh H1 o.key).vs.length ∧ ∀ (t : Nat) q, i ≤ t → (gh H1 o.key).vs[t]? = some q → 0 < cmpS q.s at_) (fun i => i) (gh H1 o.key).vs.length (hT.keep [13,12,11,32,31,30,29,22,20,9,8,7,5,0,1,2,3] rfl) (H.keep [0,1,2,3,4,5,6,7,8,9] rfl rfl) (⟨Nat.le_refl _, fun t q h1 h2 => by have := (List.getElem?_eq_some_iff.1 h2).1; omega⟩) ?_; clear hT H; rintro i a w7 hJ hT H; replace hT := hT.keep [13,12,11,32,31,30,29,22,20,9,8,7,5,0,1,2,3] rfl; replace H := H.keep [0,1,2,3,4,5,6,7,8,9] rfl rfl; obtain ⟨hi, htl⟩ := hJ; refine wp_seq_k fun K19 hK19 => ?_; refine wp_seq_k fun K20 hK20 => ?_; revert H
        refine drw (Sx.No) [(0, .take), (1, .take), (2, .take), (3, .take), (4, .take), (5, .take), (6, .take), (7, .take), (8, .held), (9, .held), (10, .run), (11, .take), (12, .take)] (by kernel_rfl) (by kernel_rfl) fun u H hH => ?_; have Hu := H; refine mv hT rfl fun a hT => ?_; refine tk hT rfl ((fun w => x_gt w hT rfl rfl rfl)) fun a hT => mv hT rfl fun a hT => ?_; refine Sl.two hT 46 rfl (fun hc21 hT => ?_) (fun hc21 hT => ?_)
        · try simp only [bq] at hc21
          have hi0 : 0 < i := by omega
          obtain ⟨q9, hq9⟩ : ∃ q9, (gh H1 o.key).vs[i - 1]? = some q9 := ⟨_, List.getElem?_eq_getElem (by omega)⟩; refine mv hT rfl fun a hT => mv hT rfl fun a hT => ?_; refine tk hT rfl ((fun w => x_sub w hT rfl rfl rfl (wrap64 (by omega)))) fun a hT => ?_; refine tk hT rfl (x_index (k := i - 1) hT rfl Tryz.underlying90 Tryz.ti92 (H.row 0 rfl).sv rfl rfl (by first | rfl | omega) (by omega)) fun a hT => fad hT Tryz.fa92_0 rfl fun a hT => ?_; refine hed hT rfl hH (fun w' h' => y_loadS hT rfl Tryz.underlying26 Tryz.ti26 rfl ((((Hu.heldR 0 rfl h' off_No).ssn rfl).cs Vr.len hq9).seg (i := 0) (k := 3) rfl) (by rfl)) fun a hT => ?_; refine hed hT rfl hH (fun w' h' => y_loadS hT rfl Tryz.underlying26 Tryz.ti26 rfl ((Hu.heldB 4 rfl h' off_No).seg (k := 3) rfl) (by rfl)) fun a hT => ?_; refine st_call hT rfl rfl rfl rfl rfl Tryz.can38 rfl (Compare_calls q9.s at_ _) ?_; rintro _ w8 ⟨rfl, E⟩; refine ⟨_, rfl, ?_⟩; clear hT; intro a hT; replace H := H.pure E; clear E; refine tk hT rfl ((fun w => x_gt w hT rfl rfl rfl)) fun a hT => ?_; refine tk hT rfl (x_pick_t hT rfl rfl rfl) fun a hT => ?_; replace hT := hT.keep [56,13,12,11,32,31,30,29,22,20,9,8,7,5,0,1,2,3] rfl
          clear Hu hH; refine ser_calm ?_; refine then_normal (hK20 _ _ ?_); clear hK20; refine wp_if hT rfl (fun hc22 => ?_) (fun hc22 => ?_)
          · try simp only [bq] at hc22
            have hgt9 : 0 < cmpS q9.s at_ := by omega
            refine wp_skip ?_; refine then_normal (hK19 _ _ ?_); clear hK19; refine wp_block ?_; refine wp_text (zz 0 [tt,tt,tt]) rfl ?_; refine mv hT rfl fun a hT => ?_; refine tk hT rfl ((fun w => x_sub w hT rfl rfl rfl (wrap64 (by omega)))) fun a hT => asn hT rfl fun a hT => ?_; replace hT := hT.keep [13,56,12,11,32,31,30,29,22,20,9,8,7,5,0,1,2,3] rfl; refine ser_nil ?_; refine block_normal ?_; refine then_normal ?_; exact ⟨i - 1, ⟨by omega, fun t q h1 h2 => by rcases Nat.lt_or_ge t i with h3 | h3; obtain rfl : t = i - 1 := (by omega); rw [hq9] at h2; cases h2; exact hgt9; exact htl t q h3 h2⟩, ((hT.keep [13,12,11,32,31,30,29,22,20,9,8,7,5,0,1,2,3] rfl).conv (by rw [show ((i - 1 : Nat) : Int) = (i : Int) - 1 from by omega]; rfl)), (H.keep [0,1,2,3,4,5,6,7,8,9] rfl rfl), by omega⟩
          · try simp only [bq] at hc22
            have hti := tail_eq hi htl (.inr ⟨q9, hq9, by omega⟩); refine wp_exit <| then_exit ?_; refine then_exit <| block_exit ?_; refine then_normal (hK18 _ _ ?_); clear hK18; refine wp_draws (fun u => Sx.Ext ((fun k => Sx.Own (gh H1 o.key).ad k ∨ Sx.One bk k)) u) [(0, .take), (1, .take), (2, .take), (3, .held), (4, .take), (5, .held), (6, .take), (7, .take), (8, .held), (9, .take), (10, .held), (11, .take), (12, .keep), (13, .keep), (14, .run)] (by kernel_rfl) (by kernel_rfl) (fun u E _ => ?_); replace H := H.pure E; clear E; have hH : Sx.Ext ((fun k => Sx.Own (gh H1 o.key).ad k ∨ Sx.One bk k)) u u := Sx.Ext.refl _ _; have Hu := H; refine mv hT rfl fun a hT => nck hT rfl fun a hT => fad hT Tryz.fa89_0 rfl fun a hT => ?_; refine hed hT rfl hH (fun w' h' => x_load1 hT rfl Tryz.fl86 rfl ((Hu.heldB 6 rfl h' (Hu.off2 (i := 6) (j := 0) (k9 := 2) rfl rfl rfl rfl rfl)).nth rfl)) fun a hT => fad hT Tryz.fa65_0 rfl fun a hT => ?_; refine hed hT rfl hH (fun w' h' => x_load1 hT rfl Tryz.fl9 rfl ((Hu.heldB 1 rfl h' (Hu.off2 (i := 1) (j := 0) (k9 := 2) rfl rfl rfl rfl rfl)).nth rfl)) fun a hT => mv hT rfl fun a hT => mv hT rfl ?_
            clear hT; intro a hT; refine hed hT rfl hH (fun w' h' => y_loadS hT rfl Tryz.underlying26 Tryz.ti26 rfl ((Hu.heldB 4 rfl h' (Hu.off2 (i := 4) (j := 0) (k9 := 2) rfl rfl rfl rfl rfl)).seg (k := 3) rfl) (by rfl)) fun a hT => fad hT Tryz.fa65_1 rfl fun a hT => ?_; refine hed hT rfl hH (fun w' h' => y_loadS hT rfl Tryz.underlying51 Tryz.ti51 rfl ((Hu.heldB 1 rfl h' (Hu.off2 (i := 1) (j := 0) (k9 := 2) rfl rfl rfl rfl rfl)).seg (k := 3) rfl) (by rfl)) fun a hT => ?_; refine tk hT rfl (x_bld hT rfl Tryz.bld92 rfl rfl) fun a hT => ?_; refine st_effkeep hT rfl rfl rfl rfl (y_slice1 hT rfl Tryz.underlying90 Tryz.ti92 rfl rfl rfl rfl rfl rfl _) ?_; rintro _ w9 ⟨b4, rfl, N⟩; have q_b4 : u.heap.size ≤ b4 := by have h8 := hH.size; have h9 := N.at_; omega
            refine ⟨hH.step N.ext, ?_⟩; replace hH := hH.step N.ext; clear hT; intro a hT; replace H := H.new N; clear N; refine st_callkeep hT rfl rfl rfl rfl rfl Tryz.can39 rfl (vrInsert (gh H1 o.key).ad (gh H1 o.key).vs.length (gh H1 o.key).c i b4 ((gh H1 o.key).vs.flatMap Vr.cells) (⟨at_, o.v⟩ : Vr).cells _ (H.row 1 rfl) (H.blk 0 rfl) rfl (fun u hu => flat_one Vr.one _ u hu) (Vr.one ⟨at_, o.v⟩) hi (fun k hk he => H.off 1 0 rfl rfl rfl k ((H.row 1 rfl).lt k hk) hk he) (by omega)) ?_; rintro _ w10 ⟨ad9, c9, rfl, hr, E, hown⟩; refine ⟨_, rfl, hH.same (E.mono fun _ _ h => .inl h), ?_⟩; replace hH := hH.same (E.mono fun _ _ h => .inl h); clear hT; intro a hT; replace H := H.setR 1 rfl hr E hown rfl; clear hr E hown; rw [ins_cells hi, ins_at (x := (⟨at_, o.v⟩ : Vr)) hti] at H; refine st_act hT rfl rfl rfl (x_mapUpdate hT rfl Tryz.underlying86 (Go.Maps.string_keyed Tryz.underlying9) rfl rfl rfl (key_str Tryz.underlying9 o.key hok) (H.mp 3 rfl) (by rw [th_size]; have h9 := hB1.hl; have h8 := hB1.nn; unfold maxLen; omega)) ?_; rintro w11 ⟨hm, E, _⟩; replace H := H.setM 3 rfl hm E rfl; clear hm E; have hpk : (th H1).put (slit o.key) (.held (⟨o.key, insV ⟨at_, o.v⟩ (gh H1 o.key).vs, ad9, c9⟩ : Hs).val) = th (ptK slit Hs.key (⟨o.key, insV ⟨at_, o.v⟩ (gh H1 o.key).vs, ad9, c9⟩ : Hs) H1) := putK (κ := Hs.key) (⟨o.key, insV ⟨at_, o.v⟩ (gh H1 o.key).vs, ad9, c9⟩ : Hs); have hlv : (⟨o.key, insV ⟨at_, o.v⟩ (gh H1 o.key).vs, ad9, c9⟩ : Hs).val = .slice ad9 ((gh H1 o.key).vs.length + 1) c9 := by show Value.slice ad9 (insV _ _).length c9 = _; rw [ins_len]
            rw [hlv] at hpk; rw [hpk] at H; clear hpk hlv; replace H := H.famPut (L' := ptK slit Hs.key (⟨o.key, insV ⟨at_, o.v⟩ (gh H1 o.key).vs, ad9, c9⟩ : Hs) H1) (x := (⟨o.key, insV ⟨at_, o.v⟩ (gh H1 o.key).vs, ad9, c9⟩ : Hs)) 4 1 rfl rfl (show Hs.rw (⟨o.key, insV ⟨at_, o.v⟩ (gh H1 o.key).vs, ad9, c9⟩ : Hs) = ⟨ad9, (gh H1 o.key).vs.length + 1, c9, _⟩ from by unfold Hs.rw; dsimp only; rw [ins_len]) rfl [0, 2, 3, 5, 6, 7, 8, 9, 10] rfl rfl (sO.put_perm (⟨o.key, insV ⟨at_, o.v⟩ (gh H1 o.key).vs, ad9, c9⟩ : Hs) H1); replace hT := hT.keep [56,13,12,11,32,31,30,29,22,20,9,8,7,5,0,1,2,3] rfl; clear Hu hH; refine ser_calm ?_; refine block_normal ?_; refine then_normal (hK14 _ _ ?_); clear hK14; refine wp_text (zz 0 [tt,tt]) rfl ?_; refine tk hT rfl ((fun w => x_add w hT rfl rfl rfl (wrap64 (by omega)))) fun a hT => mv hT rfl fun a hT => ?_; replace hT := hT.keep [31,56,13,12,11,32,30,29,22,20,9,8,7,5,0,1,2,3] rfl; refine ser_nil ?_; refine then_normal ?_; exact ⟨(k + 1, ptK slit Hs.key (⟨o.key, insV ⟨at_, o.v⟩ (gh H1 o.key).vs, ad9, c9⟩ : Hs) H1), ⟨by show k + 1 ≤ _; omega, com_step ho hH1 ad9 c9, hB1.put (by omega) hok ⟨at_, o.v⟩ ad9 c9⟩, (hT.keep [31,30,29,22,20,9,8,7,5,0,1,2,3] rfl), (H.keep [3,0,4,5,6,7,8,9] rfl rfl), by show _ - (k + 1) < _ - k; omega⟩
        · try simp only [bq] at hc21
          have hi0 : i = 0 := by omega
          refine sk hT rfl fun a hT => sk hT rfl fun a hT => sk hT rfl fun a hT => sk hT rfl fun a hT => sk hT rfl fun a hT => ?_; refine st_heldskip hT rfl rfl rfl rfl hH fun a hT => ?_; refine st_heldskip hT rfl rfl rfl rfl hH fun a hT => ?_; refine st_runskip hT rfl rfl rfl rfl fun a hT => sk hT rfl fun a hT => ?_; refine tk hT rfl (x_pick_f hT rfl rfl rfl) fun a hT => ?_; replace hT := hT.keep [56,13,12,11,32,31,30,29,22,20,9,8,7,5,0,1,2,3] rfl; clear Hu hH; refine ser_calm ?_; refine then_normal (hK20 _ _ ?_); clear hK20; refine wp_if hT rfl (fun h => by cases h) (fun _ => ?_); have hti := tail_eq hi htl (.inl hi0); refine wp_exit <| then_exit ?_; refine then_exit <| block_exit ?_; refine then_normal (hK18 _ _ ?_); clear hK18; refine wp_draws (fun u => Sx.Ext ((fun k => Sx.Own (gh H1 o.key).ad k ∨ Sx.One bk k)) u) [(0, .take), (1, .take), (2, .take), (3, .held), (4, .take), (5, .held), (6, .take), (7, .take), (8, .held), (9, .take), (10, .held), (11, .take), (12, .keep), (13, .keep), (14, .run)] (by kernel_rfl) (by kernel_rfl) (fun u E _ => ?_); replace H := H.pure E; clear E; have hH : Sx.Ext ((fun k => Sx.Own (gh H1 o.key).ad k ∨ Sx.One bk k)) u u := Sx.Ext.refl _ _
          have Hu := H; refine mv hT rfl fun a hT => nck hT rfl fun a hT => fad hT Tryz.fa89_0 rfl fun a hT => ?_; refine hed hT rfl hH (fun w' h' => x_load1 hT rfl Tryz.fl86 rfl ((Hu.heldB 6 rfl h' (Hu.off2 (i := 6) (j := 0) (k9 := 2) rfl rfl rfl rfl rfl)).nth rfl)) fun a hT => fad hT Tryz.fa65_0 rfl fun a hT => ?_; refine hed hT rfl hH (fun w' h' => x_load1 hT rfl Tryz.fl9 rfl ((Hu.heldB 1 rfl h' (Hu.off2 (i := 1) (j := 0) (k9 := 2) rfl rfl rfl rfl rfl)).nth rfl)) fun a hT => mv hT rfl fun a hT => mv hT rfl fun a hT => ?_; refine hed hT rfl hH (fun w' h' => y_loadS hT rfl Tryz.underlying26 Tryz.ti26 rfl ((Hu.heldB 4 rfl h' (Hu.off2 (i := 4) (j := 0) (k9 := 2) rfl rfl rfl rfl rfl)).seg (k := 3) rfl) (by rfl)) fun a hT => fad hT Tryz.fa65_1 rfl fun a hT => ?_; refine hed hT rfl hH (fun w' h' => y_loadS hT rfl Tryz.underlying51 Tryz.ti51 rfl ((Hu.heldB 1 rfl h' (Hu.off2 (i := 1) (j := 0) (k9 := 2) rfl rfl rfl rfl rfl)).seg (k := 3) rfl) (by rfl)) fun a hT => ?_; refine tk hT rfl (x_bld hT rfl Tryz.bld92 rfl rfl) ?_
          clear hT; intro a hT; refine st_effkeep hT rfl rfl rfl rfl (y_slice1 hT rfl Tryz.underlying90 Tryz.ti92 rfl rfl rfl rfl rfl rfl _) ?_; rintro _ w12 ⟨b5, rfl, N⟩; have q_b5 : u.heap.size ≤ b5 := by have h8 := hH.size; have h9 := N.at_; omega
          refine ⟨hH.step N.ext, ?_⟩; replace hH := hH.step N.ext; clear hT; intro a hT; replace H := H.new N; clear N; refine st_callkeep hT rfl rfl rfl rfl rfl Tryz.can39 rfl (vrInsert (gh H1 o.key).ad (gh H1 o.key).vs.length (gh H1 o.key).c i b5 ((gh H1 o.key).vs.flatMap Vr.cells) (⟨at_, o.v⟩ : Vr).cells _ (H.row 1 rfl) (H.blk 0 rfl) rfl (fun u hu => flat_one Vr.one _ u hu) (Vr.one ⟨at_, o.v⟩) hi (fun k hk he => H.off 1 0 rfl rfl rfl k ((H.row 1 rfl).lt k hk) hk he) (by omega)) ?_; rintro _ w13 ⟨ad9, c9, rfl, hr, E, hown⟩; refine ⟨_, rfl, hH.same (E.mono fun _ _ h => .inl h), ?_⟩; replace hH := hH.same (E.mono fun _ _ h => .inl h); clear hT; intro a hT; replace H := H.setR 1 rfl hr E hown rfl; clear hr E hown; rw [ins_cells hi, ins_at (x := (⟨at_, o.v⟩ : Vr)) hti] at H; refine st_act hT rfl rfl rfl (x_mapUpdate hT rfl Tryz.underlying86 (Go.Maps.string_keyed Tryz.underlying9) rfl rfl rfl (key_str Tryz.underlying9 o.key hok) (H.mp 3 rfl) (by rw [th_size]; have h9 := hB1.hl; have h8 := hB1.nn; unfold maxLen; omega)) ?_; rintro w14 ⟨hm, E, _⟩; replace H := H.setM 3 rfl hm E rfl; clear hm E; have hpk : (th H1).put (slit o.key) (.held (⟨o.key, insV ⟨at_, o.v⟩ (gh H1 o.key).vs, ad9, c9⟩ : Hs).val) = th (ptK slit Hs.key (⟨o.key, insV ⟨at_, o.v⟩ (gh H1 o.key).vs, ad9, c9⟩ : Hs) H1) := putK (κ := Hs.key) (⟨o.key, insV ⟨at_, o.v⟩ (gh H1 o.key).vs, ad9, c9⟩ : Hs); have hlv : (⟨o.key, insV ⟨at_, o.v⟩ (gh H1 o.key).vs, ad9, c9⟩ : Hs).val = .slice ad9 ((gh H1 o.key).vs.length + 1) c9 := by show Value.slice ad9 (insV _ _).length c9 = _; rw [ins_len]
          rw [hlv] at hpk; rw [hpk] at H; clear hpk hlv; replace H := H.famPut (L' := ptK slit Hs.key (⟨o.key, insV ⟨at_, o.v⟩ (gh H1 o.key).vs, ad9, c9⟩ : Hs) H1) (x := (⟨o.key, insV ⟨at_, o.v⟩ (gh H1 o.key).vs, ad9, c9⟩ : Hs)) 4 1 rfl rfl (show Hs.rw (⟨o.key, insV ⟨at_, o.v⟩ (gh H1 o.key).vs, ad9, c9⟩ : Hs) = ⟨ad9, (gh H1 o.key).vs.length + 1, c9, _⟩ from by unfold Hs.rw; dsimp only; rw [ins_len]) rfl [0, 2, 3, 5, 6, 7, 8, 9, 10] rfl rfl (sO.put_perm (⟨o.key, insV ⟨at_, o.v⟩ (gh H1 o.key).vs, ad9, c9⟩ : Hs) H1); replace hT := hT.keep [56,13,12,11,32,31,30,29,22,20,9,8,7,5,0,1,2,3] rfl; clear Hu hH; refine ser_calm ?_; refine block_normal ?_; refine then_normal (hK14 _ _ ?_); clear hK14; refine wp_text (zz 0 [tt,tt]) rfl ?_; refine tk hT rfl ((fun w => x_add w hT rfl rfl rfl (wrap64 (by omega)))) fun a hT => mv hT rfl fun a hT => ?_; replace hT := hT.keep [31,56,13,12,11,32,30,29,22,20,9,8,7,5,0,1,2,3] rfl; refine ser_nil ?_; refine then_normal ?_; exact ⟨(k + 1, ptK slit Hs.key (⟨o.key, insV ⟨at_, o.v⟩ (gh H1 o.key).vs, ad9, c9⟩ : Hs) H1), ⟨by show k + 1 ≤ _; omega, com_step ho hH1 ad9 c9, hB1.put (by omega) hok ⟨at_, o.v⟩ ad9 c9⟩, (hT.keep [31,30,29,22,20,9,8,7,5,0,1,2,3] rfl), (H.keep [3,0,4,5,6,7,8,9] rfl rfl), by show _ - (k + 1) < _ - k; omega⟩
      · try simp only [bq] at hc13
        have hkl : k = x9.ws.length := by omega
        rw [hkl, List.take_length] at hH1; refine wp_exit <| then_exit ?_; refine then_exit <| block_exit ?_; revert hK7; refine nx fun K23 hK23 => ?_; revert H; refine drw (Sx.One bp) [(0, .take), (1, .take), (2, .take), (3, .held), (4, .held), (5, .run)] (by kernel_rfl) (by kernel_rfl) fun u H hH => ?_; have Hu := H; refine mv hT rfl fun a hT => nck hT rfl fun a hT => fad hT Tryz.fa89_1 rfl fun a hT => ?_; refine hed hT rfl hH (fun w' h' => x_load1 hT rfl Tryz.fl87 rfl ((Hu.heldB 4 rfl h' (Hu.off 4 5 rfl rfl rfl)).nth rfl)) fun a hT => ?_; refine hed hT rfl hH (fun w' h' => y_loadS hT rfl Tryz.underlying24 Tryz.ti24 rfl ((Hu.heldB 3 rfl h' (Hu.off 3 5 rfl rfl rfl)).seg (k := 3) rfl) (by rfl)) fun a hT => ?_; refine st_drop hT rfl rfl rfl (x_delete hT rfl rfl Tryz.underlying87 keyedTx rfl rfl (key_txn t ht) (H.mp 5 rfl)) ?_; rintro _ w15 ⟨rfl, hm, E, _⟩; replace H := H.setM 5 rfl hm E rfl; clear hm E; rw [show (tp P0).del (slit (tb t)) = tp (dlK kbn (tb t) P0) from delK (κ := kbn) sO (tb t)] at H; replace H := H.famSub (L' := dlK kbn (tb t) P0) (M := [x9]) 6 rfl ((sO.del_perm hB.ps hg).trans (List.perm_append_comm (l₁ := [x9]))) rfl
        replace H := H.famSub (L' := dlK kbn (tb t) P0) (M := [x9]) 7 rfl ((sO.del_perm hB.ps hg).trans (List.perm_append_comm (l₁ := [x9]))) rfl; replace hT := hT.keep [32,31,30,29,22,20,9,8,7,5,0,1,2,3] rfl; clear Hu hH; refine ser_calm ?_; revert hK23; refine nx fun K24 hK24 => ?_; refine wp_text (zz 0 [tt]) rfl ?_; refine asn hT rfl fun a hT => ?_; revert hT; revert hK24; refine rp [8,32,31,30,29,22,20,9,7,5,0,1,2,3] rfl fun hT => ?_; refine wp_ret ?_; refine dn Tryz.f12 hT rfl ?_; refine ⟨H1, dlK kbn (tb t) P0, by rw [h0], H.keep [4,0,1,5,6,7] rfl rfl, ?_, (hB1.del (tb t)).up (by omega) hn9⟩; unfold resM; rw [if_pos h0, hcm, if_pos rfl, hfw, ← hH1]; rw [del_map (κ := kbn) (κ' := kbp) (f := Pn.p) (fun _ => rfl)]
    · try simp only [bq] at hc9
      have hcm : commit = false := hc9; refine wp_skip ?_; revert hK7; refine nx fun K25 hK25 => ?_; revert H; refine drw (Sx.One bp) [(0, .take), (1, .take), (2, .take), (3, .held), (4, .held), (5, .run)] (by kernel_rfl) (by kernel_rfl) fun u H hH => ?_; have Hu := H; refine mv hT rfl fun a hT => nck hT rfl fun a hT => fad hT Tryz.fa89_1 rfl fun a hT => ?_; refine hed hT rfl hH (fun w' h' => x_load1 hT rfl Tryz.fl87 rfl ((Hu.heldB 2 rfl h' (Hu.off 2 5 rfl rfl rfl)).nth rfl)) fun a hT => ?_; refine hed hT rfl hH (fun w' h' => y_loadS hT rfl Tryz.underlying24 Tryz.ti24 rfl ((Hu.heldB 1 rfl h' (Hu.off 1 5 rfl rfl rfl)).seg (k := 3) rfl) (by rfl)) fun a hT => ?_; refine st_drop hT rfl rfl rfl (x_delete hT rfl rfl Tryz.underlying87 keyedTx rfl rfl (key_txn t ht) (H.mp 5 rfl)) ?_; rintro _ w16 ⟨rfl, hm, E, _⟩; replace H := H.setM 5 rfl hm E rfl; clear hm E; rw [show (tp P0).del (slit (tb t)) = tp (dlK kbn (tb t) P0) from delK (κ := kbn) sO (tb t)] at H; replace H := H.famSub (L' := dlK kbn (tb t) P0) (M := [x9]) 6 rfl ((sO.del_perm hB.ps hg).trans (List.perm_append_comm (l₁ := [x9]))) rfl; replace H := H.famSub (L' := dlK kbn (tb t) P0) (M := [x9]) 7 rfl ((sO.del_perm hB.ps hg).trans (List.perm_append_comm (l₁ := [x9]))) rfl
      replace hT := hT.keep [22,20,9,8,7,5,0,1,2,3] rfl; clear Hu hH; refine ser_calm ?_; revert hK25; refine nx fun K26 hK26 => ?_; refine wp_text (zz 0 [tt]) rfl ?_; refine asn hT rfl fun a hT => ?_; revert hT; revert hK26; refine rp [8,22,20,9,7,5,0,1,2,3] rfl fun hT => ?_; refine wp_ret ?_; refine dn Tryz.f12 hT rfl ?_; refine ⟨H0, dlK kbn (tb t) P0, by rw [h0], H.keep [2,3,4,5,6,7] rfl rfl, ?_, (hB.del (tb t)).up (by omega) hn9⟩; unfold resM; rw [if_pos h0, hcm, if_neg (by decide)]; rw [del_map (κ := kbn) (κ' := kbp) (f := Pn.p) (fun _ => rfl)]
theorem clash_at {x y : Pn} {k : Nat} {o : Wt} (ho : x.ws[k]? = some o) (h : (wrts y.ws o.key || rds y.rs o.key) = true) : clashF x.p y.p = true := by
  unfold clashF
  rw [show (x.p.ws.any fun w => wrts y.p.ws w.key || rds y.p.rs w.key) = true from any_at ho h, Bool.true_or]
theorem clash_at2 {x y : Pn} {k : Nat} {o : Key} (ho : x.rs[k]? = some o) (h : wrts y.ws o = true) : clashF x.p y.p = true := by
  unfold clashF
  rw [show (x.p.rs.any fun k => wrts y.p.ws k) = true from any_at ho h, Bool.or_true]
theorem clash_no {x y : Pn} (h1 : ∀ (t : Nat) q, t < x.ws.length → x.ws[t]? = some q → (wrts y.ws q.key || rds y.rs q.key) = false) (h2 : ∀ (t : Nat) q, t < x.rs.length → x.rs[t]? = some q → wrts y.ws q = false) : clashF x.p y.p = false := by
  unfold clashF
  rw [show (x.p.ws.any fun w => wrts y.p.ws w.key || rds y.p.rs w.key) = false from any_none h1, show (x.p.rs.any fun k => wrts y.p.ws k) = false from any_none h2]
  rfl
theorem any_p {P : List Pn} {f : Pp → Bool} {y : Pn} (hy : y ∈ P) (h : f y.p = true) : (P.map Pn.p).any f = true := List.any_eq_true.2 ⟨_, List.mem_map_of_mem hy, h⟩
theorem none_p {P : List Pn} {f : Pp → Bool} (h : ∀ q ∈ P, f q.p = false) : (P.map Pn.p).any f = false := by
  rw [List.any_eq_false]
  intro x hx
  obtain ⟨q, hq, rfl⟩ := List.mem_map.1 hx
  rw [h q hq]
  decide
theorem done_next {P R : List Pn} {f : Pn → Bool} {y : Pn} (hs : SrtK slt kbn P) (hy : y ∈ P) (h : ∀ q ∈ P, q ∉ R → f q = false) (hf : f y = false) : ∀ q ∈ P, q ∉ dlK kbn (kbn y) R → f q = false := fun q hq hn => by
  by_cases h9 : q ∈ R
  · rw [dl_not sO hs hy hq h9 hn]; exact hf
  · exact h q hq h9
theorem locked_calls {p bk bp : Nat} {low : Stp} {H0 : List Hs} {P0 : List Pn} (x : Pn) {w : World} (hs : Ss w x.ra kc 1 x.rs) (hs2 : Ss w x.wa Wt.cells 4 x.ws) (hl : x.rs.length ≤ 1000000) (hl2 : x.ws.length ≤ 1000000) {n9 : Nat} (hS : Sto w p bk bp low H0 P0) (hB : Bd n9 H0 P0) : Calls Tryz.prog 54 #[.pointer (some ⟨p, 0, none⟩), .agg #[.int .i64 x.t.co, .int .i64 x.t.li, .int .i64 x.t.sq, .int .i64 x.s.w, .int .i64 x.s.l, .int .i64 x.s.n, .slice x.ra x.rs.length x.rc, .slice x.wa x.ws.length x.wc]] w fun e w' => e = .returned (.bool (lockF (P0.map Pn.p) x.p)) ∧ Ext No w w' := by
  have RS : Ro w No (fun u => Sto u p bk bp low H0 P0) := Ro.of fun w' x => hS.ext_no x; have R : Ro w No _ := Ro.of fun w' x => hs.ext_no x; have R2 : Ro w No _ := Ro.of fun w' x => hs2.ext_no x; obtain ⟨m0, hm0⟩ := hS.M.obj; have RM : Ro w No (fun u => u.heap[bp]? = some m0) := Ro.of fun w' x => (x.block bp hS.M.lt (not_No _)).trans hm0; refine calls_into Tryz.func54 rfl Tryz.ntmps54 rfl fun a hT => ?_; replace hT := hT.keep [0,1] rfl; have H : Sx.Hp w (Sx.No) w [] := Sx.Hp.start _ _; refine sj (zz 0 [uu,tt]) rfl fun K1 hK1 => ?_; refine st_eff hT rfl rfl rfl rfl (y_box hT rfl rfl rfl _) ?_; clear hT; rintro _ w1 ⟨b1, rfl, N⟩ a hT; replace H := H.new N; clear N; refine asn hT rfl fun a hT => ?_; revert hT; revert hK1; refine rq [4,3,0,1] rfl fun K2 hK2 hT => ?_; refine sj (zz 0 [tt,tt,tt,uu,uu]) rfl fun K3 hK3 => ?_; refine mv hT rfl fun a hT => nck hT rfl fun a hT => fad hT Tryz.fa89_1 rfl fun a hT => ?_; refine rn hT rfl (x_load1 hT rfl Tryz.fl87 rfl (by first | exact ((H.blk 0 rfl).nth rfl) | exact ((RS.at H.ext).B.nth (j := 1) rfl) | exact ((R.at H.ext).cell (j := 0) kc_len ho2 rfl))) ?_
  clear hT; intro a hT; refine st_eff hT rfl rfl rfl rfl (x_range sO hT rfl Tryz.underlying87 keyedTx rfl ((RS.at H.ext).M) (RM.at H.ext) hB.ps) ?_; rintro _ w2 ⟨r2, rfl, hr9, hz9, E, I9⟩; clear hT; intro a hT; replace H := H.newI hr9 hz9 E I9; clear hr9 hz9 E I9; revert hT; revert hK3; refine rp [15,4,3,0,1] rfl fun hT => ?_; refine wp_block ?_; refine wp_loopH (G := List Pn) (fun R9 => []) (fun R9 => [cI Tryz.prog 24 slit slt kbn Pn.val bp r2 m0 P0 R9]) (fun R9 => ∀ q ∈ P0, q ∉ R9 → clashF x.p q.p = false) (fun R9 => R9.length) P0 (hT.keep [15,3,0,1] rfl) (H.keep [0,1] rfl rfl) ((fun q h1 h2 => absurd h1 h2)) ?_; clear hT H; rintro R9 a w3 hJ hT H; replace hT := hT.keep [15,3,0,1] rfl; replace H := H.keep [0,1] rfl rfl; have hdone : ∀ q ∈ P0, q ∉ R9 → clashF x.p q.p = false := hJ; refine wp_seq_k fun K4 hK4 => ?_; have hsub := (H.it 0 rfl).sub; refine wp_text (zz 0 [uu,tt]) rfl ?_; refine st_eff hT rfl rfl rfl rfl (x_next sO hT rfl keyedTx rfl (H.it 0 rfl) (RM.at H.ext) hB.ps) ?_; rintro _ w4 (⟨rfl, E, hR0⟩ | ⟨y, key9, rfl, hyR, E, hz9, I9, N9⟩)
  · clear hT; intro a hT
    replace H := H.pure E; clear E; subst hR0; refine tk hT rfl (x_extractL hT rfl rfl rfl) fun a hT => ?_; revert hT; revert hK4; refine rq [17,15,3,0,1] rfl fun K5 hK5 hT => ?_; refine wp_if hT rfl (fun h => by cases h) (fun _ => ?_); refine wp_exit <| then_exit ?_; refine then_exit <| block_exit ?_; revert hK2; refine nx fun K6 hK6 => ?_; refine wp_text (zz 0 [tt]) rfl ?_; refine asn hT rfl fun a hT => ?_; revert hT; revert hK6; refine rp [4,17,15,3,0,1] rfl fun hT => ?_; refine wp_ret ?_; refine dn Tryz.f54 hT rfl ?_; exact ⟨ret_b (none_p (f := fun p => clashF x.p p) fun q hq => hdone q hq (fun h9 => by cases h9)).symm, H.ext⟩
  · clear hT; intro a hT
    replace H := H.setI 0 rfl E hz9 I9 N9 rfl; clear E hz9 I9 N9; skip; refine tk hT rfl (x_extractL hT rfl rfl rfl) fun a hT => ?_; revert hT; revert hK4; refine rq [17,15,3,0,1] rfl fun K7 hK7 hT => ?_; refine wp_if hT rfl (fun _ => ?_) (fun h => by cases h); refine wp_skip ?_; refine then_normal (hK7 _ _ ?_); clear hK7; refine wp_block ?_; refine wp_seq_k fun K8 hK8 => ?_; have hyP := hsub y hyR; refine wp_text (zz 0 [uu,tt,uu,uu]) rfl ?_; refine st_eff hT rfl rfl rfl rfl (x_entry hT rfl rfl (H.ent 0 rfl) (RM.at H.ext)) ?_; rintro _ w5 ⟨key9, rfl, E⟩; clear hT; intro a hT; replace H := H.pure E; clear E; replace H := H.unE 0 rfl rfl; refine tk hT rfl (x_extractL hT rfl rfl rfl) fun a hT => ?_; refine st_eff hT rfl rfl rfl rfl (y_alloc hT rfl Tryz.ti36 rfl _) ?_; clear hT; rintro _ w6 ⟨b2, rfl, N⟩ a hT; replace H := H.new N; clear N; refine st_act hT rfl rfl rfl (y_storeS hT rfl Tryz.ti36 rfl rfl rfl rfl rfl (H.blk 0 rfl) rfl) ?_; rintro w7 ⟨hb, E, _⟩; replace H := H.setB 0 rfl hb E rfl; clear hb E; revert hT; revert hK8; refine rq [6,17,15,3,0,1] rfl fun K9 hK9 hT => ?_; refine sj (zz 0 [tt,uu,tt,tt]) rfl fun K10 hK10 => ?_; refine fad hT Tryz.fa36_3 rfl ?_
    clear hT; intro a hT; refine rn hT rfl (x_load1 hT rfl Tryz.fl34 rfl ((H.blk 2 rfl).nth rfl)) fun a hT => ?_; refine tk hT rfl (x_len_slice hT rfl rfl Tryz.underlying34 rfl) fun a hT => mv hT rfl fun a hT => ?_; revert hT; revert hK10; refine rp [23,22,21,6,17,15,3,0,1] rfl fun hT => ?_; refine wp_block ?_; refine wp_loopH (G := Nat) (fun k => [(23, .int .i64 (k : Int))]) (fun k => []) (fun k => k ≤ x.ws.length ∧ ∀ (t : Nat) q, t < k → x.ws[t]? = some q → (wrts y.ws q.key || rds y.rs q.key) = false) (fun k => x.ws.length - k) 0 (hT.keep [23,22,21,6,17,15,3,0,1] rfl) (H.keep [0,1,2] rfl rfl) (⟨Nat.zero_le _, fun t q h => by omega⟩) ?_; clear hT H; rintro k a w8 hJ hT H; replace hT := hT.keep [23,22,21,6,17,15,3,0,1] rfl; replace H := H.keep [0,1,2] rfl rfl; obtain ⟨hk, hwn⟩ := hJ; refine sj (zz 0 [tt]) rfl fun K11 hK11 => ?_; refine tk hT rfl ((fun w => x_lt w hT rfl rfl rfl)) fun a hT => ?_; revert hT; revert hK11; refine rq [24,23,22,21,6,17,15,3,0,1] rfl fun K12 hK12 hT => ?_; refine wp_if hT rfl (fun hc13 => ?_) (fun hc13 => ?_)
    · try simp only [bq] at hc13
      obtain ⟨o, ho⟩ : ∃ q9, x.ws[k]? = some q9 := ⟨_, List.getElem?_eq_getElem (by omega)⟩; refine wp_skip ?_; revert hK12; refine nx fun K14 hK14 => ?_; refine wp_block ?_; refine sj (zz 0 [tt,uu,uu,uu]) rfl fun K15 hK15 => ?_; refine tk hT rfl (x_index (k := k) hT rfl Tryz.underlying34 Tryz.ti65 (by first | exact (R.at H.ext).sv | exact (R2.at H.ext).sv) rfl rfl (by first | rfl | omega) (by omega)) fun a hT => ?_; refine rn hT rfl (y_loadS hT rfl Tryz.underlying65 Tryz.ti65 rfl (by first | exact ((H.blk 0 rfl).seg (k := 4) rfl) | exact ((H.blk 2 rfl).seg (k := 4) rfl) | exact ((R2.at H.ext).cs Wt.len ho)) (by rfl)) fun a hT => ?_; refine st_eff hT rfl rfl rfl rfl (y_alloc hT rfl Tryz.ti65 rfl _) ?_; clear hT; rintro _ w9 ⟨b3, rfl, N⟩ a hT; replace H := H.new N; clear N; refine st_act hT rfl rfl rfl (y_storeS hT rfl Tryz.ti65 rfl rfl rfl rfl rfl (H.blk 0 rfl) rfl) ?_; rintro w10 ⟨hb, E, _⟩; replace H := H.setB 0 rfl hb E rfl; clear hb E; revert hT; revert hK15; refine rg [8,24,23,22,21,6,17,15,3,0,1] (zz 0 [uu,tt,uu,uu,tt,tt,uu,tt,uu,uu,tt]) rfl fun K16 hK16 hT => ?_; refine rn hT rfl (y_loadS hT rfl Tryz.underlying36 Tryz.ti36 rfl ((H.blk 1 rfl).seg (k := 8) rfl) (by rfl)) ?_
      clear hT; intro a hT; refine fad hT Tryz.fa65_0 rfl fun a hT => ?_; refine rn hT rfl (x_load1 hT rfl Tryz.fl9 rfl ((H.blk 0 rfl).nth rfl)) fun a hT => ?_; refine st_call hT rfl rfl rfl rfl rfl Tryz.can60 rfl (writes_calls y o.key ((RS.at H.ext).wrs hyP) (by have := (hB.wl y hyP).2.2.1; omega)) ?_; rintro _ w11 ⟨rfl, E⟩; refine ⟨_, rfl, ?_⟩; clear hT; intro a hT; replace H := H.pure E; clear E; refine mv hT rfl fun a hT => ?_; refine Sl.two hT 31 rfl (fun hc17 hT => ?_) (fun hc17 hT => ?_)
      · try simp only [bq] at hc17
        have hww : wrts y.ws o.key = true := hc17; refine sk hT rfl fun a hT => ?_; refine st_runskip hT rfl rfl rfl rfl fun a hT => sk hT rfl fun a hT => ?_; refine st_runskip hT rfl rfl rfl rfl fun a hT => ?_; refine st_runskip hT rfl rfl rfl rfl fun a hT => ?_; refine tk hT rfl (x_pick_t hT rfl rfl rfl) fun a hT => ?_; replace hT := hT.keep [37,8,24,23,22,21,6,17,15,3,0,1] rfl; refine ser_nil ?_; refine then_normal (hK16 _ _ ?_); clear hK16; refine wp_if hT rfl (fun _ => ?_) (fun h => by cases h); have hcl : clashF x.p y.p = true := clash_at ho (by rw [hww]; rfl); refine sj (zz 0 [tt]) rfl fun K18 hK18 => ?_; refine asn hT rfl fun a hT => ?_; revert hT; revert hK18; refine rp [4,37,8,24,23,22,21,6,17,15,3,0,1] rfl fun hT => ?_; refine wp_ret <| block_ret ?_; refine then_ret <| then_ret ?_; refine block_ret <| then_ret ?_; refine block_ret <| then_ret ?_; refine block_ret <| then_ret ?_; refine dn Tryz.f54 hT rfl ?_; exact ⟨ret_b (any_p (f := fun p => clashF x.p p) hyP hcl).symm, H.ext⟩
      · try simp only [bq] at hc17
        have hww : wrts y.ws o.key = false := hc17; refine fad hT Tryz.fa36_2 rfl fun a hT => ?_; refine rn hT rfl (x_load1 hT rfl Tryz.fl33 rfl ((H.blk 1 rfl).nth rfl)) fun a hT => fad hT Tryz.fa65_0 rfl fun a hT => ?_; refine rn hT rfl (x_load1 hT rfl Tryz.fl9 rfl ((H.blk 0 rfl).nth rfl)) fun a hT => ?_; refine st_call hT rfl rfl rfl rfl rfl Tryz.can101 rfl (Contains_calls y.rs ((RS.at H.ext).rds hyP) (by have := (hB.wl y hyP).2.1; omega) o.key) ?_; rintro _ w12 ⟨rfl, E⟩; refine ⟨_, rfl, ?_⟩; clear hT; intro a hT; replace H := H.pure E; clear E; refine tk hT rfl (x_pick_f hT rfl rfl rfl) fun a hT => ?_; revert hT; revert hK16; refine rif [37,8,24,23,22,21,6,17,15,3,0,1] rfl (fun hT hc19 => ?_) (fun hT hc19 => ?_)
        · try simp only [bq] at hc19
          have hcl : clashF x.p y.p = true := clash_at ho (by rw [hww, Bool.false_or]; exact hc19); refine sj (zz 0 [tt]) rfl fun K20 hK20 => ?_; refine asn hT rfl fun a hT => ?_; revert hT; revert hK20; refine rp [4,37,8,24,23,22,21,6,17,15,3,0,1] rfl fun hT => ?_; refine wp_ret <| block_ret ?_; refine then_ret <| then_ret ?_; refine block_ret <| then_ret ?_; refine block_ret <| then_ret ?_; refine block_ret <| then_ret ?_; refine dn Tryz.f54 hT rfl ?_; exact ⟨ret_b (any_p (f := fun p => clashF x.p p) hyP hcl).symm, H.ext⟩
        · try simp only [bq] at hc19
          have hno : (wrts y.ws o.key || rds y.rs o.key) = false := by rw [hww, Bool.false_or]; exact hc19
          refine wp_skip <| block_normal ?_; refine then_normal (hK14 _ _ ?_); clear hK14; refine wp_text (zz 0 [tt,tt]) rfl ?_; refine tk hT rfl ((fun w => x_add w hT rfl rfl rfl (wrap64 (by omega)))) fun a hT => mv hT rfl fun a hT => ?_; replace hT := hT.keep [23,37,8,24,22,21,6,17,15,3,0,1] rfl; refine ser_nil ?_; refine then_normal ?_; exact ⟨k + 1, ⟨by omega, upto_snoc (p := fun q : Wt => wrts y.ws q.key || rds y.rs q.key) hwn ho hno⟩, (hT.keep [23,22,21,6,17,15,3,0,1] rfl), (H.keep [1,2,3] rfl rfl), by omega⟩
    · try simp only [bq] at hc13
      have hkl : k = x.ws.length := by omega
      rw [hkl] at hwn; refine wp_exit <| then_exit ?_; refine then_exit <| block_exit ?_; revert hK9; refine nx fun K21 hK21 => ?_; refine wp_text (zz 0 [tt,uu,tt,tt]) rfl ?_; refine fad hT Tryz.fa36_2 rfl fun a hT => ?_; refine rn hT rfl (x_load1 hT rfl Tryz.fl33 rfl ((H.blk 2 rfl).nth rfl)) fun a hT => ?_; refine tk hT rfl (x_len_slice hT rfl rfl Tryz.underlying33 rfl) fun a hT => mv hT rfl fun a hT => ?_; revert hT; revert hK21; refine rp [42,41,40,24,23,22,21,6,17,15,3,0,1] rfl fun hT => ?_; refine wp_block ?_; refine wp_loopH (G := Nat) (fun k => [(42, .int .i64 (k : Int))]) (fun k => []) (fun k => k ≤ x.rs.length ∧ ∀ (t : Nat) q, t < k → x.rs[t]? = some q → wrts y.ws q = false) (fun k => x.rs.length - k) 0 (hT.keep [42,41,40,24,23,22,21,6,17,15,3,0,1] rfl) (H.keep [0,1,2] rfl rfl) (⟨Nat.zero_le _, fun t q h => by omega⟩) ?_; clear hT H; rintro k a w13 hJ hT H; replace hT := hT.keep [42,41,40,24,23,22,21,6,17,15,3,0,1] rfl; replace H := H.keep [0,1,2] rfl rfl; obtain ⟨hk2, hrn⟩ := hJ; refine sj (zz 0 [tt]) rfl fun K22 hK22 => ?_; refine tk hT rfl ((fun w => x_lt w hT rfl rfl rfl)) fun a hT => ?_
      revert hT; revert hK22; refine rq [43,42,41,40,24,23,22,21,6,17,15,3,0,1] rfl fun K23 hK23 hT => ?_; refine wp_if hT rfl (fun hc24 => ?_) (fun hc24 => ?_)
      · try simp only [bq] at hc24
        obtain ⟨o2, ho2⟩ : ∃ q9, x.rs[k]? = some q9 := ⟨_, List.getElem?_eq_getElem (by omega)⟩; refine wp_skip ?_; revert hK23; refine nx fun K25 hK25 => ?_; refine wp_block ?_; refine sj (zz 0 [tt,uu,tt]) rfl fun K26 hK26 => ?_; refine tk hT rfl (x_index (k := k) hT rfl Tryz.underlying33 Tryz.ti9 (by first | exact (R.at H.ext).sv | exact (R2.at H.ext).sv) rfl rfl (by first | rfl | omega) (by omega)) fun a hT => ?_; refine rn hT rfl (x_load1 hT rfl Tryz.fl9 rfl (by first | exact ((H.blk 0 rfl).nth rfl) | exact ((H.blk 2 rfl).nth rfl) | exact ((RS.at H.ext).B.nth (j := 1) rfl) | exact ((R.at H.ext).cell (j := 0) kc_len ho2 rfl))) fun a hT => asn hT rfl fun a hT => ?_; revert hT; revert hK26; refine rg [10,43,42,41,40,24,23,22,21,6,17,15,3,0,1] (zz 0 [uu,tt,uu]) rfl fun K27 hK27 hT => ?_; refine rn hT rfl (y_loadS hT rfl Tryz.underlying36 Tryz.ti36 rfl ((H.blk 0 rfl).seg (k := 8) rfl) (by rfl)) fun a hT => mv hT rfl fun a hT => ?_; refine st_call hT rfl rfl rfl rfl rfl Tryz.can60 rfl (writes_calls y o2 ((RS.at H.ext).wrs hyP) (by have := (hB.wl y hyP).2.2.1; omega)) ?_; rintro _ w14 ⟨rfl, E⟩
        refine ⟨_, rfl, ?_⟩; clear hT; intro a hT; replace H := H.pure E; clear E; revert hT; revert hK27; refine rif [48,10,43,42,41,40,24,23,22,21,6,17,15,3,0,1] rfl (fun hT hc28 => ?_) (fun hT hc28 => ?_)
        · try simp only [bq] at hc28
          have hcl : clashF x.p y.p = true := clash_at2 ho2 hc28; refine sj (zz 0 [tt]) rfl fun K29 hK29 => ?_; refine asn hT rfl fun a hT => ?_; revert hT; revert hK29; refine rp [4,48,10,43,42,41,40,24,23,22,21,6,17,15,3,0,1] rfl fun hT => ?_; refine wp_ret <| block_ret ?_; refine then_ret <| then_ret ?_; refine block_ret <| block_ret ?_; refine then_ret <| block_ret <| then_ret ?_; refine dn Tryz.f54 hT rfl ?_; exact ⟨ret_b (any_p (f := fun p => clashF x.p p) hyP hcl).symm, H.ext⟩
        · try simp only [bq] at hc28
          have hno2 : wrts y.ws o2 = false := hc28; refine wp_skip <| block_normal ?_; refine then_normal (hK25 _ _ ?_); clear hK25; refine wp_text (zz 0 [tt,tt]) rfl ?_; refine tk hT rfl ((fun w => x_add w hT rfl rfl rfl (wrap64 (by omega)))) fun a hT => mv hT rfl fun a hT => ?_; replace hT := hT.keep [42,48,10,43,41,40,24,23,22,21,6,17,15,3,0,1] rfl; refine ser_nil ?_; refine then_normal ?_; exact ⟨k + 1, ⟨by omega, upto_snoc (p := fun q : Key => wrts y.ws q) hrn ho2 hno2⟩, (hT.keep [42,41,40,24,23,22,21,6,17,15,3,0,1] rfl), (H.keep [0,1,2] rfl rfl), by omega⟩
      · try simp only [bq] at hc24
        have hkl2 : k = x.rs.length := by omega
        rw [hkl2] at hrn; refine wp_exit <| then_exit ?_; refine then_exit <| block_exit <| block_normal ?_; refine then_normal ?_; exact ⟨(dlK kbn (kbn y) R9), (done_next (f := fun q => clashF x.p q.p) hB.ps hyP hdone (clash_no hwn hrn)), (hT.keep [15,3,0,1] rfl), (H.keep [1,2] rfl rfl), dl_lt hyR⟩
theorem Read_calls {S : Nat → Prop} {p bk bp : Nat} {low : Stp} {H0 : List Hs} {P0 : List Pn} (key : Key) (hk : key.length ≤ 140737488351232) (at_ : Stp) {w : World} (H : Hp w S w [cB p [.map (some bk), .map (some bp), .int .i64 low.w, .int .i64 low.l, .int .i64 low.n] 89, cM Tryz.prog 9 bk (th H0), cF 92 6 Hs.rw H0, cM Tryz.prog 24 bp (tp P0), cF 9 1 Pn.rr P0, cF 65 4 Pn.rw P0]) {n9 : Nat} (hB : Bd n9 H0 P0) : Calls Tryz.prog 24 #[.pointer (some ⟨p, 0, none⟩), .string ⟨key.toArray⟩, .agg #[.int .i64 at_.w, .int .i64 at_.l, .int .i64 at_.n]] w fun e w' => e = .returned (.tuple #[.agg #[.string ⟨(readS ⟨H0.map Hs.p, P0.map Pn.p, low⟩ key at_).key.toArray⟩, .int .i64 (readS ⟨H0.map Hs.p, P0.map Pn.p, low⟩ key at_).v.k, .float .f64 (readS ⟨H0.map Hs.p, P0.map Pn.p, low⟩ key at_).v.num, .string ⟨(readS ⟨H0.map Hs.p, P0.map Pn.p, low⟩ key at_).v.tx.toArray⟩, .int .i64 (readS ⟨H0.map Hs.p, P0.map Pn.p, low⟩ key at_).s.w, .int .i64 (readS ⟨H0.map Hs.p, P0.map Pn.p, low⟩ key at_).s.l, .int .i64 (readS ⟨H0.map Hs.p, P0.map Pn.p, low⟩ key at_).s.n], .int .i64 (readE ⟨H0.map Hs.p, P0.map Pn.p, low⟩ key at_)]) ∧ Hp w S w' [cB p [.map (some bk), .map (some bp), .int .i64 (readM ⟨H0.map Hs.p, P0.map Pn.p, low⟩ key at_).low.w, .int .i64 (readM ⟨H0.map Hs.p, P0.map Pn.p, low⟩ key at_).low.l, .int .i64 (readM ⟨H0.map Hs.p, P0.map Pn.p, low⟩ key at_).low.n] 89, cM Tryz.prog 9 bk (th H0), cF 92 6 Hs.rw H0, cM Tryz.prog 24 bp (tp P0), cF 9 1 Pn.rr P0, cF 65 4 Pn.rw P0] := by
  refine calls_into Tryz.func24 rfl Tryz.ntmps24 rfl fun a hT => ?_; replace hT := hT.keep [0,1,2] rfl; refine sj (zz 0 [uu,uu,tt]) rfl fun K1 hK1 => ?_; refine st_eff hT rfl rfl rfl rfl (y_box hT rfl rfl rfl _) ?_; clear hT; rintro _ w1 ⟨b1, rfl, N⟩ a hT; replace H := H.new N; clear N; refine st_eff hT rfl rfl rfl rfl (y_alloc hT rfl Tryz.ti53 rfl _) ?_; clear hT; rintro _ w2 ⟨b2, rfl, N⟩ a hT; replace H := H.new N; clear N; refine asn hT rfl fun a hT => ?_; revert hT; revert hK1; refine rq [7,6,5,0,1,2] rfl fun K2 hK2 hT => ?_; refine wp_block ?_; refine sj (zz 0 [tt,uu,tt,tt]) rfl fun K3 hK3 => ?_; refine mv hT rfl fun a hT => ?_; refine st_call hT rfl rfl rfl rfl rfl Tryz.can58 rfl (Key_calls _ _) ?_; rintro _ w3 ⟨rfl, E⟩; refine ⟨_, rfl, ?_⟩; clear hT; intro a hT; replace H := H.pure E; clear E; refine tk hT rfl (x_not hT rfl rfl) fun a hT => asn hT rfl fun a hT => ?_; revert hT; revert hK3; refine rif [10,7,6,5,0,1,2] rfl (fun hT hc4 => ?_) (fun hT hc4 => ?_)
  · try simp only [bq] at hc4
    have hky : keyB key = false := by simpa using hc4
    refine sj (zz 0 [tt,uu,tt]) rfl fun K5 hK5 => ?_; refine tk hT rfl (x_bld hT rfl Tryz.bld53 rfl rfl) fun a hT => ?_; refine st_act hT rfl rfl rfl (y_storeS hT rfl Tryz.ti53 rfl rfl rfl rfl rfl (H.blk 0 rfl) rfl) ?_; rintro w4 ⟨hb, E, _⟩; replace H := H.setB 0 rfl hb E rfl; clear hb E; refine asn hT rfl fun a hT => ?_; revert hT; revert hK5; refine rp [7,10,6,5,0,1,2] rfl fun hT => ?_; refine wp_ret <| block_ret <| then_ret ?_; clear hK2; refine done2 (fn := Tryz.f24) hT rfl (.cell (hT.get 6 _ rfl) (Sx.run_resS Tryz.underlying53 Tryz.ti53 ((H.blk 0 rfl).seg (k := 7) rfl) (by rfl))) (.tmp (hT.get 7 _ rfl)) ?_; have hE : readE ⟨H0.map Hs.p, P0.map Pn.p, low⟩ key at_ = 10 := by unfold readE; rw [if_pos hky]
    refine ⟨?_, ?_⟩
    · rw [hE]; unfold readS; rw [if_neg (by rw [hE]; decide)]; rfl
    · unfold readM; rw [if_neg (by rw [hE]; decide)]; exact H.keep [2,3,4,5,6,7] rfl rfl
  · try simp only [bq] at hc4
    have hky : keyB key = true := by simpa using hc4
    refine sj (zz 0 [uu,uu,tt,tt]) rfl fun K6 hK6 => ?_; refine rn hT rfl (y_loadS hT rfl Tryz.underlying26 Tryz.ti26 rfl ((H.blk 1 rfl).seg (k := 3) rfl) (by rfl)) fun a hT => ?_; refine st_call hT rfl rfl rfl rfl rfl Tryz.can59 rfl (MayS_calls _ _) ?_; rintro _ w5 ⟨rfl, E⟩; refine ⟨_, rfl, ?_⟩; clear hT; intro a hT; replace H := H.pure E; clear E; refine tk hT rfl (x_not hT rfl rfl) fun a hT => asn hT rfl fun a hT => ?_; revert hT; revert hK6; refine rif [15,10,7,6,5,0,1,2] rfl (fun hT hc7 => ?_) (fun hT hc7 => ?_)
    · try simp only [bq] at hc7
      have hms : mayS at_ = false := by simpa using hc7
      refine sj (zz 0 [tt,uu,tt]) rfl fun K8 hK8 => ?_; refine tk hT rfl (x_bld hT rfl Tryz.bld53 rfl rfl) fun a hT => ?_; refine st_act hT rfl rfl rfl (y_storeS hT rfl Tryz.ti53 rfl rfl rfl rfl rfl (H.blk 0 rfl) rfl) ?_; rintro w6 ⟨hb, E, _⟩; replace H := H.setB 0 rfl hb E rfl; clear hb E; refine asn hT rfl fun a hT => ?_; revert hT; revert hK8; refine rp [7,15,10,6,5,0,1,2] rfl fun hT => ?_; refine wp_ret <| block_ret <| then_ret ?_; clear hK2; refine done2 (fn := Tryz.f24) hT rfl (.cell (hT.get 6 _ rfl) (Sx.run_resS Tryz.underlying53 Tryz.ti53 ((H.blk 0 rfl).seg (k := 7) rfl) (by rfl))) (.tmp (hT.get 7 _ rfl)) ?_; have hE : readE ⟨H0.map Hs.p, P0.map Pn.p, low⟩ key at_ = 17 := by unfold readE; rw [if_neg (by rw [hky]; decide), if_pos hms]
      refine ⟨?_, ?_⟩
      · rw [hE]; unfold readS; rw [if_neg (by rw [hE]; decide)]; rfl
      · unfold readM; rw [if_neg (by rw [hE]; decide)]; exact H.keep [2,3,4,5,6,7] rfl rfl
    · try simp only [bq] at hc7
      have hms : mayS at_ = true := by simpa using hc7
      refine wp_skip <| block_normal ?_; revert hK2; refine nx fun K9 hK9 => ?_; refine wp_seq_k fun K10 hK10 => ?_; obtain ⟨m0, Hp9⟩ := H.pin 5 rfl; replace H := Hp9 _ rfl; clear Hp9; refine wp_text (zz 0 [tt,tt,tt,uu,uu]) rfl ?_; refine mv hT rfl fun a hT => nck hT rfl fun a hT => fad hT Tryz.fa89_1 rfl fun a hT => ?_; refine rn hT rfl (x_load1 hT rfl Tryz.fl87 rfl ((H.blk 2 rfl).nth rfl)) fun a hT => ?_; refine st_eff hT rfl rfl rfl rfl (x_range sO hT rfl Tryz.underlying87 keyedTx rfl (((H.at 5 rfl)).1) (((H.at 5 rfl)).2) hB.ps) ?_; rintro _ w7 ⟨r7, rfl, hr9, hz9, E, I9⟩; clear hT; intro a hT; replace H := H.newI hr9 hz9 E I9; clear hr9 hz9 E I9; revert hT; revert hK10; refine rp [24,15,10,7,6,5,0,1,2] rfl fun hT => ?_; refine wp_block ?_; refine wp_loopH (G := List Pn) (fun R9 => []) (fun R9 => [cI Tryz.prog 24 slit slt kbn Pn.val bp r7 m0 P0 R9]) (fun R9 => ∀ q ∈ P0, q ∉ R9 → (fun q : Pn => wrts q.ws key && decide (cmpS q.s at_ ≤ 0)) q = false) (fun R9 => R9.length) P0 (hT.keep [24,15,10,6,5,0,1,2] rfl) (H.keep [0,1,2,3,4,5,6,7,8] rfl rfl) ((fun q h1 h2 => absurd h1 h2)) ?_; clear hT H; rintro R9 a w8 hJ hT H; replace hT := hT.keep [24,15,10,6,5,0,1,2] rfl
      replace H := H.keep [0,1,2,3,4,5,6,7,8] rfl rfl; have hdone : ∀ q ∈ P0, q ∉ R9 → (fun q : Pn => wrts q.ws key && decide (cmpS q.s at_ ≤ 0)) q = false := hJ; refine wp_seq_k fun K11 hK11 => ?_; have hsub := (H.it 0 rfl).sub; refine wp_text (zz 0 [uu,tt]) rfl ?_; refine st_eff hT rfl rfl rfl rfl (x_next sO hT rfl keyedTx rfl (H.it 0 rfl) (((H.at 6 rfl)).2) hB.ps) ?_; rintro _ w9 (⟨rfl, E, hR0⟩ | ⟨y, key9, rfl, hyR, E, hz9, I9, N9⟩)
      · clear hT; intro a hT
        replace H := H.pure E; clear E; subst hR0; refine tk hT rfl (x_extractL hT rfl rfl rfl) fun a hT => ?_; revert hT; revert hK11; refine rq [26,24,15,10,6,5,0,1,2] rfl fun K12 hK12 hT => ?_; refine wp_if hT rfl (fun h => by cases h) (fun _ => ?_); replace H := H.unpin 6 rfl rfl; refine wp_exit <| then_exit ?_; refine then_exit <| block_exit ?_; revert hK9; refine nx fun K13 hK13 => ?_; revert H; refine drw (Sx.No) [(0, .take), (1, .take), (2, .take), (3, .take), (4, .held), (5, .held), (6, .run), (7, .take), (8, .take), (9, .run)] (by kernel_rfl) (by kernel_rfl) fun u H hH => ?_; have Hu := H; refine mv hT rfl fun a hT => mv hT rfl fun a hT => nck hT rfl fun a hT => fad hT Tryz.fa89_2 rfl fun a hT => ?_; refine hed hT rfl hH (fun w' h' => y_loadS hT rfl Tryz.underlying26 Tryz.ti26 rfl ((Hu.heldB 3 rfl h' off_No).seg (k := 3) rfl) (by rfl)) fun a hT => ?_; refine hed hT rfl hH (fun w' h' => y_loadS hT rfl Tryz.underlying26 Tryz.ti26 rfl ((Hu.heldB 2 rfl h' off_No).seg (k := 3) rfl) (by rfl)) ?_
        clear hT; intro a hT; refine st_call hT rfl rfl rfl rfl rfl Tryz.can61 rfl (Later_calls low at_ _) ?_; rintro _ w10 ⟨rfl, E⟩; refine ⟨_, rfl, ?_⟩; clear hT; intro a hT; replace H := H.pure E; clear E; refine nck hT rfl fun a hT => fad hT Tryz.fa89_2 rfl fun a hT => ?_; refine st_act hT rfl rfl rfl (y_storeS hT rfl Tryz.ti26 rfl rfl rfl rfl rfl (H.blk 3 rfl) rfl) ?_; rintro w11 ⟨hb, E, _⟩; replace H := H.setB 3 rfl hb E rfl; clear hb E; replace hT := hT.keep [26,24,15,10,6,5,0,1,2] rfl; clear Hu hH; refine ser_calm ?_; revert hK13; refine nx fun K14 hK14 => ?_; refine wp_text (zz 0 [tt,tt,uu,uu,uu,tt]) rfl ?_; refine mv hT rfl fun a hT => mv hT rfl fun a hT => ?_; refine rn hT rfl (y_loadS hT rfl Tryz.underlying26 Tryz.ti26 rfl ((H.blk 2 rfl).seg (k := 3) rfl) (by rfl)) fun a hT => ?_; refine st_call hT rfl rfl rfl rfl rfl Tryz.can50 rfl (newest_calls key hk at_ false (⟨(H.blk 3 rfl), H.mp 4 rfl, H.fam 5 rfl, H.mp 6 rfl, H.fam 7 rfl, H.fam 8 rfl⟩ : Sto _ _ _ _ _ _ _) hB) ?_; rintro _ w12 ⟨rfl, E⟩; refine ⟨_, rfl, ?_⟩; clear hT; intro a hT; replace H := H.pure E; clear E; refine st_act hT rfl rfl rfl (y_storeS hT rfl Tryz.ti53 rfl rfl rfl rfl rfl (H.blk 1 rfl) rfl) ?_
        rintro w13 ⟨hb, E, _⟩; replace H := H.setB 1 rfl hb E rfl; clear hb E; refine asn hT rfl fun a hT => ?_; revert hT; revert hK14; refine rp [7,26,24,15,10,6,5,0,1,2] rfl fun hT => ?_; refine wp_ret ?_; refine done2 (fn := Tryz.f24) hT rfl (.cell (hT.get 6 _ rfl) (Sx.run_resS Tryz.underlying53 Tryz.ti53 ((H.blk 1 rfl).seg (k := 7) rfl) (by rfl))) (.tmp (hT.get 7 _ rfl)) ?_; have hE : readE ⟨H0.map Hs.p, P0.map Pn.p, low⟩ key at_ = 0 := by unfold readE; rw [if_neg (by rw [hky]; decide), if_neg (by rw [hms]; decide), if_neg (by rw [show ((P0.map Pn.p).any fun p => wrts p.ws key && decide (cmpS p.s at_ ≤ 0)) = false from none_p (f := fun p => wrts p.ws key && decide (cmpS p.s at_ ≤ 0)) fun q hq => hdone q hq (fun h9 => by cases h9)]; decide)]
        refine ⟨?_, ?_⟩
        · rw [hE]; unfold readS; rw [if_pos hE]
        · unfold readM; rw [if_pos hE]; exact H.keep [3,4,5,6,7,8] rfl rfl
      · clear hT; intro a hT
        replace H := H.setI 0 rfl E hz9 I9 N9 rfl; clear E hz9 I9 N9; refine tk hT rfl (x_extractL hT rfl rfl rfl) fun a hT => ?_; revert hT; revert hK11; refine rq [26,24,15,10,6,5,0,1,2] rfl fun K15 hK15 hT => ?_; refine wp_if hT rfl (fun _ => ?_) (fun h => by cases h); refine wp_skip ?_; refine then_normal (hK15 _ _ ?_); clear hK15; refine wp_block ?_; refine wp_seq_k fun K16 hK16 => ?_; have hyP := hsub y hyR; refine wp_text (zz 0 [uu,tt,uu,uu]) rfl ?_; refine st_eff hT rfl rfl rfl rfl (x_entry hT rfl rfl (H.ent 0 rfl) (((H.at 6 rfl)).2)) ?_; rintro _ w14 ⟨key9, rfl, E⟩; clear hT; intro a hT; replace H := H.pure E; clear E; replace H := H.unE 0 rfl rfl; refine tk hT rfl (x_extractL hT rfl rfl rfl) fun a hT => ?_; refine st_eff hT rfl rfl rfl rfl (y_alloc hT rfl Tryz.ti36 rfl _) ?_; clear hT; rintro _ w15 ⟨b3, rfl, N⟩ a hT; replace H := H.new N; clear N; refine st_act hT rfl rfl rfl (y_storeS hT rfl Tryz.ti36 rfl rfl rfl rfl rfl (H.blk 0 rfl) rfl) ?_; rintro w16 ⟨hb, E, _⟩; replace H := H.setB 0 rfl hb E rfl; clear hb E; revert hT; revert hK16; refine rg [9,26,24,15,10,6,5,0,1,2] (zz 0 [uu,tt,uu,tt,tt,uu,uu,uu,tt,tt]) rfl fun K17 hK17 hT => ?_
        refine rn hT rfl (y_loadS hT rfl Tryz.underlying36 Tryz.ti36 rfl ((H.blk 0 rfl).seg (k := 8) rfl) (by rfl)) fun a hT => mv hT rfl fun a hT => ?_; refine st_call hT rfl rfl rfl rfl rfl Tryz.can60 rfl (writes_calls y key (Row.ssn (xs := y.ws) (enc := Wt.cells) ((H.fam 9 rfl).row y hyP) rfl) (by have := (hB.wl y hyP).2.2.1; omega)) ?_; rintro _ w17 ⟨rfl, E⟩; refine ⟨_, rfl, ?_⟩; clear hT; intro a hT; replace H := H.pure E; clear E; refine mv hT rfl fun a hT => ?_; refine Sl.two hT 32 rfl (fun hc18 hT => ?_) (fun hc18 hT => ?_)
        · try simp only [bq] at hc18
          have hww : wrts y.ws key = true := hc18; refine fad hT Tryz.fa36_1 rfl fun a hT => ?_; refine rn hT rfl (y_loadS hT rfl Tryz.underlying26 Tryz.ti26 rfl ((H.blk 0 rfl).seg (k := 3) rfl) (by rfl)) fun a hT => ?_; refine rn hT rfl (y_loadS hT rfl Tryz.underlying26 Tryz.ti26 rfl ((H.blk 3 rfl).seg (k := 3) rfl) (by rfl)) fun a hT => ?_; refine st_call hT rfl rfl rfl rfl rfl Tryz.can38 rfl (Compare_calls _ _ _) ?_; rintro _ w18 ⟨rfl, E⟩; refine ⟨_, rfl, ?_⟩; clear hT; intro a hT; replace H := H.pure E; clear E; refine tk hT rfl ((fun w => x_le w hT rfl rfl rfl)) fun a hT => ?_; refine tk hT rfl (x_pick_t hT rfl rfl rfl) fun a hT => ?_; revert hT; revert hK17; refine rif [38,9,26,24,15,10,6,5,0,1,2] rfl (fun hT hc19 => ?_) (fun hT hc19 => ?_)
          · try simp only [bq] at hc19
            have hcl : (wrts y.ws key && decide (cmpS y.s at_ ≤ 0)) = true := by rw [hww, Bool.true_and]; exact decide_eq_true (by omega)
            refine sj (zz 0 [tt,uu,tt]) rfl fun K20 hK20 => ?_; refine tk hT rfl (x_bld hT rfl Tryz.bld53 rfl rfl) fun a hT => ?_; refine st_act hT rfl rfl rfl (y_storeS hT rfl Tryz.ti53 rfl rfl rfl rfl rfl (H.blk 2 rfl) rfl) ?_; rintro w19 ⟨hb, E, _⟩; replace H := H.setB 2 rfl hb E rfl; clear hb E; refine asn hT rfl fun a hT => ?_; revert hT; revert hK20; refine rp [7,38,9,26,24,15,10,6,5,0,1,2] rfl fun hT => ?_; refine wp_ret <| block_ret ?_; refine then_ret <| block_ret <| then_ret ?_; clear hK9; refine done2 (fn := Tryz.f24) hT rfl (.cell (hT.get 6 _ rfl) (Sx.run_resS Tryz.underlying53 Tryz.ti53 ((H.blk 2 rfl).seg (k := 7) rfl) (by rfl))) (.tmp (hT.get 7 _ rfl)) ?_; have hE : readE ⟨H0.map Hs.p, P0.map Pn.p, low⟩ key at_ = 18 := by unfold readE; rw [if_neg (by rw [hky]; decide), if_neg (by rw [hms]; decide), if_pos (show ((P0.map Pn.p).any fun p => wrts p.ws key && decide (cmpS p.s at_ ≤ 0)) = true from any_p (f := fun p => wrts p.ws key && decide (cmpS p.s at_ ≤ 0)) hyP hcl)]
            refine ⟨?_, ?_⟩
            · rw [hE]; unfold readS; rw [if_neg (by rw [hE]; decide)]; rfl
            · unfold readM; rw [if_neg (by rw [hE]; decide)]; exact (H.unpin 7 rfl rfl).keep [4, 5, 6, 7, 8, 9] rfl rfl
          · try simp only [bq] at hc19
            have hcn : (wrts y.ws key && decide (cmpS y.s at_ ≤ 0)) = false := by rw [hww, Bool.true_and]; exact decide_eq_false (by omega)
            refine wp_skip <| block_normal ?_; refine then_normal ?_; exact ⟨(dlK kbn (kbn y) R9), (done_next (f := (fun q : Pn => wrts q.ws key && decide (cmpS q.s at_ ≤ 0))) hB.ps hyP hdone hcn), (hT.keep [24,15,10,6,5,0,1,2] rfl), (H.keep [1,2,3,4,5,6,7,8,9] rfl rfl), dl_lt hyR⟩
        · try simp only [bq] at hc18
          have hcn : (wrts y.ws key && decide (cmpS y.s at_ ≤ 0)) = false := by rw [show wrts y.ws key = false from hc18]; rfl
          refine sk hT rfl fun a hT => ?_; refine st_runskip hT rfl rfl rfl rfl fun a hT => ?_; refine st_runskip hT rfl rfl rfl rfl fun a hT => ?_; refine st_runskip hT rfl rfl rfl rfl fun a hT => sk hT rfl fun a hT => ?_; refine tk hT rfl (x_pick_f hT rfl rfl rfl) fun a hT => ?_; replace hT := hT.keep [38,9,26,24,15,10,6,5,0,1,2] rfl; refine ser_nil ?_; refine then_normal (hK17 _ _ ?_); clear hK17; refine wp_if hT rfl (fun h => by cases h) (fun _ => ?_); skip; refine wp_skip <| block_normal ?_; refine then_normal ?_; exact ⟨(dlK kbn (kbn y) R9), (done_next (f := (fun q : Pn => wrts q.ws key && decide (cmpS q.s at_ ≤ 0))) hB.ps hyP hdone hcn), (hT.keep [24,15,10,6,5,0,1,2] rfl), (H.keep [1,2,3,4,5,6,7,8,9] rfl rfl), dl_lt hyR⟩
end Go.Proofs.YtpnfpndhdnmhkaaGreat
