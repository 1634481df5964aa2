/- Walks: MvccLoads. -/
import Derived.Test.YtpnfpndhdnmhkaaGreatK32
import Derived.Test.YtpnfpndhdnmhkaaGreatK22
set_option linter.unusedSimpArgs false
set_option linter.unusedVariables false
namespace Go.Proofs.YtpnfpndhdnmhkaaGreat
open Sx
theorem step_0 {M : Ms} {x : Pp} (h : stepE M x = 0) : pmay x.t x.s x.rs x.ws = 0 ∧ findF M.P x.t = none ∧ lockF M.P x = false ∧ oldF M.H x = false := by
  unfold stepE at h
  by_cases h1 : pmay x.t x.s x.rs x.ws ≠ 0
  · rw [if_pos h1] at h; exact absurd h h1
  rw [if_neg h1] at h
  by_cases h2 : (findF M.P x.t).isSome = true
  · rw [if_pos h2] at h; cases h
  rw [if_neg h2] at h
  by_cases h3 : lockF M.P x = true
  · rw [if_pos h3] at h; cases h
  rw [if_neg h3] at h
  by_cases h4 : oldF M.H x = true
  · rw [if_pos h4] at h; cases h
  exact ⟨by simpa using h1, by simpa using h2, by simpa using h3, by simpa using h4⟩
theorem Inv2.step {M : Ms} (h : Inv2 M) {x : Pp} (h0 : stepE M x = 0) : Inv2 (stepM M x) := by
  obtain ⟨h1, h2, h4, h5⟩ := step_0 h0
  have hp : (ptK slit kbp x M.P).Perm (x :: M.P) := by
    have := sO.put_perm (κ := kbp) x M.P
    rw [sO.del_none (show gtK slit kbp M.P (kbp x) = none from h2)] at this
    exact this
  refine ⟨⟨h.hs, h.hv, sO.put_srt _ h.ps, fun q hq => ?_, ?_, fun q hq => ?_⟩, h.kv, h.lz⟩
  · rcases List.mem_cons.1 (hp.mem_iff.1 hq) with rfl | hq
    · exact h1
    · exact h.pp q hq
  · refine hp.symm.pairwise (List.pairwise_cons.2 ⟨lock_no h4, h.lock⟩) fun {a b} hab => ?_
    rw [clash_sym]; exact hab
  · rcases List.mem_cons.1 (hp.mem_iff.1 hq) with rfl | hq
    · exact h5
    · exact h.old q hq
theorem Inv2.loads : ∀ {ps : List Pp} {M : Ms}, Inv2 M → loadE M ps = 0 → Inv2 (loadM M ps)
  | [], M, h, _ => h
  | x :: ps, M, h, h0 => by
    have h0 : (if stepE M x = 0 then loadE (stepM M x) ps else stepE M x) = 0 := h0
    by_cases h1 : stepE M x = 0
    · rw [if_pos h1] at h0
      show Inv2 (loadM (stepM M x) ps)
      exact Inv2.loads (h.step h1) h0
    · rw [if_neg h1] at h0; exact absurd h0 h1
theorem hs_mem : ∀ {l : List Hy} {a : Key}, hsOk a l = true → ∀ x ∈ l, keyB x.key = true ∧ x.vs ≠ [] ∧ verOk sz0 x.vs = true
  | [], _, _, x, h => by cases h
  | y :: l, a, h, x, hx => by
    have h : (histB y a && hsOk y.key l) = true := h
    rw [Bool.and_eq_true] at h
    rcases List.mem_cons.1 hx with rfl | hx
    · have hb := h.1
      unfold histB at hb
      simp only [Bool.and_eq_true, decide_eq_true_eq] at hb
      exact ⟨hb.1.1.1, hb.1.2, hb.2⟩
    · exact hs_mem h.2 x hx
theorem ld_inv {hs : List Hy} {ps : List Pp} (h : ldE hs ps = 0) : Inv2 (ldM hs ps) := by
  unfold ldE at h
  by_cases h1 : hsOk [] hs = true
  · rw [if_pos h1] at h
    refine Inv2.loads ⟨⟨(hs_rise h1).1, fun x hx => ?_, List.Pairwise.nil, (fun p hp => by cases hp), List.Pairwise.nil, fun p hp => by cases hp⟩, fun x hx => ?_, ltS_irr _⟩ h
    · obtain ⟨-, a2, a3⟩ := hs_mem h1 x hx
      exact ⟨a2, fun v hv => ((VS.of a3).may v hv).2.2⟩
    · obtain ⟨a1, -, a3⟩ := hs_mem h1 x hx
      exact ⟨a1, VS.of a3⟩
  · rw [if_neg h1] at h; cases h
theorem wh_len {m : Nat} {l : List Hs} (h : whF m (l.map Hs.p) ≤ m) : l.length ≤ m ∧ ∀ x ∈ l, x.vs.length ≤ m := by
  have h1 := wh_facts h
  have h2 := sumL_len (c := cH) (l := l.map Hs.p) fun x _ => by unfold cH; omega
  rw [List.length_map] at h2
  refine ⟨by omega, fun x hx => ?_⟩
  have h3 := sumL_mem (c := cH) (List.mem_map_of_mem (f := Hs.p) hx)
  have h4 := sumL_len (c := cV) (l := x.vs) fun y _ => by unfold cV; omega
  unfold cH at h3 h1
  have h5 : sumL cV x.p.vs = sumL cV x.vs := rfl
  omega
theorem wp_len {m : Nat} {l : List Pn} (h : wpF m (l.map Pn.p) ≤ m) : l.length ≤ m ∧ ∀ x ∈ l, x.rs.length ≤ m ∧ x.ws.length ≤ m ∧ ∀ y ∈ x.ws, y.key.length ≤ m := by
  have h1 := wp_facts h
  have h2 := sumL_len (c := cP) (l := l.map Pn.p) fun x _ => by unfold cP; omega
  rw [List.length_map] at h2
  refine ⟨by omega, fun x hx => ?_⟩
  have h3 := sumL_mem (c := cP) (List.mem_map_of_mem (f := Pn.p) hx)
  have h4 := sumL_len (c := cT) (l := x.rs) fun y _ => by unfold cT; omega
  have h5 := sumL_len (c := cW) (l := x.ws) fun y _ => by unfold cW; omega
  unfold cP at h3 h1
  have h6 : sumL cT x.p.rs = sumL cT x.rs := rfl
  have h7 : sumL cW x.p.ws = sumL cW x.ws := rfl
  refine ⟨by omega, by omega, fun y hy => ?_⟩
  have h8 := sumL_mem (c := cW) hy
  have h9 : cW y = 1 + y.key.length + y.v.tx.length := rfl
  omega
theorem xLoad_yes {ad : Option Addr} {c : Nat} (l : List Hs) {ad2 : Option Addr} {c2 : Nat} (ps : List Pn) {w : World} (hs : Ss w ad Hs.cells 2 l) (hs2 : Ss w ad2 Pn.cells 8 ps) (hf : ∀ x ∈ l, Ss w x.ad Vr.cells 6 x.vs) (hf2 : ∀ x ∈ ps, Ss w x.ra kc 1 x.rs ∧ Ss w x.wa Wt.cells 4 x.ws) (n0 : Nat) (hn0 : n0 + ps.length ≤ 1000000) (hl : l.length ≤ n0) (hb : ∀ x ∈ l, x.key.length ≤ 140737488351232 ∧ x.vs.length ≤ n0) (hb2 : ∀ x ∈ ps, x.t.wf ∧ x.rs.length ≤ 1000000 ∧ x.ws.length ≤ 1000000 ∧ ∀ y ∈ x.ws, y.key.length ≤ 140737488351232) (h0 : ldE (List.map Hs.p l) (List.map Pn.p ps) = 0) : Calls Tryz.prog 35 #[.slice ad l.length c, .slice ad2 ps.length c2] w fun e w' => ∃ d0 ha hc pa pc H' P', e = .returned (.tuple #[.pointer (some ⟨d0, 0, none⟩), .int .i64 0]) ∧ Hp w No w' [cB d0 [.slice ha (List.length H') hc, .slice pa (List.length P') pc, .int .i64 sz0.w, .int .i64 sz0.l, .int .i64 sz0.n] 71, cR 95 2 ha (List.length H') hc (List.flatMap Hs.cells H'), cF 92 6 Hs.rw H', cR 36 8 pa (List.length P') pc (List.flatMap Pn.cells P'), cF 9 1 Pn.rr P', cF 65 4 Pn.rw P'] ∧ (⟨List.map Hs.p H', List.map Pn.p P', sz0⟩ : Ms) = ldM (List.map Hs.p l) (List.map Pn.p ps) ∧ Bd (n0 + ps.length) H' P' := (xLoad_any l ps hs hs2 hf hf2 n0 hn0 hl hb hb2).mono fun e w' h => h.1 h0
theorem xLoad_no {ad : Option Addr} {c : Nat} (l : List Hs) {ad2 : Option Addr} {c2 : Nat} (ps : List Pn) {w : World} (hs : Ss w ad Hs.cells 2 l) (hs2 : Ss w ad2 Pn.cells 8 ps) (hf : ∀ x ∈ l, Ss w x.ad Vr.cells 6 x.vs) (hf2 : ∀ x ∈ ps, Ss w x.ra kc 1 x.rs ∧ Ss w x.wa Wt.cells 4 x.ws) (n0 : Nat) (hn0 : n0 + ps.length ≤ 1000000) (hl : l.length ≤ n0) (hb : ∀ x ∈ l, x.key.length ≤ 140737488351232 ∧ x.vs.length ≤ n0) (hb2 : ∀ x ∈ ps, x.t.wf ∧ x.rs.length ≤ 1000000 ∧ x.ws.length ≤ 1000000 ∧ ∀ y ∈ x.ws, y.key.length ≤ 140737488351232) (h0 : ¬ ldE (List.map Hs.p l) (List.map Pn.p ps) = 0) : Calls Tryz.prog 35 #[.slice ad l.length c, .slice ad2 ps.length c2] w fun e w' => e = .returned (.tuple #[.pointer none, .int .i64 (ldE (List.map Hs.p l) (List.map Pn.p ps))]) ∧ Ext No w w' := (xLoad_any l ps hs hs2 hf hf2 n0 hn0 hl hb hb2).mono fun e w' h => h.2 h0
theorem cp_hb {m L : List Hs} {w : World} (h : L.map Hs.p = m.map Hs.p) (hw : m.length ≤ 20000 ∧ ∀ x ∈ m, x.vs.length ≤ 20000) (hb : ∀ x ∈ m, x.key.length ≤ 140737488351232) (hF : Fam 92 6 Hs.rw w L) : L.length ≤ 20000 ∧ ∀ x ∈ L, x.key.length ≤ 140737488351232 ∧ x.vs.length ≤ 20000 ∧ (x.ad = none → x.vs.length = 0 ∧ x.c = 0) := by
  refine ⟨?_, fun x hx => ?_⟩
  · have h9 := congrArg List.length h
    rw [List.length_map, List.length_map] at h9
    omega
  · have h1 : x.p ∈ m.map Hs.p := by rw [← h]; exact List.mem_map_of_mem hx
    obtain ⟨y, hy, he⟩ := List.mem_map.1 h1
    have h2 := hb y hy
    have h3 := hw.2 y hy
    rw [show y.key = x.key from congrArg Hy.key he] at h2
    rw [show y.vs = x.vs from congrArg Hy.vs he] at h3
    exact ⟨h2, h3, rownil (hF.row x hx)⟩
theorem cp_pb {m L : List Pn} {w : World} (h : L.map Pn.p = m.map Pn.p) (hw : m.length ≤ 20000 ∧ ∀ x ∈ m, x.rs.length ≤ 20000 ∧ x.ws.length ≤ 20000 ∧ ∀ y ∈ x.ws, y.key.length ≤ 20000) (hb : ∀ x ∈ m, x.t.wf) (hR : Fam 9 1 Pn.rr w L) (hW : Fam 65 4 Pn.rw w L) : L.length = m.length ∧ ∀ x ∈ L, x.t.wf ∧ x.rs.length ≤ 1000000 ∧ x.ws.length ≤ 1000000 ∧ (x.ra = none → x.rs.length = 0 ∧ x.rc = 0) ∧ (x.wa = none → x.ws.length = 0 ∧ x.wc = 0) ∧ ∀ y ∈ x.ws, y.key.length ≤ 140737488351232 := by
  refine ⟨?_, fun x hx => ?_⟩
  · have h9 := congrArg List.length h
    rw [List.length_map, List.length_map] at h9
    exact h9
  · have h1 : x.p ∈ m.map Pn.p := by rw [← h]; exact List.mem_map_of_mem hx
    obtain ⟨y, hy, he⟩ := List.mem_map.1 h1
    have h2 := hb y hy
    obtain ⟨h3, h4, h5⟩ := hw.2 y hy
    rw [show y.t = x.t from congrArg Pp.t he] at h2
    rw [show y.rs = x.rs from congrArg Pp.rs he] at h3
    rw [show y.ws = x.ws from congrArg Pp.ws he] at h4 h5
    exact ⟨h2, by omega, by omega, rownil (hR.row x hx), rownil (hW.row x hx), fun y hy => by have := h5 y hy; omega⟩
theorem Loads_yes {ad : Option Addr} {c : Nat} (l : List Ox) {w : World} (hs : Ss w ad Ox.cells 18 l) (hl : l.length ≤ 9223372036854775806) (hf : ∀ x ∈ l, Ss w x.p.ra kc 1 x.p.rs ∧ Ss w x.p.wa Wt.cells 4 x.p.ws ∧ Ss w x.sa Sn.cells 7 x.sn) (hb : ∀ x ∈ l, x.key.length ≤ 140737488351232 ∧ x.t.wf ∧ x.p.t.wf ∧ ((x.p.rs.length ≤ 9223372036854775806 ∧ ∀ y ∈ x.p.rs, y.length ≤ 140737488351232) ∧ x.p.ws.length ≤ 9223372036854775806 ∧ ∀ y ∈ x.p.ws, y.wf) ∧ (x.sn.length ≤ 9223372036854775806 ∧ ∀ y ∈ x.sn, y.key.length ≤ 140737488351232 ∧ y.v.tx.length ≤ 140737488351232) ∧ (x.p.ra = none → x.p.rs.length = 0 ∧ x.p.rc = 0) ∧ (x.p.wa = none → x.p.ws.length = 0 ∧ x.p.wc = 0)) {adh : Option Addr} {cch : Nat} (m : List Hs) (hsM : Ss w adh Hs.cells 2 m) (hlm : m.length ≤ 9223372036854775806) (hfm : ∀ x ∈ m, Ss w x.ad Vr.cells 6 x.vs) (hbm : ∀ x ∈ m, x.key.length ≤ 140737488351232 ∧ x.vs.length ≤ 9223372036854775806 ∧ ∀ y ∈ x.vs, y.v.tx.length ≤ 140737488351232) {adp : Option Addr} {ccp : Nat} (ps : List Pn) (hsp : Ss w adp Pn.cells 8 ps) (hlp : ps.length ≤ 9223372036854775806) (hfp : ∀ x ∈ ps, Ss w x.ra kc 1 x.rs ∧ Ss w x.wa Wt.cells 4 x.ws) (hbp : ∀ x ∈ ps, x.t.wf ∧ ((x.rs.length ≤ 9223372036854775806 ∧ ∀ y ∈ x.rs, y.length ≤ 140737488351232) ∧ x.ws.length ≤ 9223372036854775806 ∧ ∀ y ∈ x.ws, y.wf)) (hld : ldE (m.map Hs.p) (ps.map Pn.p) = 0) : Calls Tryz.prog 7 #[.slice adh m.length cch, .slice adp ps.length ccp, .slice ad l.length c] w fun e w' => e = .returned (.bool true) ∧ Ext No w w' := by
  have R : Ro w No _ := Ro.of fun w' x => hs.ext_no x; have RH : Ro w No _ := Ro.of fun w' x => hsM.ext_no x; have RP : Ro w No _ := Ro.of fun w' x => hsp.ext_no x; have RM : Ro w No (fun u => ∀ x ∈ l, Ss u x.p.ra kc 1 x.p.rs ∧ Ss u x.p.wa Wt.cells 4 x.p.ws ∧ Ss u x.sa Sn.cells 7 x.sn) := Ro.of fun w' y x hx => ⟨(hf x hx).1.ext_no y, (hf x hx).2.1.ext_no y, (hf x hx).2.2.ext_no y⟩; have RFm : Ro w No (fun u => ∀ x ∈ m, Ss u x.ad Vr.cells 6 x.vs) := Ro.of fun w' y x hx => (hfm x hx).ext_no y; have RFp : Ro w No (fun u => ∀ x ∈ ps, Ss u x.ra kc 1 x.rs ∧ Ss u x.wa Wt.cells 4 x.ws) := Ro.of fun w' y x hx => ⟨(hfp x hx).1.ext_no y, (hfp x hx).2.ext_no y⟩; refine calls_into Tryz.func7 rfl Tryz.ntmps7 rfl fun a hT => ?_; replace hT := hT.keep [0,1,2] rfl; have H : Sx.Hp w (Sx.No) w [] := Sx.Hp.start _ _; refine sj (zz 0 [tt]) rfl fun K1 hK1 => ?_; refine asn hT rfl fun a hT => ?_; revert hT; revert hK1; refine rq [6,0,1,2] rfl fun K2 hK2 hT => ?_; refine sj (zz 0 [uu,tt]) rfl fun K3 hK3 => ?_; refine st_call hT rfl rfl rfl rfl rfl Tryz.can8 rfl (first_calls _) ?_; rintro _ w1 ⟨rfl, E⟩; refine ⟨_, rfl, ?_⟩; clear hT; intro a hT; replace H := H.pure E; clear E; refine tk hT rfl (x_not hT rfl rfl) fun a hT => ?_; replace hT := hT.keep [15,6,0,1,2] rfl; refine ser_nil ?_
  refine then_normal (hK3 _ _ ?_); clear hK3; refine wp_if hT rfl (fun h => by cases h) (fun _ => ?_); refine wp_skip ?_; revert hK2; refine nx fun K4 hK4 => ?_; refine sj (zz 0 [tt,uu,tt,tt,tt,uu,tt,tt,tt,tt,uu,tt,tt]) rfl fun K5 hK5 => ?_; refine mv hT rfl fun a hT => ?_; refine st_call hT rfl rfl rfl rfl rfl Tryz.can9 rfl (Few_calls l (R.at H.ext) hl (RM.at H.ext) hb) ?_; rintro _ w2 ⟨rfl, E⟩; refine ⟨_, rfl, ?_⟩; clear hT; intro a hT; replace H := H.pure E; clear E; refine tk hT rfl (x_not hT rfl rfl) fun a hT => mv hT rfl fun a hT => ?_; refine Sl.two hT 19 rfl (fun hc6 hT => ?_) (fun hc6 hT => ?_)
  · try simp only [bq] at hc6
    refine sk hT rfl fun a hT => ?_; refine st_runskip hT rfl rfl rfl rfl fun a hT => sk hT rfl fun a hT => ?_; refine tk hT rfl (x_pick_t hT rfl rfl rfl) fun a hT => mv hT rfl fun a hT => sk hT rfl fun a hT => ?_; refine st_runskip hT rfl rfl rfl rfl fun a hT => sk hT rfl fun a hT => ?_; refine tk hT rfl (x_pick_t hT rfl rfl rfl) fun a hT => ?_; replace hT := hT.keep [28,15,6,0,1,2] rfl; refine ser_nil ?_; refine then_normal (hK5 _ _ ?_); clear hK5; refine wp_if hT rfl (fun _ => ?_) (fun h => by cases h); refine sj (zz 0 [uu,tt]) rfl fun K7 hK7 => ?_; refine st_call hT rfl rfl rfl rfl rfl Tryz.can8 rfl (first_calls _) ?_; rintro _ w3 ⟨rfl, E⟩; refine ⟨_, rfl, ?_⟩; clear hT; intro a hT; replace H := H.pure E; clear E; refine asn hT rfl fun a hT => ?_; revert hT; revert hK7; refine rp [6,28,15,0,1,2] rfl fun hT => ?_; refine wp_ret <| then_ret ?_; refine dn Tryz.f7 hT rfl ?_; exact ⟨ret_b (by simp), H.ext⟩
  · try simp only [bq] at hc6
    obtain ⟨hl2, hsm⟩ := few_sm (by simpa using hc6 : fewB (l.map Ox.y) = true); rw [List.length_map] at hl2; refine mv hT rfl fun a hT => ?_; refine st_call hT rfl rfl rfl rfl rfl Tryz.can32 rfl (WeighHistories_calls m (RH.at H.ext) hlm 20000 (by decide) (RFm.at H.ext) hbm) ?_; rintro _ w4 ⟨rfl, E⟩; refine ⟨_, rfl, ?_⟩; clear hT; intro a hT; replace H := H.pure E; clear E; refine tk hT rfl ((fun w => x_gt w hT rfl rfl rfl)) fun a hT => ?_; refine tk hT rfl (x_pick_f hT rfl rfl rfl) fun a hT => mv hT rfl fun a hT => ?_; refine Sl.two hT 24 rfl (fun hc8 hT => ?_) (fun hc8 hT => ?_)
    · try simp only [bq] at hc8
      refine sk hT rfl fun a hT => ?_; refine st_runskip hT rfl rfl rfl rfl fun a hT => sk hT rfl fun a hT => ?_; refine tk hT rfl (x_pick_t hT rfl rfl rfl) fun a hT => ?_; replace hT := hT.keep [28,15,6,0,1,2] rfl; refine ser_nil ?_; refine then_normal (hK5 _ _ ?_); clear hK5; refine wp_if hT rfl (fun _ => ?_) (fun h => by cases h); refine sj (zz 0 [uu,tt]) rfl fun K9 hK9 => ?_; refine st_call hT rfl rfl rfl rfl rfl Tryz.can8 rfl (first_calls _) ?_; rintro _ w5 ⟨rfl, E⟩; refine ⟨_, rfl, ?_⟩; clear hT; intro a hT; replace H := H.pure E; clear E; refine asn hT rfl fun a hT => ?_; revert hT; revert hK9; refine rp [6,28,15,0,1,2] rfl fun hT => ?_; refine wp_ret <| then_ret ?_; refine dn Tryz.f7 hT rfl ?_; exact ⟨ret_b (by simp), H.ext⟩
    · try simp only [bq] at hc8
      have hwm := wh_len (m := 20000) (l := m) (by omega); refine mv hT rfl fun a hT => ?_; refine st_call hT rfl rfl rfl rfl rfl Tryz.can17 rfl (WeighPendings_calls ps (RP.at H.ext) hlp 20000 (by decide) (RFp.at H.ext) (fun x hx => (hbp x hx).2)) ?_; rintro _ w6 ⟨rfl, E⟩; refine ⟨_, rfl, ?_⟩; clear hT; intro a hT; replace H := H.pure E; clear E; refine tk hT rfl ((fun w => x_gt w hT rfl rfl rfl)) fun a hT => ?_; refine tk hT rfl (x_pick_f hT rfl rfl rfl) fun a hT => ?_; revert hT; revert hK5; refine rif [28,15,6,0,1,2] rfl (fun hT hc10 => ?_) (fun hT hc10 => ?_)
      · try simp only [bq] at hc10
        refine sj (zz 0 [uu,tt]) rfl fun K11 hK11 => ?_; refine st_call hT rfl rfl rfl rfl rfl Tryz.can8 rfl (first_calls _) ?_; rintro _ w7 ⟨rfl, E⟩; refine ⟨_, rfl, ?_⟩; clear hT; intro a hT; replace H := H.pure E; clear E; refine asn hT rfl fun a hT => ?_; revert hT; revert hK11; refine rp [6,28,15,0,1,2] rfl fun hT => ?_; refine wp_ret <| then_ret ?_; refine dn Tryz.f7 hT rfl ?_; exact ⟨ret_b (by simp), H.ext⟩
      · try simp only [bq] at hc10
        have hwp := wp_len (m := 20000) (l := ps) (by omega); refine wp_skip ?_; revert hK4; refine nx fun K12 hK12 => ?_; refine wp_text (zz 0 [tt,uu,tt]) rfl ?_; refine mv hT rfl fun a hT => ?_; refine st_call hT rfl rfl rfl rfl rfl Tryz.can33 rfl (CopyHistories_calls m (RH.at H.ext) (RFm.at H.ext) (by have := hwm.1; omega) (fun x hx => by have := hwm.2 x hx; omega)) ?_; rintro _ w8 ⟨adl, cl, L1, rfl, K, hL1⟩; refine ⟨_, rfl, ?_⟩; clear hT; intro a hT; replace H := H.more K rfl; clear K; refine asn hT rfl fun a hT => ?_; revert hT; revert hK12; refine rg [7,28,15,6,0,1,2] (zz 0 [tt,uu,tt]) rfl fun K13 hK13 hT => ?_; refine mv hT rfl fun a hT => ?_; refine st_call hT rfl rfl rfl rfl rfl Tryz.can34 rfl (CopyPendings_calls ps (RP.at H.ext) (RFp.at H.ext) (by have := hwp.1; omega) (fun x hx => ⟨by have := (hwp.2 x hx).1; omega, by have := (hwp.2 x hx).2.1; omega⟩)) ?_; rintro _ w9 ⟨adq, cq, Q1, rfl, K, hQ1⟩; refine ⟨_, rfl, ?_⟩; clear hT; intro a hT; replace H := H.more K rfl; clear K; refine asn hT rfl fun a hT => ?_; revert hT; revert hK13; refine rg [8,7,28,15,6,0,1,2] (zz 0 [tt,tt,uu,tt,tt,tt,tt,tt]) rfl fun K14 hK14 hT => ?_; refine mv hT rfl fun a hT => mv hT rfl fun a hT => ?_; have hLb := cp_hb hL1 hwm (fun x hx => (hbm x hx).1) (H.fam 4 rfl); have hQb := cp_pb hQ1 hwp (fun x hx => (hbp x hx).1) (H.fam 1 rfl) (H.fam 2 rfl); have hql := hQb.1; have hmp := hwp.1; have hld1 : ldE (L1.map Hs.p) (Q1.map Pn.p) = 0 := by rw [hL1, hQ1]; exact hld
        refine st_call hT rfl rfl rfl rfl rfl Tryz.can30 rfl (Load_yes L1 Q1 ((H.row 3 rfl).ssn rfl) ((H.row 0 rfl).ssn rfl) (fam_hs (H.fam 4 rfl)) (fam_pn (H.fam 1 rfl) (H.fam 2 rfl)) 20000 (by omega) hLb.1 hLb.2 hQb.2 hld1) ?_; rintro _ w10 ⟨p, bk, bp, H3, P3, rfl, K, hM3, hB3⟩; refine ⟨_, rfl, ?_⟩; clear hT; intro a hT; replace H := H.more K rfl; clear K; rw [hL1, hQ1] at hM3; refine mv hT rfl fun a hT => ?_; refine tk hT rfl (x_extractL hT rfl rfl rfl) fun a hT => ?_; refine tk hT rfl (x_extractL hT rfl rfl rfl) fun a hT => asn hT rfl fun a hT => asn hT rfl fun a hT => ?_; revert hT; revert hK14; refine rg [10,9,8,7,28,15,6,0,1,2] (zz 0 [tt,tt,uu,tt,tt,tt,tt,tt]) rfl fun K15 hK15 hT => ?_; refine mv hT rfl fun a hT => mv hT rfl fun a hT => ?_; refine st_call hT rfl rfl rfl rfl rfl Tryz.can35 rfl (xLoad_yes m ps (RH.at H.ext) (RP.at H.ext) (RFm.at H.ext) (RFp.at H.ext) 20000 (by omega) hwm.1 (fun x hx => ⟨(hbm x hx).1, hwm.2 x hx⟩) (fun x hx => ⟨(hbp x hx).1, by have := (hwp.2 x hx).1; omega, by have := (hwp.2 x hx).2.1; omega, fun y hy => by have := (hwp.2 x hx).2.2 y hy; omega⟩) hld) ?_
        rintro _ w11 ⟨d0, ha0, hc0, pa0, pc0, H4, P4, rfl, K, hM4, hB4⟩; refine ⟨_, rfl, ?_⟩; clear hT; intro a hT; replace H := H.more K rfl; clear K; have hHe0 : H4.map Hs.p = H3.map Hs.p := congrArg Ms.H (hM4.trans hM3.symm); have hPe0 : P4.map Pn.p = P3.map Pn.p := congrArg Ms.P (hM4.trans hM3.symm); have hI0 := ld_inv hld; refine mv hT rfl fun a hT => ?_; refine tk hT rfl (x_extractL hT rfl rfl rfl) fun a hT => ?_; refine tk hT rfl (x_extractL hT rfl rfl rfl) fun a hT => asn hT rfl fun a hT => asn hT rfl fun a hT => ?_; revert hT; revert hK15; refine rq [12,11,10,9,8,7,28,15,6,0,1,2] rfl fun K16 hK16 hT => ?_; refine sj (zz 0 [tt,tt,tt,tt,tt,tt,tt,tt,tt,tt,tt,tt,tt,uu,tt,tt,tt,tt,tt,uu,tt,tt]) rfl fun K17 hK17 => ?_; refine mv hT rfl fun a hT => mv hT rfl fun a hT => ?_; refine tk hT rfl ((fun w => x_ne w hT rfl rfl rfl)) fun a hT => ?_
        refine mv hT rfl fun a hT => ?_; refine Sl.two hT 49 rfl (fun hc18 hT => ?_) (fun hc18 hT => ?_)
        · exfalso
          try simp only [bq] at hc18
          simp at hc18
        · try simp only [bq] at hc18
          refine mv hT rfl fun a hT => ?_; refine tk hT rfl (x_eqnil_some hT rfl Tryz.underlying29 rfl rfl) fun a hT => mv hT rfl fun a hT => ?_; refine tk hT rfl (x_eqnil_some hT rfl Tryz.underlying69 rfl rfl) fun a hT => ?_; refine tk hT rfl (x_neb hT rfl Tryz.underlying4 rfl rfl) fun a hT => ?_; refine tk hT rfl (x_pick_f hT rfl rfl rfl) fun a hT => mv hT rfl fun a hT => ?_; refine Sl.two hT 56 rfl (fun hc19 hT => ?_) (fun hc19 hT => ?_)
          · exfalso
            try simp only [bq] at hc19
            simp at hc19
          · try simp only [bq] at hc19
            refine mv hT rfl fun a hT => mv hT rfl fun a hT => ?_; refine st_call hT rfl rfl rfl rfl rfl Tryz.can13 rfl (HistsEq_calls L1 m ((H.row 15 rfl).ssn rfl) (RH.at H.ext) (fam_hs (H.fam 16 rfl)) (RFm.at H.ext) (by have := hLb.1; omega) (fun x hx => by have := (hLb.2 x hx).2.1; omega)) ?_; rintro _ w12 ⟨rfl, E⟩; refine ⟨_, rfl, ?_⟩; clear hT; intro a hT; replace H := H.pure E; clear E; rw [decide_eq_true (hL1 : L1.map Hs.p = m.map Hs.p)] at hT; refine tk hT rfl (x_not hT rfl rfl) fun a hT => ?_; refine tk hT rfl (x_pick_f hT rfl rfl rfl) fun a hT => mv hT rfl fun a hT => ?_; refine Sl.two hT 62 rfl (fun hc20 hT => ?_) (fun hc20 hT => ?_)
            · exfalso
              try simp only [bq] at hc20
              simp at hc20
            · try simp only [bq] at hc20
              refine mv hT rfl fun a hT => mv hT rfl fun a hT => ?_; refine st_call hT rfl rfl rfl rfl rfl Tryz.can15 rfl (PendsEq_calls Q1 ps ((H.row 12 rfl).ssn rfl) (RP.at H.ext) (fam_pn (H.fam 13 rfl) (H.fam 14 rfl)) (RFp.at H.ext) (by omega) (fun x hx => ⟨(hQb.2 x hx).2.1, (hQb.2 x hx).2.2.1⟩)) ?_; rintro _ w13 ⟨rfl, E⟩; refine ⟨_, rfl, ?_⟩; clear hT; intro a hT; replace H := H.pure E; clear E; rw [decide_eq_true (hQ1 : Q1.map Pn.p = ps.map Pn.p)] at hT; refine tk hT rfl (x_not hT rfl rfl) fun a hT => ?_; refine tk hT rfl (x_pick_f hT rfl rfl rfl) fun a hT => ?_; revert hT; revert hK17; refine rif [67,12,11,10,9,8,7,28,15,6,0,1,2] rfl (fun hT hc21 => ?_) (fun hT hc21 => ?_)
              · exfalso
                try simp only [bq] at hc21
                simp at hc21
              · try simp only [bq] at hc21
                refine wp_skip ?_; revert hK16; refine nx fun K22 hK22 => ?_; refine sj (zz 0 [tt,tt]) rfl fun K23 hK23 => ?_; refine mv hT rfl fun a hT => ?_; refine tk hT rfl (x_eqnil_some hT rfl Tryz.underlying69 rfl rfl) fun a hT => ?_; replace hT := hT.keep [69,67,12,11,10,9,8,7,28,15,6,0,1,2] rfl; refine ser_nil ?_; refine then_normal (hK23 _ _ ?_); clear hK23; refine wp_if hT rfl (fun h => by cases h) (fun _ => ?_); refine wp_skip ?_; revert hK22; refine nx fun K24 hK24 => ?_; refine sj (zz 0 [tt]) rfl fun K25 hK25 => ?_; refine asn hT rfl fun a hT => ?_; revert hT; revert hK25; refine rp [13,69,67,12,11,10,9,8,7,28,15,6,0,1,2] rfl fun hT => ?_; refine wp_block ?_; refine wp_loopH (G := Nat × Stp × List Hs × List Pn × Option Addr × Nat × Option Addr × Nat × List Hs × List Pn) (fun ⟨i, low1, H1, P1, ha1, hc1, pa1, pc1, H2, P2⟩ => [(13, .int .i64 (i : Int))]) (fun ⟨i, low1, H1, P1, ha1, hc1, pa1, pc1, H2, P2⟩ => [cB p [.map (some bk), .map (some bp), .int .i64 low1.w, .int .i64 low1.l, .int .i64 low1.n] 89, cM Tryz.prog 9 bk (th H1), cF 92 6 Hs.rw H1, cM Tryz.prog 24 bp (tp P1), cF 9 1 Pn.rr P1, cF 65 4 Pn.rw P1, cB d0 [.slice ha1 (List.length H2) hc1, .slice pa1 (List.length P2) pc1, .int .i64 low1.w, .int .i64 low1.l, .int .i64 low1.n] 71, cR 95 2 ha1 (List.length H2) hc1 (List.flatMap Hs.cells H2), cF 92 6 Hs.rw H2, cR 36 8 pa1 (List.length P2) pc1 (List.flatMap Pn.cells P2), cF 9 1 Pn.rr P2, cF 65 4 Pn.rw P2]) (fun ⟨i, low1, H1, P1, ha1, hc1, pa1, pc1, H2, P2⟩ => i ≤ l.length ∧ (⟨List.map Hs.p H1, List.map Pn.p P1, low1⟩ : Ms) = runM (ldM (m.map Hs.p) (ps.map Pn.p)) ((l.take i).map Ox.y) ∧ H2.map Hs.p = H1.map Hs.p ∧ P2.map Pn.p = P1.map Pn.p ∧ Bd (40000 + 16 * i) H1 P1 ∧ Bd (40000 + 16 * i) H2 P2) (fun ⟨i, low1, H1, P1, ha1, hc1, pa1, pc1, H2, P2⟩ => l.length - i) (0, sz0, H3, P3, ha0, hc0, pa0, pc0, H4, P4) (hT.keep [13,69,67,12,11,10,9,8,7,28,15,0,1,2] rfl) (H.keep [6,7,8,9,10,11,0,1,2,3,4,5,12,13,14,15,16] rfl rfl) (⟨Nat.zero_le _, hM3, hHe0, hPe0, hB3.up (by omega) (by omega), hB4.up (by omega) (by omega)⟩) ?_
                clear hT H; rintro ⟨i, low1, H1, P1, ha1, hc1, pa1, pc1, H2, P2⟩ a w14 hJ hT H; replace hT := hT.keep [13,69,67,12,11,10,9,8,7,28,15,0,1,2] rfl; replace H := H.keep [0,1,2,3,4,5,6,7,8,9,10,11,12,13,14,15,16] rfl rfl; obtain ⟨hi, hM, hHe, hPe, hB1, hB2⟩ := hJ; refine wp_seq_k fun K26 hK26 => ?_; refine sj (zz 0 [tt,tt,tt,tt]) rfl fun K27 hK27 => ?_; refine mv hT rfl fun a hT => mv hT rfl fun a hT => ?_; refine tk hT rfl (x_len_slice hT rfl rfl Tryz.underlying22 rfl) fun a hT => ?_; refine tk hT rfl ((fun w => x_lt w hT rfl rfl rfl)) fun a hT => ?_; revert hT; revert hK27; refine rif [74,13,69,67,12,11,10,9,8,7,28,15,0,1,2] rfl (fun hT hc28 => ?_) (fun hT hc28 => ?_)
                · try simp only [bq] at hc28
                  obtain ⟨o, ho⟩ : ∃ q9, l[i]? = some q9 := ⟨_, List.getElem?_eq_getElem (by omega)⟩; have hom := List.mem_of_getElem? ho; have hob := hb o hom; have RMo : Ro w No (fun u => Ss u o.p.ra kc 1 o.p.rs ∧ Ss u o.p.wa Wt.cells 4 o.p.ws ∧ Ss u o.sa Sn.cells 7 o.sn) := RM.mono fun u h => h o hom; have hI : Inv2 (⟨List.map Hs.p H1, List.map Pn.p P1, low1⟩ : Ms) := by rw [hM]; exact hI0.run _
                  refine wp_skip ?_; revert hK26; refine nx fun K29 hK29 => ?_; refine wp_block ?_; refine sj (zz 0 [tt,tt,tt,tt,tt,uu,uu,tt,tt,tt,tt,uu,tt,tt]) rfl fun K30 hK30 => ?_; refine mv hT rfl fun a hT => mv hT rfl fun a hT => mv hT rfl fun a hT => mv hT rfl fun a hT => ?_; refine tk hT rfl (x_index (k := i) hT rfl Tryz.underlying22 Tryz.ti39 (R.at H.ext).sv rfl rfl (by first | rfl | omega) (by omega)) fun a hT => ?_; refine rn hT rfl (y_loadS hT rfl Tryz.underlying39 Tryz.ti39 rfl (by first | exact ((H.blk 0 rfl).seg (k := 18) rfl) | exact ((H.blk 6 rfl).seg (k := 18) rfl) | exact ((R.at H.ext).cs Ox.len ho)) (by rfl)) fun a hT => ?_; refine st_call hT rfl rfl rfl rfl rfl Tryz.can27 rfl (does_calls o (H.pre [0, 1, 2, 3, 4, 5, 6, 7, 8, 9, 10, 11] rfl rfl) (H.ro RMo [0, 1, 2, 3, 4, 5, 6, 7, 8, 9, 10, 11] rfl) hob (hsm _ (List.mem_map_of_mem hom)) hB1 hB2 (by omega) hI hHe hPe) ?_; rintro _ w15 ⟨low5, H5, P5, ha5, hc5, pa5, pc5, H6, P6, rfl, K, hM5, hHe5, hPe5, hB5, hB6⟩; refine ⟨_, rfl, ?_⟩; clear hT; intro a hT; replace H := H.back [0, 1, 2, 3, 4, 5, 6, 7, 8, 9, 10, 11] [12, 13, 14, 15, 16] rfl rfl rfl K rfl; clear K
                  refine tk hT rfl (x_not hT rfl rfl) fun a hT => mv hT rfl fun a hT => ?_; refine Sl.two hT 85 rfl (fun hc31 hT => ?_) (fun hc31 hT => ?_)
                  · exfalso
                    try simp only [bq] at hc31
                    simp at hc31
                  · try simp only [bq] at hc31
                    refine mv hT rfl fun a hT => mv hT rfl fun a hT => ?_; refine st_call hT rfl rfl rfl rfl rfl Tryz.can28 rfl (stands_calls (⟨(H.blk 0 rfl), H.mp 1 rfl, H.fam 2 rfl, H.mp 3 rfl, H.fam 4 rfl, H.fam 5 rfl⟩ : Sto _ _ _ _ _ _ _) hB5 (⟨(H.blk 6 rfl), (H.row 7 rfl), H.fam 8 rfl, (H.row 9 rfl), H.fam 10 rfl, H.fam 11 rfl⟩ : Dto _ _ _ _ _ _ _ _ _) hHe5 hPe5) ?_; rintro _ w16 ⟨rfl, E⟩; refine ⟨_, rfl, ?_⟩; clear hT; intro a hT; replace H := H.pure E; clear E; refine tk hT rfl (x_not hT rfl rfl) fun a hT => ?_; refine tk hT rfl (x_pick_f hT rfl rfl rfl) fun a hT => ?_; revert hT; revert hK30; refine rif [90,74,13,69,67,12,11,10,9,8,7,28,15,0,1,2] rfl (fun hT hc32 => ?_) (fun hT hc32 => ?_)
                    · exfalso
                      try simp only [bq] at hc32
                      simp at hc32
                    · try simp only [bq] at hc32
                      refine wp_skip <| block_normal ?_; refine then_normal (hK29 _ _ ?_); clear hK29; refine wp_text (zz 0 [tt,tt,tt]) rfl ?_; refine mv hT rfl fun a hT => ?_; refine tk hT rfl ((fun w => x_add w hT rfl rfl rfl (wrap64 (by omega)))) fun a hT => asn hT rfl fun a hT => ?_; replace hT := hT.keep [13,90,74,69,67,12,11,10,9,8,7,28,15,0,1,2] rfl; refine ser_nil ?_; refine then_normal ?_; exact ⟨(i + 1, low5, H5, P5, ha5, hc5, pa5, pc5, H6, P6), ⟨by show i + 1 ≤ _; omega, by show (⟨List.map Hs.p H5, List.map Pn.p P5, low5⟩ : Ms) = _; rw [run_snoc _ ho, ← hM]; exact hM5, hHe5, hPe5, show Bd (40000 + 16 * i + 16) _ _ from hB5, show Bd (40000 + 16 * i + 16) _ _ from hB6⟩, (hT.keep [13,69,67,12,11,10,9,8,7,28,15,0,1,2] rfl), (H.keep [0,1,2,3,4,5,6,7,8,9,10,11,12,13,14,15,16] rfl rfl), by show _ - (i + 1) < _ - i; omega⟩
                · try simp only [bq] at hc28
                  refine wp_exit <| then_exit ?_; refine then_exit <| block_exit ?_; revert hK24; refine nx fun K33 hK33 => ?_; refine wp_text (zz 0 [uu,tt,tt,tt,uu,tt,tt]) rfl ?_; refine st_call hT rfl rfl rfl rfl rfl Tryz.can8 rfl (first_calls _) ?_; rintro _ w17 ⟨rfl, E⟩; refine ⟨_, rfl, ?_⟩; clear hT; intro a hT; replace H := H.pure E; clear E; refine mv hT rfl fun a hT => mv hT rfl fun a hT => mv hT rfl fun a hT => ?_; refine st_call hT rfl rfl rfl rfl rfl Tryz.can28 rfl (stands_calls (⟨(H.blk 0 rfl), H.mp 1 rfl, H.fam 2 rfl, H.mp 3 rfl, H.fam 4 rfl, H.fam 5 rfl⟩ : Sto _ _ _ _ _ _ _) hB1 (⟨(H.blk 6 rfl), (H.row 7 rfl), H.fam 8 rfl, (H.row 9 rfl), H.fam 10 rfl, H.fam 11 rfl⟩ : Dto _ _ _ _ _ _ _ _ _) hHe hPe) ?_; rintro _ w18 ⟨rfl, E⟩; refine ⟨_, rfl, ?_⟩; clear hT; intro a hT; replace H := H.pure E; clear E; refine tk hT rfl (x_pick_t hT rfl rfl rfl) fun a hT => asn hT rfl fun a hT => ?_; revert hT; revert hK33; refine rp [6,74,13,69,67,12,11,10,9,8,7,28,15,0,1,2] rfl fun hT => ?_; refine wp_ret ?_; refine dn Tryz.f7 hT rfl ?_; exact ⟨ret_b (by simp), H.ext⟩
theorem Loads_no {ad : Option Addr} {c : Nat} (l : List Ox) {w : World} (hs : Ss w ad Ox.cells 18 l) (hl : l.length ≤ 9223372036854775806) (hf : ∀ x ∈ l, Ss w x.p.ra kc 1 x.p.rs ∧ Ss w x.p.wa Wt.cells 4 x.p.ws ∧ Ss w x.sa Sn.cells 7 x.sn) (hb : ∀ x ∈ l, x.key.length ≤ 140737488351232 ∧ x.t.wf ∧ x.p.t.wf ∧ ((x.p.rs.length ≤ 9223372036854775806 ∧ ∀ y ∈ x.p.rs, y.length ≤ 140737488351232) ∧ x.p.ws.length ≤ 9223372036854775806 ∧ ∀ y ∈ x.p.ws, y.wf) ∧ (x.sn.length ≤ 9223372036854775806 ∧ ∀ y ∈ x.sn, y.key.length ≤ 140737488351232 ∧ y.v.tx.length ≤ 140737488351232) ∧ (x.p.ra = none → x.p.rs.length = 0 ∧ x.p.rc = 0) ∧ (x.p.wa = none → x.p.ws.length = 0 ∧ x.p.wc = 0)) {adh : Option Addr} {cch : Nat} (m : List Hs) (hsM : Ss w adh Hs.cells 2 m) (hlm : m.length ≤ 9223372036854775806) (hfm : ∀ x ∈ m, Ss w x.ad Vr.cells 6 x.vs) (hbm : ∀ x ∈ m, x.key.length ≤ 140737488351232 ∧ x.vs.length ≤ 9223372036854775806 ∧ ∀ y ∈ x.vs, y.v.tx.length ≤ 140737488351232) {adp : Option Addr} {ccp : Nat} (ps : List Pn) (hsp : Ss w adp Pn.cells 8 ps) (hlp : ps.length ≤ 9223372036854775806) (hfp : ∀ x ∈ ps, Ss w x.ra kc 1 x.rs ∧ Ss w x.wa Wt.cells 4 x.ws) (hbp : ∀ x ∈ ps, x.t.wf ∧ ((x.rs.length ≤ 9223372036854775806 ∧ ∀ y ∈ x.rs, y.length ≤ 140737488351232) ∧ x.ws.length ≤ 9223372036854775806 ∧ ∀ y ∈ x.ws, y.wf)) (hld : ¬ ldE (m.map Hs.p) (ps.map Pn.p) = 0) : Calls Tryz.prog 7 #[.slice adh m.length cch, .slice adp ps.length ccp, .slice ad l.length c] w fun e w' => e = .returned (.bool true) ∧ Ext No w w' := by
  have R : Ro w No _ := Ro.of fun w' x => hs.ext_no x; have RH : Ro w No _ := Ro.of fun w' x => hsM.ext_no x; have RP : Ro w No _ := Ro.of fun w' x => hsp.ext_no x; have RM : Ro w No (fun u => ∀ x ∈ l, Ss u x.p.ra kc 1 x.p.rs ∧ Ss u x.p.wa Wt.cells 4 x.p.ws ∧ Ss u x.sa Sn.cells 7 x.sn) := Ro.of fun w' y x hx => ⟨(hf x hx).1.ext_no y, (hf x hx).2.1.ext_no y, (hf x hx).2.2.ext_no y⟩; have RFm : Ro w No (fun u => ∀ x ∈ m, Ss u x.ad Vr.cells 6 x.vs) := Ro.of fun w' y x hx => (hfm x hx).ext_no y; have RFp : Ro w No (fun u => ∀ x ∈ ps, Ss u x.ra kc 1 x.rs ∧ Ss u x.wa Wt.cells 4 x.ws) := Ro.of fun w' y x hx => ⟨(hfp x hx).1.ext_no y, (hfp x hx).2.ext_no y⟩; refine calls_into Tryz.func7 rfl Tryz.ntmps7 rfl fun a hT => ?_; replace hT := hT.keep [0,1,2] rfl; have H : Sx.Hp w (Sx.No) w [] := Sx.Hp.start _ _; refine sj (zz 0 [tt]) rfl fun K1 hK1 => ?_; refine asn hT rfl fun a hT => ?_; revert hT; revert hK1; refine rq [6,0,1,2] rfl fun K2 hK2 hT => ?_; refine sj (zz 0 [uu,tt]) rfl fun K3 hK3 => ?_; refine st_call hT rfl rfl rfl rfl rfl Tryz.can8 rfl (first_calls _) ?_; rintro _ w1 ⟨rfl, E⟩; refine ⟨_, rfl, ?_⟩; clear hT; intro a hT; replace H := H.pure E; clear E; refine tk hT rfl (x_not hT rfl rfl) fun a hT => ?_; replace hT := hT.keep [15,6,0,1,2] rfl; refine ser_nil ?_
  refine then_normal (hK3 _ _ ?_); clear hK3; refine wp_if hT rfl (fun h => by cases h) (fun _ => ?_); refine wp_skip ?_; revert hK2; refine nx fun K4 hK4 => ?_; refine sj (zz 0 [tt,uu,tt,tt,tt,uu,tt,tt,tt,tt,uu,tt,tt]) rfl fun K5 hK5 => ?_; refine mv hT rfl fun a hT => ?_; refine st_call hT rfl rfl rfl rfl rfl Tryz.can9 rfl (Few_calls l (R.at H.ext) hl (RM.at H.ext) hb) ?_; rintro _ w2 ⟨rfl, E⟩; refine ⟨_, rfl, ?_⟩; clear hT; intro a hT; replace H := H.pure E; clear E; refine tk hT rfl (x_not hT rfl rfl) fun a hT => mv hT rfl fun a hT => ?_; refine Sl.two hT 19 rfl (fun hc6 hT => ?_) (fun hc6 hT => ?_)
  · try simp only [bq] at hc6
    refine sk hT rfl fun a hT => ?_; refine st_runskip hT rfl rfl rfl rfl fun a hT => sk hT rfl fun a hT => ?_; refine tk hT rfl (x_pick_t hT rfl rfl rfl) fun a hT => mv hT rfl fun a hT => sk hT rfl fun a hT => ?_; refine st_runskip hT rfl rfl rfl rfl fun a hT => sk hT rfl fun a hT => ?_; refine tk hT rfl (x_pick_t hT rfl rfl rfl) fun a hT => ?_; replace hT := hT.keep [28,15,6,0,1,2] rfl; refine ser_nil ?_; refine then_normal (hK5 _ _ ?_); clear hK5; refine wp_if hT rfl (fun _ => ?_) (fun h => by cases h); refine sj (zz 0 [uu,tt]) rfl fun K7 hK7 => ?_; refine st_call hT rfl rfl rfl rfl rfl Tryz.can8 rfl (first_calls _) ?_; rintro _ w3 ⟨rfl, E⟩; refine ⟨_, rfl, ?_⟩; clear hT; intro a hT; replace H := H.pure E; clear E; refine asn hT rfl fun a hT => ?_; revert hT; revert hK7; refine rp [6,28,15,0,1,2] rfl fun hT => ?_; refine wp_ret <| then_ret ?_; refine dn Tryz.f7 hT rfl ?_; exact ⟨ret_b (by simp), H.ext⟩
  · try simp only [bq] at hc6
    obtain ⟨hl2, hsm⟩ := few_sm (by simpa using hc6 : fewB (l.map Ox.y) = true); rw [List.length_map] at hl2; refine mv hT rfl fun a hT => ?_; refine st_call hT rfl rfl rfl rfl rfl Tryz.can32 rfl (WeighHistories_calls m (RH.at H.ext) hlm 20000 (by decide) (RFm.at H.ext) hbm) ?_; rintro _ w4 ⟨rfl, E⟩; refine ⟨_, rfl, ?_⟩; clear hT; intro a hT; replace H := H.pure E; clear E; refine tk hT rfl ((fun w => x_gt w hT rfl rfl rfl)) fun a hT => ?_; refine tk hT rfl (x_pick_f hT rfl rfl rfl) fun a hT => mv hT rfl fun a hT => ?_; refine Sl.two hT 24 rfl (fun hc8 hT => ?_) (fun hc8 hT => ?_)
    · try simp only [bq] at hc8
      refine sk hT rfl fun a hT => ?_; refine st_runskip hT rfl rfl rfl rfl fun a hT => sk hT rfl fun a hT => ?_; refine tk hT rfl (x_pick_t hT rfl rfl rfl) fun a hT => ?_; replace hT := hT.keep [28,15,6,0,1,2] rfl; refine ser_nil ?_; refine then_normal (hK5 _ _ ?_); clear hK5; refine wp_if hT rfl (fun _ => ?_) (fun h => by cases h); refine sj (zz 0 [uu,tt]) rfl fun K9 hK9 => ?_; refine st_call hT rfl rfl rfl rfl rfl Tryz.can8 rfl (first_calls _) ?_; rintro _ w5 ⟨rfl, E⟩; refine ⟨_, rfl, ?_⟩; clear hT; intro a hT; replace H := H.pure E; clear E; refine asn hT rfl fun a hT => ?_; revert hT; revert hK9; refine rp [6,28,15,0,1,2] rfl fun hT => ?_; refine wp_ret <| then_ret ?_; refine dn Tryz.f7 hT rfl ?_; exact ⟨ret_b (by simp), H.ext⟩
    · try simp only [bq] at hc8
      have hwm := wh_len (m := 20000) (l := m) (by omega); refine mv hT rfl fun a hT => ?_; refine st_call hT rfl rfl rfl rfl rfl Tryz.can17 rfl (WeighPendings_calls ps (RP.at H.ext) hlp 20000 (by decide) (RFp.at H.ext) (fun x hx => (hbp x hx).2)) ?_; rintro _ w6 ⟨rfl, E⟩; refine ⟨_, rfl, ?_⟩; clear hT; intro a hT; replace H := H.pure E; clear E; refine tk hT rfl ((fun w => x_gt w hT rfl rfl rfl)) fun a hT => ?_; refine tk hT rfl (x_pick_f hT rfl rfl rfl) fun a hT => ?_; revert hT; revert hK5; refine rif [28,15,6,0,1,2] rfl (fun hT hc10 => ?_) (fun hT hc10 => ?_)
      · try simp only [bq] at hc10
        refine sj (zz 0 [uu,tt]) rfl fun K11 hK11 => ?_; refine st_call hT rfl rfl rfl rfl rfl Tryz.can8 rfl (first_calls _) ?_; rintro _ w7 ⟨rfl, E⟩; refine ⟨_, rfl, ?_⟩; clear hT; intro a hT; replace H := H.pure E; clear E; refine asn hT rfl fun a hT => ?_; revert hT; revert hK11; refine rp [6,28,15,0,1,2] rfl fun hT => ?_; refine wp_ret <| then_ret ?_; refine dn Tryz.f7 hT rfl ?_; exact ⟨ret_b (by simp), H.ext⟩
      · try simp only [bq] at hc10
        have hwp := wp_len (m := 20000) (l := ps) (by omega); refine wp_skip ?_; revert hK4; refine nx fun K12 hK12 => ?_; refine wp_text (zz 0 [tt,uu,tt]) rfl ?_; refine mv hT rfl fun a hT => ?_; refine st_call hT rfl rfl rfl rfl rfl Tryz.can33 rfl (CopyHistories_calls m (RH.at H.ext) (RFm.at H.ext) (by have := hwm.1; omega) (fun x hx => by have := hwm.2 x hx; omega)) ?_; rintro _ w8 ⟨adl, cl, L1, rfl, K, hL1⟩; refine ⟨_, rfl, ?_⟩; clear hT; intro a hT; replace H := H.more K rfl; clear K; refine asn hT rfl fun a hT => ?_; revert hT; revert hK12; refine rg [7,28,15,6,0,1,2] (zz 0 [tt,uu,tt]) rfl fun K13 hK13 hT => ?_; refine mv hT rfl fun a hT => ?_; refine st_call hT rfl rfl rfl rfl rfl Tryz.can34 rfl (CopyPendings_calls ps (RP.at H.ext) (RFp.at H.ext) (by have := hwp.1; omega) (fun x hx => ⟨by have := (hwp.2 x hx).1; omega, by have := (hwp.2 x hx).2.1; omega⟩)) ?_; rintro _ w9 ⟨adq, cq, Q1, rfl, K, hQ1⟩; refine ⟨_, rfl, ?_⟩; clear hT; intro a hT; replace H := H.more K rfl; clear K; refine asn hT rfl fun a hT => ?_; revert hT; revert hK13; refine rg [8,7,28,15,6,0,1,2] (zz 0 [tt,tt,uu,tt,tt,tt,tt,tt]) rfl fun K14 hK14 hT => ?_; refine mv hT rfl fun a hT => mv hT rfl fun a hT => ?_; have hLb := cp_hb hL1 hwm (fun x hx => (hbm x hx).1) (H.fam 4 rfl); have hQb := cp_pb hQ1 hwp (fun x hx => (hbp x hx).1) (H.fam 1 rfl) (H.fam 2 rfl); have hql := hQb.1; have hmp := hwp.1; have hld1 : ¬ ldE (L1.map Hs.p) (Q1.map Pn.p) = 0 := by rw [hL1, hQ1]; exact hld
        refine st_call hT rfl rfl rfl rfl rfl Tryz.can30 rfl (Load_no L1 Q1 ((H.row 3 rfl).ssn rfl) ((H.row 0 rfl).ssn rfl) (fam_hs (H.fam 4 rfl)) (fam_pn (H.fam 1 rfl) (H.fam 2 rfl)) 20000 (by omega) hLb.1 hLb.2 hQb.2 hld1) ?_; rintro _ w10 ⟨rfl, E⟩; refine ⟨_, rfl, ?_⟩; clear hT; intro a hT; replace H := H.pure E; clear E; rw [hL1, hQ1] at hT; refine mv hT rfl fun a hT => ?_; refine tk hT rfl (x_extractL hT rfl rfl rfl) fun a hT => ?_; refine tk hT rfl (x_extractL hT rfl rfl rfl) fun a hT => asn hT rfl fun a hT => asn hT rfl fun a hT => ?_; revert hT; revert hK14; refine rg [10,9,8,7,28,15,6,0,1,2] (zz 0 [tt,tt,uu,tt,tt,tt,tt,tt]) rfl fun K15 hK15 hT => ?_; refine mv hT rfl fun a hT => mv hT rfl fun a hT => ?_; refine st_call hT rfl rfl rfl rfl rfl Tryz.can35 rfl (xLoad_no m ps (RH.at H.ext) (RP.at H.ext) (RFm.at H.ext) (RFp.at H.ext) 20000 (by omega) hwm.1 (fun x hx => ⟨(hbm x hx).1, hwm.2 x hx⟩) (fun x hx => ⟨(hbp x hx).1, by have := (hwp.2 x hx).1; omega, by have := (hwp.2 x hx).2.1; omega, fun y hy => by have := (hwp.2 x hx).2.2 y hy; omega⟩) hld) ?_
        rintro _ w11 ⟨rfl, E⟩; refine ⟨_, rfl, ?_⟩; clear hT; intro a hT; replace H := H.pure E; clear E; refine mv hT rfl fun a hT => ?_; refine tk hT rfl (x_extractL hT rfl rfl rfl) fun a hT => ?_; refine tk hT rfl (x_extractL hT rfl rfl rfl) fun a hT => asn hT rfl fun a hT => asn hT rfl fun a hT => ?_; revert hT; revert hK15; refine rq [12,11,10,9,8,7,28,15,6,0,1,2] rfl fun K16 hK16 hT => ?_; refine sj (zz 0 [tt,tt,tt,tt,tt,tt,tt,tt,tt,tt,tt,tt,tt,uu,tt,tt,tt,tt,tt,uu,tt,tt]) rfl fun K17 hK17 => ?_; refine mv hT rfl fun a hT => mv hT rfl fun a hT => ?_; refine tk hT rfl ((fun w => x_ne w hT rfl rfl rfl)) fun a hT => mv hT rfl fun a hT => ?_; refine Sl.two hT 49 rfl (fun hc18 hT => ?_) (fun hc18 hT => ?_)
        · exfalso
          try simp only [bq] at hc18
          simp at hc18
        · try simp only [bq] at hc18
          refine mv hT rfl fun a hT => ?_; refine tk hT rfl (x_eqnil_none hT rfl Tryz.underlying29 rfl rfl) fun a hT => mv hT rfl fun a hT => ?_; refine tk hT rfl (x_eqnil_none hT rfl Tryz.underlying69 rfl rfl) fun a hT => ?_; refine tk hT rfl (x_neb hT rfl Tryz.underlying4 rfl rfl) fun a hT => ?_; refine tk hT rfl (x_pick_f hT rfl rfl rfl) fun a hT => mv hT rfl fun a hT => ?_; refine Sl.two hT 56 rfl (fun hc19 hT => ?_) (fun hc19 hT => ?_)
          · exfalso
            try simp only [bq] at hc19
            simp at hc19
          · try simp only [bq] at hc19
            refine mv hT rfl fun a hT => mv hT rfl fun a hT => ?_; refine st_call hT rfl rfl rfl rfl rfl Tryz.can13 rfl (HistsEq_calls L1 m ((H.row 3 rfl).ssn rfl) (RH.at H.ext) (fam_hs (H.fam 4 rfl)) (RFm.at H.ext) (by have := hLb.1; omega) (fun x hx => by have := (hLb.2 x hx).2.1; omega)) ?_; rintro _ w12 ⟨rfl, E⟩; refine ⟨_, rfl, ?_⟩; clear hT; intro a hT; replace H := H.pure E; clear E; rw [decide_eq_true (hL1 : L1.map Hs.p = m.map Hs.p)] at hT; refine tk hT rfl (x_not hT rfl rfl) fun a hT => ?_; refine tk hT rfl (x_pick_f hT rfl rfl rfl) fun a hT => mv hT rfl fun a hT => ?_; refine Sl.two hT 62 rfl (fun hc20 hT => ?_) (fun hc20 hT => ?_)
            · exfalso
              try simp only [bq] at hc20
              simp at hc20
            · try simp only [bq] at hc20
              refine mv hT rfl fun a hT => mv hT rfl fun a hT => ?_; refine st_call hT rfl rfl rfl rfl rfl Tryz.can15 rfl (PendsEq_calls Q1 ps ((H.row 0 rfl).ssn rfl) (RP.at H.ext) (fam_pn (H.fam 1 rfl) (H.fam 2 rfl)) (RFp.at H.ext) (by omega) (fun x hx => ⟨(hQb.2 x hx).2.1, (hQb.2 x hx).2.2.1⟩)) ?_; rintro _ w13 ⟨rfl, E⟩; refine ⟨_, rfl, ?_⟩; clear hT; intro a hT; replace H := H.pure E; clear E; rw [decide_eq_true (hQ1 : Q1.map Pn.p = ps.map Pn.p)] at hT; refine tk hT rfl (x_not hT rfl rfl) fun a hT => ?_; refine tk hT rfl (x_pick_f hT rfl rfl rfl) fun a hT => ?_; revert hT; revert hK17; refine rif [67,12,11,10,9,8,7,28,15,6,0,1,2] rfl (fun hT hc21 => ?_) (fun hT hc21 => ?_)
              · exfalso
                try simp only [bq] at hc21
                simp at hc21
              · try simp only [bq] at hc21
                refine wp_skip ?_; revert hK16; refine nx fun K22 hK22 => ?_; refine sj (zz 0 [tt,tt]) rfl fun K23 hK23 => ?_; refine mv hT rfl fun a hT => ?_; refine tk hT rfl (x_eqnil_none hT rfl Tryz.underlying69 rfl rfl) fun a hT => ?_; replace hT := hT.keep [69,67,12,11,10,9,8,7,28,15,6,0,1,2] rfl; refine ser_nil ?_; refine then_normal (hK23 _ _ ?_); clear hK23; refine wp_if hT rfl (fun _ => ?_) (fun h => by cases h); refine sj (zz 0 [uu,tt]) rfl fun K24 hK24 => ?_; refine st_call hT rfl rfl rfl rfl rfl Tryz.can8 rfl (first_calls _) ?_; rintro _ w14 ⟨rfl, E⟩; refine ⟨_, rfl, ?_⟩; clear hT; intro a hT; replace H := H.pure E; clear E; refine asn hT rfl fun a hT => ?_; revert hT; revert hK24; refine rp [6,69,67,12,11,10,9,8,7,28,15,0,1,2] rfl fun hT => ?_; refine wp_ret <| then_ret ?_; refine dn Tryz.f7 hT rfl ?_; exact ⟨ret_b (by simp), H.ext⟩
end Go.Proofs.YtpnfpndhdnmhkaaGreat
