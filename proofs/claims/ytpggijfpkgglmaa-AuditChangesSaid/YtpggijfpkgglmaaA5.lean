/- The stable order is the document's; which entries may be. -/
import Derived.Test.YtpggijfpkgglmaaA4
import Derived.Test.YtpggijfpkgglmaaC7
set_option linter.unusedSimpArgs false
set_option linter.unusedVariables false
namespace Go.Proofs.Ytpggijfpkgglmaa
open Sx
theorem Try.bld111 : Sx.Bld Try.prog 111 #[.int .i64 0, .int .i64 0, .int .i64 0, .int .i64 0, .int .i64 0, .int .i64 0, .slice none 0 0, .slice none 0 0] #[(0, 3), (3, 3), (6, 1), (7, 1)] := ⟨_, _, _, _, Try.ti111, rfl, Try.underlying111, fun w => by simp [Sx.placesOf, Sx.run_sizeOf Try.ti24, Sx.run_sizeOf Try.ti33, Sx.run_sizeOf Try.ti34, Sx.run_sizeOf Try.ti98]⟩
theorem Try.can55 : Sx.Can Try.prog 55 := ⟨_, Try.func55, by kernel_rfl, rfl⟩
theorem ltE_iff (x y : En) : ltE x y = true ↔ ltS x.s y.s := by
  unfold ltE
  rw [decide_eq_true_iff, cmp_lt]
theorem place_ins (x : En) : ∀ l : List En, placeG En.s x l = insS ltE x l
  | [] => rfl
  | y :: l => by
    have ih := place_ins x l
    have e : leadS En.s x.s (y :: l) = if ltS x.s y.s then 0 else leadS En.s x.s l + 1 := rfl
    unfold placeG insS at ih ⊢
    rw [e]
    by_cases h : ltS x.s y.s
    · have h2 : ltE x y = true := (ltE_iff x y).2 h
      simp [h, h2]
    · have h2 : ltE x y = false := by
        cases h9 : ltE x y
        · rfl
        · exact absurd ((ltE_iff x y).1 h9) h
      simp only [if_neg h, List.take_succ_cons, List.drop_succ_cons, List.takeWhile_cons, List.dropWhile_cons, h2, Bool.not_false, if_true, List.cons_append]
      rw [ih]
theorem ord_ordS (l : List En) : ordL En.s l = ordS ltE l := by
  unfold ordL ordS mergeS
  congr 1
  funext L x
  exact place_ins x L
theorem sorted_map {M0 L : List En} (h : M0.map En.p = L.map En.p) : (ordS ltE M0).map En.p = ordL Ep.s (L.map En.p) := by
  rw [← ord_ordS, ord_map (κ := En.s) (κ' := Ep.s) (f := En.p) (fun x => rfl), h]

theorem auditMay_calls (x : En) {w : World} (hs : Ss w x.ad Wt.cells 4 x.ws) (hl : x.ws.length ≤ 1000000) : Calls Try.prog 55 #[.agg #[.int .i64 x.t.co, .int .i64 x.t.li, .int .i64 x.t.sq, .int .i64 x.s.w, .int .i64 x.s.l, .int .i64 x.s.n, .slice x.ad x.ws.length x.c]] w fun e w' => e = .returned (.bool (emay x.t x.s x.ws)) ∧ Ext No w w' := by
  have R : Ro w No _ := Ro.of fun w' x => hs.ext_no x; refine Sx.calls_into Try.func55 rfl Try.ntmps55 rfl fun a hT => ?_; replace hT := hT.keep [0] rfl; have H : Sx.Hp w (Sx.No) w [] := Sx.Hp.start _ _; refine wp_seq_k fun K1 hK1 => ?_; refine Sx.wp_text [(0, .run), (1, .take)] rfl ?_; refine st_eff hT rfl rfl rfl rfl (y_box hT rfl rfl rfl _) ?_; clear hT; rintro _ w1 ⟨b1, rfl, N⟩ a hT; replace H := H.new N; clear N; refine st_take hT rfl rfl rfl rfl (x_assign hT rfl rfl) ?_; clear hT; intro a hT; replace hT := hT.keep [2, 1, 0] rfl; refine ser_nil ?_; refine Sx.then_normal (hK1 _ _ ?_); clear hK1; refine wp_seq_k fun K2 hK2 => ?_; refine Sx.wp_text [(0, .take), (1, .run), (2, .take), (3, .run), (4, .take), (5, .run), (6, .take), (7, .run), (8, .take), (9, .take)] rfl ?_; refine st_take hT rfl rfl rfl rfl (x_fieldAddr hT rfl Try.fa36_0 rfl) ?_; clear hT; intro a hT; refine st_run hT rfl rfl rfl rfl (y_loadS hT rfl Try.underlying33 Try.ti33 rfl ((H.blk 0 rfl).seg (k := 3) rfl) (by rfl)) ?_; clear hT; intro a hT; refine st_take hT rfl rfl rfl rfl (x_fieldAddr hT rfl Try.fa36_1 rfl) ?_; clear hT; intro a hT; refine st_run hT rfl rfl rfl rfl (y_loadS hT rfl Try.underlying24 Try.ti24 rfl ((H.blk 0 rfl).seg (k := 3) rfl) (by rfl)) ?_; clear hT; intro a hT; refine st_take hT rfl rfl rfl rfl (x_fieldAddr hT rfl Try.fa36_2 rfl) ?_; clear hT; intro a hT; refine st_run hT rfl rfl rfl rfl (x_load1 hT rfl Try.fl34 rfl ((H.blk 0 rfl).nth rfl)) ?_; clear hT; intro a hT; refine st_take hT rfl rfl rfl rfl (x_bld hT rfl Try.bld111 rfl rfl) ?_
  clear hT; intro a hT; refine st_call hT rfl rfl rfl rfl rfl Try.can76 rfl (PendingMay_calls x.t x.s [] x.ws (Ss.nil _ kc 1) (R.at H.ext) (by decide) hl) ?_; rintro _ w2 ⟨rfl, E⟩; refine ⟨_, rfl, ?_⟩; clear hT; intro a hT; replace H := H.pure E; clear E; refine st_take hT rfl rfl rfl rfl ((fun w => x_eq w hT rfl rfl rfl)) ?_; clear hT; intro a hT; refine st_take hT rfl rfl rfl rfl (x_assign hT rfl rfl) ?_; clear hT; intro a hT; replace hT := hT.keep [2, 1, 0] rfl; refine ser_nil ?_; refine Sx.then_normal (hK2 _ _ ?_); clear hK2; refine wp_ret ?_; refine Sx.done1 (fn := Try.f55) hT rfl (.tmp (hT.get 2 _ rfl)) ?_; refine ⟨ret_b ?_, H.ext⟩; exact pmay_emay _ _ _

end Go.Proofs.Ytpggijfpkgglmaa
