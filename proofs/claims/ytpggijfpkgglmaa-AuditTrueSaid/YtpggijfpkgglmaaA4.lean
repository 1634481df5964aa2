/- Walks: entries copied, and in their order. -/
import Derived.Test.YtpggijfpkgglmaaA3
set_option linter.unusedSimpArgs false
set_option linter.unusedVariables false
namespace Go.Proofs.Ytpggijfpkgglmaa
open Sx
theorem Try.can36 : Sx.Can Try.prog 36 := ⟨_, Try.func36, by kernel_rfl, rfl⟩
theorem Try.can59 : Sx.Can Try.prog 59 := ⟨_, Try.func59, by kernel_rfl, rfl⟩
theorem Try.can60 : Sx.Can Try.prog 60 := ⟨_, Try.func60, by kernel_rfl, rfl⟩
theorem Try.can78 : Sx.Can Try.prog 78 := ⟨_, Try.func78, by kernel_rfl, rfl⟩
theorem sortStable_calls {S : Nat → Prop} {ad : Option Addr} {n c : Nat} (L : List En) {w : World} (H : Hp w S w [cR 36 7 ad n c ((L).flatMap En.cells)]) (hn : n = L.length) (hl : n ≤ 1000000) : Calls Try.prog 60 #[.slice ad n c, .func (.func 61) #[] #[]] w fun e w' => e = .returned (.tuple #[]) ∧ Hp w S w' [cR 36 7 ad n c ((ordS ltE L).flatMap En.cells)] := by
  refine Sx.calls_into Try.func60 rfl Try.ntmps60 rfl fun a hT => ?_
  replace hT := hT.keep [0, 1] rfl
  refine Sx.wp_text [(0, .take), (1, .take), (2, .take), (3, .take), (4, .run)] rfl ?_
  refine Sx.st_take hT rfl rfl rfl rfl (Sx.x_move hT rfl rfl) ?_
  clear hT; intro a hT
  refine Sx.st_take hT rfl rfl rfl rfl (Sx.x_move hT rfl rfl) ?_
  clear hT; intro a hT
  refine Sx.st_take hT rfl rfl rfl rfl (Sx.x_len_slice hT rfl rfl Try.underlying22 rfl) ?_
  clear hT; intro a hT
  refine Sx.st_take hT rfl rfl rfl rfl (Sx.x_move hT rfl rfl) ?_
  clear hT; intro a hT
  refine Sx.st_call hT rfl rfl rfl rfl rfl Try.can79 rfl (stable_calls L (H.pre [0] rfl rfl) hn hl) ?_
  rintro _ w1 ⟨rfl, K⟩
  refine ⟨_, rfl, ?_⟩
  clear hT; intro a hT
  replace H := H.back [0] [] rfl rfl rfl K rfl; clear K
  replace hT := hT.keep [0, 1] rfl
  refine Sx.ser_nil ?_
  refine Sx.done_end ?_
  refine Sx.done0 (fn := Try.f60) hT rfl  ?_
  exact ⟨rfl, H.keep [0] rfl rfl⟩

theorem CloneW_calls {ad : Option Addr} {c : Nat} (l : List Wt) {w : World} (hs : Ss w ad Wt.cells 4 l) (hn : ad = none → l.length = 0 ∧ c = 0) (hl : l.length ≤ 1000000) : Calls Try.prog 78 #[.slice ad l.length c] w fun e w' => ∃ ad' c', e = .returned (.slice ad' l.length c') ∧ Hp w No w' [cR 41 4 ad' l.length c' (l.flatMap Wt.cells)] := by
  have R : Ro w No _ := Ro.of fun w' x => hs.ext_no x
  refine Sx.calls_into Try.func78 rfl Try.ntmps78 rfl fun a hT => ?_
  replace hT := hT.keep [0] rfl
  have H : Sx.Hp w (Sx.No) w [] := Sx.Hp.start _ _
  refine wp_seq_k fun K1 hK1 => ?_
  refine Sx.wp_text [(0, .take)] rfl ?_
  refine Sx.st_take hT rfl rfl rfl rfl (Sx.x_assign hT rfl rfl) ?_
  clear hT; intro a hT
  replace hT := hT.keep [2, 0] rfl
  refine Sx.ser_nil ?_
  refine Sx.then_normal (hK1 _ _ ?_)
  clear hK1
  refine wp_seq_k fun K2 hK2 => ?_
  refine wp_seq_k fun K3 hK3 => ?_
  refine Sx.wp_text [(0, .take), (1, .take)] rfl ?_
  refine Sx.st_take hT rfl rfl rfl rfl (Sx.x_move hT rfl rfl) ?_
  clear hT; intro a hT
  refine Sx.st_take hT rfl rfl rfl rfl (Sx.x_eqnilS hT rfl Try.underlying34 rfl rfl) ?_
  clear hT; intro a hT
  replace hT := hT.keep [4, 2, 0] rfl
  refine Sx.ser_nil ?_
  refine Sx.then_normal (hK3 _ _ ?_)
  clear hK3
  refine Sx.wp_if hT rfl (fun hc4 => ?_) (fun hc4 => ?_)
  · try simp only [Sx.bq] at hc4
    obtain rfl : ad = none := by simpa using hc4
    obtain rfl : l = [] := List.eq_nil_of_length_eq_zero (hn rfl).1
    refine wp_seq_k fun K5 hK5 => ?_
    refine Sx.wp_text [(0, .take)] rfl ?_
    refine Sx.st_take hT rfl rfl rfl rfl (Sx.x_assign hT rfl rfl) ?_
    clear hT; intro a hT
    replace hT := hT.keep [2, 4, 0] rfl
    refine Sx.ser_nil ?_
    refine Sx.then_normal (hK5 _ _ ?_)
    clear hK5
    refine wp_ret ?_
    refine Sx.then_ret ?_
    refine Sx.done1 (fn := Try.f78) hT rfl (.tmp (hT.get 2 _ rfl)) ?_
    exact ⟨none, 0, rfl, (H.keep [] rfl rfl).nilR 41 4⟩
  · try simp only [Sx.bq] at hc4
    refine wp_skip ?_
    refine Sx.then_normal (hK2 _ _ ?_)
    clear hK2
    refine wp_seq_k fun K6 hK6 => ?_
    refine Sx.wp_text [(0, .run), (1, .take), (2, .run), (3, .take)] rfl ?_
    refine Sx.st_eff hT rfl rfl rfl rfl (Sx.y_slice0 hT rfl Try.underlying34 Try.ti41 _) ?_
    clear hT; rintro _ w1 ⟨b1, rfl, N⟩ a hT
    replace H := H.new N; clear N
    replace H := H.rowN 4 0 0 rfl rfl (by unfold maxLen; omega) rfl
    refine Sx.st_take hT rfl rfl rfl rfl (Sx.x_move hT rfl rfl) ?_
    clear hT; intro a hT
    refine Sx.st_eff hT rfl rfl rfl rfl (Sx.x_append hT rfl rfl Try.underlying34 Try.ti41 rfl (by decide) rfl rfl (H.row 0 rfl) (R.at H.ext).sv (fun u hu => flat_one Wt.one _ u hu) hn (by unfold maxLen; omega) (by omega)) ?_
    rintro _ w2 ⟨ad2, c2, rfl, hr, E, hown, -⟩
    clear hT; intro a hT
    replace H := H.setR 0 rfl hr E hown rfl; clear hr E hown
    rw [Nat.zero_add] at H hT
    rw [List.nil_append] at H
    refine Sx.st_take hT rfl rfl rfl rfl (Sx.x_assign hT rfl rfl) ?_
    clear hT; intro a hT
    replace hT := hT.keep [2, 4, 0] rfl
    refine Sx.ser_nil ?_
    refine Sx.then_normal (hK6 _ _ ?_)
    clear hK6
    refine wp_ret ?_
    refine Sx.done1 (fn := Try.f78) hT rfl (.tmp (hT.get 2 _ rfl)) ?_
    exact ⟨_, _, rfl, H.keep [0] rfl rfl⟩

theorem cloneE_calls {ad : Option Addr} {c : Nat} (L : List En) {w : World} (hs : Ss w ad En.cells 7 L) (hf : ∀ x ∈ L, Ss w x.ad Wt.cells 4 x.ws ∧ (x.ad = none → x.ws.length = 0 ∧ x.c = 0) ∧ x.ws.length ≤ 1000000) (hl : L.length ≤ 1000000) : Calls Try.prog 59 #[.slice ad L.length c] w fun e w' => ∃ ad' c' M, e = .returned (.slice ad' (List.length M) c') ∧ Hp w No w' [cR 36 7 ad' (M).length c' ((M).flatMap En.cells), cF 41 4 En.rw (M)] ∧ M.map En.p = L.map En.p := by
  have R : Ro w No _ := Ro.of fun w' x => hs.ext_no x
  have RF : Ro w No (fun u => ∀ x ∈ L, Ss u x.ad Wt.cells 4 x.ws) := Ro.of fun w' y x hx => ((hf x hx).1).ext_no y
  refine Sx.calls_into Try.func59 rfl Try.ntmps59 rfl fun a hT => ?_
  replace hT := hT.keep [0] rfl
  have H : Sx.Hp w (Sx.No) w [] := Sx.Hp.start _ _
  refine wp_seq_k fun K1 hK1 => ?_
  refine Sx.wp_text [(0, .take)] rfl ?_
  refine Sx.st_take hT rfl rfl rfl rfl (Sx.x_assign hT rfl rfl) ?_
  clear hT; intro a hT
  replace hT := hT.keep [2, 0] rfl
  refine Sx.ser_nil ?_
  refine Sx.then_normal (hK1 _ _ ?_)
  clear hK1
  refine wp_seq_k fun K2 hK2 => ?_
  refine Sx.wp_text [(0, .take)] rfl ?_
  refine Sx.st_take hT rfl rfl rfl rfl (Sx.x_assign hT rfl rfl) ?_
  clear hT; intro a hT
  replace hT := hT.keep [3, 2, 0] rfl
  refine Sx.ser_nil ?_
  refine Sx.then_normal (hK2 _ _ ?_)
  clear hK2
  refine wp_seq_k fun K3 hK3 => ?_
  refine wp_seq_k fun K4 hK4 => ?_
  refine Sx.wp_text [(0, .take), (1, .take), (2, .take)] rfl ?_
  refine Sx.st_take hT rfl rfl rfl rfl (Sx.x_move hT rfl rfl) ?_
  clear hT; intro a hT
  refine Sx.st_take hT rfl rfl rfl rfl (Sx.x_len_slice hT rfl rfl Try.underlying22 rfl) ?_
  clear hT; intro a hT
  refine Sx.st_take hT rfl rfl rfl rfl (Sx.x_move hT rfl rfl) ?_
  clear hT; intro a hT
  replace hT := hT.keep [8, 7, 6, 3, 2, 0] rfl
  refine Sx.ser_nil ?_
  refine Sx.then_normal (hK4 _ _ ?_)
  clear hK4
  refine wp_block ?_
  replace H := H.nilR 36 7
  replace H := H.famNil (α := En) 41 4 En.rw
  refine Sx.wp_loopH (G := Nat × List En × Option Addr × Nat) (fun ⟨k, M, ad2, c2⟩ => [(8, .int .i64 (k : Int)), (3, .slice ad2 M.length c2)]) (fun ⟨k, M, ad2, c2⟩ => [cF 41 4 En.rw (M), cR 36 7 ad2 (M).length c2 ((M).flatMap En.cells)]) (fun ⟨k, M, ad2, c2⟩ => k ≤ L.length ∧ M.map En.p = (L.take k).map En.p ∧ M.length = k) (fun ⟨k, M, ad2, c2⟩ => L.length - k) (0, [], none, 0) (hT.keep [8, 3, 7, 6, 2, 0] rfl) (H.keep [0, 1] rfl rfl) (⟨Nat.zero_le _, (by simp), rfl⟩) ?_
  clear hT H
  rintro ⟨k, M, ad2, c2⟩ a w1 hJ hT H
  replace hT := hT.keep [8, 3, 7, 6, 2, 0] rfl
  replace H := H.keep [0, 1] rfl rfl
  obtain ⟨hk, hM, hMl⟩ := hJ
  refine wp_seq_k fun K5 hK5 => ?_
  refine Sx.wp_text [(0, .take)] rfl ?_
  refine Sx.st_take hT rfl rfl rfl rfl ((fun w => Sx.x_lt w hT rfl rfl rfl)) ?_
  clear hT; intro a hT
  replace hT := hT.keep [9, 8, 3, 7, 6, 2, 0] rfl
  refine Sx.ser_nil ?_
  refine Sx.then_normal (hK5 _ _ ?_)
  clear hK5
  refine wp_seq_k fun K6 hK6 => ?_
  refine Sx.wp_if hT rfl (fun hc7 => ?_) (fun hc7 => ?_)
  · try simp only [Sx.bq] at hc7
    obtain ⟨o, ho⟩ : ∃ q9, L[k]? = some q9 := ⟨_, List.getElem?_eq_getElem (by omega)⟩
    have hom := List.mem_of_getElem? ho
    refine wp_skip ?_
    refine Sx.then_normal (hK6 _ _ ?_)
    clear hK6
    refine wp_seq_k fun K8 hK8 => ?_
    refine wp_block ?_
    refine wp_seq_k fun K9 hK9 => ?_
    refine Sx.wp_text [(0, .take), (1, .run), (2, .run), (3, .run)] rfl ?_
    refine Sx.st_take hT rfl rfl rfl rfl (Sx.x_index (k := k) hT rfl Try.underlying22 Try.ti36 (R.at H.ext).sv rfl rfl (by first | rfl | omega) (by omega)) ?_
    clear hT; intro a hT
    refine Sx.st_run hT rfl rfl rfl rfl (Sx.y_loadS hT rfl Try.underlying36 Try.ti36 rfl ((R.at H.ext).cs En.len ho) (by rfl)) ?_
    clear hT; intro a hT
    refine Sx.st_eff hT rfl rfl rfl rfl (Sx.y_alloc hT rfl Try.ti36 rfl _) ?_
    clear hT; rintro _ w2 ⟨b1, rfl, N⟩ a hT
    replace H := H.new N; clear N
    refine Sx.st_act hT rfl rfl rfl (Sx.y_storeS hT rfl Try.ti36 rfl rfl rfl rfl rfl (H.blk 0 rfl) rfl) ?_
    rintro w3 ⟨hb, E, _⟩
    replace H := H.setB 0 rfl hb E rfl; clear hb E
    replace hT := hT.keep [5, 9, 8, 3, 7, 6, 2, 0] rfl
    refine Sx.ser_nil ?_
    refine Sx.then_normal (hK9 _ _ ?_)
    clear hK9
    refine wp_seq_k fun K10 hK10 => ?_
    refine Sx.wp_text [(0, .take), (1, .run), (2, .run), (3, .take), (4, .run)] rfl ?_
    refine Sx.st_take hT rfl rfl rfl rfl (Sx.x_fieldAddr hT rfl Try.fa36_2 rfl) ?_
    clear hT; intro a hT
    refine Sx.st_run hT rfl rfl rfl rfl (Sx.x_load1 hT rfl Try.fl34 rfl ((H.blk 0 rfl).nth rfl)) ?_
    clear hT; intro a hT
    refine Sx.st_call hT rfl rfl rfl rfl rfl Try.can78 rfl (CloneW_calls o.ws ((RF.at H.ext) o hom) (hf o hom).2.1 (hf o hom).2.2) ?_
    rintro _ w4 ⟨ad8, c8, rfl, K⟩
    refine ⟨_, rfl, ?_⟩
    clear hT; intro a hT
    replace H := H.more K rfl; clear K
    refine Sx.st_take hT rfl rfl rfl rfl (Sx.x_fieldAddr hT rfl Try.fa36_2 rfl) ?_
    clear hT; intro a hT
    refine Sx.st_act hT rfl rfl rfl (Sx.y_store1 hT rfl Try.ti34 rfl rfl rfl (H.blk 1 rfl) rfl) ?_
    rintro w5 ⟨hb, E, _⟩
    replace H := H.setB 1 rfl hb E rfl; clear hb E
    replace hT := hT.keep [5, 9, 8, 3, 7, 6, 2, 0] rfl
    refine Sx.ser_nil ?_
    refine Sx.then_normal (hK10 _ _ ?_)
    clear hK10
    refine Sx.wp_text [(0, .take), (1, .run), (2, .run), (3, .run), (4, .take)] rfl ?_
    refine Sx.st_take hT rfl rfl rfl rfl (Sx.x_move hT rfl rfl) ?_
    clear hT; intro a hT
    refine Sx.st_run hT rfl rfl rfl rfl (Sx.y_loadS hT rfl Try.underlying36 Try.ti36 rfl ((H.blk 1 rfl).seg (k := 7) rfl) (by rfl)) ?_
    clear hT; intro a hT
    refine Sx.st_eff hT rfl rfl rfl rfl (Sx.y_slice1 hT rfl Try.underlying22 Try.ti36 rfl rfl rfl rfl rfl rfl _) ?_
    clear hT; rintro _ w6 ⟨b2, rfl, N⟩ a hT
    replace H := H.new N; clear N
    refine Sx.st_eff hT rfl rfl rfl rfl (Sx.x_append hT rfl rfl Try.underlying22 Try.ti36 rfl (by decide) rfl rfl (H.row 4 rfl) ((H.blk 0 rfl).sv1 rfl) (by simp [Value.oneCell']) (fun h => by cases h) (by unfold maxLen; omega) (by omega)) ?_
    rintro _ w7 ⟨ad7, c7, rfl, hr, E, hown, -⟩
    clear hT; intro a hT
    replace H := H.setR 4 rfl hr E hown rfl; clear hr E hown
    rw [show (M.flatMap En.cells ++ [.int .i64 o.t.co, .int .i64 o.t.li, .int .i64 o.t.sq, .int .i64 o.s.w, .int .i64 o.s.l, .int .i64 o.s.n, .slice ad8 o.ws.length c8]) = (M ++ [(⟨o.t, o.s, ad8, c8, o.ws⟩ : En)]).flatMap En.cells from by rw [List.flatMap_append] <;> simp [En.cells], show M.length + 1 = (M ++ [(⟨o.t, o.s, ad8, c8, o.ws⟩ : En)]).length from by simp] at H
    rw [show M.length + 1 = (M ++ [(⟨o.t, o.s, ad8, c8, o.ws⟩ : En)]).length from by simp] at hT
    replace H := H.famPut (x := (⟨o.t, o.s, ad8, c8, o.ws⟩ : En)) 3 1 rfl rfl rfl rfl [0, 2, 4] rfl rfl (show (M ++ [_]).Perm (_ :: M) from List.perm_append_comm)
    refine Sx.st_take hT rfl rfl rfl rfl (Sx.x_assign hT rfl rfl) ?_
    clear hT; intro a hT
    replace hT := hT.keep [3, 5, 9, 8, 7, 6, 2, 0] rfl
    refine Sx.ser_nil ?_
    refine Sx.block_normal ?_
    refine Sx.then_normal (hK8 _ _ ?_)
    clear hK8
    refine Sx.wp_text [(0, .take), (1, .take)] rfl ?_
    refine Sx.st_take hT rfl rfl rfl rfl ((fun w => Sx.x_add w hT rfl rfl rfl (Sx.wrap64 (by omega)))) ?_
    clear hT; intro a hT
    refine Sx.st_take hT rfl rfl rfl rfl (Sx.x_move hT rfl rfl) ?_
    clear hT; intro a hT
    replace hT := hT.keep [8, 3, 5, 9, 7, 6, 2, 0] rfl
    refine Sx.ser_nil ?_
    refine Sx.then_normal ?_
    exact ⟨(k + 1, M ++ [(⟨o.t, o.s, ad8, c8, o.ws⟩ : En)], ad7, c7), ⟨by show k + 1 ≤ _; omega, by show (M ++ [_]).map En.p = _; rw [take_app ho, List.map_append, List.map_append, hM] <;> rfl, by show (M ++ [_]).length = k + 1; simp [hMl]⟩, (hT.keep [8, 3, 7, 6, 2, 0] rfl), (H.keep [0, 3] rfl rfl), by show _ - (k + 1) < _ - k; omega⟩
  · try simp only [Sx.bq] at hc7
    have hkl : k = L.length := by omega
    rw [hkl, List.take_length] at hM
    refine wp_exit ?_
    refine Sx.then_exit ?_
    refine Sx.then_exit ?_
    refine Sx.block_exit ?_
    refine Sx.then_normal (hK3 _ _ ?_)
    clear hK3
    refine wp_seq_k fun K11 hK11 => ?_
    refine Sx.wp_text [(0, .take), (1, .take)] rfl ?_
    refine Sx.st_take hT rfl rfl rfl rfl (Sx.x_move hT rfl rfl) ?_
    clear hT; intro a hT
    refine Sx.st_take hT rfl rfl rfl rfl (Sx.x_assign hT rfl rfl) ?_
    clear hT; intro a hT
    replace hT := hT.keep [2, 9, 8, 3, 7, 6, 0] rfl
    refine Sx.ser_nil ?_
    refine Sx.then_normal (hK11 _ _ ?_)
    clear hK11
    refine wp_ret ?_
    refine Sx.done1 (fn := Try.f59) hT rfl (.tmp (hT.get 2 _ rfl)) ?_
    exact ⟨_, _, M, rfl, H.keep [1, 0] rfl rfl, hM⟩

theorem sorted_calls {ad : Option Addr} {c : Nat} (L : List En) {w : World} (hs : Ss w ad En.cells 7 L) (hf : ∀ x ∈ L, Ss w x.ad Wt.cells 4 x.ws ∧ (x.ad = none → x.ws.length = 0 ∧ x.c = 0) ∧ x.ws.length ≤ 1000000) (hl : L.length ≤ 1000000) : Calls Try.prog 36 #[.slice ad L.length c] w fun e w' => ∃ ad' c' M, e = .returned (.slice ad' (List.length M) c') ∧ Hp w No w' [cR 36 7 ad' (M).length c' ((M).flatMap En.cells), cF 41 4 En.rw (M)] ∧ ∃ M0, M = ordS ltE M0 ∧ M0.map En.p = L.map En.p := by
  have R : Ro w No _ := Ro.of fun w' x => hs.ext_no x
  have RF : Ro w No (fun u => ∀ x ∈ L, Ss u x.ad Wt.cells 4 x.ws) := Ro.of fun w' y x hx => ((hf x hx).1).ext_no y
  refine Sx.calls_into Try.func36 rfl Try.ntmps36 rfl fun a hT => ?_
  replace hT := hT.keep [0] rfl
  have H : Sx.Hp w (Sx.No) w [] := Sx.Hp.start _ _
  refine wp_seq_k fun K1 hK1 => ?_
  refine Sx.wp_text [(0, .take)] rfl ?_
  refine Sx.st_take hT rfl rfl rfl rfl (Sx.x_assign hT rfl rfl) ?_
  clear hT; intro a hT
  replace hT := hT.keep [2, 0] rfl
  refine Sx.ser_nil ?_
  refine Sx.then_normal (hK1 _ _ ?_)
  clear hK1
  refine wp_seq_k fun K2 hK2 => ?_
  refine Sx.wp_text [(0, .take), (1, .run), (2, .take)] rfl ?_
  refine Sx.st_take hT rfl rfl rfl rfl (Sx.x_move hT rfl rfl) ?_
  clear hT; intro a hT
  refine Sx.st_call hT rfl rfl rfl rfl rfl Try.can59 rfl (cloneE_calls L (R.at H.ext) (fun x hx => ⟨(RF.at H.ext) x hx, (hf x hx).2⟩) hl) ?_
  rintro _ w1 ⟨ad1, c1, M0, rfl, K, hM0⟩
  refine ⟨_, rfl, ?_⟩
  clear hT; intro a hT
  replace H := H.more K rfl; clear K
  have hM0l : M0.length = L.length := by have := congrArg List.length hM0; simpa using this
  refine Sx.st_take hT rfl rfl rfl rfl (Sx.x_assign hT rfl rfl) ?_
  clear hT; intro a hT
  replace hT := hT.keep [0, 2] rfl
  refine Sx.ser_nil ?_
  refine Sx.then_normal (hK2 _ _ ?_)
  clear hK2
  refine wp_seq_k fun K3 hK3 => ?_
  refine Sx.wp_text [(0, .take), (1, .run)] rfl ?_
  refine Sx.st_take hT rfl rfl rfl rfl (Sx.x_move hT rfl rfl) ?_
  clear hT; intro a hT
  refine Sx.st_call hT rfl rfl rfl rfl rfl Try.can60 rfl (sortStable_calls M0 (H.pre [0] rfl rfl) rfl (by omega)) ?_
  rintro _ w2 ⟨rfl, K⟩
  refine ⟨_, rfl, ?_⟩
  clear hT; intro a hT
  replace H := H.back [0] [1] rfl rfl rfl K rfl; clear K
  replace H := H.famSub 1 rfl (L' := ordS ltE M0) (M := []) (by rw [List.append_nil]; exact (ordS_perm M0).symm) rfl
  rw [← ordS_len (lt := ltE) M0] at H hT
  replace hT := hT.keep [0, 2] rfl
  refine Sx.ser_nil ?_
  refine Sx.then_normal (hK3 _ _ ?_)
  clear hK3
  refine wp_seq_k fun K4 hK4 => ?_
  refine Sx.wp_text [(0, .take), (1, .take)] rfl ?_
  refine Sx.st_take hT rfl rfl rfl rfl (Sx.x_move hT rfl rfl) ?_
  clear hT; intro a hT
  refine Sx.st_take hT rfl rfl rfl rfl (Sx.x_assign hT rfl rfl) ?_
  clear hT; intro a hT
  replace hT := hT.keep [2, 0] rfl
  refine Sx.ser_nil ?_
  refine Sx.then_normal (hK4 _ _ ?_)
  clear hK4
  refine wp_ret ?_
  refine Sx.done1 (fn := Try.f36) hT rfl (.tmp (hT.get 2 _ rfl)) ?_
  exact ⟨_, _, ordS ltE M0, rfl, H.keep [0, 1] rfl rfl, M0, rfl, hM0⟩

end Go.Proofs.Ytpggijfpkgglmaa
