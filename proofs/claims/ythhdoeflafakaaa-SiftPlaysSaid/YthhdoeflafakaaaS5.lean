/- Walks: fragments put together. -/
import Derived.Test.YthhdoeflafakaaaS4
set_option linter.unusedSimpArgs false
set_option linter.unusedVariables false
namespace Go.Proofs.Ythhdoeflafakaaa
open Sx
theorem Try.ti44 : Sx.TI Try.prog 44 (.agg #[.int .i64 0, .int .i64 0, .int .i64 0, .int .i64 0, .int .i64 0, .int .i64 0, .slice none 0 0]) 7 72 := .mk' (by kernel_rfl)
theorem Try.fa44_0 : Sx.FA Try.prog 44 0 0 := ⟨_, _, _, _, _, Try.underlying44, rfl, rfl, Try.ti32, by decide⟩
theorem Try.fa44_2 : Sx.FA Try.prog 44 2 6 := ⟨_, _, _, _, _, Try.underlying44, rfl, rfl, Try.ti33, by decide⟩
theorem Try.bld44 : Sx.Bld Try.prog 44 #[.int .i64 0, .int .i64 0, .int .i64 0, .int .i64 0, .int .i64 0, .int .i64 0, .slice none 0 0] #[(0, 3), (3, 3), (6, 1)] := ⟨_, _, _, _, Try.ti44, rfl, Try.underlying44, fun w => by simp [Sx.placesOf, Sx.run_sizeOf Try.ti28, Sx.run_sizeOf Try.ti32, Sx.run_sizeOf Try.ti33]⟩
theorem Try.can13 : Sx.Can Try.prog 13 := ⟨_, Try.func13, by kernel_rfl, rfl⟩
theorem Try.can38 : Sx.Can Try.prog 38 := ⟨_, Try.func38, by kernel_rfl, rfl⟩
set_option maxHeartbeats 2000000 in
theorem Upto_calls {S : Nat → Prop} {p : Nat} {ad : Option Addr} {c : Nat} {L : List Fr} (at_ : Stp) {w : World} (H : Hp w S w [cB p [.slice ad L.length c] 68, cR 35 9 ad (L).length c ((L).flatMap Fr.cells), cF 50 4 Fr.rw (L)]) (hHd : Held (L.map Fr.p)) (hL : L.length ≤ 10000) : Calls Try.prog 13 #[.pointer (some ⟨p, 0, none⟩), .agg #[.int .i64 at_.w, .int .i64 at_.l, .int .i64 at_.n]] w fun e w' => ∃ ad' c' E ade ce L', e = .returned (.slice ade (List.length E) ce) ∧ Hp w S w' [cB p [.slice ad' (List.length L') c'] 68, cR 35 9 ad' (L').length c' ((L').flatMap Fr.cells), cF 50 4 Fr.rw (L'), cR 44 7 ade (E).length ce ((E).flatMap En.cells), cF 50 4 En.rw (E)] ∧ E.map En.p = uptoE (L.map Fr.p) at_ ∧ L'.map Fr.p = uptoL (L.map Fr.p) at_ := by
  refine Sx.calls_into Try.func13 rfl Try.ntmps13 rfl fun a hT => ?_
  replace hT := hT.keep [0, 1] rfl
  refine wp_seq_k fun K1 hK1 => ?_
  -- region 0 (sift.go:86)
  refine Sx.wp_text [(0, .run), (1, .take)] rfl ?_
  refine Sx.st_eff hT rfl rfl rfl rfl (Sx.y_box hT rfl rfl rfl _) ?_
  clear hT; rintro _ w1 ⟨b1, rfl, N⟩ a hT
  replace H := H.new N; clear N
  refine Sx.st_take hT rfl rfl rfl rfl (Sx.x_assign hT rfl rfl) ?_
  clear hT; intro a hT
  replace hT := hT.keep [4, 3, 0, 1] rfl
  refine Sx.ser_nil ?_
  refine Sx.then_normal (hK1 _ _ ?_)
  clear hK1
  refine wp_seq_k fun K2 hK2 => ?_
  -- region 1 (sift.go:87)
  refine Sx.wp_text [(0, .take)] rfl ?_
  refine Sx.st_take hT rfl rfl rfl rfl (Sx.x_assign hT rfl rfl) ?_
  clear hT; intro a hT
  replace hT := hT.keep [5, 4, 3, 0, 1] rfl
  refine Sx.ser_nil ?_
  refine Sx.then_normal (hK2 _ _ ?_)
  clear hK2
  refine wp_seq_k fun K3 hK3 => ?_
  -- region 2 (sift.go:88)
  refine Sx.wp_text [(0, .take)] rfl ?_
  refine Sx.st_take hT rfl rfl rfl rfl (Sx.x_assign hT rfl rfl) ?_
  clear hT; intro a hT
  replace hT := hT.keep [6, 5, 4, 3, 0, 1] rfl
  refine Sx.ser_nil ?_
  refine Sx.then_normal (hK3 _ _ ?_)
  clear hK3
  refine wp_seq_k fun K4 hK4 => ?_
  refine wp_block ?_
  replace H := H.nilR 44 7
  replace H := H.famNil 50 4 En.rw
  -- loop 0
  refine Sx.wp_loopH (G := Nat × List En × Option Addr × Nat) (fun ⟨k, E, ad2, c2⟩ => [(6, .int .i64 (k : Int)), (5, .slice ad2 E.length c2)]) (fun ⟨k, E, ad2, c2⟩ => [cF 50 4 En.rw (E), cR 44 7 ad2 (E).length c2 ((E).flatMap En.cells)]) (fun ⟨k, E, ad2, c2⟩ => k ≤ L.length ∧ E.map En.p = uptoG ((L.take k).map Fr.p) ∧ (∀ (t : Nat) q, t < k → L[t]? = some q → cmpS q.s at_ ≤ 0) ∧ E.length ≤ k ∧ ∀ e ∈ E, e.ws.length ≤ 16 * k) (fun ⟨k, E, ad2, c2⟩ => L.length - k) (0, [], none, 0) (hT.keep [6, 5, 4, 3, 0, 1] rfl) (H.keep [0, 1, 2, 3, 4, 5] rfl rfl) (⟨Nat.zero_le _, (by rw [List.take_zero]; rfl), (fun t q h => by omega), Nat.zero_le _, (fun e h => by simp at h)⟩) ?_
  clear hT H
  rintro ⟨k, E, ad2, c2⟩ a w2 hJ hT H
  replace hT := hT.keep [6, 5, 4, 3, 0, 1] rfl
  replace H := H.keep [0, 1, 2, 3, 4, 5] rfl rfl
  obtain ⟨hk, hEq, hup, hEl, hew⟩ := hJ
  refine wp_seq_k fun K5 hK5 => ?_
  refine wp_seq_k fun K6 hK6 => ?_
  -- region 3 (sift.go:89)
  refine Sx.wp_draws (fun u => Sx.Ext (Sx.No) u) [(0, .take), (1, .take), (2, .take), (3, .take), (4, .held), (5, .take), (6, .take), (7, .take), (8, .take), (9, .take), (10, .take), (11, .held), (12, .take), (13, .take), (14, .take), (15, .held), (16, .held), (17, .run), (18, .take), (19, .take)] (by kernel_rfl) (by kernel_rfl) (fun u E _ => ?_)
  replace H := H.pure E; clear E
  have hH : Sx.Ext (Sx.No) u u := Sx.Ext.refl _ _
  have Hu := H
  refine Sx.st_take hT rfl rfl rfl rfl (Sx.x_move hT rfl rfl) ?_
  clear hT; intro a hT
  refine Sx.st_take hT rfl rfl rfl rfl (Sx.x_move hT rfl rfl) ?_
  clear hT; intro a hT
  refine Sx.st_take hT rfl rfl rfl rfl (Sx.x_nilCheck hT rfl rfl) ?_
  clear hT; intro a hT
  refine Sx.st_take hT rfl rfl rfl rfl (Sx.x_fieldAddr hT rfl Try.fa68_0 rfl) ?_
  clear hT; intro a hT
  refine Sx.st_held hT rfl rfl rfl rfl hH (fun w' h' => Sx.x_load1 hT rfl Try.fl29 rfl ((Hu.heldB 3 rfl h' Sx.off_No).nth rfl)) ?_
  clear hT; intro a hT
  refine Sx.st_take hT rfl rfl rfl rfl (Sx.x_len_slice hT rfl rfl Try.underlying29 rfl) ?_
  clear hT; intro a hT
  refine Sx.st_take hT rfl rfl rfl rfl ((fun w => Sx.x_lt w hT rfl rfl rfl)) ?_
  clear hT; intro a hT
  refine Sx.st_take hT rfl rfl rfl rfl (Sx.x_move hT rfl rfl) ?_
  clear hT; intro a hT
  -- guard (3, 7)
  refine Sx.Sl.two hT 18 rfl (fun hc7 hT => ?_) (fun hc7 hT => ?_)
  · try simp only [decide_eq_true_eq, decide_eq_false_iff_not, Bool.not_eq_true', Bool.not_eq_false', Bool.not_eq_true, Bool.not_eq_false, Bool.and_eq_true, Bool.or_eq_false_iff, beq_iff_eq, bne_iff_ne, Int.not_lt, Int.not_le, ne_eq] at hc7
    obtain ⟨o, ho⟩ : ∃ o, L[k]? = some o := ⟨_, List.getElem?_eq_getElem (by omega)⟩
    have hom := List.mem_of_getElem? ho
    have homy := hHd.may o.p (List.mem_map_of_mem hom)
    obtain ⟨-, -, how1, how16, -⟩ := mayF_ok homy
    have how2 : o.ws.length ≤ 16 := how16
    refine Sx.st_take hT rfl rfl rfl rfl (Sx.x_move hT rfl rfl) ?_
    clear hT; intro a hT
    refine Sx.st_take hT rfl rfl rfl rfl (Sx.x_nilCheck hT rfl rfl) ?_
    clear hT; intro a hT
    refine Sx.st_take hT rfl rfl rfl rfl (Sx.x_fieldAddr hT rfl Try.fa68_0 rfl) ?_
    clear hT; intro a hT
    refine Sx.st_held hT rfl rfl rfl rfl hH (fun w' h' => Sx.x_load1 hT rfl Try.fl29 rfl ((Hu.heldB 3 rfl h' Sx.off_No).nth rfl)) ?_
    clear hT; intro a hT
    refine Sx.st_take hT rfl rfl rfl rfl (Sx.x_move hT rfl rfl) ?_
    clear hT; intro a hT
    refine Sx.st_take hT rfl rfl rfl rfl (Sx.x_index (k := k) hT rfl Try.underlying29 Try.ti35 (H.row 4 rfl).sv rfl rfl (by first | rfl | omega) (by omega)) ?_
    clear hT; intro a hT
    refine Sx.st_take hT rfl rfl rfl rfl (Sx.x_fieldAddr hT rfl Try.fa35_3 rfl) ?_
    clear hT; intro a hT
    refine Sx.st_held hT rfl rfl rfl rfl hH (fun w' h' => Sx.y_loadS hT rfl Try.underlying28 Try.ti28 rfl ((((Hu.heldR 4 rfl h' Sx.off_No).ssn rfl).cs Fr.len ho).seg (i := 5) (k := 3) rfl) (by rfl)) ?_
    clear hT; intro a hT
    refine Sx.st_held hT rfl rfl rfl rfl hH (fun w' h' => Sx.y_loadS hT rfl Try.underlying28 Try.ti28 rfl ((Hu.heldB 2 rfl h' Sx.off_No).seg (k := 3) rfl) (by rfl)) ?_
    clear hT; intro a hT
    refine Sx.st_call hT rfl rfl rfl rfl rfl Try.can36 rfl (Compare_calls o.s at_ _) ?_
    rintro _ w3 ⟨rfl, E⟩
    refine ⟨_, rfl, ?_⟩
    clear hT; intro a hT
    replace H := H.pure E; clear E
    refine Sx.st_take hT rfl rfl rfl rfl ((fun w => Sx.x_le w hT rfl rfl rfl)) ?_
    clear hT; intro a hT
    refine Sx.st_take hT rfl rfl rfl rfl (Sx.x_pick_t hT rfl rfl rfl) ?_
    clear hT; intro a hT
    replace hT := hT.keep [30, 6, 5, 4, 3, 0, 1] rfl
    clear Hu hH
    refine Sx.ser_calm ?_
    refine Sx.then_normal (hK6 _ _ ?_)
    clear hK6
    -- cond 0
    refine Sx.wp_if hT rfl (fun hc8 => ?_) (fun hc8 => ?_)
    · try simp only [decide_eq_true_eq, decide_eq_false_iff_not, Bool.not_eq_true', Bool.not_eq_false', Bool.not_eq_true, Bool.not_eq_false, Bool.and_eq_true, Bool.or_eq_false_iff, beq_iff_eq, bne_iff_ne, Int.not_lt, Int.not_le, ne_eq] at hc8
      have hle9 : cmpS o.s at_ ≤ 0 := hc8
      refine wp_skip ?_
      refine Sx.then_normal (hK5 _ _ ?_)
      clear hK5
      refine wp_block ?_
      refine wp_seq_k fun K9 hK9 => ?_
      -- region 4 (sift.go:90)
      refine Sx.wp_text [(0, .take), (1, .take), (2, .take), (3, .run), (4, .take), (5, .take), (6, .run), (7, .run), (8, .run)] rfl ?_
      refine Sx.st_take hT rfl rfl rfl rfl (Sx.x_move hT rfl rfl) ?_
      clear hT; intro a hT
      refine Sx.st_take hT rfl rfl rfl rfl (Sx.x_nilCheck hT rfl rfl) ?_
      clear hT; intro a hT
      refine Sx.st_take hT rfl rfl rfl rfl (Sx.x_fieldAddr hT rfl Try.fa68_0 rfl) ?_
      clear hT; intro a hT
      refine Sx.st_run hT rfl rfl rfl rfl (Sx.x_load1 hT rfl Try.fl29 rfl ((H.blk 3 rfl).nth rfl)) ?_
      clear hT; intro a hT
      refine Sx.st_take hT rfl rfl rfl rfl (Sx.x_move hT rfl rfl) ?_
      clear hT; intro a hT
      refine Sx.st_take hT rfl rfl rfl rfl (Sx.x_index (k := k) hT rfl Try.underlying29 Try.ti35 (H.row 4 rfl).sv rfl rfl (by first | rfl | omega) (by omega)) ?_
      clear hT; intro a hT
      refine Sx.st_run hT rfl rfl rfl rfl (Sx.y_loadS hT rfl Try.underlying35 Try.ti35 rfl (((H.row 4 rfl).ssn rfl).cs Fr.len ho) (by rfl)) ?_
      clear hT; intro a hT
      refine Sx.st_eff hT rfl rfl rfl rfl (Sx.y_alloc hT rfl Try.ti35 rfl _) ?_
      clear hT; rintro _ w4 ⟨b2, rfl, N⟩ a hT
      replace H := H.new N; clear N
      refine Sx.st_act hT rfl rfl rfl (Sx.y_storeS hT rfl Try.ti35 rfl rfl rfl rfl rfl (H.blk 0 rfl) rfl) ?_
      rintro w5 ⟨hb, E, _⟩
      replace H := H.setB 0 rfl hb E rfl; clear hb E
      replace hT := hT.keep [7, 30, 6, 5, 4, 3, 0, 1] rfl
      refine Sx.ser_nil ?_
      refine Sx.then_normal (hK9 _ _ ?_)
      clear hK9
      refine wp_seq_k fun K10 hK10 => ?_
      refine Sx.wp_join (G := List En × En × Option Addr × Nat) (fun ⟨A, g, ad4, c4⟩ => [(5, .slice ad4 (A ++ [g]).length c4)]) (fun ⟨A, g, ad4, c4⟩ => [cR 44 7 ad4 (A ++ [g]).length c4 ((A ++ [g]).flatMap En.cells), cF 50 4 En.rw (A ++ [g])]) (fun ⟨A, g, ad4, c4⟩ => A.map En.p ++ [⟨g.t, g.s, g.ws ++ o.ws⟩] = grpE (E.map En.p) o.p ∧ A.length + 1 ≤ k + 1 ∧ g.ws.length ≤ 16 * k ∧ ∀ e ∈ A, e.ws.length ≤ 16 * k) (hT.keep [7, 30, 6, 4, 3, 0, 1] rfl) (H.keep [0, 3, 4, 5, 6] rfl rfl) hK10 ?_ ?_
      · clear hT H hK10
        rintro ⟨A, g, ad4, c4⟩ a w6 hJ hT H
        replace hT := hT.keep [5, 7, 30, 6, 4, 3, 0, 1] rfl
        replace H := H.keep [0, 1, 2, 3, 4, 5, 6] rfl rfl
        obtain ⟨hgr, hAl, hgl, hewA0⟩ := hJ
        have hAg : (A ++ [g]).length = A.length + 1 := by simp
        refine wp_seq_k fun K11 hK11 => ?_
        -- region 7 (sift.go:94)
        refine Sx.wp_text [(0, .take), (1, .take), (2, .take), (3, .take), (4, .take), (5, .take)] rfl ?_
        refine Sx.st_take hT rfl rfl rfl rfl (Sx.x_move hT rfl rfl) ?_
        clear hT; intro a hT
        refine Sx.st_take hT rfl rfl rfl rfl (Sx.x_move hT rfl rfl) ?_
        clear hT; intro a hT
        refine Sx.st_take hT rfl rfl rfl rfl (Sx.x_len_slice hT rfl rfl Try.underlying30 rfl) ?_
        clear hT; intro a hT
        refine Sx.st_take hT rfl rfl rfl rfl ((fun w => Sx.x_sub w hT rfl rfl rfl (Sx.wrap64 (by omega)))) ?_
        clear hT; intro a hT
        refine Sx.st_take hT rfl rfl rfl rfl (Sx.x_index (k := A.length) hT rfl Try.underlying30 Try.ti44 (H.row 0 rfl).sv rfl rfl (by first | rfl | omega) (by omega)) ?_
        clear hT; intro a hT
        refine Sx.st_take hT rfl rfl rfl rfl (Sx.x_assign hT rfl rfl) ?_
        clear hT; intro a hT
        replace hT := hT.keep [8, 5, 7, 30, 6, 4, 3, 0, 1] rfl
        refine Sx.ser_nil ?_
        refine Sx.then_normal (hK11 _ _ ?_)
        clear hK11
        refine wp_seq_k fun K12 hK12 => ?_
        -- region 8 (sift.go:95)
        replace H := H.famTake (x := g) (L' := A) 1 rfl (show (A ++ [g]).Perm (g :: A) from List.perm_append_comm) rfl
        replace H : Sx.Hp w S w6 (cR 50 4 g.ad g.ws.length g.c (g.ws.flatMap Wt.cells) :: _) := H
        refine Sx.wp_draws (fun u => Sx.Ext (Sx.No) u) [(0, .take), (1, .take), (2, .take), (3, .take), (4, .held), (5, .take), (6, .held), (7, .run), (8, .take), (9, .take), (10, .run)] (by kernel_rfl) (by kernel_rfl) (fun u E _ => ?_)
        replace H := H.pure E; clear E
        have hH : Sx.Ext (Sx.No) u u := Sx.Ext.refl _ _
        have Hu := H
        refine Sx.st_take hT rfl rfl rfl rfl (Sx.x_move hT rfl rfl) ?_
        clear hT; intro a hT
        refine Sx.st_take hT rfl rfl rfl rfl (Sx.x_move hT rfl rfl) ?_
        clear hT; intro a hT
        refine Sx.st_take hT rfl rfl rfl rfl (Sx.x_nilCheck hT rfl rfl) ?_
        clear hT; intro a hT
        refine Sx.st_take hT rfl rfl rfl rfl (Sx.x_fieldAddr hT rfl Try.fa44_2 rfl) ?_
        clear hT; intro a hT
        refine Sx.st_held hT rfl rfl rfl rfl hH (fun w' h' => Sx.x_load1 hT rfl Try.fl33 rfl (((Hu.heldR 1 rfl h' Sx.off_No).ssn rfl).cell (j := 6) En.len (show (A ++ [g])[A.length]? = some g by simp) rfl)) ?_
        clear hT; intro a hT
        refine Sx.st_take hT rfl rfl rfl rfl (Sx.x_fieldAddr hT rfl Try.fa35_4 rfl) ?_
        clear hT; intro a hT
        refine Sx.st_held hT rfl rfl rfl rfl hH (fun w' h' => Sx.x_load1 hT rfl Try.fl33 rfl ((Hu.heldB 3 rfl h' Sx.off_No).nth rfl)) ?_
        clear hT; intro a hT
        refine Sx.st_eff hT rfl rfl rfl rfl (Sx.x_append hT rfl rfl Try.underlying33 Try.ti50 rfl (by decide) rfl rfl (H.row 0 rfl) ((fam_fr (H.fam 7 rfl) o hom).sv) (fun u hu => flat_one Wt.one _ u hu) (rownil ((H.fam 7 rfl).row o hom)) (by unfold maxLen; omega) (by omega)) ?_
        rintro _ w7 ⟨ad7, c7, rfl, hr, E, hown, -⟩
        clear hT; intro a hT
        replace H := H.setR 0 rfl hr E hown rfl; clear hr E hown
        rw [tk_wws, show g.ws.length + o.ws.length = (g.ws ++ o.ws).length from List.length_append.symm] at H
        rw [show g.ws.length + o.ws.length = (g.ws ++ o.ws).length from List.length_append.symm] at hT
        refine Sx.st_take hT rfl rfl rfl rfl (Sx.x_nilCheck hT rfl rfl) ?_
        clear hT; intro a hT
        refine Sx.st_take hT rfl rfl rfl rfl (Sx.x_fieldAddr hT rfl Try.fa44_2 rfl) ?_
        clear hT; intro a hT
        refine Sx.st_act hT rfl rfl rfl (Sx.x_storeRowF (k := A.length) (j := 6) (enc := En.cells) (xs := A ++ [g]) (r := g) (r' := (⟨g.t, g.s, ad7, c7, g.ws ++ o.ws⟩ : En)) hT rfl Try.ti33 rfl rfl rfl En.len (H.row 1 rfl) (show (A ++ [g])[A.length]? = some g by simp) rfl (by decide) rfl) ?_
        rintro w8 ⟨hr, E, _⟩
        replace H := H.setR 1 rfl hr E (fun _ hk => .inl hk) rfl; clear hr E
        rw [show (A ++ [g]).set A.length (⟨g.t, g.s, ad7, c7, g.ws ++ o.ws⟩ : En) = A ++ [(⟨g.t, g.s, ad7, c7, g.ws ++ o.ws⟩ : En)] from by rw [List.set_append_right _ _ (Nat.le_refl _), Nat.sub_self]; rfl] at H
        rw [show (A ++ [g]).length = (A ++ [(⟨g.t, g.s, ad7, c7, g.ws ++ o.ws⟩ : En)]).length from by simp] at H hT
        replace H := H.famPut (x := (⟨g.t, g.s, ad7, c7, g.ws ++ o.ws⟩ : En)) 2 0 rfl rfl rfl rfl [1, 3, 4, 5, 6, 7] rfl rfl (show (A ++ [(⟨g.t, g.s, ad7, c7, g.ws ++ o.ws⟩ : En)]).Perm ((⟨g.t, g.s, ad7, c7, g.ws ++ o.ws⟩ : En) :: A) from List.perm_append_comm)
        replace hT := hT.keep [8, 5, 7, 30, 6, 4, 3, 0, 1] rfl
        clear Hu hH
        refine Sx.ser_calm ?_
        refine Sx.then_normal (hK12 _ _ ?_)
        clear hK12
        -- region 9 (sift.go:96)
        refine Sx.wp_text [(0, .take), (1, .take), (2, .take)] rfl ?_
        refine Sx.st_take hT rfl rfl rfl rfl (Sx.x_move hT rfl rfl) ?_
        clear hT; intro a hT
        refine Sx.st_take hT rfl rfl rfl rfl ((fun w => Sx.x_add w hT rfl rfl rfl (Sx.wrap64 (by omega)))) ?_
        clear hT; intro a hT
        refine Sx.st_take hT rfl rfl rfl rfl (Sx.x_assign hT rfl rfl) ?_
        clear hT; intro a hT
        replace hT := hT.keep [6, 8, 5, 7, 30, 4, 3, 0, 1] rfl
        refine Sx.ser_nil ?_
        refine Sx.block_normal ?_
        refine Sx.then_normal ?_
        have hew2 : ∀ e ∈ A ++ [(⟨g.t, g.s, ad7, c7, g.ws ++ o.ws⟩ : En)], e.ws.length ≤ 16 * (k + 1) := fun e he => by
          rcases List.mem_append.1 he with he | he
          · have := hewA0 e he; omega
          · rw [List.mem_singleton] at he; subst he; show (g.ws ++ o.ws).length ≤ _; rw [List.length_append]; omega
        exact ⟨(k + 1, A ++ [(⟨g.t, g.s, ad7, c7, g.ws ++ o.ws⟩ : En)], ad4, c4), ⟨by show k + 1 ≤ _; omega, by show (A ++ [(⟨g.t, g.s, ad7, c7, g.ws ++ o.ws⟩ : En)]).map En.p = _; rw [map_last, List.map_take, upto_snoc (show (L.map Fr.p)[k]? = some o.p by rw [List.getElem?_map, ho]; rfl), ← List.map_take, ← hEq]; exact hgr, fun t q h3 h4 => by rcases Nat.lt_or_ge t k with h5 | h5; exact hup t q h5 h4; obtain rfl : t = k := (by have : t < k + 1 := h3; omega); rw [ho] at h4; cases h4; exact hle9, by show List.length (A ++ _) ≤ k + 1; simp; omega, hew2⟩, (hT.keep [6, 5, 4, 3, 0, 1] rfl), (H.keep [0, 1, 3, 4, 5, 6] rfl rfl), by show _ - (k + 1) < _ - k; omega⟩
      · clear hK10; intro hJK10
        refine wp_seq_k fun K13 hK13 => ?_
        -- region 5 (sift.go:91)
        refine Sx.wp_draws (fun u => Sx.Ext (Sx.No) u) [(0, .take), (1, .take), (2, .take), (3, .take), (4, .take), (5, .take), (6, .take), (7, .take), (8, .take), (9, .take), (10, .held), (11, .take), (12, .held), (13, .take), (14, .take)] (by kernel_rfl) (by kernel_rfl) (fun u E _ => ?_)
        replace H := H.pure E; clear E
        have hH : Sx.Ext (Sx.No) u u := Sx.Ext.refl _ _
        have Hu := H
        refine Sx.st_take hT rfl rfl rfl rfl (Sx.x_move hT rfl rfl) ?_
        clear hT; intro a hT
        refine Sx.st_take hT rfl rfl rfl rfl (Sx.x_len_slice hT rfl rfl Try.underlying30 rfl) ?_
        clear hT; intro a hT
        refine Sx.st_take hT rfl rfl rfl rfl ((fun w => Sx.x_eq w hT rfl rfl rfl)) ?_
        clear hT; intro a hT
        refine Sx.st_take hT rfl rfl rfl rfl (Sx.x_move hT rfl rfl) ?_
        clear hT; intro a hT
        -- guard (5, 3)
        refine Sx.Sl.two hT 41 rfl (fun hc14 hT => ?_) (fun hc14 hT => ?_)
        · try simp only [decide_eq_true_eq, decide_eq_false_iff_not, Bool.not_eq_true', Bool.not_eq_false', Bool.not_eq_true, Bool.not_eq_false, Bool.and_eq_true, Bool.or_eq_false_iff, beq_iff_eq, bne_iff_ne, Int.not_lt, Int.not_le, ne_eq] at hc14
          have hE0l : E = [] := List.eq_nil_of_length_eq_zero (by omega)
          refine Sx.st_skip hT rfl rfl rfl rfl ?_
          clear hT; intro a hT
          refine Sx.st_skip hT rfl rfl rfl rfl ?_
          clear hT; intro a hT
          refine Sx.st_skip hT rfl rfl rfl rfl ?_
          clear hT; intro a hT
          refine Sx.st_skip hT rfl rfl rfl rfl ?_
          clear hT; intro a hT
          refine Sx.st_skip hT rfl rfl rfl rfl ?_
          clear hT; intro a hT
          refine Sx.st_skip hT rfl rfl rfl rfl ?_
          clear hT; intro a hT
          refine Sx.st_heldskip hT rfl rfl rfl rfl hH ?_
          clear hT; intro a hT
          refine Sx.st_skip hT rfl rfl rfl rfl ?_
          clear hT; intro a hT
          refine Sx.st_heldskip hT rfl rfl rfl rfl hH ?_
          clear hT; intro a hT
          refine Sx.st_skip hT rfl rfl rfl rfl ?_
          clear hT; intro a hT
          refine Sx.st_take hT rfl rfl rfl rfl (Sx.x_pick_t hT rfl rfl rfl) ?_
          clear hT; intro a hT
          replace hT := hT.keep [52, 7, 30, 6, 5, 4, 3, 0, 1] rfl
          clear Hu hH
          refine Sx.ser_calm ?_
          refine Sx.then_normal (hK13 _ _ ?_)
          clear hK13
          refine Sx.wp_if hT rfl (fun _ => ?_) (fun h => by cases h)
          have hnw : E.map En.p = [] ∨ ∃ A g, E.map En.p = A ++ [g] ∧ g.t ≠ (Fr.p o).t := .inl (by rw [hE0l]; rfl)
          -- region 6 (sift.go:92)
          refine Sx.wp_text [(0, .take), (1, .take), (2, .run), (3, .take), (4, .run), (5, .take), (6, .run), (7, .run), (8, .take)] rfl ?_
          refine Sx.st_take hT rfl rfl rfl rfl (Sx.x_move hT rfl rfl) ?_
          clear hT; intro a hT
          refine Sx.st_take hT rfl rfl rfl rfl (Sx.x_fieldAddr hT rfl Try.fa35_2 rfl) ?_
          clear hT; intro a hT
          refine Sx.st_run hT rfl rfl rfl rfl (Sx.y_loadS hT rfl Try.underlying32 Try.ti32 rfl ((H.blk 0 rfl).seg (k := 3) rfl) (by rfl)) ?_
          clear hT; intro a hT
          refine Sx.st_take hT rfl rfl rfl rfl (Sx.x_fieldAddr hT rfl Try.fa35_3 rfl) ?_
          clear hT; intro a hT
          refine Sx.st_run hT rfl rfl rfl rfl (Sx.y_loadS hT rfl Try.underlying28 Try.ti28 rfl ((H.blk 0 rfl).seg (k := 3) rfl) (by rfl)) ?_
          clear hT; intro a hT
          refine Sx.st_take hT rfl rfl rfl rfl (Sx.x_bld hT rfl Try.bld44 rfl rfl) ?_
          clear hT; intro a hT
          refine Sx.st_eff hT rfl rfl rfl rfl (Sx.y_slice1 hT rfl Try.underlying30 Try.ti44 rfl rfl rfl rfl rfl rfl _) ?_
          clear hT; rintro _ w9 ⟨b3, rfl, N⟩ a hT
          replace H := H.new N; clear N
          refine Sx.st_eff hT rfl rfl rfl rfl (Sx.x_append hT rfl rfl Try.underlying30 Try.ti44 rfl (by decide) rfl rfl (H.row 3 rfl) ((H.blk 0 rfl).sv1 rfl) (by simp [Value.oneCell']) (fun h => by cases h) (by unfold maxLen; omega) (by omega)) ?_
          rintro _ w10 ⟨ad10, c10, rfl, hr, E, hown, -⟩
          clear hT; intro a hT
          replace H := H.setR 3 rfl hr E hown rfl; clear hr E hown
          rw [snoc_en] at H
          rw [show E.length + 1 = (E ++ [(⟨o.t, o.s, none, 0, []⟩ : En)]).length from by simp] at H hT
          replace H := H.nilR 50 4
          replace H := H.famPut (x := (⟨o.t, o.s, none, 0, []⟩ : En)) 3 0 rfl rfl rfl rfl [1, 2, 4, 5, 6, 7, 8] rfl rfl (show (E ++ [(⟨o.t, o.s, none, 0, []⟩ : En)]).Perm ((⟨o.t, o.s, none, 0, []⟩ : En) :: E) from List.perm_append_comm)
          refine Sx.st_take hT rfl rfl rfl rfl (Sx.x_assign hT rfl rfl) ?_
          clear hT; intro a hT
          replace hT := hT.keep [5, 52, 7, 30, 6, 4, 3, 0, 1] rfl
          refine Sx.ser_nil ?_
          skip
          exact Sx.then_normal (hJK10 (E, (⟨o.t, o.s, none, 0, []⟩ : En), ad10, c10) _ _ ⟨by rw [grp_new hnw]; rfl, by omega, Nat.zero_le _, hew⟩ (hT.keep [5, 7, 30, 6, 4, 3, 0, 1] rfl) (H.keep [3, 0, 2, 4, 5, 6, 7] rfl rfl))
        · try simp only [decide_eq_true_eq, decide_eq_false_iff_not, Bool.not_eq_true', Bool.not_eq_false', Bool.not_eq_true, Bool.not_eq_false, Bool.and_eq_true, Bool.or_eq_false_iff, beq_iff_eq, bne_iff_ne, Int.not_lt, Int.not_le, ne_eq] at hc14
          obtain ⟨A0, g0, hE0⟩ : ∃ A g, E = A ++ [g] := ⟨E.dropLast, E.getLast (fun h9 => by rw [h9] at hc14; simp at hc14), (List.dropLast_concat_getLast _).symm⟩
          have hg0 : E[E.length - 1]? = some g0 := by rw [hE0]; simp
          have hEn : 0 < E.length := by rw [hE0]; simp
          refine Sx.st_take hT rfl rfl rfl rfl (Sx.x_move hT rfl rfl) ?_
          clear hT; intro a hT
          refine Sx.st_take hT rfl rfl rfl rfl (Sx.x_move hT rfl rfl) ?_
          clear hT; intro a hT
          refine Sx.st_take hT rfl rfl rfl rfl (Sx.x_len_slice hT rfl rfl Try.underlying30 rfl) ?_
          clear hT; intro a hT
          refine Sx.st_take hT rfl rfl rfl rfl ((fun w => Sx.x_sub w hT rfl rfl rfl (Sx.wrap64 (by omega)))) ?_
          clear hT; intro a hT
          refine Sx.st_take hT rfl rfl rfl rfl (Sx.x_index (k := E.length - 1) hT rfl Try.underlying30 Try.ti44 (H.row 2 rfl).sv rfl rfl (by first | rfl | omega) (by omega)) ?_
          clear hT; intro a hT
          refine Sx.st_take hT rfl rfl rfl rfl (Sx.x_fieldAddr hT rfl Try.fa44_0 rfl) ?_
          clear hT; intro a hT
          refine Sx.st_held hT rfl rfl rfl rfl hH (fun w' h' => Sx.y_loadS hT rfl Try.underlying32 Try.ti32 rfl ((((Hu.heldR 2 rfl h' Sx.off_No).ssn rfl).cs En.len hg0).seg (i := 0) (k := 3) rfl) (by rfl)) ?_
          clear hT; intro a hT
          refine Sx.st_take hT rfl rfl rfl rfl (Sx.x_fieldAddr hT rfl Try.fa35_2 rfl) ?_
          clear hT; intro a hT
          refine Sx.st_held hT rfl rfl rfl rfl hH (fun w' h' => Sx.y_loadS hT rfl Try.underlying32 Try.ti32 rfl ((Hu.heldB 0 rfl h' Sx.off_No).seg (k := 3) rfl) (by rfl)) ?_
          clear hT; intro a hT
          refine Sx.st_take hT rfl rfl rfl rfl (Sx.x_neS hT rfl (by kernel_rfl) (Try.eq32 _ _ _ _ _ _) rfl rfl rfl) ?_
          clear hT; intro a hT
          refine Sx.st_take hT rfl rfl rfl rfl (Sx.x_pick_f hT rfl rfl rfl) ?_
          clear hT; intro a hT
          replace hT := hT.keep [52, 7, 30, 6, 5, 4, 3, 0, 1] rfl
          clear Hu hH
          refine Sx.ser_calm ?_
          refine Sx.then_normal (hK13 _ _ ?_)
          clear hK13
          -- cond 1
          refine Sx.wp_if hT rfl (fun hc15 => ?_) (fun hc15 => ?_)
          · try simp only [decide_eq_true_eq, decide_eq_false_iff_not, Bool.not_eq_true', Bool.not_eq_false', Bool.not_eq_true, Bool.not_eq_false, Bool.and_eq_true, Bool.or_eq_false_iff, beq_iff_eq, bne_iff_ne, Int.not_lt, Int.not_le, ne_eq] at hc15
            have hnw : E.map En.p = [] ∨ ∃ A g, E.map En.p = A ++ [g] ∧ g.t ≠ (Fr.p o).t := .inr ⟨A0.map En.p, g0.p, by rw [hE0, map_last], by show g0.t ≠ o.t; rw [Ne, tn_iff]; simpa using hc15⟩
            -- region 6 (sift.go:92)
            refine Sx.wp_text [(0, .take), (1, .take), (2, .run), (3, .take), (4, .run), (5, .take), (6, .run), (7, .run), (8, .take)] rfl ?_
            refine Sx.st_take hT rfl rfl rfl rfl (Sx.x_move hT rfl rfl) ?_
            clear hT; intro a hT
            refine Sx.st_take hT rfl rfl rfl rfl (Sx.x_fieldAddr hT rfl Try.fa35_2 rfl) ?_
            clear hT; intro a hT
            refine Sx.st_run hT rfl rfl rfl rfl (Sx.y_loadS hT rfl Try.underlying32 Try.ti32 rfl ((H.blk 0 rfl).seg (k := 3) rfl) (by rfl)) ?_
            clear hT; intro a hT
            refine Sx.st_take hT rfl rfl rfl rfl (Sx.x_fieldAddr hT rfl Try.fa35_3 rfl) ?_
            clear hT; intro a hT
            refine Sx.st_run hT rfl rfl rfl rfl (Sx.y_loadS hT rfl Try.underlying28 Try.ti28 rfl ((H.blk 0 rfl).seg (k := 3) rfl) (by rfl)) ?_
            clear hT; intro a hT
            refine Sx.st_take hT rfl rfl rfl rfl (Sx.x_bld hT rfl Try.bld44 rfl rfl) ?_
            clear hT; intro a hT
            refine Sx.st_eff hT rfl rfl rfl rfl (Sx.y_slice1 hT rfl Try.underlying30 Try.ti44 rfl rfl rfl rfl rfl rfl _) ?_
            clear hT; rintro _ w11 ⟨b4, rfl, N⟩ a hT
            replace H := H.new N; clear N
            refine Sx.st_eff hT rfl rfl rfl rfl (Sx.x_append hT rfl rfl Try.underlying30 Try.ti44 rfl (by decide) rfl rfl (H.row 3 rfl) ((H.blk 0 rfl).sv1 rfl) (by simp [Value.oneCell']) (fun h => by cases h) (by unfold maxLen; omega) (by omega)) ?_
            rintro _ w12 ⟨ad12, c12, rfl, hr, E, hown, -⟩
            clear hT; intro a hT
            replace H := H.setR 3 rfl hr E hown rfl; clear hr E hown
            rw [snoc_en] at H
            rw [show E.length + 1 = (E ++ [(⟨o.t, o.s, none, 0, []⟩ : En)]).length from by simp] at H hT
            replace H := H.nilR 50 4
            replace H := H.famPut (x := (⟨o.t, o.s, none, 0, []⟩ : En)) 3 0 rfl rfl rfl rfl [1, 2, 4, 5, 6, 7, 8] rfl rfl (show (E ++ [(⟨o.t, o.s, none, 0, []⟩ : En)]).Perm ((⟨o.t, o.s, none, 0, []⟩ : En) :: E) from List.perm_append_comm)
            refine Sx.st_take hT rfl rfl rfl rfl (Sx.x_assign hT rfl rfl) ?_
            clear hT; intro a hT
            replace hT := hT.keep [5, 52, 7, 30, 6, 4, 3, 0, 1] rfl
            refine Sx.ser_nil ?_
            skip
            exact Sx.then_normal (hJK10 (E, (⟨o.t, o.s, none, 0, []⟩ : En), ad12, c12) _ _ ⟨by rw [grp_new hnw]; rfl, by omega, Nat.zero_le _, hew⟩ (hT.keep [5, 7, 30, 6, 4, 3, 0, 1] rfl) (H.keep [3, 0, 2, 4, 5, 6, 7] rfl rfl))
          · try simp only [decide_eq_true_eq, decide_eq_false_iff_not, Bool.not_eq_true', Bool.not_eq_false', Bool.not_eq_true, Bool.not_eq_false, Bool.and_eq_true, Bool.or_eq_false_iff, beq_iff_eq, bne_iff_ne, Int.not_lt, Int.not_le, ne_eq] at hc15
            have hst : g0.t = o.t := by rw [tn_iff]; simpa using hc15
            refine wp_skip ?_
            rw [hE0] at H hT
            exact Sx.then_normal (hJK10 (A0, g0, ad2, c2) _ _ ⟨by rw [hE0, map_last, grp_same (f := o.p) (show (En.p g0).t = o.p.t from hst)]; rfl, by rw [hE0, List.length_append] at hEl; simp at hEl; omega, hew g0 (by rw [hE0]; simp), fun e he => hew e (by rw [hE0]; simp [he])⟩ (hT.keep [5, 7, 30, 6, 4, 3, 0, 1] rfl) (H.keep [2, 1, 0, 3, 4, 5, 6] rfl rfl))
    · try simp only [decide_eq_true_eq, decide_eq_false_iff_not, Bool.not_eq_true', Bool.not_eq_false', Bool.not_eq_true, Bool.not_eq_false, Bool.and_eq_true, Bool.or_eq_false_iff, beq_iff_eq, bne_iff_ne, Int.not_lt, Int.not_le, ne_eq] at hc8
      have hcn : cntS at_ (L.map Fr.p) = k := cntS_eq (fun t q h3 h4 => by rw [List.getElem?_map] at h4; cases h5 : L[t]? with | none => rw [h5] at h4; cases h4 | some y => rw [h5] at h4; cases h4; exact hup t y h3 h5) (fun q h4 => by rw [List.getElem?_map] at h4; cases h5 : L[k]? with | none => rw [h5] at h4; cases h4 | some y => rw [h5] at h4; cases h4; rw [ho] at h5; cases h5; show ¬ cmpS o.s at_ ≤ 0; omega) (by rw [List.length_map]; omega)
      refine wp_exit ?_
      refine Sx.then_exit ?_
      refine Sx.then_exit ?_
      refine Sx.block_exit ?_
      refine Sx.then_normal (hK4 _ _ ?_)
      clear hK4
      refine wp_seq_k fun K16 hK16 => ?_
      -- region 10 (sift.go:98)
      refine Sx.wp_text [(0, .take), (1, .take), (2, .take), (3, .take), (4, .run), (5, .take), (6, .run), (7, .take), (8, .take), (9, .run)] rfl ?_
      refine Sx.st_take hT rfl rfl rfl rfl (Sx.x_move hT rfl rfl) ?_
      clear hT; intro a hT
      refine Sx.st_take hT rfl rfl rfl rfl (Sx.x_move hT rfl rfl) ?_
      clear hT; intro a hT
      refine Sx.st_take hT rfl rfl rfl rfl (Sx.x_nilCheck hT rfl rfl) ?_
      clear hT; intro a hT
      refine Sx.st_take hT rfl rfl rfl rfl (Sx.x_fieldAddr hT rfl Try.fa68_0 rfl) ?_
      clear hT; intro a hT
      refine Sx.st_run hT rfl rfl rfl rfl (Sx.x_load1 hT rfl Try.fl29 rfl ((H.blk 3 rfl).nth rfl)) ?_
      clear hT; intro a hT
      refine Sx.st_take hT rfl rfl rfl rfl (Sx.x_move hT rfl rfl) ?_
      clear hT; intro a hT
      refine Sx.st_call hT rfl rfl rfl rfl rfl Try.can37 rfl (frDelete ad L.length c 0 k (L.flatMap Fr.cells) _ (H.row 4 rfl) (fun u hu => flat_one Fr.one _ u hu) (Nat.zero_le _) (by omega) (by omega)) ?_
      rintro _ w13 ⟨rfl, hr, E9⟩
      refine ⟨_, rfl, ?_⟩
      clear hT; intro a hT
      replace H := H.setR 4 rfl hr E9 (fun _ h9 => .inl h9) rfl; clear hr E9
      rw [Nat.zero_mul, List.take_zero, List.nil_append, cut_f (by omega), show 0 + (L.length - k) = (L.drop k).length from by rw [List.length_drop]; omega] at H
      rw [show 0 + (L.length - k) = (L.drop k).length from by rw [List.length_drop]; omega] at hT
      replace H := H.famSub 5 rfl (L' := L.drop k) (M := L.take k) (by rw [show L.Perm (L.drop k ++ L.take k) = (L.take k ++ L.drop k).Perm (L.drop k ++ L.take k) from by rw [List.take_append_drop]]; exact List.perm_append_comm) rfl
      refine Sx.st_take hT rfl rfl rfl rfl (Sx.x_nilCheck hT rfl rfl) ?_
      clear hT; intro a hT
      refine Sx.st_take hT rfl rfl rfl rfl (Sx.x_fieldAddr hT rfl Try.fa68_0 rfl) ?_
      clear hT; intro a hT
      refine Sx.st_act hT rfl rfl rfl (Sx.y_store1 hT rfl Try.ti29 rfl rfl rfl (H.blk 3 rfl) rfl) ?_
      rintro w14 ⟨hb, E, _⟩
      replace H := H.setB 3 rfl hb E rfl; clear hb E
      replace hT := hT.keep [30, 6, 5, 4, 3, 0, 1] rfl
      refine Sx.ser_nil ?_
      refine Sx.then_normal (hK16 _ _ ?_)
      clear hK16
      refine wp_seq_k fun K17 hK17 => ?_
      refine wp_seq_k fun K18 hK18 => ?_
      -- region 11 (sift.go:99)
      refine Sx.wp_text [(0, .take), (1, .take), (2, .take)] rfl ?_
      refine Sx.st_take hT rfl rfl rfl rfl (Sx.x_move hT rfl rfl) ?_
      clear hT; intro a hT
      refine Sx.st_take hT rfl rfl rfl rfl (Sx.x_len_slice hT rfl rfl Try.underlying30 rfl) ?_
      clear hT; intro a hT
      refine Sx.st_take hT rfl rfl rfl rfl (Sx.x_move hT rfl rfl) ?_
      clear hT; intro a hT
      replace hT := hT.keep [89, 88, 87, 30, 6, 5, 4, 3, 0, 1] rfl
      refine Sx.ser_nil ?_
      refine Sx.then_normal (hK18 _ _ ?_)
      clear hK18
      refine wp_block ?_
      have hgi0 : ∀ e ∈ E, DisW e.ws ∧ (∀ x ∈ e.ws, x.key.length ≤ 24) ∧ 1 ≤ e.ws.length ∧ e.ws.length ≤ 1000000 := upto_bd hHd hk hEq (by omega)
      -- loop 1
      refine Sx.wp_loopH (G := Nat × List En) (fun ⟨k2, E1⟩ => [(89, .int .i64 (k2 : Int))]) (fun ⟨k2, E1⟩ => [cF 50 4 En.rw (E1)]) (fun ⟨k2, E1⟩ => k2 ≤ E1.length ∧ E1.length = E.length ∧ E1.flatMap En.cells = E.flatMap En.cells ∧ (∀ e ∈ E1, DisW e.ws ∧ (∀ x ∈ e.ws, x.key.length ≤ 24) ∧ 1 ≤ e.ws.length ∧ e.ws.length ≤ 1000000) ∧ E1.map En.p = ((E.map En.p).take k2).map srtE ++ (E.map En.p).drop k2) (fun ⟨k2, E1⟩ => E1.length - k2) (0, E) (hT.keep [89, 88, 87, 30, 6, 5, 4, 3, 0, 1] rfl) (H.keep [0, 1, 2, 3, 4, 5] rfl rfl) (⟨Nat.zero_le _, rfl, rfl, hgi0, (by rw [List.take_zero, List.drop_zero]; rfl)⟩) ?_
      clear hT H
      rintro ⟨k2, E1⟩ a w15 hJ hT H
      replace hT := hT.keep [89, 88, 87, 30, 6, 5, 4, 3, 0, 1] rfl
      replace H := H.keep [0, 1, 2, 3, 4, 5] rfl rfl
      obtain ⟨hk2, hE1l, hE1c, hgi, hE1p⟩ := hJ
      refine wp_seq_k fun K19 hK19 => ?_
      -- region 12 (sift.go:99)
      refine Sx.wp_text [(0, .take)] rfl ?_
      refine Sx.st_take hT rfl rfl rfl rfl ((fun w => Sx.x_lt w hT rfl rfl rfl)) ?_
      clear hT; intro a hT
      replace hT := hT.keep [90, 89, 88, 87, 30, 6, 5, 4, 3, 0, 1] rfl
      refine Sx.ser_nil ?_
      refine Sx.then_normal (hK19 _ _ ?_)
      clear hK19
      refine wp_seq_k fun K20 hK20 => ?_
      -- cond 2
      refine Sx.wp_if hT rfl (fun hc21 => ?_) (fun hc21 => ?_)
      · try simp only [decide_eq_true_eq, decide_eq_false_iff_not, Bool.not_eq_true', Bool.not_eq_false', Bool.not_eq_true, Bool.not_eq_false, Bool.and_eq_true, Bool.or_eq_false_iff, beq_iff_eq, bne_iff_ne, Int.not_lt, Int.not_le, ne_eq] at hc21
        obtain ⟨y, hy⟩ : ∃ o, E1[k2]? = some o := ⟨_, List.getElem?_eq_getElem (by omega)⟩
        have hym := List.mem_of_getElem? hy
        have hyb := hgi y hym
        have hyb1 := hyb.2.2.1
        have hyb2 := hyb.2.2.2
        refine wp_skip ?_
        refine Sx.then_normal (hK20 _ _ ?_)
        clear hK20
        refine wp_seq_k fun K22 hK22 => ?_
        refine wp_block ?_
        refine wp_seq_k fun K23 hK23 => ?_
        -- region 13 (sift.go:99)
        refine Sx.wp_text [(0, .take), (1, .run), (2, .run), (3, .run)] rfl ?_
        refine Sx.st_take hT rfl rfl rfl rfl (Sx.x_index (k := k2) hT rfl Try.underlying30 Try.ti44 (H.row 1 rfl).sv rfl rfl (by first | rfl | omega) (by omega)) ?_
        clear hT; intro a hT
        refine Sx.st_run hT rfl rfl rfl rfl (Sx.y_loadS hT rfl Try.underlying44 Try.ti44 rfl ((row_ssnc (H.row 1 rfl) hE1c hE1l).cs En.len hy) (by rfl)) ?_
        clear hT; intro a hT
        refine Sx.st_eff hT rfl rfl rfl rfl (Sx.y_alloc hT rfl Try.ti44 rfl _) ?_
        clear hT; rintro _ w16 ⟨b5, rfl, N⟩ a hT
        replace H := H.new N; clear N
        refine Sx.st_act hT rfl rfl rfl (Sx.y_storeS hT rfl Try.ti44 rfl rfl rfl rfl rfl (H.blk 0 rfl) rfl) ?_
        rintro w17 ⟨hb, E, _⟩
        replace H := H.setB 0 rfl hb E rfl; clear hb E
        replace hT := hT.keep [10, 90, 89, 88, 87, 30, 6, 5, 4, 3, 0, 1] rfl
        refine Sx.ser_nil ?_
        refine Sx.then_normal (hK23 _ _ ?_)
        clear hK23
        -- region 14 (sift.go:100)
        refine Sx.wp_text [(0, .take), (1, .run), (2, .run)] rfl ?_
        refine Sx.st_take hT rfl rfl rfl rfl (Sx.x_fieldAddr hT rfl Try.fa44_2 rfl) ?_
        clear hT; intro a hT
        refine Sx.st_run hT rfl rfl rfl rfl (Sx.x_load1 hT rfl Try.fl33 rfl ((H.blk 0 rfl).nth rfl)) ?_
        clear hT; intro a hT
        refine Sx.st_call hT rfl rfl rfl rfl rfl Try.can38 rfl (SortW_calls y.ws ((H.fam 1 rfl).row y hym) rfl (by omega) (by omega)) ?_
        rintro _ w18 ⟨rfl, ws9, hp9, hs9, hr9, E9⟩
        refine ⟨_, rfl, ?_⟩
        clear hT; intro a hT
        have hwl9 := hp9.length_eq
        replace H := H.famSet (y := (⟨y.t, y.s, y.ad, y.c, ws9⟩ : En)) 1 rfl hy (by rw [show (En.rw ⟨y.t, y.s, y.ad, y.c, ws9⟩).n = (En.rw y).n from hwl9]; exact hr9) E9 (fun _ h9 => .inl h9) rfl; clear hr9 E9
        replace hT := hT.keep [10, 90, 89, 88, 87, 30, 6, 5, 4, 3, 0, 1] rfl
        refine Sx.ser_nil ?_
        refine Sx.block_normal ?_
        refine Sx.then_normal (hK22 _ _ ?_)
        clear hK22
        -- region 15 (sift.go:99)
        refine Sx.wp_text [(0, .take), (1, .take)] rfl ?_
        refine Sx.st_take hT rfl rfl rfl rfl ((fun w => Sx.x_add w hT rfl rfl rfl (Sx.wrap64 (by omega)))) ?_
        clear hT; intro a hT
        refine Sx.st_take hT rfl rfl rfl rfl (Sx.x_move hT rfl rfl) ?_
        clear hT; intro a hT
        replace hT := hT.keep [89, 10, 90, 88, 87, 30, 6, 5, 4, 3, 0, 1] rfl
        refine Sx.ser_nil ?_
        refine Sx.then_normal ?_
        have hcy : (En.cells ⟨y.t, y.s, y.ad, y.c, ws9⟩) = y.cells := by simp [En.cells, hwl9]
        have hsw : ws9 = sortW y.ws := sortW_of hyb.1 hp9 (hs9.imp_of_mem fun {u v} hu hv h9 h8 => h9 (ltK_short (hyb.2.1 v (hp9.mem_iff.1 hv)) (hyb.2.1 u (hp9.mem_iff.1 hu)) h8))
        exact ⟨(k2 + 1, E1.set k2 (⟨y.t, y.s, y.ad, y.c, ws9⟩ : En)), ⟨by show k2 + 1 ≤ (E1.set _ _).length; rw [List.length_set]; omega, by show (E1.set _ _).length = _; rw [List.length_set, hE1l], by show (E1.set _ _).flatMap _ = _; rw [set_cells hy hcy, hE1c], upto_set hgi hyb hp9, upto_nx hE1p hy hsw hE1l⟩, (hT.keep [89, 88, 87, 30, 6, 5, 4, 3, 0, 1] rfl), (H.keep [1, 2, 3, 4, 5, 6] rfl rfl), by show (E1.set _ _).length - (k2 + 1) < _ - k2; rw [List.length_set]; omega⟩
      · try simp only [decide_eq_true_eq, decide_eq_false_iff_not, Bool.not_eq_true', Bool.not_eq_false', Bool.not_eq_true, Bool.not_eq_false, Bool.and_eq_true, Bool.or_eq_false_iff, beq_iff_eq, bne_iff_ne, Int.not_lt, Int.not_le, ne_eq] at hc21
        have hkE : k2 = E1.length := by omega
        refine wp_exit ?_
        refine Sx.then_exit ?_
        refine Sx.then_exit ?_
        refine Sx.block_exit ?_
        refine Sx.then_normal (hK17 _ _ ?_)
        clear hK17
        refine wp_seq_k fun K24 hK24 => ?_
        -- region 16 (sift.go:102)
        refine Sx.wp_text [(0, .take), (1, .take)] rfl ?_
        refine Sx.st_take hT rfl rfl rfl rfl (Sx.x_move hT rfl rfl) ?_
        clear hT; intro a hT
        refine Sx.st_take hT rfl rfl rfl rfl (Sx.x_assign hT rfl rfl) ?_
        clear hT; intro a hT
        replace hT := hT.keep [4, 90, 89, 88, 87, 30, 6, 5, 3, 0, 1] rfl
        refine Sx.ser_nil ?_
        refine Sx.then_normal (hK24 _ _ ?_)
        clear hK24
        refine wp_ret ?_
        refine Sx.done1 (fn := Try.f13) hT rfl (.tmp (hT.get 4 _ rfl)) ?_
        refine ⟨ad, c, E1, ad2, c2, L.drop k, by rw [hE1l], ?_, ?_, drop_cnt hcn⟩
        · have H9 := H.keep [3, 4, 5, 1, 0] rfl rfl
          rw [← hE1c, ← hE1l] at H9
          exact H9
        · rw [hE1p, hkE, hE1l, List.take_of_length_le (by rw [List.length_map]; exact Nat.le_refl _), List.drop_eq_nil_of_le (by rw [List.length_map]; exact Nat.le_refl _), List.append_nil, hEq, List.map_take]
          unfold uptoE
          rw [hcn]
  · try simp only [decide_eq_true_eq, decide_eq_false_iff_not, Bool.not_eq_true', Bool.not_eq_false', Bool.not_eq_true, Bool.not_eq_false, Bool.and_eq_true, Bool.or_eq_false_iff, beq_iff_eq, bne_iff_ne, Int.not_lt, Int.not_le, ne_eq] at hc7
    refine Sx.st_skip hT rfl rfl rfl rfl ?_
    clear hT; intro a hT
    refine Sx.st_skip hT rfl rfl rfl rfl ?_
    clear hT; intro a hT
    refine Sx.st_skip hT rfl rfl rfl rfl ?_
    clear hT; intro a hT
    refine Sx.st_heldskip hT rfl rfl rfl rfl hH ?_
    clear hT; intro a hT
    refine Sx.st_skip hT rfl rfl rfl rfl ?_
    clear hT; intro a hT
    refine Sx.st_skip hT rfl rfl rfl rfl ?_
    clear hT; intro a hT
    refine Sx.st_skip hT rfl rfl rfl rfl ?_
    clear hT; intro a hT
    refine Sx.st_heldskip hT rfl rfl rfl rfl hH ?_
    clear hT; intro a hT
    refine Sx.st_heldskip hT rfl rfl rfl rfl hH ?_
    clear hT; intro a hT
    refine Sx.st_runskip hT rfl rfl rfl rfl ?_
    clear hT; intro a hT
    refine Sx.st_skip hT rfl rfl rfl rfl ?_
    clear hT; intro a hT
    refine Sx.st_take hT rfl rfl rfl rfl (Sx.x_pick_f hT rfl rfl rfl) ?_
    clear hT; intro a hT
    replace hT := hT.keep [30, 6, 5, 4, 3, 0, 1] rfl
    clear Hu hH
    refine Sx.ser_calm ?_
    refine Sx.then_normal (hK6 _ _ ?_)
    clear hK6
    refine Sx.wp_if hT rfl (fun h => by cases h) (fun _ => ?_)
    have hcn : cntS at_ (L.map Fr.p) = k := cntS_eq (fun t q h3 h4 => by rw [List.getElem?_map] at h4; cases h5 : L[t]? with | none => rw [h5] at h4; cases h4 | some y => rw [h5] at h4; cases h4; exact hup t y h3 h5) (fun q h4 => by rw [List.getElem?_map] at h4; cases h5 : L[k]? with | none => rw [h5] at h4; cases h4 | some y => rw [h5] at h4; cases h4; have := (List.getElem?_eq_some_iff.1 h5).1; omega) (by rw [List.length_map]; omega)
    refine wp_exit ?_
    refine Sx.then_exit ?_
    refine Sx.then_exit ?_
    refine Sx.block_exit ?_
    refine Sx.then_normal (hK4 _ _ ?_)
    clear hK4
    refine wp_seq_k fun K25 hK25 => ?_
    -- region 10 (sift.go:98)
    refine Sx.wp_text [(0, .take), (1, .take), (2, .take), (3, .take), (4, .run), (5, .take), (6, .run), (7, .take), (8, .take), (9, .run)] rfl ?_
    refine Sx.st_take hT rfl rfl rfl rfl (Sx.x_move hT rfl rfl) ?_
    clear hT; intro a hT
    refine Sx.st_take hT rfl rfl rfl rfl (Sx.x_move hT rfl rfl) ?_
    clear hT; intro a hT
    refine Sx.st_take hT rfl rfl rfl rfl (Sx.x_nilCheck hT rfl rfl) ?_
    clear hT; intro a hT
    refine Sx.st_take hT rfl rfl rfl rfl (Sx.x_fieldAddr hT rfl Try.fa68_0 rfl) ?_
    clear hT; intro a hT
    refine Sx.st_run hT rfl rfl rfl rfl (Sx.x_load1 hT rfl Try.fl29 rfl ((H.blk 3 rfl).nth rfl)) ?_
    clear hT; intro a hT
    refine Sx.st_take hT rfl rfl rfl rfl (Sx.x_move hT rfl rfl) ?_
    clear hT; intro a hT
    refine Sx.st_call hT rfl rfl rfl rfl rfl Try.can37 rfl (frDelete ad L.length c 0 k (L.flatMap Fr.cells) _ (H.row 4 rfl) (fun u hu => flat_one Fr.one _ u hu) (Nat.zero_le _) (by omega) (by omega)) ?_
    rintro _ w19 ⟨rfl, hr, E9⟩
    refine ⟨_, rfl, ?_⟩
    clear hT; intro a hT
    replace H := H.setR 4 rfl hr E9 (fun _ h9 => .inl h9) rfl; clear hr E9
    rw [Nat.zero_mul, List.take_zero, List.nil_append, cut_f (by omega), show 0 + (L.length - k) = (L.drop k).length from by rw [List.length_drop]; omega] at H
    rw [show 0 + (L.length - k) = (L.drop k).length from by rw [List.length_drop]; omega] at hT
    replace H := H.famSub 5 rfl (L' := L.drop k) (M := L.take k) (by rw [show L.Perm (L.drop k ++ L.take k) = (L.take k ++ L.drop k).Perm (L.drop k ++ L.take k) from by rw [List.take_append_drop]]; exact List.perm_append_comm) rfl
    refine Sx.st_take hT rfl rfl rfl rfl (Sx.x_nilCheck hT rfl rfl) ?_
    clear hT; intro a hT
    refine Sx.st_take hT rfl rfl rfl rfl (Sx.x_fieldAddr hT rfl Try.fa68_0 rfl) ?_
    clear hT; intro a hT
    refine Sx.st_act hT rfl rfl rfl (Sx.y_store1 hT rfl Try.ti29 rfl rfl rfl (H.blk 3 rfl) rfl) ?_
    rintro w20 ⟨hb, E, _⟩
    replace H := H.setB 3 rfl hb E rfl; clear hb E
    replace hT := hT.keep [30, 6, 5, 4, 3, 0, 1] rfl
    refine Sx.ser_nil ?_
    refine Sx.then_normal (hK25 _ _ ?_)
    clear hK25
    refine wp_seq_k fun K26 hK26 => ?_
    refine wp_seq_k fun K27 hK27 => ?_
    -- region 11 (sift.go:99)
    refine Sx.wp_text [(0, .take), (1, .take), (2, .take)] rfl ?_
    refine Sx.st_take hT rfl rfl rfl rfl (Sx.x_move hT rfl rfl) ?_
    clear hT; intro a hT
    refine Sx.st_take hT rfl rfl rfl rfl (Sx.x_len_slice hT rfl rfl Try.underlying30 rfl) ?_
    clear hT; intro a hT
    refine Sx.st_take hT rfl rfl rfl rfl (Sx.x_move hT rfl rfl) ?_
    clear hT; intro a hT
    replace hT := hT.keep [89, 88, 87, 30, 6, 5, 4, 3, 0, 1] rfl
    refine Sx.ser_nil ?_
    refine Sx.then_normal (hK27 _ _ ?_)
    clear hK27
    refine wp_block ?_
    have hgi0 : ∀ e ∈ E, DisW e.ws ∧ (∀ x ∈ e.ws, x.key.length ≤ 24) ∧ 1 ≤ e.ws.length ∧ e.ws.length ≤ 1000000 := upto_bd hHd hk hEq (by omega)
    -- loop 1
    refine Sx.wp_loopH (G := Nat × List En) (fun ⟨k2, E1⟩ => [(89, .int .i64 (k2 : Int))]) (fun ⟨k2, E1⟩ => [cF 50 4 En.rw (E1)]) (fun ⟨k2, E1⟩ => k2 ≤ E1.length ∧ E1.length = E.length ∧ E1.flatMap En.cells = E.flatMap En.cells ∧ (∀ e ∈ E1, DisW e.ws ∧ (∀ x ∈ e.ws, x.key.length ≤ 24) ∧ 1 ≤ e.ws.length ∧ e.ws.length ≤ 1000000) ∧ E1.map En.p = ((E.map En.p).take k2).map srtE ++ (E.map En.p).drop k2) (fun ⟨k2, E1⟩ => E1.length - k2) (0, E) (hT.keep [89, 88, 87, 30, 6, 5, 4, 3, 0, 1] rfl) (H.keep [0, 1, 2, 3, 4, 5] rfl rfl) (⟨Nat.zero_le _, rfl, rfl, hgi0, (by rw [List.take_zero, List.drop_zero]; rfl)⟩) ?_
    clear hT H
    rintro ⟨k2, E1⟩ a w21 hJ hT H
    replace hT := hT.keep [89, 88, 87, 30, 6, 5, 4, 3, 0, 1] rfl
    replace H := H.keep [0, 1, 2, 3, 4, 5] rfl rfl
    obtain ⟨hk2, hE1l, hE1c, hgi, hE1p⟩ := hJ
    refine wp_seq_k fun K28 hK28 => ?_
    -- region 12 (sift.go:99)
    refine Sx.wp_text [(0, .take)] rfl ?_
    refine Sx.st_take hT rfl rfl rfl rfl ((fun w => Sx.x_lt w hT rfl rfl rfl)) ?_
    clear hT; intro a hT
    replace hT := hT.keep [90, 89, 88, 87, 30, 6, 5, 4, 3, 0, 1] rfl
    refine Sx.ser_nil ?_
    refine Sx.then_normal (hK28 _ _ ?_)
    clear hK28
    refine wp_seq_k fun K29 hK29 => ?_
    -- cond 2
    refine Sx.wp_if hT rfl (fun hc30 => ?_) (fun hc30 => ?_)
    · try simp only [decide_eq_true_eq, decide_eq_false_iff_not, Bool.not_eq_true', Bool.not_eq_false', Bool.not_eq_true, Bool.not_eq_false, Bool.and_eq_true, Bool.or_eq_false_iff, beq_iff_eq, bne_iff_ne, Int.not_lt, Int.not_le, ne_eq] at hc30
      obtain ⟨y, hy⟩ : ∃ o, E1[k2]? = some o := ⟨_, List.getElem?_eq_getElem (by omega)⟩
      have hym := List.mem_of_getElem? hy
      have hyb := hgi y hym
      have hyb1 := hyb.2.2.1
      have hyb2 := hyb.2.2.2
      refine wp_skip ?_
      refine Sx.then_normal (hK29 _ _ ?_)
      clear hK29
      refine wp_seq_k fun K31 hK31 => ?_
      refine wp_block ?_
      refine wp_seq_k fun K32 hK32 => ?_
      -- region 13 (sift.go:99)
      refine Sx.wp_text [(0, .take), (1, .run), (2, .run), (3, .run)] rfl ?_
      refine Sx.st_take hT rfl rfl rfl rfl (Sx.x_index (k := k2) hT rfl Try.underlying30 Try.ti44 (H.row 1 rfl).sv rfl rfl (by first | rfl | omega) (by omega)) ?_
      clear hT; intro a hT
      refine Sx.st_run hT rfl rfl rfl rfl (Sx.y_loadS hT rfl Try.underlying44 Try.ti44 rfl ((row_ssnc (H.row 1 rfl) hE1c hE1l).cs En.len hy) (by rfl)) ?_
      clear hT; intro a hT
      refine Sx.st_eff hT rfl rfl rfl rfl (Sx.y_alloc hT rfl Try.ti44 rfl _) ?_
      clear hT; rintro _ w22 ⟨b6, rfl, N⟩ a hT
      replace H := H.new N; clear N
      refine Sx.st_act hT rfl rfl rfl (Sx.y_storeS hT rfl Try.ti44 rfl rfl rfl rfl rfl (H.blk 0 rfl) rfl) ?_
      rintro w23 ⟨hb, E, _⟩
      replace H := H.setB 0 rfl hb E rfl; clear hb E
      replace hT := hT.keep [10, 90, 89, 88, 87, 30, 6, 5, 4, 3, 0, 1] rfl
      refine Sx.ser_nil ?_
      refine Sx.then_normal (hK32 _ _ ?_)
      clear hK32
      -- region 14 (sift.go:100)
      refine Sx.wp_text [(0, .take), (1, .run), (2, .run)] rfl ?_
      refine Sx.st_take hT rfl rfl rfl rfl (Sx.x_fieldAddr hT rfl Try.fa44_2 rfl) ?_
      clear hT; intro a hT
      refine Sx.st_run hT rfl rfl rfl rfl (Sx.x_load1 hT rfl Try.fl33 rfl ((H.blk 0 rfl).nth rfl)) ?_
      clear hT; intro a hT
      refine Sx.st_call hT rfl rfl rfl rfl rfl Try.can38 rfl (SortW_calls y.ws ((H.fam 1 rfl).row y hym) rfl (by omega) (by omega)) ?_
      rintro _ w24 ⟨rfl, ws9, hp9, hs9, hr9, E9⟩
      refine ⟨_, rfl, ?_⟩
      clear hT; intro a hT
      have hwl9 := hp9.length_eq
      replace H := H.famSet (y := (⟨y.t, y.s, y.ad, y.c, ws9⟩ : En)) 1 rfl hy (by rw [show (En.rw ⟨y.t, y.s, y.ad, y.c, ws9⟩).n = (En.rw y).n from hwl9]; exact hr9) E9 (fun _ h9 => .inl h9) rfl; clear hr9 E9
      replace hT := hT.keep [10, 90, 89, 88, 87, 30, 6, 5, 4, 3, 0, 1] rfl
      refine Sx.ser_nil ?_
      refine Sx.block_normal ?_
      refine Sx.then_normal (hK31 _ _ ?_)
      clear hK31
      -- region 15 (sift.go:99)
      refine Sx.wp_text [(0, .take), (1, .take)] rfl ?_
      refine Sx.st_take hT rfl rfl rfl rfl ((fun w => Sx.x_add w hT rfl rfl rfl (Sx.wrap64 (by omega)))) ?_
      clear hT; intro a hT
      refine Sx.st_take hT rfl rfl rfl rfl (Sx.x_move hT rfl rfl) ?_
      clear hT; intro a hT
      replace hT := hT.keep [89, 10, 90, 88, 87, 30, 6, 5, 4, 3, 0, 1] rfl
      refine Sx.ser_nil ?_
      refine Sx.then_normal ?_
      have hcy : (En.cells ⟨y.t, y.s, y.ad, y.c, ws9⟩) = y.cells := by simp [En.cells, hwl9]
      have hsw : ws9 = sortW y.ws := sortW_of hyb.1 hp9 (hs9.imp_of_mem fun {u v} hu hv h9 h8 => h9 (ltK_short (hyb.2.1 v (hp9.mem_iff.1 hv)) (hyb.2.1 u (hp9.mem_iff.1 hu)) h8))
      exact ⟨(k2 + 1, E1.set k2 (⟨y.t, y.s, y.ad, y.c, ws9⟩ : En)), ⟨by show k2 + 1 ≤ (E1.set _ _).length; rw [List.length_set]; omega, by show (E1.set _ _).length = _; rw [List.length_set, hE1l], by show (E1.set _ _).flatMap _ = _; rw [set_cells hy hcy, hE1c], upto_set hgi hyb hp9, upto_nx hE1p hy hsw hE1l⟩, (hT.keep [89, 88, 87, 30, 6, 5, 4, 3, 0, 1] rfl), (H.keep [1, 2, 3, 4, 5, 6] rfl rfl), by show (E1.set _ _).length - (k2 + 1) < _ - k2; rw [List.length_set]; omega⟩
    · try simp only [decide_eq_true_eq, decide_eq_false_iff_not, Bool.not_eq_true', Bool.not_eq_false', Bool.not_eq_true, Bool.not_eq_false, Bool.and_eq_true, Bool.or_eq_false_iff, beq_iff_eq, bne_iff_ne, Int.not_lt, Int.not_le, ne_eq] at hc30
      have hkE : k2 = E1.length := by omega
      refine wp_exit ?_
      refine Sx.then_exit ?_
      refine Sx.then_exit ?_
      refine Sx.block_exit ?_
      refine Sx.then_normal (hK26 _ _ ?_)
      clear hK26
      refine wp_seq_k fun K33 hK33 => ?_
      -- region 16 (sift.go:102)
      refine Sx.wp_text [(0, .take), (1, .take)] rfl ?_
      refine Sx.st_take hT rfl rfl rfl rfl (Sx.x_move hT rfl rfl) ?_
      clear hT; intro a hT
      refine Sx.st_take hT rfl rfl rfl rfl (Sx.x_assign hT rfl rfl) ?_
      clear hT; intro a hT
      replace hT := hT.keep [4, 90, 89, 88, 87, 30, 6, 5, 3, 0, 1] rfl
      refine Sx.ser_nil ?_
      refine Sx.then_normal (hK33 _ _ ?_)
      clear hK33
      refine wp_ret ?_
      refine Sx.done1 (fn := Try.f13) hT rfl (.tmp (hT.get 4 _ rfl)) ?_
      refine ⟨ad, c, E1, ad2, c2, L.drop k, by rw [hE1l], ?_, ?_, drop_cnt hcn⟩
      · have H9 := H.keep [3, 4, 5, 1, 0] rfl rfl
        rw [← hE1c, ← hE1l] at H9
        exact H9
      · rw [hE1p, hkE, hE1l, List.take_of_length_le (by rw [List.length_map]; exact Nat.le_refl _), List.drop_eq_nil_of_le (by rw [List.length_map]; exact Nat.le_refl _), List.append_nil, hEq, List.map_take]
        unfold uptoE
        rw [hcn]

end Go.Proofs.Ythhdoeflafakaaa
