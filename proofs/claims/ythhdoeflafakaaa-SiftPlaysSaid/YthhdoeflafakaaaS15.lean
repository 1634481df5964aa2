/- Walks: the document's sift: Upto. -/
import Derived.Test.YthhdoeflafakaaaS14
import Derived.Test.YthhdoeflafakaaaS10
set_option linter.unusedSimpArgs false
set_option linter.unusedVariables false
namespace Go.Proofs.Ythhdoeflafakaaa
open Sx
theorem Try.can23 : Sx.Can Try.prog 23 := ⟨_, Try.func23, by kernel_rfl, rfl⟩
theorem grp_srt_new {G E : List Ep} {f : Fp} (h : E = G.map srtE) (hn : E = [] ∨ ∃ A g, E = A ++ [g] ∧ g.t ≠ f.t) : E ++ [⟨f.t, f.s, f.ws.foldl putS []⟩] = (grpE G f).map srtE := by
  have h2 : G = [] ∨ ∃ A g, G = A ++ [g] ∧ g.t ≠ f.t := by
    rcases hn with hn | ⟨A, g, hn, ht⟩
    · rw [hn] at h; exact .inl (List.map_eq_nil_iff.1 h.symm)
    · rw [hn] at h
      obtain ⟨A0, B0, rfl, h3, h4⟩ := List.map_eq_append_iff.1 h.symm
      obtain ⟨g0, rfl⟩ : ∃ g0, B0 = [g0] := by
        match B0, h4 with
        | [g0], _ => exact ⟨g0, rfl⟩
      simp only [List.map_cons, List.map_nil, List.cons.injEq, and_true] at h4
      exact .inr ⟨A0, g0, rfl, by rw [← h4] at ht; exact ht⟩
  rw [grp_new h2, List.map_append, ← h]
  rfl
theorem grp_srt_same {G A : List Ep} {g : Ep} {f : Fp} (h : A ++ [g] = G.map srtE) (ht : g.t = f.t) : A ++ [⟨g.t, g.s, f.ws.foldl putS g.ws⟩] = (grpE G f).map srtE := by
  obtain ⟨A0, B0, rfl, h3, h4⟩ := List.map_eq_append_iff.1 h.symm
  obtain ⟨g0, rfl⟩ : ∃ g0, B0 = [g0] := by
    match B0, h4 with
    | [g0], _ => exact ⟨g0, rfl⟩
  simp only [List.map_cons, List.map_nil, List.cons.injEq, and_true] at h4
  subst h4
  rw [grp_same (show g0.t = f.t from ht), List.map_append, h3]
  unfold srtE sortW
  simp only [List.map_cons, List.map_nil, List.foldl_append]
theorem putS_len (l : List Wt) (w : Wt) : (putS l w).length = l.length + 1 := by rw [(putS_perm l w).length_eq, List.length_cons]
theorem q_cut {w : World} {ad : Option Addr} {c : Nat} {L : List Fr} {k : Nat} (h : Ss w ad Fr.cells 9 L ∧ L.length ≤ c ∧ (ad = none → L.length = 0 ∧ c = 0)) (hk : k ≤ L.length) :
    Ss w (cutAt ad 9 k c) Fr.cells 9 (L.drop k) ∧ (L.drop k).length ≤ c - k ∧ (cutAt ad 9 k c = none → (L.drop k).length = 0 ∧ c - k = 0) := by
  have h1 := Sv.cut (lo := k) (hi := L.length) (c := c) h.1 hk (Nat.le_refl _) h.2.1
  rw [cut_g hk, show L.length - k = (L.drop k).length from List.length_drop.symm] at h1
  exact ⟨h1, by rw [List.length_drop]; have := h.2.1; omega, fun h9 => by rw [List.length_drop]; exact nilcut2 h.2.2 h9⟩

set_option maxHeartbeats 2000000 in
theorem xUpto_calls {S : Nat → Prop} {p : Nat} {ad0 ad : Option Addr} {c : Nat} {L : List Fr} (at_ : Stp) {w : World} (H : Hp w S w [cB p [.slice ad (List.length L) c] 55, cQ ad0 ad c (L), cF 50 4 Fr.rw (L)]) (hHd : Held (L.map Fr.p)) (hL : L.length ≤ 10000) : Calls Try.prog 23 #[.pointer (some ⟨p, 0, none⟩), .agg #[.int .i64 at_.w, .int .i64 at_.l, .int .i64 at_.n]] w fun e w' => ∃ ad0' ad' c' E ade ce L', e = .returned (.slice ade (List.length E) ce) ∧ Hp w S w' [cB p [.slice ad' (List.length L') c'] 55, cQ ad0' ad' c' (L'), cF 50 4 Fr.rw (L'), cR 44 7 ade (E).length ce ((E).flatMap En.cells), cF 50 4 En.rw (E)] ∧ E.map En.p = uptoE (L.map Fr.p) at_ ∧ L'.map Fr.p = uptoL (L.map Fr.p) at_ := by
  refine Sx.calls_into Try.func23 rfl Try.ntmps23 rfl fun a hT => ?_
  replace hT := hT.keep [0, 1] rfl
  refine wp_seq_k fun K1 hK1 => ?_
  -- region 0 (ref.go:78)
  refine Sx.wp_text [(0, .run), (1, .take)] rfl ?_
  refine Sx.st_eff hT rfl rfl rfl rfl (Sx.y_box hT rfl rfl rfl _) ?_
  clear hT; rintro _ w1 ⟨b1, rfl, N⟩ a hT
  replace H := H.new N; clear N
  refine Sx.st_take hT rfl rfl rfl rfl (Sx.x_assign hT rfl rfl) ?_
  clear hT; intro a hT
  replace hT := hT.keep [4, 3, 0, 1] rfl
  refine Sx.ser_nil ?_
  refine Sx.then_normal (hK1 _ _ ?_)
  clear hK1
  refine wp_seq_k fun K2 hK2 => ?_
  -- region 1 (ref.go:79)
  refine Sx.wp_text [(0, .take)] rfl ?_
  refine Sx.st_take hT rfl rfl rfl rfl (Sx.x_assign hT rfl rfl) ?_
  clear hT; intro a hT
  replace hT := hT.keep [5, 4, 3, 0, 1] rfl
  refine Sx.ser_nil ?_
  refine Sx.then_normal (hK2 _ _ ?_)
  clear hK2
  refine wp_seq_k fun K3 hK3 => ?_
  -- region 2 (ref.go:80)
  refine Sx.wp_text [(0, .take)] rfl ?_
  refine Sx.st_take hT rfl rfl rfl rfl (Sx.x_assign hT rfl rfl) ?_
  clear hT; intro a hT
  replace hT := hT.keep [6, 5, 4, 3, 0, 1] rfl
  refine Sx.ser_nil ?_
  refine Sx.then_normal (hK3 _ _ ?_)
  clear hK3
  refine wp_seq_k fun K4 hK4 => ?_
  refine wp_block ?_
  replace H := H.nilR 44 7
  replace H := H.famNil 50 4 En.rw
  -- loop 0
  refine Sx.wp_loopH (G := Nat × List En × Option Addr × Nat) (fun ⟨k, E, ad2, c2⟩ => [(6, .int .i64 (k : Int)), (5, .slice ad2 E.length c2)]) (fun ⟨k, E, ad2, c2⟩ => [cF 50 4 En.rw (E), cR 44 7 ad2 (E).length c2 ((E).flatMap En.cells)]) (fun ⟨k, E, ad2, c2⟩ => k ≤ L.length ∧ E.map En.p = (uptoG ((L.take k).map Fr.p)).map srtE ∧ (∀ (t : Nat) q, t < k → L[t]? = some q → cmpS q.s at_ ≤ 0) ∧ E.length ≤ k ∧ ∀ e ∈ E, e.ws.length ≤ 16 * k) (fun ⟨k, E, ad2, c2⟩ => L.length - k) (0, [], none, 0) (hT.keep [6, 5, 4, 3, 0, 1] rfl) (H.keep [0, 1, 2, 3, 4, 5] rfl rfl) (⟨Nat.zero_le _, (by rw [List.take_zero]; rfl), (fun t q h => by omega), Nat.zero_le _, (fun e h => by simp at h)⟩) ?_
  clear hT H
  rintro ⟨k, E, ad2, c2⟩ a w2 hJ hT H
  replace hT := hT.keep [6, 5, 4, 3, 0, 1] rfl
  replace H := H.keep [0, 1, 2, 3, 4, 5] rfl rfl
  obtain ⟨hk, hEq, hup, hEl, hew⟩ := hJ
  refine wp_seq_k fun K5 hK5 => ?_
  refine wp_seq_k fun K6 hK6 => ?_
  -- region 3 (ref.go:81)
  refine Sx.wp_draws (fun u => Sx.Ext (Sx.No) u) [(0, .take), (1, .take), (2, .take), (3, .take), (4, .held), (5, .take), (6, .take), (7, .take), (8, .take), (9, .take), (10, .take), (11, .held), (12, .take), (13, .take), (14, .take), (15, .held), (16, .held), (17, .run), (18, .take), (19, .take)] (by kernel_rfl) (by kernel_rfl) (fun u E _ => ?_)
  replace H := H.pure E; clear E
  have hH : Sx.Ext (Sx.No) u u := Sx.Ext.refl _ _
  have Hu := H
  refine Sx.st_take hT rfl rfl rfl rfl (Sx.x_move hT rfl rfl) ?_
  clear hT; intro a hT
  refine Sx.st_take hT rfl rfl rfl rfl (Sx.x_move hT rfl rfl) ?_
  clear hT; intro a hT
  refine Sx.st_take hT rfl rfl rfl rfl (Sx.x_nilCheck hT rfl rfl) ?_
  clear hT; intro a hT
  refine Sx.st_take hT rfl rfl rfl rfl (Sx.x_fieldAddr hT rfl Try.fa55_0 rfl) ?_
  clear hT; intro a hT
  refine Sx.st_held hT rfl rfl rfl rfl hH (fun w' h' => Sx.x_load1 hT rfl Try.fl29 rfl ((Hu.heldB 3 rfl h' Sx.off_No).nth rfl)) ?_
  clear hT; intro a hT
  refine Sx.st_take hT rfl rfl rfl rfl (Sx.x_len_slice hT rfl rfl Try.underlying29 rfl) ?_
  clear hT; intro a hT
  refine Sx.st_take hT rfl rfl rfl rfl ((fun w => Sx.x_lt w hT rfl rfl rfl)) ?_
  clear hT; intro a hT
  refine Sx.st_take hT rfl rfl rfl rfl (Sx.x_move hT rfl rfl) ?_
  clear hT; intro a hT
  -- guard (3, 7)
  refine Sx.Sl.two hT 17 rfl (fun hc7 hT => ?_) (fun hc7 hT => ?_)
  · try simp only [decide_eq_true_eq, decide_eq_false_iff_not, Bool.not_eq_true', Bool.not_eq_false', Bool.not_eq_true, Bool.not_eq_false, Bool.and_eq_true, Bool.or_eq_false_iff, beq_iff_eq, bne_iff_ne, Int.not_lt, Int.not_le, ne_eq] at hc7
    obtain ⟨o, ho⟩ : ∃ o, L[k]? = some o := ⟨_, List.getElem?_eq_getElem (by omega)⟩
    have hom := List.mem_of_getElem? ho
    obtain ⟨-, -, how1, how16, -⟩ := mayF_ok (hHd.may o.p (List.mem_map_of_mem hom))
    have how2 : o.ws.length ≤ 16 := how16
    refine Sx.st_take hT rfl rfl rfl rfl (Sx.x_move hT rfl rfl) ?_
    clear hT; intro a hT
    refine Sx.st_take hT rfl rfl rfl rfl (Sx.x_nilCheck hT rfl rfl) ?_
    clear hT; intro a hT
    refine Sx.st_take hT rfl rfl rfl rfl (Sx.x_fieldAddr hT rfl Try.fa55_0 rfl) ?_
    clear hT; intro a hT
    refine Sx.st_held hT rfl rfl rfl rfl hH (fun w' h' => Sx.x_load1 hT rfl Try.fl29 rfl ((Hu.heldB 3 rfl h' Sx.off_No).nth rfl)) ?_
    clear hT; intro a hT
    refine Sx.st_take hT rfl rfl rfl rfl (Sx.x_move hT rfl rfl) ?_
    clear hT; intro a hT
    refine Sx.st_take hT rfl rfl rfl rfl (Sx.x_index (k := k) hT rfl Try.underlying29 Try.ti35 ((H.at 4 rfl).1).sv rfl rfl (by first | rfl | omega) (by omega)) ?_
    clear hT; intro a hT
    refine Sx.st_take hT rfl rfl rfl rfl (Sx.x_fieldAddr hT rfl Try.fa35_3 rfl) ?_
    clear hT; intro a hT
    refine Sx.st_held hT rfl rfl rfl rfl hH (fun w' h' => Sx.y_loadS hT rfl Try.underlying28 Try.ti28 rfl (((((Hu.held 4 rfl h' Sx.off_No).1).cs Fr.len ho).seg (i := 5) (k := 3) rfl)) (by rfl)) ?_
    clear hT; intro a hT
    refine Sx.st_held hT rfl rfl rfl rfl hH (fun w' h' => Sx.y_loadS hT rfl Try.underlying28 Try.ti28 rfl ((Hu.heldB 2 rfl h' Sx.off_No).seg (k := 3) rfl) (by rfl)) ?_
    clear hT; intro a hT
    refine Sx.st_call hT rfl rfl rfl rfl rfl Try.can30 rfl (xCompare_calls o.s at_ _) ?_
    rintro _ w3 ⟨rfl, E⟩
    refine ⟨_, rfl, ?_⟩
    clear hT; intro a hT
    replace H := H.pure E; clear E
    refine Sx.st_take hT rfl rfl rfl rfl ((fun w => Sx.x_le w hT rfl rfl rfl)) ?_
    clear hT; intro a hT
    refine Sx.st_take hT rfl rfl rfl rfl (Sx.x_pick_t hT rfl rfl rfl) ?_
    clear hT; intro a hT
    replace hT := hT.keep [29, 6, 5, 4, 3, 0, 1] rfl
    clear Hu hH
    refine Sx.ser_calm ?_
    refine Sx.then_normal (hK6 _ _ ?_)
    clear hK6
    -- cond 0
    refine Sx.wp_if hT rfl (fun hc8 => ?_) (fun hc8 => ?_)
    · try simp only [decide_eq_true_eq, decide_eq_false_iff_not, Bool.not_eq_true', Bool.not_eq_false', Bool.not_eq_true, Bool.not_eq_false, Bool.and_eq_true, Bool.or_eq_false_iff, beq_iff_eq, bne_iff_ne, Int.not_lt, Int.not_le, ne_eq] at hc8
      have hle9 : cmpS o.s at_ ≤ 0 := hc8
      refine wp_skip ?_
      refine Sx.then_normal (hK5 _ _ ?_)
      clear hK5
      refine wp_block ?_
      refine wp_seq_k fun K9 hK9 => ?_
      -- region 4 (ref.go:82)
      refine Sx.wp_text [(0, .take), (1, .take), (2, .take), (3, .run), (4, .take), (5, .take), (6, .run), (7, .run), (8, .run)] rfl ?_
      refine Sx.st_take hT rfl rfl rfl rfl (Sx.x_move hT rfl rfl) ?_
      clear hT; intro a hT
      refine Sx.st_take hT rfl rfl rfl rfl (Sx.x_nilCheck hT rfl rfl) ?_
      clear hT; intro a hT
      refine Sx.st_take hT rfl rfl rfl rfl (Sx.x_fieldAddr hT rfl Try.fa55_0 rfl) ?_
      clear hT; intro a hT
      refine Sx.st_run hT rfl rfl rfl rfl (Sx.x_load1 hT rfl Try.fl29 rfl ((H.blk 3 rfl).nth rfl)) ?_
      clear hT; intro a hT
      refine Sx.st_take hT rfl rfl rfl rfl (Sx.x_move hT rfl rfl) ?_
      clear hT; intro a hT
      refine Sx.st_take hT rfl rfl rfl rfl (Sx.x_index (k := k) hT rfl Try.underlying29 Try.ti35 ((H.at 4 rfl).1).sv rfl rfl (by first | rfl | omega) (by omega)) ?_
      clear hT; intro a hT
      refine Sx.st_run hT rfl rfl rfl rfl (Sx.y_loadS hT rfl Try.underlying35 Try.ti35 rfl (((((H.at 4 rfl).1).cs Fr.len ho).seg (i := 0) (k := 9) rfl)) (by rfl)) ?_
      clear hT; intro a hT
      refine Sx.st_eff hT rfl rfl rfl rfl (Sx.y_alloc hT rfl Try.ti35 rfl _) ?_
      clear hT; rintro _ w4 ⟨b2, rfl, N⟩ a hT
      replace H := H.new N; clear N
      refine Sx.st_act hT rfl rfl rfl (Sx.y_storeS hT rfl Try.ti35 rfl rfl rfl rfl rfl (H.blk 0 rfl) rfl) ?_
      rintro w5 ⟨hb, E, _⟩
      replace H := H.setB 0 rfl hb E rfl; clear hb E
      replace hT := hT.keep [7, 29, 6, 5, 4, 3, 0, 1] rfl
      refine Sx.ser_nil ?_
      refine Sx.then_normal (hK9 _ _ ?_)
      clear hK9
      refine wp_seq_k fun K10 hK10 => ?_
      refine Sx.wp_join (G := List En × En × Option Addr × Nat) (fun ⟨A, g, ad4, c4⟩ => [(5, .slice ad4 (A.length + 1) c4)]) (fun ⟨A, g, ad4, c4⟩ => [cR 44 7 ad4 (A.length + 1) c4 ((A ++ [g]).flatMap En.cells), cF 50 4 En.rw (A ++ [g])]) (fun ⟨A, g, ad4, c4⟩ => A.map En.p ++ [⟨g.t, g.s, o.ws.foldl putS g.ws⟩] = (grpE (uptoG ((L.take k).map Fr.p)) o.p).map srtE ∧ A.length ≤ k ∧ g.ws.length ≤ 16 * k ∧ ∀ e ∈ A, e.ws.length ≤ 16 * k) (hT.keep [7, 29, 6, 4, 3, 0, 1] rfl) (H.keep [0, 3, 4, 5, 6] rfl rfl) hK10 ?_ ?_
      · clear hT H hK10
        rintro ⟨A, g, ad4, c4⟩ a w6 hJ hT H
        replace hT := hT.keep [5, 7, 29, 6, 4, 3, 0, 1] rfl
        replace H := H.keep [0, 1, 2, 3, 4, 5, 6] rfl rfl
        obtain ⟨hgr, hAl, hgl, hewA⟩ := hJ
        refine wp_seq_k fun K11 hK11 => ?_
        -- region 7 (ref.go:86)
        refine Sx.wp_text [(0, .take), (1, .take), (2, .take), (3, .take)] rfl ?_
        refine Sx.st_take hT rfl rfl rfl rfl (Sx.x_move hT rfl rfl) ?_
        clear hT; intro a hT
        refine Sx.st_take hT rfl rfl rfl rfl (Sx.x_len_slice hT rfl rfl Try.underlying30 rfl) ?_
        clear hT; intro a hT
        refine Sx.st_take hT rfl rfl rfl rfl ((fun w => Sx.x_sub w hT rfl rfl rfl (Sx.wrap64 (by omega)))) ?_
        clear hT; intro a hT
        refine Sx.st_take hT rfl rfl rfl rfl (Sx.x_assign hT rfl rfl) ?_
        clear hT; intro a hT
        replace hT := hT.keep [8, 5, 7, 29, 6, 4, 3, 0, 1] rfl
        refine Sx.ser_nil ?_
        refine Sx.then_normal (hK11 _ _ ?_)
        clear hK11
        refine wp_seq_k fun K12 hK12 => ?_
        refine wp_seq_k fun K13 hK13 => ?_
        -- region 8 (ref.go:87)
        refine Sx.wp_text [(0, .take)] rfl ?_
        refine Sx.st_take hT rfl rfl rfl rfl (Sx.x_assign hT rfl rfl) ?_
        clear hT; intro a hT
        replace hT := hT.keep [9, 8, 5, 7, 29, 6, 4, 3, 0, 1] rfl
        refine Sx.ser_nil ?_
        refine Sx.then_normal (hK13 _ _ ?_)
        clear hK13
        refine wp_block ?_
        -- loop 1
        refine Sx.wp_loopH (G := Nat × En) (fun ⟨j, g1⟩ => [(9, .int .i64 (j : Int))]) (fun ⟨j, g1⟩ => [cR 44 7 ad4 (A.length + 1) c4 ((A ++ [g1]).flatMap En.cells), cF 50 4 En.rw (A ++ [g1])]) (fun ⟨j, g1⟩ => j ≤ o.ws.length ∧ g1.t = g.t ∧ g1.s = g.s ∧ g1.ws = (o.ws.take j).foldl putS g.ws ∧ g1.ws.length = g.ws.length + j) (fun ⟨j, g1⟩ => o.ws.length - j) (0, g) (hT.keep [9, 8, 5, 7, 29, 6, 4, 3, 0, 1] rfl) (H.keep [0, 1, 2, 3, 4, 5, 6] rfl rfl) (⟨Nat.zero_le _, rfl, rfl, (by rw [List.take_zero]; rfl), rfl⟩) ?_
        clear hT H
        rintro ⟨j, g1⟩ a w7 hJ hT H
        replace hT := hT.keep [9, 8, 5, 7, 29, 6, 4, 3, 0, 1] rfl
        replace H := H.keep [0, 1, 2, 3, 4, 5, 6] rfl rfl
        obtain ⟨hj, hg1, hg2, hg3, hg4⟩ := hJ
        refine wp_seq_k fun K14 hK14 => ?_
        refine wp_seq_k fun K15 hK15 => ?_
        -- region 9 (ref.go:87)
        refine Sx.wp_text [(0, .take), (1, .take), (2, .run), (3, .take), (4, .take)] rfl ?_
        refine Sx.st_take hT rfl rfl rfl rfl (Sx.x_move hT rfl rfl) ?_
        clear hT; intro a hT
        refine Sx.st_take hT rfl rfl rfl rfl (Sx.x_fieldAddr hT rfl Try.fa35_4 rfl) ?_
        clear hT; intro a hT
        refine Sx.st_run hT rfl rfl rfl rfl (Sx.x_load1 hT rfl Try.fl33 rfl ((H.blk 2 rfl).nth rfl)) ?_
        clear hT; intro a hT
        refine Sx.st_take hT rfl rfl rfl rfl (Sx.x_len_slice hT rfl rfl Try.underlying33 rfl) ?_
        clear hT; intro a hT
        refine Sx.st_take hT rfl rfl rfl rfl ((fun w => Sx.x_lt w hT rfl rfl rfl)) ?_
        clear hT; intro a hT
        replace hT := hT.keep [67, 9, 8, 5, 7, 29, 6, 4, 3, 0, 1] rfl
        refine Sx.ser_nil ?_
        refine Sx.then_normal (hK15 _ _ ?_)
        clear hK15
        -- cond 2
        refine Sx.wp_if hT rfl (fun hc16 => ?_) (fun hc16 => ?_)
        · try simp only [decide_eq_true_eq, decide_eq_false_iff_not, Bool.not_eq_true', Bool.not_eq_false', Bool.not_eq_true, Bool.not_eq_false, Bool.and_eq_true, Bool.or_eq_false_iff, beq_iff_eq, bne_iff_ne, Int.not_lt, Int.not_le, ne_eq] at hc16
          obtain ⟨v, hv⟩ : ∃ u9, o.ws[j]? = some u9 := ⟨_, List.getElem?_eq_getElem (by omega)⟩
          refine wp_skip ?_
          refine Sx.then_normal (hK14 _ _ ?_)
          clear hK14
          refine wp_seq_k fun K17 hK17 => ?_
          refine wp_block ?_
          -- region 11 (ref.go:88)
          refine Sx.wp_draws (fun u => Sx.Ext (Sx.No) u) [(0, .take), (1, .take), (2, .take), (3, .take), (4, .take), (5, .take), (6, .held), (7, .take), (8, .held), (9, .take), (10, .take), (11, .held), (12, .run), (13, .take), (14, .take), (15, .run)] (by kernel_rfl) (by kernel_rfl) (fun u E _ => ?_)
          replace H := H.pure E; clear E
          have hH : Sx.Ext (Sx.No) u u := Sx.Ext.refl _ _
          have Hu := H
          refine Sx.st_take hT rfl rfl rfl rfl (Sx.x_move hT rfl rfl) ?_
          clear hT; intro a hT
          refine Sx.st_take hT rfl rfl rfl rfl (Sx.x_move hT rfl rfl) ?_
          clear hT; intro a hT
          refine Sx.st_take hT rfl rfl rfl rfl (Sx.x_move hT rfl rfl) ?_
          clear hT; intro a hT
          refine Sx.st_take hT rfl rfl rfl rfl (Sx.x_move hT rfl rfl) ?_
          clear hT; intro a hT
          refine Sx.st_take hT rfl rfl rfl rfl (Sx.x_index (k := A.length) hT rfl Try.underlying30 Try.ti44 (H.row 0 rfl).sv rfl rfl (by first | rfl | omega) (by omega)) ?_
          clear hT; intro a hT
          refine Sx.st_take hT rfl rfl rfl rfl (Sx.x_fieldAddr hT rfl Try.fa44_2 rfl) ?_
          clear hT; intro a hT
          refine Sx.st_held hT rfl rfl rfl rfl hH (fun w' h' => Sx.x_load1 hT rfl Try.fl33 rfl (((Hu.heldR 0 rfl h' Sx.off_No).ssn (xs := A ++ [g1]) (enc := En.cells) (by simp)).cell (j := 6) En.len (show (A ++ [g1])[A.length]? = some g1 by simp) rfl)) ?_
          clear hT; intro a hT
          refine Sx.st_take hT rfl rfl rfl rfl (Sx.x_fieldAddr hT rfl Try.fa35_4 rfl) ?_
          clear hT; intro a hT
          refine Sx.st_held hT rfl rfl rfl rfl hH (fun w' h' => Sx.x_load1 hT rfl Try.fl33 rfl ((Hu.heldB 2 rfl h' Sx.off_No).nth rfl)) ?_
          clear hT; intro a hT
          refine Sx.st_take hT rfl rfl rfl rfl (Sx.x_move hT rfl rfl) ?_
          clear hT; intro a hT
          refine Sx.st_take hT rfl rfl rfl rfl (Sx.x_index (k := j) hT rfl Try.underlying33 Try.ti50 (fam_fr (H.fam 6 rfl) o hom).sv rfl rfl (by first | rfl | omega) (by omega)) ?_
          clear hT; intro a hT
          refine Sx.st_held hT rfl rfl rfl rfl hH (fun w' h' => Sx.y_loadS hT rfl Try.underlying50 Try.ti50 rfl ((((fam_fr (Hu.heldF 6 rfl h' (fun _ _ _ h => h)) o hom).cs Wt.len hv).seg (i := 0) (k := 4) rfl)) (by rfl)) ?_
          clear hT; intro a hT
          refine Sx.st_call hT rfl rfl rfl rfl rfl Try.can49 rfl (put_calls g1.ws v (Row.ssn (xs := g1.ws) (enc := Wt.cells) ((H.fam 1 rfl).row g1 (by simp)) rfl) ((H.fam 1 rfl).row g1 (by simp)).le.1 (rownil ((H.fam 1 rfl).row g1 (by simp))) (by omega)) ?_
          rintro _ w8 ⟨ad9, c9, rfl, K⟩
          refine ⟨_, rfl, ?_⟩
          clear hT; intro a hT
          replace H := H.more K rfl; clear K
          refine Sx.st_take hT rfl rfl rfl rfl (Sx.x_index (k := A.length) hT rfl Try.underlying30 Try.ti44 (H.row 1 rfl).sv rfl rfl (by first | rfl | omega) (by omega)) ?_
          clear hT; intro a hT
          refine Sx.st_take hT rfl rfl rfl rfl (Sx.x_fieldAddr hT rfl Try.fa44_2 rfl) ?_
          clear hT; intro a hT
          refine Sx.st_act hT rfl rfl rfl (Sx.x_storeRowF (k := A.length) (j := 6) (enc := En.cells) (xs := A ++ [g1]) (r := g1) (r' := (⟨g1.t, g1.s, ad9, c9, putS g1.ws v⟩ : En)) hT rfl Try.ti33 rfl rfl rfl En.len (H.row 1 rfl) (show (A ++ [g1])[A.length]? = some g1 by simp) (by simp) (by decide) rfl) ?_
          rintro w9 ⟨hr, E, _⟩
          replace H := H.setR 1 rfl hr E (fun _ hk => .inl hk) rfl; clear hr E
          rw [show (A ++ [g1]).set A.length (⟨g1.t, g1.s, ad9, c9, putS g1.ws v⟩ : En) = A ++ [(⟨g1.t, g1.s, ad9, c9, putS g1.ws v⟩ : En)] from by rw [List.set_append_right _ _ (Nat.le_refl _), Nat.sub_self]; rfl] at H
          replace H := H.famTake (x := g1) (L' := A) 2 rfl (show (A ++ [g1]).Perm (g1 :: A) from List.perm_append_comm) rfl
          replace H := H.famPut (x := (⟨g1.t, g1.s, ad9, c9, putS g1.ws v⟩ : En)) 3 1 rfl rfl rfl rfl [0, 2, 4, 5, 6, 7, 8] rfl rfl (show (A ++ [(⟨g1.t, g1.s, ad9, c9, putS g1.ws v⟩ : En)]).Perm ((⟨g1.t, g1.s, ad9, c9, putS g1.ws v⟩ : En) :: A) from List.perm_append_comm)
          replace hT := hT.keep [67, 9, 8, 5, 7, 29, 6, 4, 3, 0, 1] rfl
          clear Hu hH
          refine Sx.ser_calm ?_
          refine Sx.block_normal ?_
          refine Sx.then_normal (hK17 _ _ ?_)
          clear hK17
          -- region 10 (ref.go:87)
          refine Sx.wp_text [(0, .take), (1, .take), (2, .take)] rfl ?_
          refine Sx.st_take hT rfl rfl rfl rfl (Sx.x_move hT rfl rfl) ?_
          clear hT; intro a hT
          refine Sx.st_take hT rfl rfl rfl rfl ((fun w => Sx.x_add w hT rfl rfl rfl (Sx.wrap64 (by omega)))) ?_
          clear hT; intro a hT
          refine Sx.st_take hT rfl rfl rfl rfl (Sx.x_assign hT rfl rfl) ?_
          clear hT; intro a hT
          replace hT := hT.keep [9, 67, 8, 5, 7, 29, 6, 4, 3, 0, 1] rfl
          refine Sx.ser_nil ?_
          refine Sx.then_normal ?_
          exact ⟨(j + 1, (⟨g1.t, g1.s, ad9, c9, putS g1.ws v⟩ : En)), ⟨by show j + 1 ≤ _; omega, hg1, hg2, by show putS g1.ws v = _; rw [take_app hv, List.foldl_append, ← hg3]; rfl, by show (putS g1.ws v).length = _; rw [putS_len]; omega⟩, (hT.keep [9, 8, 5, 7, 29, 6, 4, 3, 0, 1] rfl), (H.keep [2, 0, 3, 4, 5, 6, 7] rfl rfl), by show _ - (j + 1) < _ - j; omega⟩
        · try simp only [decide_eq_true_eq, decide_eq_false_iff_not, Bool.not_eq_true', Bool.not_eq_false', Bool.not_eq_true, Bool.not_eq_false, Bool.and_eq_true, Bool.or_eq_false_iff, beq_iff_eq, bne_iff_ne, Int.not_lt, Int.not_le, ne_eq] at hc16
          have hjl : j = o.ws.length := by omega
          rw [hjl, List.take_length] at hg3
          refine wp_exit ?_
          refine Sx.then_exit ?_
          refine Sx.then_exit ?_
          refine Sx.block_exit ?_
          refine Sx.then_normal (hK12 _ _ ?_)
          clear hK12
          -- region 12 (ref.go:90)
          refine Sx.wp_text [(0, .take), (1, .take), (2, .take)] rfl ?_
          refine Sx.st_take hT rfl rfl rfl rfl (Sx.x_move hT rfl rfl) ?_
          clear hT; intro a hT
          refine Sx.st_take hT rfl rfl rfl rfl ((fun w => Sx.x_add w hT rfl rfl rfl (Sx.wrap64 (by omega)))) ?_
          clear hT; intro a hT
          refine Sx.st_take hT rfl rfl rfl rfl (Sx.x_assign hT rfl rfl) ?_
          clear hT; intro a hT
          replace hT := hT.keep [6, 67, 9, 8, 5, 7, 29, 4, 3, 0, 1] rfl
          refine Sx.ser_nil ?_
          refine Sx.block_normal ?_
          refine Sx.then_normal ?_
          rw [show A.length + 1 = (A ++ [g1]).length from by simp] at H hT
          have hew2 : ∀ e ∈ A ++ [g1], e.ws.length ≤ 16 * (k + 1) := fun e he => by
            rcases List.mem_append.1 he with he | he
            · have := hewA e he; omega
            · rw [List.mem_singleton] at he; subst he; omega
          exact ⟨(k + 1, A ++ [g1], ad4, c4), ⟨by show k + 1 ≤ _; omega, by show (A ++ [g1]).map En.p = _; rw [map_last, List.map_take, upto_snoc (show (L.map Fr.p)[k]? = some o.p by rw [List.getElem?_map, ho]; rfl), ← List.map_take, ← hgr, show g1.p = ⟨g1.t, g1.s, g1.ws⟩ from rfl, hg1, hg2, hg3], fun t q h3 h4 => by rcases Nat.lt_or_ge t k with h5 | h5; exact hup t q h5 h4; obtain rfl : t = k := (by have : t < k + 1 := h3; omega); rw [ho] at h4; cases h4; exact hle9, by show List.length (A ++ _) ≤ k + 1; simp; omega, hew2⟩, (hT.keep [6, 5, 4, 3, 0, 1] rfl), (H.keep [1, 0, 3, 4, 5, 6] rfl rfl), by show _ - (k + 1) < _ - k; omega⟩
      · clear hK10; intro hJK10
        refine wp_seq_k fun K18 hK18 => ?_
        -- region 5 (ref.go:83)
        refine Sx.wp_draws (fun u => Sx.Ext (Sx.No) u) [(0, .take), (1, .take), (2, .take), (3, .take), (4, .take), (5, .take), (6, .take), (7, .take), (8, .take), (9, .take), (10, .held), (11, .take), (12, .held), (13, .take), (14, .take)] (by kernel_rfl) (by kernel_rfl) (fun u E _ => ?_)
        replace H := H.pure E; clear E
        have hH : Sx.Ext (Sx.No) u u := Sx.Ext.refl _ _
        have Hu := H
        refine Sx.st_take hT rfl rfl rfl rfl (Sx.x_move hT rfl rfl) ?_
        clear hT; intro a hT
        refine Sx.st_take hT rfl rfl rfl rfl (Sx.x_len_slice hT rfl rfl Try.underlying30 rfl) ?_
        clear hT; intro a hT
        refine Sx.st_take hT rfl rfl rfl rfl ((fun w => Sx.x_eq w hT rfl rfl rfl)) ?_
        clear hT; intro a hT
        refine Sx.st_take hT rfl rfl rfl rfl (Sx.x_move hT rfl rfl) ?_
        clear hT; intro a hT
        -- guard (5, 3)
        refine Sx.Sl.two hT 40 rfl (fun hc19 hT => ?_) (fun hc19 hT => ?_)
        · try simp only [decide_eq_true_eq, decide_eq_false_iff_not, Bool.not_eq_true', Bool.not_eq_false', Bool.not_eq_true, Bool.not_eq_false, Bool.and_eq_true, Bool.or_eq_false_iff, beq_iff_eq, bne_iff_ne, Int.not_lt, Int.not_le, ne_eq] at hc19
          have hE0l : E = [] := List.eq_nil_of_length_eq_zero (by omega)
          refine Sx.st_skip hT rfl rfl rfl rfl ?_
          clear hT; intro a hT
          refine Sx.st_skip hT rfl rfl rfl rfl ?_
          clear hT; intro a hT
          refine Sx.st_skip hT rfl rfl rfl rfl ?_
          clear hT; intro a hT
          refine Sx.st_skip hT rfl rfl rfl rfl ?_
          clear hT; intro a hT
          refine Sx.st_skip hT rfl rfl rfl rfl ?_
          clear hT; intro a hT
          refine Sx.st_skip hT rfl rfl rfl rfl ?_
          clear hT; intro a hT
          refine Sx.st_heldskip hT rfl rfl rfl rfl hH ?_
          clear hT; intro a hT
          refine Sx.st_skip hT rfl rfl rfl rfl ?_
          clear hT; intro a hT
          refine Sx.st_heldskip hT rfl rfl rfl rfl hH ?_
          clear hT; intro a hT
          refine Sx.st_skip hT rfl rfl rfl rfl ?_
          clear hT; intro a hT
          refine Sx.st_take hT rfl rfl rfl rfl (Sx.x_pick_t hT rfl rfl rfl) ?_
          clear hT; intro a hT
          replace hT := hT.keep [51, 7, 29, 6, 5, 4, 3, 0, 1] rfl
          clear Hu hH
          refine Sx.ser_calm ?_
          refine Sx.then_normal (hK18 _ _ ?_)
          clear hK18
          refine Sx.wp_if hT rfl (fun _ => ?_) (fun h => by cases h)
          have hnw : E.map En.p = [] ∨ ∃ A g, E.map En.p = A ++ [g] ∧ g.t ≠ (Fr.p o).t := .inl (by rw [hE0l]; rfl)
          -- region 6 (ref.go:84)
          refine Sx.wp_text [(0, .take), (1, .take), (2, .run), (3, .take), (4, .run), (5, .take), (6, .run), (7, .run), (8, .take)] rfl ?_
          refine Sx.st_take hT rfl rfl rfl rfl (Sx.x_move hT rfl rfl) ?_
          clear hT; intro a hT
          refine Sx.st_take hT rfl rfl rfl rfl (Sx.x_fieldAddr hT rfl Try.fa35_2 rfl) ?_
          clear hT; intro a hT
          refine Sx.st_run hT rfl rfl rfl rfl (Sx.y_loadS hT rfl Try.underlying32 Try.ti32 rfl ((H.blk 0 rfl).seg (k := 3) rfl) (by rfl)) ?_
          clear hT; intro a hT
          refine Sx.st_take hT rfl rfl rfl rfl (Sx.x_fieldAddr hT rfl Try.fa35_3 rfl) ?_
          clear hT; intro a hT
          refine Sx.st_run hT rfl rfl rfl rfl (Sx.y_loadS hT rfl Try.underlying28 Try.ti28 rfl ((H.blk 0 rfl).seg (k := 3) rfl) (by rfl)) ?_
          clear hT; intro a hT
          refine Sx.st_take hT rfl rfl rfl rfl (Sx.x_bld hT rfl Try.bld44 rfl rfl) ?_
          clear hT; intro a hT
          refine Sx.st_eff hT rfl rfl rfl rfl (Sx.y_slice1 hT rfl Try.underlying30 Try.ti44 rfl rfl rfl rfl rfl rfl _) ?_
          clear hT; rintro _ w10 ⟨b3, rfl, N⟩ a hT
          replace H := H.new N; clear N
          refine Sx.st_eff hT rfl rfl rfl rfl (Sx.x_append hT rfl rfl Try.underlying30 Try.ti44 rfl (by decide) rfl rfl (H.row 3 rfl) ((H.blk 0 rfl).sv1 rfl) (by simp [Value.oneCell']) (fun h => by cases h) (by unfold maxLen; omega) (by omega)) ?_
          rintro _ w11 ⟨ad11, c11, rfl, hr, E, hown, -⟩
          clear hT; intro a hT
          replace H := H.setR 3 rfl hr E hown rfl; clear hr E hown
          rw [snoc_en] at H
          rw [show E.length + 1 = (E ++ [(⟨o.t, o.s, none, 0, []⟩ : En)]).length from by simp] at H hT
          replace H := H.nilR 50 4
          replace H := H.famPut (x := (⟨o.t, o.s, none, 0, []⟩ : En)) 3 0 rfl rfl rfl rfl [1, 2, 4, 5, 6, 7, 8] rfl rfl (show (E ++ [(⟨o.t, o.s, none, 0, []⟩ : En)]).Perm ((⟨o.t, o.s, none, 0, []⟩ : En) :: E) from List.perm_append_comm)
          rw [show (E ++ [(⟨o.t, o.s, none, 0, []⟩ : En)]).length = E.length + 1 from by simp] at H hT
          refine Sx.st_take hT rfl rfl rfl rfl (Sx.x_assign hT rfl rfl) ?_
          clear hT; intro a hT
          replace hT := hT.keep [5, 51, 7, 29, 6, 4, 3, 0, 1] rfl
          refine Sx.ser_nil ?_
          skip
          exact Sx.then_normal (hJK10 (E, (⟨o.t, o.s, none, 0, []⟩ : En), ad11, c11) _ _ ⟨grp_srt_new hEq hnw, hEl, Nat.zero_le _, hew⟩ (hT.keep [5, 7, 29, 6, 4, 3, 0, 1] rfl) (H.keep [3, 0, 2, 4, 5, 6, 7] rfl rfl))
        · try simp only [decide_eq_true_eq, decide_eq_false_iff_not, Bool.not_eq_true', Bool.not_eq_false', Bool.not_eq_true, Bool.not_eq_false, Bool.and_eq_true, Bool.or_eq_false_iff, beq_iff_eq, bne_iff_ne, Int.not_lt, Int.not_le, ne_eq] at hc19
          obtain ⟨A0, g0, hE0⟩ : ∃ A g, E = A ++ [g] := ⟨E.dropLast, E.getLast (fun h9 => by rw [h9] at hc19; simp at hc19), (List.dropLast_concat_getLast _).symm⟩
          have hg0 : E[E.length - 1]? = some g0 := by rw [hE0]; simp
          have hEn : 0 < E.length := by rw [hE0]; simp
          refine Sx.st_take hT rfl rfl rfl rfl (Sx.x_move hT rfl rfl) ?_
          clear hT; intro a hT
          refine Sx.st_take hT rfl rfl rfl rfl (Sx.x_move hT rfl rfl) ?_
          clear hT; intro a hT
          refine Sx.st_take hT rfl rfl rfl rfl (Sx.x_len_slice hT rfl rfl Try.underlying30 rfl) ?_
          clear hT; intro a hT
          refine Sx.st_take hT rfl rfl rfl rfl ((fun w => Sx.x_sub w hT rfl rfl rfl (Sx.wrap64 (by omega)))) ?_
          clear hT; intro a hT
          refine Sx.st_take hT rfl rfl rfl rfl (Sx.x_index (k := E.length - 1) hT rfl Try.underlying30 Try.ti44 (H.row 2 rfl).sv rfl rfl (by first | rfl | omega) (by omega)) ?_
          clear hT; intro a hT
          refine Sx.st_take hT rfl rfl rfl rfl (Sx.x_fieldAddr hT rfl Try.fa44_0 rfl) ?_
          clear hT; intro a hT
          refine Sx.st_held hT rfl rfl rfl rfl hH (fun w' h' => Sx.y_loadS hT rfl Try.underlying32 Try.ti32 rfl (((((Hu.heldR 2 rfl h' Sx.off_No).ssn rfl).cs En.len hg0).seg (i := 0) (k := 3) rfl)) (by rfl)) ?_
          clear hT; intro a hT
          refine Sx.st_take hT rfl rfl rfl rfl (Sx.x_fieldAddr hT rfl Try.fa35_2 rfl) ?_
          clear hT; intro a hT
          refine Sx.st_held hT rfl rfl rfl rfl hH (fun w' h' => Sx.y_loadS hT rfl Try.underlying32 Try.ti32 rfl ((Hu.heldB 0 rfl h' Sx.off_No).seg (k := 3) rfl) (by rfl)) ?_
          clear hT; intro a hT
          refine Sx.st_take hT rfl rfl rfl rfl (Sx.x_neS hT rfl (by kernel_rfl) (Try.eq32 _ _ _ _ _ _) rfl rfl rfl) ?_
          clear hT; intro a hT
          refine Sx.st_take hT rfl rfl rfl rfl (Sx.x_pick_f hT rfl rfl rfl) ?_
          clear hT; intro a hT
          replace hT := hT.keep [51, 7, 29, 6, 5, 4, 3, 0, 1] rfl
          clear Hu hH
          refine Sx.ser_calm ?_
          refine Sx.then_normal (hK18 _ _ ?_)
          clear hK18
          -- cond 1
          refine Sx.wp_if hT rfl (fun hc20 => ?_) (fun hc20 => ?_)
          · try simp only [decide_eq_true_eq, decide_eq_false_iff_not, Bool.not_eq_true', Bool.not_eq_false', Bool.not_eq_true, Bool.not_eq_false, Bool.and_eq_true, Bool.or_eq_false_iff, beq_iff_eq, bne_iff_ne, Int.not_lt, Int.not_le, ne_eq] at hc20
            have hnw : E.map En.p = [] ∨ ∃ A g, E.map En.p = A ++ [g] ∧ g.t ≠ (Fr.p o).t := .inr ⟨A0.map En.p, g0.p, by rw [hE0, map_last], by show g0.t ≠ o.t; rw [Ne, tn_iff]; simpa using hc20⟩
            -- region 6 (ref.go:84)
            refine Sx.wp_text [(0, .take), (1, .take), (2, .run), (3, .take), (4, .run), (5, .take), (6, .run), (7, .run), (8, .take)] rfl ?_
            refine Sx.st_take hT rfl rfl rfl rfl (Sx.x_move hT rfl rfl) ?_
            clear hT; intro a hT
            refine Sx.st_take hT rfl rfl rfl rfl (Sx.x_fieldAddr hT rfl Try.fa35_2 rfl) ?_
            clear hT; intro a hT
            refine Sx.st_run hT rfl rfl rfl rfl (Sx.y_loadS hT rfl Try.underlying32 Try.ti32 rfl ((H.blk 0 rfl).seg (k := 3) rfl) (by rfl)) ?_
            clear hT; intro a hT
            refine Sx.st_take hT rfl rfl rfl rfl (Sx.x_fieldAddr hT rfl Try.fa35_3 rfl) ?_
            clear hT; intro a hT
            refine Sx.st_run hT rfl rfl rfl rfl (Sx.y_loadS hT rfl Try.underlying28 Try.ti28 rfl ((H.blk 0 rfl).seg (k := 3) rfl) (by rfl)) ?_
            clear hT; intro a hT
            refine Sx.st_take hT rfl rfl rfl rfl (Sx.x_bld hT rfl Try.bld44 rfl rfl) ?_
            clear hT; intro a hT
            refine Sx.st_eff hT rfl rfl rfl rfl (Sx.y_slice1 hT rfl Try.underlying30 Try.ti44 rfl rfl rfl rfl rfl rfl _) ?_
            clear hT; rintro _ w12 ⟨b4, rfl, N⟩ a hT
            replace H := H.new N; clear N
            refine Sx.st_eff hT rfl rfl rfl rfl (Sx.x_append hT rfl rfl Try.underlying30 Try.ti44 rfl (by decide) rfl rfl (H.row 3 rfl) ((H.blk 0 rfl).sv1 rfl) (by simp [Value.oneCell']) (fun h => by cases h) (by unfold maxLen; omega) (by omega)) ?_
            rintro _ w13 ⟨ad13, c13, rfl, hr, E, hown, -⟩
            clear hT; intro a hT
            replace H := H.setR 3 rfl hr E hown rfl; clear hr E hown
            rw [snoc_en] at H
            rw [show E.length + 1 = (E ++ [(⟨o.t, o.s, none, 0, []⟩ : En)]).length from by simp] at H hT
            replace H := H.nilR 50 4
            replace H := H.famPut (x := (⟨o.t, o.s, none, 0, []⟩ : En)) 3 0 rfl rfl rfl rfl [1, 2, 4, 5, 6, 7, 8] rfl rfl (show (E ++ [(⟨o.t, o.s, none, 0, []⟩ : En)]).Perm ((⟨o.t, o.s, none, 0, []⟩ : En) :: E) from List.perm_append_comm)
            rw [show (E ++ [(⟨o.t, o.s, none, 0, []⟩ : En)]).length = E.length + 1 from by simp] at H hT
            refine Sx.st_take hT rfl rfl rfl rfl (Sx.x_assign hT rfl rfl) ?_
            clear hT; intro a hT
            replace hT := hT.keep [5, 51, 7, 29, 6, 4, 3, 0, 1] rfl
            refine Sx.ser_nil ?_
            skip
            exact Sx.then_normal (hJK10 (E, (⟨o.t, o.s, none, 0, []⟩ : En), ad13, c13) _ _ ⟨grp_srt_new hEq hnw, hEl, Nat.zero_le _, hew⟩ (hT.keep [5, 7, 29, 6, 4, 3, 0, 1] rfl) (H.keep [3, 0, 2, 4, 5, 6, 7] rfl rfl))
          · try simp only [decide_eq_true_eq, decide_eq_false_iff_not, Bool.not_eq_true', Bool.not_eq_false', Bool.not_eq_true, Bool.not_eq_false, Bool.and_eq_true, Bool.or_eq_false_iff, beq_iff_eq, bne_iff_ne, Int.not_lt, Int.not_le, ne_eq] at hc20
            have hst : g0.t = o.t := by rw [tn_iff]; simpa using hc20
            refine wp_skip ?_
            rw [hE0] at H hT
            rw [show (A0 ++ [g0]).length = A0.length + 1 from by simp] at H hT
            have hsame9 : A0.map En.p ++ [⟨g0.t, g0.s, o.ws.foldl putS g0.ws⟩] = (grpE (uptoG ((L.take k).map Fr.p)) o.p).map srtE := grp_srt_same (A := A0.map En.p) (g := g0.p) (f := o.p) (by rw [← map_last, ← hE0]; exact hEq) hst
            exact Sx.then_normal (hJK10 (A0, g0, ad2, c2) _ _ ⟨hsame9, by rw [hE0, List.length_append] at hEl; simp at hEl; omega, hew g0 (by rw [hE0]; simp), fun e he => hew e (by rw [hE0]; simp [he])⟩ (hT.keep [5, 7, 29, 6, 4, 3, 0, 1] rfl) (H.keep [2, 1, 0, 3, 4, 5, 6] rfl rfl))
    · try simp only [decide_eq_true_eq, decide_eq_false_iff_not, Bool.not_eq_true', Bool.not_eq_false', Bool.not_eq_true, Bool.not_eq_false, Bool.and_eq_true, Bool.or_eq_false_iff, beq_iff_eq, bne_iff_ne, Int.not_lt, Int.not_le, ne_eq] at hc8
      have hcn : cntS at_ (L.map Fr.p) = k := cntS_eq (fun t q h3 h4 => by rw [List.getElem?_map] at h4; cases h5 : L[t]? with | none => rw [h5] at h4; cases h4 | some y => rw [h5] at h4; cases h4; exact hup t y h3 h5) (fun q h4 => by rw [List.getElem?_map] at h4; cases h5 : L[k]? with | none => rw [h5] at h4; cases h4 | some y => rw [h5] at h4; cases h4; rw [ho] at h5; cases h5; show ¬ cmpS o.s at_ ≤ 0; omega) (by rw [List.length_map]; omega)
      refine wp_exit ?_
      refine Sx.then_exit ?_
      refine Sx.then_exit ?_
      refine Sx.block_exit ?_
      refine Sx.then_normal (hK4 _ _ ?_)
      clear hK4
      refine wp_seq_k fun K21 hK21 => ?_
      -- region 13 (ref.go:92)
      refine Sx.wp_text [(0, .take), (1, .take), (2, .take), (3, .take), (4, .run), (5, .take), (6, .take), (7, .take), (8, .take), (9, .run)] rfl ?_
      refine Sx.st_take hT rfl rfl rfl rfl (Sx.x_move hT rfl rfl) ?_
      clear hT; intro a hT
      refine Sx.st_take hT rfl rfl rfl rfl (Sx.x_move hT rfl rfl) ?_
      clear hT; intro a hT
      refine Sx.st_take hT rfl rfl rfl rfl (Sx.x_nilCheck hT rfl rfl) ?_
      clear hT; intro a hT
      refine Sx.st_take hT rfl rfl rfl rfl (Sx.x_fieldAddr hT rfl Try.fa55_0 rfl) ?_
      clear hT; intro a hT
      refine Sx.st_run hT rfl rfl rfl rfl (Sx.x_load1 hT rfl Try.fl29 rfl ((H.blk 3 rfl).nth rfl)) ?_
      clear hT; intro a hT
      refine Sx.st_take hT rfl rfl rfl rfl (Sx.x_move hT rfl rfl) ?_
      clear hT; intro a hT
      refine Sx.st_take hT rfl rfl rfl rfl (Sx.x_slice_l (p := k) hT rfl Try.underlying29 Try.ti35 rfl rfl rfl (by omega)) ?_
      clear hT; intro a hT
      refine Sx.st_take hT rfl rfl rfl rfl (Sx.x_nilCheck hT rfl rfl) ?_
      clear hT; intro a hT
      refine Sx.st_take hT rfl rfl rfl rfl (Sx.x_fieldAddr hT rfl Try.fa55_0 rfl) ?_
      clear hT; intro a hT
      refine Sx.st_act hT rfl rfl rfl (Sx.y_store1 hT rfl Try.ti29 rfl rfl rfl (H.blk 3 rfl) rfl) ?_
      rintro w14 ⟨hb, E, _⟩
      replace H := H.setB 3 rfl hb E rfl; clear hb E
      replace H := H.turn (q := fun w => Ss w (cutAt ad 9 k c) Fr.cells 9 (L.drop k) ∧ (L.drop k).length ≤ c - k ∧ (cutAt ad 9 k c = none → (L.drop k).length = 0 ∧ c - k = 0)) 4 rfl (fun u hu => q_cut hu hk) rfl
      replace H := H.famSub 5 rfl (L' := L.drop k) (M := L.take k) (by rw [show L.Perm (L.drop k ++ L.take k) = (L.take k ++ L.drop k).Perm (L.drop k ++ L.take k) from by rw [List.take_append_drop]]; exact List.perm_append_comm) rfl
      rw [show L.length - k = (L.drop k).length from List.length_drop.symm] at H
      replace hT := hT.keep [29, 6, 5, 4, 3, 0, 1] rfl
      refine Sx.ser_nil ?_
      refine Sx.then_normal (hK21 _ _ ?_)
      clear hK21
      refine wp_seq_k fun K22 hK22 => ?_
      -- region 14 (ref.go:93)
      refine Sx.wp_text [(0, .take), (1, .take)] rfl ?_
      refine Sx.st_take hT rfl rfl rfl rfl (Sx.x_move hT rfl rfl) ?_
      clear hT; intro a hT
      refine Sx.st_take hT rfl rfl rfl rfl (Sx.x_assign hT rfl rfl) ?_
      clear hT; intro a hT
      replace hT := hT.keep [4, 29, 6, 5, 3, 0, 1] rfl
      refine Sx.ser_nil ?_
      refine Sx.then_normal (hK22 _ _ ?_)
      clear hK22
      refine wp_ret ?_
      refine Sx.done1 (fn := Try.f23) hT rfl (.tmp (hT.get 4 _ rfl)) ?_
      refine ⟨_, _, _, E, ad2, c2, L.drop k, rfl, H.keep [3, 4, 5, 1, 0] rfl rfl, ?_, drop_cnt hcn⟩
      rw [hEq]; unfold uptoE; rw [hcn, List.map_take]
  · try simp only [decide_eq_true_eq, decide_eq_false_iff_not, Bool.not_eq_true', Bool.not_eq_false', Bool.not_eq_true, Bool.not_eq_false, Bool.and_eq_true, Bool.or_eq_false_iff, beq_iff_eq, bne_iff_ne, Int.not_lt, Int.not_le, ne_eq] at hc7
    refine Sx.st_skip hT rfl rfl rfl rfl ?_
    clear hT; intro a hT
    refine Sx.st_skip hT rfl rfl rfl rfl ?_
    clear hT; intro a hT
    refine Sx.st_skip hT rfl rfl rfl rfl ?_
    clear hT; intro a hT
    refine Sx.st_heldskip hT rfl rfl rfl rfl hH ?_
    clear hT; intro a hT
    refine Sx.st_skip hT rfl rfl rfl rfl ?_
    clear hT; intro a hT
    refine Sx.st_skip hT rfl rfl rfl rfl ?_
    clear hT; intro a hT
    refine Sx.st_skip hT rfl rfl rfl rfl ?_
    clear hT; intro a hT
    refine Sx.st_heldskip hT rfl rfl rfl rfl hH ?_
    clear hT; intro a hT
    refine Sx.st_heldskip hT rfl rfl rfl rfl hH ?_
    clear hT; intro a hT
    refine Sx.st_runskip hT rfl rfl rfl rfl ?_
    clear hT; intro a hT
    refine Sx.st_skip hT rfl rfl rfl rfl ?_
    clear hT; intro a hT
    refine Sx.st_take hT rfl rfl rfl rfl (Sx.x_pick_f hT rfl rfl rfl) ?_
    clear hT; intro a hT
    replace hT := hT.keep [29, 6, 5, 4, 3, 0, 1] rfl
    clear Hu hH
    refine Sx.ser_calm ?_
    refine Sx.then_normal (hK6 _ _ ?_)
    clear hK6
    refine Sx.wp_if hT rfl (fun h => by cases h) (fun _ => ?_)
    have hcn : cntS at_ (L.map Fr.p) = k := cntS_eq (fun t q h3 h4 => by rw [List.getElem?_map] at h4; cases h5 : L[t]? with | none => rw [h5] at h4; cases h4 | some y => rw [h5] at h4; cases h4; exact hup t y h3 h5) (fun q h4 => by rw [List.getElem?_map] at h4; cases h5 : L[k]? with | none => rw [h5] at h4; cases h4 | some y => rw [h5] at h4; cases h4; have := (List.getElem?_eq_some_iff.1 h5).1; omega) (by rw [List.length_map]; omega)
    refine wp_exit ?_
    refine Sx.then_exit ?_
    refine Sx.then_exit ?_
    refine Sx.block_exit ?_
    refine Sx.then_normal (hK4 _ _ ?_)
    clear hK4
    refine wp_seq_k fun K23 hK23 => ?_
    -- region 13 (ref.go:92)
    refine Sx.wp_text [(0, .take), (1, .take), (2, .take), (3, .take), (4, .run), (5, .take), (6, .take), (7, .take), (8, .take), (9, .run)] rfl ?_
    refine Sx.st_take hT rfl rfl rfl rfl (Sx.x_move hT rfl rfl) ?_
    clear hT; intro a hT
    refine Sx.st_take hT rfl rfl rfl rfl (Sx.x_move hT rfl rfl) ?_
    clear hT; intro a hT
    refine Sx.st_take hT rfl rfl rfl rfl (Sx.x_nilCheck hT rfl rfl) ?_
    clear hT; intro a hT
    refine Sx.st_take hT rfl rfl rfl rfl (Sx.x_fieldAddr hT rfl Try.fa55_0 rfl) ?_
    clear hT; intro a hT
    refine Sx.st_run hT rfl rfl rfl rfl (Sx.x_load1 hT rfl Try.fl29 rfl ((H.blk 3 rfl).nth rfl)) ?_
    clear hT; intro a hT
    refine Sx.st_take hT rfl rfl rfl rfl (Sx.x_move hT rfl rfl) ?_
    clear hT; intro a hT
    refine Sx.st_take hT rfl rfl rfl rfl (Sx.x_slice_l (p := k) hT rfl Try.underlying29 Try.ti35 rfl rfl rfl (by omega)) ?_
    clear hT; intro a hT
    refine Sx.st_take hT rfl rfl rfl rfl (Sx.x_nilCheck hT rfl rfl) ?_
    clear hT; intro a hT
    refine Sx.st_take hT rfl rfl rfl rfl (Sx.x_fieldAddr hT rfl Try.fa55_0 rfl) ?_
    clear hT; intro a hT
    refine Sx.st_act hT rfl rfl rfl (Sx.y_store1 hT rfl Try.ti29 rfl rfl rfl (H.blk 3 rfl) rfl) ?_
    rintro w15 ⟨hb, E, _⟩
    replace H := H.setB 3 rfl hb E rfl; clear hb E
    replace H := H.turn (q := fun w => Ss w (cutAt ad 9 k c) Fr.cells 9 (L.drop k) ∧ (L.drop k).length ≤ c - k ∧ (cutAt ad 9 k c = none → (L.drop k).length = 0 ∧ c - k = 0)) 4 rfl (fun u hu => q_cut hu hk) rfl
    replace H := H.famSub 5 rfl (L' := L.drop k) (M := L.take k) (by rw [show L.Perm (L.drop k ++ L.take k) = (L.take k ++ L.drop k).Perm (L.drop k ++ L.take k) from by rw [List.take_append_drop]]; exact List.perm_append_comm) rfl
    rw [show L.length - k = (L.drop k).length from List.length_drop.symm] at H
    replace hT := hT.keep [29, 6, 5, 4, 3, 0, 1] rfl
    refine Sx.ser_nil ?_
    refine Sx.then_normal (hK23 _ _ ?_)
    clear hK23
    refine wp_seq_k fun K24 hK24 => ?_
    -- region 14 (ref.go:93)
    refine Sx.wp_text [(0, .take), (1, .take)] rfl ?_
    refine Sx.st_take hT rfl rfl rfl rfl (Sx.x_move hT rfl rfl) ?_
    clear hT; intro a hT
    refine Sx.st_take hT rfl rfl rfl rfl (Sx.x_assign hT rfl rfl) ?_
    clear hT; intro a hT
    replace hT := hT.keep [4, 29, 6, 5, 3, 0, 1] rfl
    refine Sx.ser_nil ?_
    refine Sx.then_normal (hK24 _ _ ?_)
    clear hK24
    refine wp_ret ?_
    refine Sx.done1 (fn := Try.f23) hT rfl (.tmp (hT.get 4 _ rfl)) ?_
    refine ⟨_, _, _, E, ad2, c2, L.drop k, rfl, H.keep [3, 4, 5, 1, 0] rfl rfl, ?_, drop_cnt hcn⟩
    rw [hEq]; unfold uptoE; rw [hcn, List.map_take]

end Go.Proofs.Ythhdoeflafakaaa
