/- Walks: do both sifts stand alike; SiftPlays. -/
import Derived.Test.YthhdoeflafakaaaS15
set_option linter.unusedSimpArgs false
set_option linter.unusedVariables false
namespace Go.Proofs.Ythhdoeflafakaaa
open Sx
theorem Try.can25 : Sx.Can Try.prog 25 := ⟨_, Try.func25, by kernel_rfl, rfl⟩
def spW : Wt := ⟨[115, 112, 111, 105, 108, 116], vz⟩
def spF (q : Fr) (k : Nat) : Fr := { q with ws := q.ws.set k spW }
theorem set_cellsF {X : List Fr} {i : Nat} {q y : Fr} (hq : X[i]? = some q) (h : y.cells = q.cells) : (X.set i y).flatMap Fr.cells = X.flatMap Fr.cells := by
  obtain ⟨hlt, rfl⟩ := List.getElem?_eq_some_iff.1 hq
  rw [List.set_eq_take_append_cons_drop, if_pos hlt]
  conv => rhs; rw [← List.take_append_drop i X, List.drop_eq_getElem_cons hlt]
  simp only [List.flatMap_append, List.flatMap_cons, h]
theorem spF_cells (q : Fr) (k : Nat) : (spF q k).cells = q.cells := by unfold spF Fr.cells; simp

set_option maxHeartbeats 2000000 in
theorem stands_calls {p p2 : Nat} {ad ad2 : Option Addr} {c c2 : Nat} (L M : List Fr) {w : World} (hB : Blk w p [.slice ad L.length c] 68) (hs : Ss w ad Fr.cells 9 L) (hf : ∀ x ∈ L, Ss w x.ad Wt.cells 4 x.ws) (hfn : ∀ x ∈ L, (x.ad = none → x.ws.length = 0 ∧ x.c = 0) ∧ x.ws.length ≤ 1000000) (hB2 : Blk w p2 [.slice ad2 M.length c2] 55) (hs2 : Ss w ad2 Fr.cells 9 M) (hf2 : ∀ x ∈ M, Ss w x.ad Wt.cells 4 x.ws) (hLM : L.map Fr.p = M.map Fr.p) (hHd : Held (L.map Fr.p)) (hl : L.length ≤ 1000000) : Calls Try.prog 25 #[.pointer (some ⟨p, 0, none⟩), .pointer (some ⟨p2, 0, none⟩)] w fun e w' => e = .returned (.bool true) ∧ Ext No w w' := by
  have R : Ro w No _ := Ro.of fun w' x => hs.ext_no x
  have R2 : Ro w No _ := Ro.of fun w' x => hs2.ext_no x
  have RB : Ro w No _ := Ro.of fun w' x => hB.ext_no x
  have RB2 : Ro w No _ := Ro.of fun w' x => hB2.ext_no x
  have RF : Ro w No (fun u => ∀ x ∈ L, Ss u x.ad Wt.cells 4 x.ws) := Ro.of fun w' y x hx => (hf x hx).ext_no y
  have RF2 : Ro w No (fun u => ∀ x ∈ M, Ss u x.ad Wt.cells 4 x.ws) := Ro.of fun w' y x hx => (hf2 x hx).ext_no y
  have hLMl : L.length = M.length := by have := congrArg List.length hLM; simpa using this
  refine Sx.calls_into Try.func25 rfl Try.ntmps25 rfl fun a hT => ?_
  replace hT := hT.keep [0, 1] rfl
  have H : Sx.Hp w (Sx.No) w [] := Sx.Hp.start _ _
  refine wp_seq_k fun K1 hK1 => ?_
  -- region 0 (law.go:47)
  refine Sx.wp_text [(0, .take)] rfl ?_
  refine Sx.st_take hT rfl rfl rfl rfl (Sx.x_assign hT rfl rfl) ?_
  clear hT; intro a hT
  replace hT := hT.keep [4, 0, 1] rfl
  refine Sx.ser_nil ?_
  refine Sx.then_normal (hK1 _ _ ?_)
  clear hK1
  refine wp_seq_k fun K2 hK2 => ?_
  -- region 1 (law.go:48)
  refine Sx.wp_text [(0, .take), (1, .run), (2, .take)] rfl ?_
  refine Sx.st_take hT rfl rfl rfl rfl (Sx.x_move hT rfl rfl) ?_
  clear hT; intro a hT
  refine Sx.st_call hT rfl rfl rfl rfl rfl Try.can28 rfl (Held_calls L (RB.at H.ext) (R.at H.ext) (fun x hx => ⟨(RF.at H.ext) x hx, hfn x hx⟩) hl) ?_
  rintro _ w1 ⟨adx1, cx1, X1, rfl, K, hX1⟩
  refine ⟨_, rfl, ?_⟩
  clear hT; intro a hT
  replace H := H.more K rfl; clear K
  have hXl1 : X1.length = L.length := by have := congrArg List.length hX1; simpa using this
  refine Sx.st_take hT rfl rfl rfl rfl (Sx.x_assign hT rfl rfl) ?_
  clear hT; intro a hT
  replace hT := hT.keep [5, 4, 0, 1] rfl
  refine Sx.ser_nil ?_
  refine Sx.then_normal (hK2 _ _ ?_)
  clear hK2
  refine wp_seq_k fun K3 hK3 => ?_
  -- region 2 (law.go:49)
  refine Sx.wp_text [(0, .take), (1, .run), (2, .take), (3, .take), (4, .take), (5, .run), (6, .run), (7, .take)] rfl ?_
  refine Sx.st_take hT rfl rfl rfl rfl (Sx.x_move hT rfl rfl) ?_
  clear hT; intro a hT
  refine Sx.st_call hT rfl rfl rfl rfl rfl Try.can26 rfl (Least_calls L (RB.at H.ext) (R.at H.ext)) ?_
  rintro _ w2 ⟨rfl, E⟩
  refine ⟨_, rfl, ?_⟩
  clear hT; intro a hT
  replace H := H.pure E; clear E
  have hLne : (L ≠ []) ↔ 0 < M.length := by rw [← hLMl]; exact List.length_pos_iff.symm
  refine Sx.st_take hT rfl rfl rfl rfl (Sx.x_move hT rfl rfl) ?_
  clear hT; intro a hT
  refine Sx.st_take hT rfl rfl rfl rfl (Sx.x_extractL hT rfl rfl rfl) ?_
  clear hT; intro a hT
  refine Sx.st_take hT rfl rfl rfl rfl (Sx.x_extractL hT rfl rfl rfl) ?_
  clear hT; intro a hT
  refine Sx.st_eff hT rfl rfl rfl rfl (Sx.y_alloc hT rfl Try.ti28 rfl _) ?_
  clear hT; rintro _ w3 ⟨b1, rfl, N⟩ a hT
  replace H := H.new N; clear N
  refine Sx.st_act hT rfl rfl rfl (Sx.y_storeS hT rfl Try.ti28 rfl rfl rfl rfl rfl (H.blk 0 rfl) rfl) ?_
  rintro w4 ⟨hb, E, _⟩
  replace H := H.setB 0 rfl hb E rfl; clear hb E
  refine Sx.st_take hT rfl rfl rfl rfl (Sx.x_assign hT rfl rfl) ?_
  clear hT; intro a hT
  replace hT := hT.keep [7, 6, 5, 4, 0, 1] rfl
  refine Sx.ser_nil ?_
  refine Sx.then_normal (hK3 _ _ ?_)
  clear hK3
  refine wp_seq_k fun K4 hK4 => ?_
  refine wp_seq_k fun K5 hK5 => ?_
  -- region 3 (law.go:50)
  refine Sx.wp_draws (fun u => Sx.Ext (Sx.No) u) [(0, .take), (2, .take), (3, .take), (4, .take), (5, .held), (6, .take), (1, .keep), (7, .take), (8, .take), (9, .take), (10, .take), (11, .take), (12, .take), (13, .held), (14, .keep), (15, .take), (16, .take), (17, .take), (18, .take), (19, .take), (20, .take), (21, .take), (22, .held), (23, .take), (24, .take), (25, .take), (26, .take), (27, .take), (28, .take), (29, .take), (30, .held), (31, .take), (32, .take), (33, .take), (34, .held), (35, .take), (36, .take), (37, .held), (38, .take), (39, .take), (40, .take), (41, .take), (42, .take), (43, .take), (44, .take), (45, .held), (46, .take), (47, .take), (48, .take), (49, .take)] (by kernel_rfl) (by kernel_rfl) (fun u E _ => ?_)
  replace H := H.pure E; clear E
  have hH : Sx.Ext (Sx.No) u u := Sx.Ext.refl _ _
  have Hu := H
  refine Sx.st_take hT rfl rfl rfl rfl (Sx.x_move hT rfl rfl) ?_
  clear hT; intro a hT
  refine Sx.st_take hT rfl rfl rfl rfl (Sx.x_move hT rfl rfl) ?_
  clear hT; intro a hT
  refine Sx.st_take hT rfl rfl rfl rfl (Sx.x_nilCheck hT rfl rfl) ?_
  clear hT; intro a hT
  refine Sx.st_take hT rfl rfl rfl rfl (Sx.x_fieldAddr hT rfl Try.fa55_0 rfl) ?_
  clear hT; intro a hT
  refine Sx.st_held hT rfl rfl rfl rfl hH (fun w' h' => Sx.x_load1 hT rfl Try.fl29 rfl (by first | exact ((Hu.heldB 0 rfl h' Sx.off_No).nth rfl) | exact ((RB2.at (Hu.ext.step h')).nth (j := 0) rfl))) ?_
  clear hT; intro a hT
  refine Sx.st_take hT rfl rfl rfl rfl (Sx.x_len_slice hT rfl rfl Try.underlying29 rfl) ?_
  clear hT; intro a hT
  refine Sx.st_callkeep hT rfl rfl rfl rfl rfl Try.can15 rfl (Len_calls L (RB.at H.ext)) ?_
  rintro _ w5 ⟨rfl, E⟩
  refine ⟨_, rfl, hH.step E, ?_⟩
  replace hH := hH.step E
  clear hT; intro a hT
  replace H := H.pure E; clear E
  refine Sx.st_take hT rfl rfl rfl rfl ((fun w => Sx.x_ne w hT rfl rfl rfl)) ?_
  clear hT; intro a hT
  refine Sx.st_take hT rfl rfl rfl rfl (Sx.x_move hT rfl rfl) ?_
  clear hT; intro a hT
  -- guard (3, 8)
  refine Sx.Sl.two hT 25 rfl (fun hc6 hT => ?_) (fun hc6 hT => ?_)
  · exfalso
    try simp only [decide_eq_true_eq, decide_eq_false_iff_not, Bool.not_eq_true', Bool.not_eq_false', Bool.not_eq_true, Bool.not_eq_false, Bool.and_eq_true, Bool.or_eq_false_iff, beq_iff_eq, bne_iff_ne, Int.not_lt, Int.not_le, ne_eq] at hc6
    first | omega | (simp at hc6; omega)
  · try simp only [decide_eq_true_eq, decide_eq_false_iff_not, Bool.not_eq_true', Bool.not_eq_false', Bool.not_eq_true, Bool.not_eq_false, Bool.and_eq_true, Bool.or_eq_false_iff, beq_iff_eq, bne_iff_ne, Int.not_lt, Int.not_le, ne_eq] at hc6
    refine Sx.st_take hT rfl rfl rfl rfl (Sx.x_move hT rfl rfl) ?_
    clear hT; intro a hT
    refine Sx.st_take hT rfl rfl rfl rfl (Sx.x_move hT rfl rfl) ?_
    clear hT; intro a hT
    refine Sx.st_take hT rfl rfl rfl rfl (Sx.x_nilCheck hT rfl rfl) ?_
    clear hT; intro a hT
    refine Sx.st_take hT rfl rfl rfl rfl (Sx.x_fieldAddr hT rfl Try.fa55_0 rfl) ?_
    clear hT; intro a hT
    refine Sx.st_held hT rfl rfl rfl rfl hH (fun w' h' => Sx.x_load1 hT rfl Try.fl29 rfl (by first | exact ((Hu.heldB 0 rfl h' Sx.off_No).nth rfl) | exact ((RB2.at (Hu.ext.step h')).nth (j := 0) rfl))) ?_
    clear hT; intro a hT
    refine Sx.st_callkeep hT rfl rfl rfl rfl rfl Try.can27 rfl (Fragments_calls X1 M ((H.row 1 rfl).ssn rfl) (R2.at H.ext) (fun x hx => ⟨fam_fr (H.fam 2 rfl) x hx, by have h9 := (held_fam (L := X1) (by rw [hX1]; exact hHd) (H.fam 2 rfl) x hx).2.2; omega⟩) (RF2.at H.ext) (by have := congrArg List.length hX1; simp at this; omega)) ?_
    rintro _ w6 ⟨rfl, E⟩
    refine ⟨_, rfl, hH.step E, ?_⟩
    replace hH := hH.step E
    clear hT; intro a hT
    replace H := H.pure E; clear E
    rw [decide_eq_true (show List.map Fr.p X1 = List.map Fr.p M from hX1.trans hLM)] at hT
    refine Sx.st_take hT rfl rfl rfl rfl (Sx.x_not hT rfl rfl) ?_
    clear hT; intro a hT
    refine Sx.st_take hT rfl rfl rfl rfl (Sx.x_pick_f hT rfl rfl rfl) ?_
    clear hT; intro a hT
    refine Sx.st_take hT rfl rfl rfl rfl (Sx.x_move hT rfl rfl) ?_
    clear hT; intro a hT
    -- guard (3, 17)
    refine Sx.Sl.two hT 34 rfl (fun hc7 hT => ?_) (fun hc7 hT => ?_)
    · exfalso
      try simp only [decide_eq_true_eq, decide_eq_false_iff_not, Bool.not_eq_true', Bool.not_eq_false', Bool.not_eq_true, Bool.not_eq_false, Bool.and_eq_true, Bool.or_eq_false_iff, beq_iff_eq, bne_iff_ne, Int.not_lt, Int.not_le, ne_eq] at hc7
      simp at hc7
    · try simp only [decide_eq_true_eq, decide_eq_false_iff_not, Bool.not_eq_true', Bool.not_eq_false', Bool.not_eq_true, Bool.not_eq_false, Bool.and_eq_true, Bool.or_eq_false_iff, beq_iff_eq, bne_iff_ne, Int.not_lt, Int.not_le, ne_eq] at hc7
      refine Sx.st_take hT rfl rfl rfl rfl (Sx.x_move hT rfl rfl) ?_
      clear hT; intro a hT
      refine Sx.st_take hT rfl rfl rfl rfl (Sx.x_move hT rfl rfl) ?_
      clear hT; intro a hT
      refine Sx.st_take hT rfl rfl rfl rfl (Sx.x_nilCheck hT rfl rfl) ?_
      clear hT; intro a hT
      refine Sx.st_take hT rfl rfl rfl rfl (Sx.x_fieldAddr hT rfl Try.fa55_0 rfl) ?_
      clear hT; intro a hT
      refine Sx.st_held hT rfl rfl rfl rfl hH (fun w' h' => Sx.x_load1 hT rfl Try.fl29 rfl (by first | exact ((Hu.heldB 0 rfl h' Sx.off_No).nth rfl) | exact ((RB2.at (Hu.ext.step h')).nth (j := 0) rfl))) ?_
      clear hT; intro a hT
      refine Sx.st_take hT rfl rfl rfl rfl (Sx.x_len_slice hT rfl rfl Try.underlying29 rfl) ?_
      clear hT; intro a hT
      refine Sx.st_take hT rfl rfl rfl rfl ((fun w => Sx.x_gt w hT rfl rfl rfl)) ?_
      clear hT; intro a hT
      refine Sx.st_take hT rfl rfl rfl rfl (Sx.x_neb hT rfl Try.underlying4 rfl rfl) ?_
      clear hT; intro a hT
      refine Sx.st_take hT rfl rfl rfl rfl (Sx.x_pick_f hT rfl rfl rfl) ?_
      clear hT; intro a hT
      refine Sx.st_take hT rfl rfl rfl rfl (Sx.x_move hT rfl rfl) ?_
      clear hT; intro a hT
      -- guard (3, 27)
      refine Sx.Sl.two hT 44 rfl (fun hc8 hT => ?_) (fun hc8 hT => ?_)
      · exfalso
        try simp only [decide_eq_true_eq, decide_eq_false_iff_not, Bool.not_eq_true', Bool.not_eq_false', Bool.not_eq_true, Bool.not_eq_false, Bool.and_eq_true, Bool.or_eq_false_iff, beq_iff_eq, bne_iff_ne, Int.not_lt, Int.not_le, ne_eq] at hc8
        first | (simp [hLne] at hc8; done) | (simp [hLne] at hc8; omega)
      · try simp only [decide_eq_true_eq, decide_eq_false_iff_not, Bool.not_eq_true', Bool.not_eq_false', Bool.not_eq_true, Bool.not_eq_false, Bool.and_eq_true, Bool.or_eq_false_iff, beq_iff_eq, bne_iff_ne, Int.not_lt, Int.not_le, ne_eq] at hc8
        refine Sx.st_take hT rfl rfl rfl rfl (Sx.x_move hT rfl rfl) ?_
        clear hT; intro a hT
        refine Sx.st_take hT rfl rfl rfl rfl (Sx.x_move hT rfl rfl) ?_
        clear hT; intro a hT
        -- guard (3, 29)
        refine Sx.Sl.two hT 46 rfl (fun hc9 hT => ?_) (fun hc9 hT => ?_)
        · try simp only [decide_eq_true_eq, decide_eq_false_iff_not, Bool.not_eq_true', Bool.not_eq_false', Bool.not_eq_true, Bool.not_eq_false, Bool.and_eq_true, Bool.or_eq_false_iff, beq_iff_eq, bne_iff_ne, Int.not_lt, Int.not_le, ne_eq] at hc9
          have hLn0 : L ≠ [] := by simpa using hc9
          have hM0 := hLne.1 hLn0
          obtain ⟨m0, hm0⟩ : ∃ o, M[0]? = some o := ⟨_, List.getElem?_eq_getElem (by omega)⟩
          have hfm0 : firstS (L.map Fr.p) = m0.s := by rw [hLM]; exact firstS_at hm0
          refine Sx.st_held hT rfl rfl rfl rfl hH (fun w' h' => Sx.y_loadS hT rfl Try.underlying28 Try.ti28 rfl ((Hu.heldB 0 rfl h' Sx.off_No).seg (k := 3) rfl) (by rfl)) ?_
          clear hT; intro a hT
          refine Sx.st_take hT rfl rfl rfl rfl (Sx.x_move hT rfl rfl) ?_
          clear hT; intro a hT
          refine Sx.st_take hT rfl rfl rfl rfl (Sx.x_nilCheck hT rfl rfl) ?_
          clear hT; intro a hT
          refine Sx.st_take hT rfl rfl rfl rfl (Sx.x_fieldAddr hT rfl Try.fa55_0 rfl) ?_
          clear hT; intro a hT
          refine Sx.st_held hT rfl rfl rfl rfl hH (fun w' h' => Sx.x_load1 hT rfl Try.fl29 rfl (by first | exact ((Hu.heldB 0 rfl h' Sx.off_No).nth rfl) | exact ((RB2.at (Hu.ext.step h')).nth (j := 0) rfl))) ?_
          clear hT; intro a hT
          refine Sx.st_take hT rfl rfl rfl rfl (Sx.x_index (k := 0) hT rfl Try.underlying29 Try.ti35 (R2.at H.ext).sv rfl rfl (by first | rfl | omega) (by omega)) ?_
          clear hT; intro a hT
          refine Sx.st_take hT rfl rfl rfl rfl (Sx.x_fieldAddr hT rfl Try.fa35_3 rfl) ?_
          clear hT; intro a hT
          refine Sx.st_held hT rfl rfl rfl rfl hH (fun w' h' => Sx.y_loadS hT rfl Try.underlying28 Try.ti28 rfl ((((R2.at (Hu.ext.step h')).cs Fr.len hm0).seg (i := 5) (k := 3) rfl)) (by rfl)) ?_
          clear hT; intro a hT
          refine Sx.st_take hT rfl rfl rfl rfl (Sx.x_neS hT rfl (by kernel_rfl) (Try.eq28 _ _ _ _ _ _) rfl rfl rfl) ?_
          clear hT; intro a hT
          refine Sx.st_take hT rfl rfl rfl rfl (Sx.x_pick_t hT rfl rfl rfl) ?_
          clear hT; intro a hT
          refine Sx.st_take hT rfl rfl rfl rfl (Sx.x_pick_f hT rfl rfl rfl) ?_
          clear hT; intro a hT
          refine Sx.st_take hT rfl rfl rfl rfl (Sx.x_move hT rfl rfl) ?_
          clear hT; intro a hT
          -- guard (3, 41)
          refine Sx.Sl.two hT 58 rfl (fun hc10 hT => ?_) (fun hc10 hT => ?_)
          · exfalso
            try simp only [decide_eq_true_eq, decide_eq_false_iff_not, Bool.not_eq_true', Bool.not_eq_false', Bool.not_eq_true, Bool.not_eq_false, Bool.and_eq_true, Bool.or_eq_false_iff, beq_iff_eq, bne_iff_ne, Int.not_lt, Int.not_le, ne_eq] at hc10
            simp [hfm0] at hc10
          · try simp only [decide_eq_true_eq, decide_eq_false_iff_not, Bool.not_eq_true', Bool.not_eq_false', Bool.not_eq_true, Bool.not_eq_false, Bool.and_eq_true, Bool.or_eq_false_iff, beq_iff_eq, bne_iff_ne, Int.not_lt, Int.not_le, ne_eq] at hc10
            refine Sx.st_take hT rfl rfl rfl rfl (Sx.x_move hT rfl rfl) ?_
            clear hT; intro a hT
            refine Sx.st_take hT rfl rfl rfl rfl (Sx.x_not hT rfl rfl) ?_
            clear hT; intro a hT
            refine Sx.st_take hT rfl rfl rfl rfl (Sx.x_move hT rfl rfl) ?_
            clear hT; intro a hT
            -- guard (3, 44)
            refine Sx.Sl.two hT 61 rfl (fun hc11 hT => ?_) (fun hc11 hT => ?_)
            · try simp only [decide_eq_true_eq, decide_eq_false_iff_not, Bool.not_eq_true', Bool.not_eq_false', Bool.not_eq_true, Bool.not_eq_false, Bool.and_eq_true, Bool.or_eq_false_iff, beq_iff_eq, bne_iff_ne, Int.not_lt, Int.not_le, ne_eq] at hc11
              have hLn1 : L = [] := by simpa using hc11
              have hfz0 : firstS (L.map Fr.p) = sz0 := by rw [hLn1]; rfl
              refine Sx.st_held hT rfl rfl rfl rfl hH (fun w' h' => Sx.y_loadS hT rfl Try.underlying28 Try.ti28 rfl ((Hu.heldB 0 rfl h' Sx.off_No).seg (k := 3) rfl) (by rfl)) ?_
              clear hT; intro a hT
              refine Sx.st_take hT rfl rfl rfl rfl (Sx.x_bld hT rfl Try.bld28 rfl rfl) ?_
              clear hT; intro a hT
              refine Sx.st_take hT rfl rfl rfl rfl (Sx.x_neS hT rfl (by kernel_rfl) (Try.eq28 _ _ _ _ _ _) rfl rfl rfl) ?_
              clear hT; intro a hT
              refine Sx.st_take hT rfl rfl rfl rfl (Sx.x_pick_t hT rfl rfl rfl) ?_
              clear hT; intro a hT
              refine Sx.st_take hT rfl rfl rfl rfl (Sx.x_pick_f hT rfl rfl rfl) ?_
              clear hT; intro a hT
              replace hT := hT.keep [66, 7, 6, 5, 4, 0, 1] rfl
              clear Hu hH
              refine Sx.ser_calm ?_
              refine Sx.then_normal (hK5 _ _ ?_)
              clear hK5
              -- cond 0
              refine Sx.wp_if hT rfl (fun hc12 => ?_) (fun hc12 => ?_)
              · exfalso
                try simp only [decide_eq_true_eq, decide_eq_false_iff_not, Bool.not_eq_true', Bool.not_eq_false', Bool.not_eq_true, Bool.not_eq_false, Bool.and_eq_true, Bool.or_eq_false_iff, beq_iff_eq, bne_iff_ne, Int.not_lt, Int.not_le, ne_eq] at hc12
                first | (rw [hfz0] at hc12; exact hc12 ⟨rfl, rfl, rfl⟩) | (simp [hfz0, sz0] at hc12; done) | (simp at hc12; done)
              · try simp only [decide_eq_true_eq, decide_eq_false_iff_not, Bool.not_eq_true', Bool.not_eq_false', Bool.not_eq_true, Bool.not_eq_false, Bool.and_eq_true, Bool.or_eq_false_iff, beq_iff_eq, bne_iff_ne, Int.not_lt, Int.not_le, ne_eq] at hc12
                refine wp_skip ?_
                refine Sx.then_normal (hK4 _ _ ?_)
                clear hK4
                refine wp_seq_k fun K13 hK13 => ?_
                refine wp_seq_k fun K14 hK14 => ?_
                -- region 5 (law.go:53)
                refine Sx.wp_text [(0, .take)] rfl ?_
                refine Sx.st_take hT rfl rfl rfl rfl (Sx.x_assign hT rfl rfl) ?_
                clear hT; intro a hT
                replace hT := hT.keep [8, 66, 7, 6, 5, 4, 0, 1] rfl
                refine Sx.ser_nil ?_
                refine Sx.then_normal (hK14 _ _ ?_)
                clear hK14
                refine wp_block ?_
                -- loop 0
                refine Sx.wp_loopH (G := Nat × List Fr) (fun ⟨i, X2⟩ => [(8, .int .i64 (i : Int))]) (fun ⟨i, X2⟩ => [cF 50 4 Fr.rw (X2)]) (fun ⟨i, X2⟩ => i ≤ X1.length ∧ X2.flatMap Fr.cells = X1.flatMap Fr.cells ∧ X2.length = X1.length) (fun ⟨i, X2⟩ => X1.length - i) (0, X1) (hT.keep [8, 66, 7, 6, 5, 4, 0, 1] rfl) (H.keep [2, 0, 1] rfl rfl) (⟨Nat.zero_le _, rfl, rfl⟩) ?_
                clear hT H
                rintro ⟨i, X2⟩ a w7 hJ hT H
                replace hT := hT.keep [8, 66, 7, 6, 5, 4, 0, 1] rfl
                replace H := H.keep [0, 1, 2] rfl rfl
                obtain ⟨hi, hX2c, hX2l⟩ := hJ
                refine wp_seq_k fun K15 hK15 => ?_
                refine wp_seq_k fun K16 hK16 => ?_
                -- region 6 (law.go:53)
                refine Sx.wp_text [(0, .take), (1, .take), (2, .take), (3, .take)] rfl ?_
                refine Sx.st_take hT rfl rfl rfl rfl (Sx.x_move hT rfl rfl) ?_
                clear hT; intro a hT
                refine Sx.st_take hT rfl rfl rfl rfl (Sx.x_move hT rfl rfl) ?_
                clear hT; intro a hT
                refine Sx.st_take hT rfl rfl rfl rfl (Sx.x_len_slice hT rfl rfl Try.underlying29 rfl) ?_
                clear hT; intro a hT
                refine Sx.st_take hT rfl rfl rfl rfl ((fun w => Sx.x_lt w hT rfl rfl rfl)) ?_
                clear hT; intro a hT
                replace hT := hT.keep [70, 8, 66, 7, 6, 5, 4, 0, 1] rfl
                refine Sx.ser_nil ?_
                refine Sx.then_normal (hK16 _ _ ?_)
                clear hK16
                -- cond 1
                refine Sx.wp_if hT rfl (fun hc17 => ?_) (fun hc17 => ?_)
                · try simp only [decide_eq_true_eq, decide_eq_false_iff_not, Bool.not_eq_true', Bool.not_eq_false', Bool.not_eq_true, Bool.not_eq_false, Bool.and_eq_true, Bool.or_eq_false_iff, beq_iff_eq, bne_iff_ne, Int.not_lt, Int.not_le, ne_eq] at hc17
                  obtain ⟨q0, hq0⟩ : ∃ o, X2[i]? = some o := ⟨_, List.getElem?_eq_getElem (by omega)⟩
                  refine wp_skip ?_
                  refine Sx.then_normal (hK15 _ _ ?_)
                  clear hK15
                  refine wp_seq_k fun K18 hK18 => ?_
                  refine wp_block ?_
                  refine wp_seq_k fun K19 hK19 => ?_
                  -- region 8 (law.go:54)
                  refine Sx.wp_text [(0, .take)] rfl ?_
                  refine Sx.st_take hT rfl rfl rfl rfl (Sx.x_assign hT rfl rfl) ?_
                  clear hT; intro a hT
                  replace hT := hT.keep [9, 70, 8, 66, 7, 6, 5, 4, 0, 1] rfl
                  refine Sx.ser_nil ?_
                  refine Sx.then_normal (hK19 _ _ ?_)
                  clear hK19
                  refine wp_block ?_
                  -- loop 1
                  refine Sx.wp_loopH (G := Nat × List Fr) (fun ⟨k, X2⟩ => [(9, .int .i64 (k : Int))]) (fun ⟨k, X2⟩ => [cF 50 4 Fr.rw (X2)]) (fun ⟨k, X2⟩ => X2.flatMap Fr.cells = X1.flatMap Fr.cells ∧ X2.length = X1.length ∧ k ≤ q0.ws.length ∧ ∃ q, X2[i]? = some q ∧ q.ws.length = q0.ws.length) (fun ⟨k, X2⟩ => q0.ws.length - k) (0, X2) (hT.keep [9, 70, 8, 66, 7, 6, 5, 4, 0, 1] rfl) (H.keep [0, 1, 2] rfl rfl) (⟨hX2c, hX2l, Nat.zero_le _, q0, hq0, rfl⟩) ?_
                  clear hT H
                  rintro ⟨k, X2⟩ a w8 hJ hT H
                  replace hT := hT.keep [9, 70, 8, 66, 7, 6, 5, 4, 0, 1] rfl
                  replace H := H.keep [0, 1, 2] rfl rfl
                  obtain ⟨hX2c, hX2l, hk, q, hq, hql⟩ := hJ
                  have hqm := List.mem_of_getElem? hq
                  have hqb := ((H.fam 0 rfl).row q hqm).le
                  have hqb2 : q.ws.length ≤ maxLen := Nat.le_trans hqb.1 hqb.2
                  unfold maxLen at hqb2
                  clear hqb
                  refine wp_seq_k fun K20 hK20 => ?_
                  refine wp_seq_k fun K21 hK21 => ?_
                  -- region 9 (law.go:54)
                  refine Sx.wp_text [(0, .take), (1, .take), (2, .take), (3, .take), (4, .take), (5, .run), (6, .take), (7, .take)] rfl ?_
                  refine Sx.st_take hT rfl rfl rfl rfl (Sx.x_move hT rfl rfl) ?_
                  clear hT; intro a hT
                  refine Sx.st_take hT rfl rfl rfl rfl (Sx.x_move hT rfl rfl) ?_
                  clear hT; intro a hT
                  refine Sx.st_take hT rfl rfl rfl rfl (Sx.x_move hT rfl rfl) ?_
                  clear hT; intro a hT
                  refine Sx.st_take hT rfl rfl rfl rfl (Sx.x_index (k := i) hT rfl Try.underlying29 Try.ti35 (H.row 2 rfl).sv rfl rfl (by first | rfl | omega) (by omega)) ?_
                  clear hT; intro a hT
                  refine Sx.st_take hT rfl rfl rfl rfl (Sx.x_fieldAddr hT rfl Try.fa35_4 rfl) ?_
                  clear hT; intro a hT
                  refine Sx.st_run hT rfl rfl rfl rfl (Sx.x_load1 hT rfl Try.fl33 rfl ((row_ssnc (H.row 2 rfl) hX2c hX2l).cell (j := 8) Fr.len hq rfl)) ?_
                  clear hT; intro a hT
                  refine Sx.st_take hT rfl rfl rfl rfl (Sx.x_len_slice hT rfl rfl Try.underlying33 rfl) ?_
                  clear hT; intro a hT
                  refine Sx.st_take hT rfl rfl rfl rfl ((fun w => Sx.x_lt w hT rfl rfl rfl)) ?_
                  clear hT; intro a hT
                  replace hT := hT.keep [80, 9, 70, 8, 66, 7, 6, 5, 4, 0, 1] rfl
                  refine Sx.ser_nil ?_
                  refine Sx.then_normal (hK21 _ _ ?_)
                  clear hK21
                  -- cond 2
                  refine Sx.wp_if hT rfl (fun hc22 => ?_) (fun hc22 => ?_)
                  · try simp only [decide_eq_true_eq, decide_eq_false_iff_not, Bool.not_eq_true', Bool.not_eq_false', Bool.not_eq_true, Bool.not_eq_false, Bool.and_eq_true, Bool.or_eq_false_iff, beq_iff_eq, bne_iff_ne, Int.not_lt, Int.not_le, ne_eq] at hc22
                    skip
                    refine wp_skip ?_
                    refine Sx.then_normal (hK20 _ _ ?_)
                    clear hK20
                    refine wp_seq_k fun K23 hK23 => ?_
                    refine wp_block ?_
                    -- region 11 (law.go:55)
                    refine Sx.wp_text [(0, .take), (1, .take), (2, .take), (3, .take), (4, .run), (5, .take), (6, .take), (7, .take), (8, .run)] rfl ?_
                    refine Sx.st_take hT rfl rfl rfl rfl (Sx.x_move hT rfl rfl) ?_
                    clear hT; intro a hT
                    refine Sx.st_take hT rfl rfl rfl rfl (Sx.x_move hT rfl rfl) ?_
                    clear hT; intro a hT
                    refine Sx.st_take hT rfl rfl rfl rfl (Sx.x_index (k := i) hT rfl Try.underlying29 Try.ti35 (H.row 2 rfl).sv rfl rfl (by first | rfl | omega) (by omega)) ?_
                    clear hT; intro a hT
                    refine Sx.st_take hT rfl rfl rfl rfl (Sx.x_fieldAddr hT rfl Try.fa35_4 rfl) ?_
                    clear hT; intro a hT
                    refine Sx.st_run hT rfl rfl rfl rfl (Sx.x_load1 hT rfl Try.fl33 rfl ((row_ssnc (H.row 2 rfl) hX2c hX2l).cell (j := 8) Fr.len hq rfl)) ?_
                    clear hT; intro a hT
                    refine Sx.st_take hT rfl rfl rfl rfl (Sx.x_move hT rfl rfl) ?_
                    clear hT; intro a hT
                    refine Sx.st_take hT rfl rfl rfl rfl (Sx.x_bld hT rfl Try.bld50 rfl rfl) ?_
                    clear hT; intro a hT
                    refine Sx.st_take hT rfl rfl rfl rfl (Sx.x_index (k := k) hT rfl Try.underlying33 Try.ti50 ((H.fam 0 rfl).row q hqm).sv rfl rfl (by first | rfl | omega) (by show k < q.ws.length; omega)) ?_
                    clear hT; intro a hT
                    refine Sx.st_act hT rfl rfl rfl (Sx.x_storeRowS (k := k) (r := spW) hT rfl Try.ti50 rfl rfl Wt.len Wt.one rfl ((H.fam 0 rfl).row q hqm) rfl (by show k < q.ws.length; omega)) ?_
                    rintro w9 ⟨hr, E, _⟩
                    replace H := H.famSet (y := spF q k) 0 rfl hq (by rw [show (Fr.rw (spF q k)).n = (Fr.rw q).n from List.length_set]; exact hr) E (fun _ hk => .inl hk) rfl
                    clear hr E
                    replace hT := hT.keep [80, 9, 70, 8, 66, 7, 6, 5, 4, 0, 1] rfl
                    refine Sx.ser_nil ?_
                    refine Sx.block_normal ?_
                    refine Sx.then_normal (hK23 _ _ ?_)
                    clear hK23
                    -- region 10 (law.go:54)
                    refine Sx.wp_text [(0, .take), (1, .take), (2, .take)] rfl ?_
                    refine Sx.st_take hT rfl rfl rfl rfl (Sx.x_move hT rfl rfl) ?_
                    clear hT; intro a hT
                    refine Sx.st_take hT rfl rfl rfl rfl ((fun w => Sx.x_add w hT rfl rfl rfl (Sx.wrap64 (by omega)))) ?_
                    clear hT; intro a hT
                    refine Sx.st_take hT rfl rfl rfl rfl (Sx.x_assign hT rfl rfl) ?_
                    clear hT; intro a hT
                    replace hT := hT.keep [9, 80, 70, 8, 66, 7, 6, 5, 4, 0, 1] rfl
                    refine Sx.ser_nil ?_
                    refine Sx.then_normal ?_
                    exact ⟨(k + 1, X2.set i (spF q k)), ⟨by show (X2.set i _).flatMap _ = _; rw [set_cellsF hq (spF_cells q k), hX2c], by show (X2.set i _).length = _; rw [List.length_set, hX2l], by show k + 1 ≤ _; omega, spF q k, by show (X2.set i _)[i]? = _; rw [List.getElem?_set_self (by omega)], by show (q.ws.set k spW).length = _; rw [List.length_set, hql]⟩, (hT.keep [9, 70, 8, 66, 7, 6, 5, 4, 0, 1] rfl), (H.keep [0, 1, 2] rfl rfl), by show _ - (k + 1) < _ - k; omega⟩
                  · try simp only [decide_eq_true_eq, decide_eq_false_iff_not, Bool.not_eq_true', Bool.not_eq_false', Bool.not_eq_true, Bool.not_eq_false, Bool.and_eq_true, Bool.or_eq_false_iff, beq_iff_eq, bne_iff_ne, Int.not_lt, Int.not_le, ne_eq] at hc22
                    refine wp_exit ?_
                    refine Sx.then_exit ?_
                    refine Sx.then_exit ?_
                    refine Sx.block_exit ?_
                    refine Sx.block_normal ?_
                    refine Sx.then_normal (hK18 _ _ ?_)
                    clear hK18
                    -- region 7 (law.go:53)
                    refine Sx.wp_text [(0, .take), (1, .take), (2, .take)] rfl ?_
                    refine Sx.st_take hT rfl rfl rfl rfl (Sx.x_move hT rfl rfl) ?_
                    clear hT; intro a hT
                    refine Sx.st_take hT rfl rfl rfl rfl ((fun w => Sx.x_add w hT rfl rfl rfl (Sx.wrap64 (by omega)))) ?_
                    clear hT; intro a hT
                    refine Sx.st_take hT rfl rfl rfl rfl (Sx.x_assign hT rfl rfl) ?_
                    clear hT; intro a hT
                    replace hT := hT.keep [8, 80, 9, 70, 66, 7, 6, 5, 4, 0, 1] rfl
                    refine Sx.ser_nil ?_
                    refine Sx.then_normal ?_
                    exact ⟨(i + 1, X2), ⟨by show i + 1 ≤ _; omega, hX2c, hX2l⟩, (hT.keep [8, 66, 7, 6, 5, 4, 0, 1] rfl), (H.keep [0, 1, 2] rfl rfl), by show _ - (i + 1) < _ - i; omega⟩
                · try simp only [decide_eq_true_eq, decide_eq_false_iff_not, Bool.not_eq_true', Bool.not_eq_false', Bool.not_eq_true, Bool.not_eq_false, Bool.and_eq_true, Bool.or_eq_false_iff, beq_iff_eq, bne_iff_ne, Int.not_lt, Int.not_le, ne_eq] at hc17
                  refine wp_exit ?_
                  refine Sx.then_exit ?_
                  refine Sx.then_exit ?_
                  refine Sx.block_exit ?_
                  refine Sx.then_normal (hK13 _ _ ?_)
                  clear hK13
                  refine wp_seq_k fun K24 hK24 => ?_
                  -- region 12 (law.go:58)
                  refine Sx.wp_draws (fun u => Sx.Ext (Sx.No) u) [(0, .take), (2, .take), (3, .take), (4, .take), (5, .held), (1, .keep), (6, .run), (7, .take)] (by kernel_rfl) (by kernel_rfl) (fun u E _ => ?_)
                  replace H := H.pure E; clear E
                  have hH : Sx.Ext (Sx.No) u u := Sx.Ext.refl _ _
                  have Hu := H
                  refine Sx.st_take hT rfl rfl rfl rfl (Sx.x_move hT rfl rfl) ?_
                  clear hT; intro a hT
                  refine Sx.st_take hT rfl rfl rfl rfl (Sx.x_move hT rfl rfl) ?_
                  clear hT; intro a hT
                  refine Sx.st_take hT rfl rfl rfl rfl (Sx.x_nilCheck hT rfl rfl) ?_
                  clear hT; intro a hT
                  refine Sx.st_take hT rfl rfl rfl rfl (Sx.x_fieldAddr hT rfl Try.fa55_0 rfl) ?_
                  clear hT; intro a hT
                  refine Sx.st_held hT rfl rfl rfl rfl hH (fun w' h' => Sx.x_load1 hT rfl Try.fl29 rfl (by first | exact ((Hu.heldB 1 rfl h' Sx.off_No).nth rfl) | exact ((RB2.at (Hu.ext.step h')).nth (j := 0) rfl))) ?_
                  clear hT; intro a hT
                  refine Sx.st_callkeep hT rfl rfl rfl rfl rfl Try.can28 rfl (Held_calls L (RB.at H.ext) (R.at H.ext) (fun x hx => ⟨(RF.at H.ext) x hx, hfn x hx⟩) hl) ?_
                  rintro _ w10 ⟨adx9, cx9, X9, rfl, K, hX9⟩
                  refine ⟨_, rfl, hH.step K.ext, ?_⟩
                  replace hH := hH.step K.ext
                  clear hT; intro a hT
                  replace H := H.more K rfl; clear K
                  have hXl9 : X9.length = L.length := by have := congrArg List.length hX9; simpa using this
                  refine Sx.st_call hT rfl rfl rfl rfl rfl Try.can27 rfl (Fragments_calls X9 M ((H.row 0 rfl).ssn rfl) (R2.at H.ext) (fun x hx => ⟨fam_fr (H.fam 1 rfl) x hx, by have h9 := (held_fam (L := X9) (by rw [hX9]; exact hHd) (H.fam 1 rfl) x hx).2.2; omega⟩) (RF2.at H.ext) (by have := congrArg List.length hX9; simp at this; omega)) ?_
                  rintro _ w11 ⟨rfl, E⟩
                  refine ⟨_, rfl, ?_⟩
                  clear hT; intro a hT
                  replace H := H.pure E; clear E
                  rw [decide_eq_true (show List.map Fr.p X9 = List.map Fr.p M from hX9.trans hLM)] at hT
                  refine Sx.st_take hT rfl rfl rfl rfl (Sx.x_assign hT rfl rfl) ?_
                  clear hT; intro a hT
                  replace hT := hT.keep [4, 70, 8, 66, 7, 6, 5, 0, 1] rfl
                  clear Hu hH
                  refine Sx.ser_calm ?_
                  refine Sx.then_normal (hK24 _ _ ?_)
                  clear hK24
                  refine wp_ret ?_
                  refine Sx.done1 (fn := Try.f25) hT rfl (.tmp (hT.get 4 _ rfl)) ?_
                  exact ⟨ret_b rfl, H.ext⟩
            · try simp only [decide_eq_true_eq, decide_eq_false_iff_not, Bool.not_eq_true', Bool.not_eq_false', Bool.not_eq_true, Bool.not_eq_false, Bool.and_eq_true, Bool.or_eq_false_iff, beq_iff_eq, bne_iff_ne, Int.not_lt, Int.not_le, ne_eq] at hc11
              skip
              refine Sx.st_heldskip hT rfl rfl rfl rfl hH ?_
              clear hT; intro a hT
              refine Sx.st_skip hT rfl rfl rfl rfl ?_
              clear hT; intro a hT
              refine Sx.st_skip hT rfl rfl rfl rfl ?_
              clear hT; intro a hT
              refine Sx.st_take hT rfl rfl rfl rfl (Sx.x_pick_f hT rfl rfl rfl) ?_
              clear hT; intro a hT
              refine Sx.st_take hT rfl rfl rfl rfl (Sx.x_pick_f hT rfl rfl rfl) ?_
              clear hT; intro a hT
              replace hT := hT.keep [66, 7, 6, 5, 4, 0, 1] rfl
              clear Hu hH
              refine Sx.ser_calm ?_
              refine Sx.then_normal (hK5 _ _ ?_)
              clear hK5
              refine Sx.wp_if hT rfl (fun h => by cases h) (fun _ => ?_)
              refine wp_skip ?_
              refine Sx.then_normal (hK4 _ _ ?_)
              clear hK4
              refine wp_seq_k fun K25 hK25 => ?_
              refine wp_seq_k fun K26 hK26 => ?_
              -- region 5 (law.go:53)
              refine Sx.wp_text [(0, .take)] rfl ?_
              refine Sx.st_take hT rfl rfl rfl rfl (Sx.x_assign hT rfl rfl) ?_
              clear hT; intro a hT
              replace hT := hT.keep [8, 66, 7, 6, 5, 4, 0, 1] rfl
              refine Sx.ser_nil ?_
              refine Sx.then_normal (hK26 _ _ ?_)
              clear hK26
              refine wp_block ?_
              -- loop 0
              refine Sx.wp_loopH (G := Nat × List Fr) (fun ⟨i, X2⟩ => [(8, .int .i64 (i : Int))]) (fun ⟨i, X2⟩ => [cF 50 4 Fr.rw (X2)]) (fun ⟨i, X2⟩ => i ≤ X1.length ∧ X2.flatMap Fr.cells = X1.flatMap Fr.cells ∧ X2.length = X1.length) (fun ⟨i, X2⟩ => X1.length - i) (0, X1) (hT.keep [8, 66, 7, 6, 5, 4, 0, 1] rfl) (H.keep [2, 0, 1] rfl rfl) (⟨Nat.zero_le _, rfl, rfl⟩) ?_
              clear hT H
              rintro ⟨i, X2⟩ a w12 hJ hT H
              replace hT := hT.keep [8, 66, 7, 6, 5, 4, 0, 1] rfl
              replace H := H.keep [0, 1, 2] rfl rfl
              obtain ⟨hi, hX2c, hX2l⟩ := hJ
              refine wp_seq_k fun K27 hK27 => ?_
              refine wp_seq_k fun K28 hK28 => ?_
              -- region 6 (law.go:53)
              refine Sx.wp_text [(0, .take), (1, .take), (2, .take), (3, .take)] rfl ?_
              refine Sx.st_take hT rfl rfl rfl rfl (Sx.x_move hT rfl rfl) ?_
              clear hT; intro a hT
              refine Sx.st_take hT rfl rfl rfl rfl (Sx.x_move hT rfl rfl) ?_
              clear hT; intro a hT
              refine Sx.st_take hT rfl rfl rfl rfl (Sx.x_len_slice hT rfl rfl Try.underlying29 rfl) ?_
              clear hT; intro a hT
              refine Sx.st_take hT rfl rfl rfl rfl ((fun w => Sx.x_lt w hT rfl rfl rfl)) ?_
              clear hT; intro a hT
              replace hT := hT.keep [70, 8, 66, 7, 6, 5, 4, 0, 1] rfl
              refine Sx.ser_nil ?_
              refine Sx.then_normal (hK28 _ _ ?_)
              clear hK28
              -- cond 1
              refine Sx.wp_if hT rfl (fun hc29 => ?_) (fun hc29 => ?_)
              · try simp only [decide_eq_true_eq, decide_eq_false_iff_not, Bool.not_eq_true', Bool.not_eq_false', Bool.not_eq_true, Bool.not_eq_false, Bool.and_eq_true, Bool.or_eq_false_iff, beq_iff_eq, bne_iff_ne, Int.not_lt, Int.not_le, ne_eq] at hc29
                obtain ⟨q0, hq0⟩ : ∃ o, X2[i]? = some o := ⟨_, List.getElem?_eq_getElem (by omega)⟩
                refine wp_skip ?_
                refine Sx.then_normal (hK27 _ _ ?_)
                clear hK27
                refine wp_seq_k fun K30 hK30 => ?_
                refine wp_block ?_
                refine wp_seq_k fun K31 hK31 => ?_
                -- region 8 (law.go:54)
                refine Sx.wp_text [(0, .take)] rfl ?_
                refine Sx.st_take hT rfl rfl rfl rfl (Sx.x_assign hT rfl rfl) ?_
                clear hT; intro a hT
                replace hT := hT.keep [9, 70, 8, 66, 7, 6, 5, 4, 0, 1] rfl
                refine Sx.ser_nil ?_
                refine Sx.then_normal (hK31 _ _ ?_)
                clear hK31
                refine wp_block ?_
                -- loop 1
                refine Sx.wp_loopH (G := Nat × List Fr) (fun ⟨k, X2⟩ => [(9, .int .i64 (k : Int))]) (fun ⟨k, X2⟩ => [cF 50 4 Fr.rw (X2)]) (fun ⟨k, X2⟩ => X2.flatMap Fr.cells = X1.flatMap Fr.cells ∧ X2.length = X1.length ∧ k ≤ q0.ws.length ∧ ∃ q, X2[i]? = some q ∧ q.ws.length = q0.ws.length) (fun ⟨k, X2⟩ => q0.ws.length - k) (0, X2) (hT.keep [9, 70, 8, 66, 7, 6, 5, 4, 0, 1] rfl) (H.keep [0, 1, 2] rfl rfl) (⟨hX2c, hX2l, Nat.zero_le _, q0, hq0, rfl⟩) ?_
                clear hT H
                rintro ⟨k, X2⟩ a w13 hJ hT H
                replace hT := hT.keep [9, 70, 8, 66, 7, 6, 5, 4, 0, 1] rfl
                replace H := H.keep [0, 1, 2] rfl rfl
                obtain ⟨hX2c, hX2l, hk, q, hq, hql⟩ := hJ
                have hqm := List.mem_of_getElem? hq
                have hqb := ((H.fam 0 rfl).row q hqm).le
                have hqb2 : q.ws.length ≤ maxLen := Nat.le_trans hqb.1 hqb.2
                unfold maxLen at hqb2
                clear hqb
                refine wp_seq_k fun K32 hK32 => ?_
                refine wp_seq_k fun K33 hK33 => ?_
                -- region 9 (law.go:54)
                refine Sx.wp_text [(0, .take), (1, .take), (2, .take), (3, .take), (4, .take), (5, .run), (6, .take), (7, .take)] rfl ?_
                refine Sx.st_take hT rfl rfl rfl rfl (Sx.x_move hT rfl rfl) ?_
                clear hT; intro a hT
                refine Sx.st_take hT rfl rfl rfl rfl (Sx.x_move hT rfl rfl) ?_
                clear hT; intro a hT
                refine Sx.st_take hT rfl rfl rfl rfl (Sx.x_move hT rfl rfl) ?_
                clear hT; intro a hT
                refine Sx.st_take hT rfl rfl rfl rfl (Sx.x_index (k := i) hT rfl Try.underlying29 Try.ti35 (H.row 2 rfl).sv rfl rfl (by first | rfl | omega) (by omega)) ?_
                clear hT; intro a hT
                refine Sx.st_take hT rfl rfl rfl rfl (Sx.x_fieldAddr hT rfl Try.fa35_4 rfl) ?_
                clear hT; intro a hT
                refine Sx.st_run hT rfl rfl rfl rfl (Sx.x_load1 hT rfl Try.fl33 rfl ((row_ssnc (H.row 2 rfl) hX2c hX2l).cell (j := 8) Fr.len hq rfl)) ?_
                clear hT; intro a hT
                refine Sx.st_take hT rfl rfl rfl rfl (Sx.x_len_slice hT rfl rfl Try.underlying33 rfl) ?_
                clear hT; intro a hT
                refine Sx.st_take hT rfl rfl rfl rfl ((fun w => Sx.x_lt w hT rfl rfl rfl)) ?_
                clear hT; intro a hT
                replace hT := hT.keep [80, 9, 70, 8, 66, 7, 6, 5, 4, 0, 1] rfl
                refine Sx.ser_nil ?_
                refine Sx.then_normal (hK33 _ _ ?_)
                clear hK33
                -- cond 2
                refine Sx.wp_if hT rfl (fun hc34 => ?_) (fun hc34 => ?_)
                · try simp only [decide_eq_true_eq, decide_eq_false_iff_not, Bool.not_eq_true', Bool.not_eq_false', Bool.not_eq_true, Bool.not_eq_false, Bool.and_eq_true, Bool.or_eq_false_iff, beq_iff_eq, bne_iff_ne, Int.not_lt, Int.not_le, ne_eq] at hc34
                  skip
                  refine wp_skip ?_
                  refine Sx.then_normal (hK32 _ _ ?_)
                  clear hK32
                  refine wp_seq_k fun K35 hK35 => ?_
                  refine wp_block ?_
                  -- region 11 (law.go:55)
                  refine Sx.wp_text [(0, .take), (1, .take), (2, .take), (3, .take), (4, .run), (5, .take), (6, .take), (7, .take), (8, .run)] rfl ?_
                  refine Sx.st_take hT rfl rfl rfl rfl (Sx.x_move hT rfl rfl) ?_
                  clear hT; intro a hT
                  refine Sx.st_take hT rfl rfl rfl rfl (Sx.x_move hT rfl rfl) ?_
                  clear hT; intro a hT
                  refine Sx.st_take hT rfl rfl rfl rfl (Sx.x_index (k := i) hT rfl Try.underlying29 Try.ti35 (H.row 2 rfl).sv rfl rfl (by first | rfl | omega) (by omega)) ?_
                  clear hT; intro a hT
                  refine Sx.st_take hT rfl rfl rfl rfl (Sx.x_fieldAddr hT rfl Try.fa35_4 rfl) ?_
                  clear hT; intro a hT
                  refine Sx.st_run hT rfl rfl rfl rfl (Sx.x_load1 hT rfl Try.fl33 rfl ((row_ssnc (H.row 2 rfl) hX2c hX2l).cell (j := 8) Fr.len hq rfl)) ?_
                  clear hT; intro a hT
                  refine Sx.st_take hT rfl rfl rfl rfl (Sx.x_move hT rfl rfl) ?_
                  clear hT; intro a hT
                  refine Sx.st_take hT rfl rfl rfl rfl (Sx.x_bld hT rfl Try.bld50 rfl rfl) ?_
                  clear hT; intro a hT
                  refine Sx.st_take hT rfl rfl rfl rfl (Sx.x_index (k := k) hT rfl Try.underlying33 Try.ti50 ((H.fam 0 rfl).row q hqm).sv rfl rfl (by first | rfl | omega) (by show k < q.ws.length; omega)) ?_
                  clear hT; intro a hT
                  refine Sx.st_act hT rfl rfl rfl (Sx.x_storeRowS (k := k) (r := spW) hT rfl Try.ti50 rfl rfl Wt.len Wt.one rfl ((H.fam 0 rfl).row q hqm) rfl (by show k < q.ws.length; omega)) ?_
                  rintro w14 ⟨hr, E, _⟩
                  replace H := H.famSet (y := spF q k) 0 rfl hq (by rw [show (Fr.rw (spF q k)).n = (Fr.rw q).n from List.length_set]; exact hr) E (fun _ hk => .inl hk) rfl
                  clear hr E
                  replace hT := hT.keep [80, 9, 70, 8, 66, 7, 6, 5, 4, 0, 1] rfl
                  refine Sx.ser_nil ?_
                  refine Sx.block_normal ?_
                  refine Sx.then_normal (hK35 _ _ ?_)
                  clear hK35
                  -- region 10 (law.go:54)
                  refine Sx.wp_text [(0, .take), (1, .take), (2, .take)] rfl ?_
                  refine Sx.st_take hT rfl rfl rfl rfl (Sx.x_move hT rfl rfl) ?_
                  clear hT; intro a hT
                  refine Sx.st_take hT rfl rfl rfl rfl ((fun w => Sx.x_add w hT rfl rfl rfl (Sx.wrap64 (by omega)))) ?_
                  clear hT; intro a hT
                  refine Sx.st_take hT rfl rfl rfl rfl (Sx.x_assign hT rfl rfl) ?_
                  clear hT; intro a hT
                  replace hT := hT.keep [9, 80, 70, 8, 66, 7, 6, 5, 4, 0, 1] rfl
                  refine Sx.ser_nil ?_
                  refine Sx.then_normal ?_
                  exact ⟨(k + 1, X2.set i (spF q k)), ⟨by show (X2.set i _).flatMap _ = _; rw [set_cellsF hq (spF_cells q k), hX2c], by show (X2.set i _).length = _; rw [List.length_set, hX2l], by show k + 1 ≤ _; omega, spF q k, by show (X2.set i _)[i]? = _; rw [List.getElem?_set_self (by omega)], by show (q.ws.set k spW).length = _; rw [List.length_set, hql]⟩, (hT.keep [9, 70, 8, 66, 7, 6, 5, 4, 0, 1] rfl), (H.keep [0, 1, 2] rfl rfl), by show _ - (k + 1) < _ - k; omega⟩
                · try simp only [decide_eq_true_eq, decide_eq_false_iff_not, Bool.not_eq_true', Bool.not_eq_false', Bool.not_eq_true, Bool.not_eq_false, Bool.and_eq_true, Bool.or_eq_false_iff, beq_iff_eq, bne_iff_ne, Int.not_lt, Int.not_le, ne_eq] at hc34
                  refine wp_exit ?_
                  refine Sx.then_exit ?_
                  refine Sx.then_exit ?_
                  refine Sx.block_exit ?_
                  refine Sx.block_normal ?_
                  refine Sx.then_normal (hK30 _ _ ?_)
                  clear hK30
                  -- region 7 (law.go:53)
                  refine Sx.wp_text [(0, .take), (1, .take), (2, .take)] rfl ?_
                  refine Sx.st_take hT rfl rfl rfl rfl (Sx.x_move hT rfl rfl) ?_
                  clear hT; intro a hT
                  refine Sx.st_take hT rfl rfl rfl rfl ((fun w => Sx.x_add w hT rfl rfl rfl (Sx.wrap64 (by omega)))) ?_
                  clear hT; intro a hT
                  refine Sx.st_take hT rfl rfl rfl rfl (Sx.x_assign hT rfl rfl) ?_
                  clear hT; intro a hT
                  replace hT := hT.keep [8, 80, 9, 70, 66, 7, 6, 5, 4, 0, 1] rfl
                  refine Sx.ser_nil ?_
                  refine Sx.then_normal ?_
                  exact ⟨(i + 1, X2), ⟨by show i + 1 ≤ _; omega, hX2c, hX2l⟩, (hT.keep [8, 66, 7, 6, 5, 4, 0, 1] rfl), (H.keep [0, 1, 2] rfl rfl), by show _ - (i + 1) < _ - i; omega⟩
              · try simp only [decide_eq_true_eq, decide_eq_false_iff_not, Bool.not_eq_true', Bool.not_eq_false', Bool.not_eq_true, Bool.not_eq_false, Bool.and_eq_true, Bool.or_eq_false_iff, beq_iff_eq, bne_iff_ne, Int.not_lt, Int.not_le, ne_eq] at hc29
                refine wp_exit ?_
                refine Sx.then_exit ?_
                refine Sx.then_exit ?_
                refine Sx.block_exit ?_
                refine Sx.then_normal (hK25 _ _ ?_)
                clear hK25
                refine wp_seq_k fun K36 hK36 => ?_
                -- region 12 (law.go:58)
                refine Sx.wp_draws (fun u => Sx.Ext (Sx.No) u) [(0, .take), (2, .take), (3, .take), (4, .take), (5, .held), (1, .keep), (6, .run), (7, .take)] (by kernel_rfl) (by kernel_rfl) (fun u E _ => ?_)
                replace H := H.pure E; clear E
                have hH : Sx.Ext (Sx.No) u u := Sx.Ext.refl _ _
                have Hu := H
                refine Sx.st_take hT rfl rfl rfl rfl (Sx.x_move hT rfl rfl) ?_
                clear hT; intro a hT
                refine Sx.st_take hT rfl rfl rfl rfl (Sx.x_move hT rfl rfl) ?_
                clear hT; intro a hT
                refine Sx.st_take hT rfl rfl rfl rfl (Sx.x_nilCheck hT rfl rfl) ?_
                clear hT; intro a hT
                refine Sx.st_take hT rfl rfl rfl rfl (Sx.x_fieldAddr hT rfl Try.fa55_0 rfl) ?_
                clear hT; intro a hT
                refine Sx.st_held hT rfl rfl rfl rfl hH (fun w' h' => Sx.x_load1 hT rfl Try.fl29 rfl (by first | exact ((Hu.heldB 1 rfl h' Sx.off_No).nth rfl) | exact ((RB2.at (Hu.ext.step h')).nth (j := 0) rfl))) ?_
                clear hT; intro a hT
                refine Sx.st_callkeep hT rfl rfl rfl rfl rfl Try.can28 rfl (Held_calls L (RB.at H.ext) (R.at H.ext) (fun x hx => ⟨(RF.at H.ext) x hx, hfn x hx⟩) hl) ?_
                rintro _ w15 ⟨adx9, cx9, X9, rfl, K, hX9⟩
                refine ⟨_, rfl, hH.step K.ext, ?_⟩
                replace hH := hH.step K.ext
                clear hT; intro a hT
                replace H := H.more K rfl; clear K
                have hXl9 : X9.length = L.length := by have := congrArg List.length hX9; simpa using this
                refine Sx.st_call hT rfl rfl rfl rfl rfl Try.can27 rfl (Fragments_calls X9 M ((H.row 0 rfl).ssn rfl) (R2.at H.ext) (fun x hx => ⟨fam_fr (H.fam 1 rfl) x hx, by have h9 := (held_fam (L := X9) (by rw [hX9]; exact hHd) (H.fam 1 rfl) x hx).2.2; omega⟩) (RF2.at H.ext) (by have := congrArg List.length hX9; simp at this; omega)) ?_
                rintro _ w16 ⟨rfl, E⟩
                refine ⟨_, rfl, ?_⟩
                clear hT; intro a hT
                replace H := H.pure E; clear E
                rw [decide_eq_true (show List.map Fr.p X9 = List.map Fr.p M from hX9.trans hLM)] at hT
                refine Sx.st_take hT rfl rfl rfl rfl (Sx.x_assign hT rfl rfl) ?_
                clear hT; intro a hT
                replace hT := hT.keep [4, 70, 8, 66, 7, 6, 5, 0, 1] rfl
                clear Hu hH
                refine Sx.ser_calm ?_
                refine Sx.then_normal (hK36 _ _ ?_)
                clear hK36
                refine wp_ret ?_
                refine Sx.done1 (fn := Try.f25) hT rfl (.tmp (hT.get 4 _ rfl)) ?_
                exact ⟨ret_b rfl, H.ext⟩
        · try simp only [decide_eq_true_eq, decide_eq_false_iff_not, Bool.not_eq_true', Bool.not_eq_false', Bool.not_eq_true, Bool.not_eq_false, Bool.and_eq_true, Bool.or_eq_false_iff, beq_iff_eq, bne_iff_ne, Int.not_lt, Int.not_le, ne_eq] at hc9
          have hLn0 : L = [] := by simpa using hc9
          refine Sx.st_heldskip hT rfl rfl rfl rfl hH ?_
          clear hT; intro a hT
          refine Sx.st_skip hT rfl rfl rfl rfl ?_
          clear hT; intro a hT
          refine Sx.st_skip hT rfl rfl rfl rfl ?_
          clear hT; intro a hT
          refine Sx.st_skip hT rfl rfl rfl rfl ?_
          clear hT; intro a hT
          refine Sx.st_heldskip hT rfl rfl rfl rfl hH ?_
          clear hT; intro a hT
          refine Sx.st_skip hT rfl rfl rfl rfl ?_
          clear hT; intro a hT
          refine Sx.st_skip hT rfl rfl rfl rfl ?_
          clear hT; intro a hT
          refine Sx.st_heldskip hT rfl rfl rfl rfl hH ?_
          clear hT; intro a hT
          refine Sx.st_skip hT rfl rfl rfl rfl ?_
          clear hT; intro a hT
          refine Sx.st_take hT rfl rfl rfl rfl (Sx.x_pick_f hT rfl rfl rfl) ?_
          clear hT; intro a hT
          refine Sx.st_take hT rfl rfl rfl rfl (Sx.x_pick_f hT rfl rfl rfl) ?_
          clear hT; intro a hT
          refine Sx.st_take hT rfl rfl rfl rfl (Sx.x_move hT rfl rfl) ?_
          clear hT; intro a hT
          refine Sx.st_take hT rfl rfl rfl rfl (Sx.x_move hT rfl rfl) ?_
          clear hT; intro a hT
          refine Sx.st_take hT rfl rfl rfl rfl (Sx.x_not hT rfl rfl) ?_
          clear hT; intro a hT
          refine Sx.st_take hT rfl rfl rfl rfl (Sx.x_move hT rfl rfl) ?_
          clear hT; intro a hT
          -- guard (3, 44)
          refine Sx.Sl.two hT 61 rfl (fun hc37 hT => ?_) (fun hc37 hT => ?_)
          · try simp only [decide_eq_true_eq, decide_eq_false_iff_not, Bool.not_eq_true', Bool.not_eq_false', Bool.not_eq_true, Bool.not_eq_false, Bool.and_eq_true, Bool.or_eq_false_iff, beq_iff_eq, bne_iff_ne, Int.not_lt, Int.not_le, ne_eq] at hc37
            have hLn1 : L = [] := by simpa using hc37
            have hfz0 : firstS (L.map Fr.p) = sz0 := by rw [hLn1]; rfl
            refine Sx.st_held hT rfl rfl rfl rfl hH (fun w' h' => Sx.y_loadS hT rfl Try.underlying28 Try.ti28 rfl ((Hu.heldB 0 rfl h' Sx.off_No).seg (k := 3) rfl) (by rfl)) ?_
            clear hT; intro a hT
            refine Sx.st_take hT rfl rfl rfl rfl (Sx.x_bld hT rfl Try.bld28 rfl rfl) ?_
            clear hT; intro a hT
            refine Sx.st_take hT rfl rfl rfl rfl (Sx.x_neS hT rfl (by kernel_rfl) (Try.eq28 _ _ _ _ _ _) rfl rfl rfl) ?_
            clear hT; intro a hT
            refine Sx.st_take hT rfl rfl rfl rfl (Sx.x_pick_t hT rfl rfl rfl) ?_
            clear hT; intro a hT
            refine Sx.st_take hT rfl rfl rfl rfl (Sx.x_pick_f hT rfl rfl rfl) ?_
            clear hT; intro a hT
            replace hT := hT.keep [66, 7, 6, 5, 4, 0, 1] rfl
            clear Hu hH
            refine Sx.ser_calm ?_
            refine Sx.then_normal (hK5 _ _ ?_)
            clear hK5
            -- cond 0
            refine Sx.wp_if hT rfl (fun hc38 => ?_) (fun hc38 => ?_)
            · exfalso
              try simp only [decide_eq_true_eq, decide_eq_false_iff_not, Bool.not_eq_true', Bool.not_eq_false', Bool.not_eq_true, Bool.not_eq_false, Bool.and_eq_true, Bool.or_eq_false_iff, beq_iff_eq, bne_iff_ne, Int.not_lt, Int.not_le, ne_eq] at hc38
              first | (rw [hfz0] at hc38; exact hc38 ⟨rfl, rfl, rfl⟩) | (simp [hfz0, sz0] at hc38; done) | (simp at hc38; done)
            · try simp only [decide_eq_true_eq, decide_eq_false_iff_not, Bool.not_eq_true', Bool.not_eq_false', Bool.not_eq_true, Bool.not_eq_false, Bool.and_eq_true, Bool.or_eq_false_iff, beq_iff_eq, bne_iff_ne, Int.not_lt, Int.not_le, ne_eq] at hc38
              refine wp_skip ?_
              refine Sx.then_normal (hK4 _ _ ?_)
              clear hK4
              refine wp_seq_k fun K39 hK39 => ?_
              refine wp_seq_k fun K40 hK40 => ?_
              -- region 5 (law.go:53)
              refine Sx.wp_text [(0, .take)] rfl ?_
              refine Sx.st_take hT rfl rfl rfl rfl (Sx.x_assign hT rfl rfl) ?_
              clear hT; intro a hT
              replace hT := hT.keep [8, 66, 7, 6, 5, 4, 0, 1] rfl
              refine Sx.ser_nil ?_
              refine Sx.then_normal (hK40 _ _ ?_)
              clear hK40
              refine wp_block ?_
              -- loop 0
              refine Sx.wp_loopH (G := Nat × List Fr) (fun ⟨i, X2⟩ => [(8, .int .i64 (i : Int))]) (fun ⟨i, X2⟩ => [cF 50 4 Fr.rw (X2)]) (fun ⟨i, X2⟩ => i ≤ X1.length ∧ X2.flatMap Fr.cells = X1.flatMap Fr.cells ∧ X2.length = X1.length) (fun ⟨i, X2⟩ => X1.length - i) (0, X1) (hT.keep [8, 66, 7, 6, 5, 4, 0, 1] rfl) (H.keep [2, 0, 1] rfl rfl) (⟨Nat.zero_le _, rfl, rfl⟩) ?_
              clear hT H
              rintro ⟨i, X2⟩ a w17 hJ hT H
              replace hT := hT.keep [8, 66, 7, 6, 5, 4, 0, 1] rfl
              replace H := H.keep [0, 1, 2] rfl rfl
              obtain ⟨hi, hX2c, hX2l⟩ := hJ
              refine wp_seq_k fun K41 hK41 => ?_
              refine wp_seq_k fun K42 hK42 => ?_
              -- region 6 (law.go:53)
              refine Sx.wp_text [(0, .take), (1, .take), (2, .take), (3, .take)] rfl ?_
              refine Sx.st_take hT rfl rfl rfl rfl (Sx.x_move hT rfl rfl) ?_
              clear hT; intro a hT
              refine Sx.st_take hT rfl rfl rfl rfl (Sx.x_move hT rfl rfl) ?_
              clear hT; intro a hT
              refine Sx.st_take hT rfl rfl rfl rfl (Sx.x_len_slice hT rfl rfl Try.underlying29 rfl) ?_
              clear hT; intro a hT
              refine Sx.st_take hT rfl rfl rfl rfl ((fun w => Sx.x_lt w hT rfl rfl rfl)) ?_
              clear hT; intro a hT
              replace hT := hT.keep [70, 8, 66, 7, 6, 5, 4, 0, 1] rfl
              refine Sx.ser_nil ?_
              refine Sx.then_normal (hK42 _ _ ?_)
              clear hK42
              -- cond 1
              refine Sx.wp_if hT rfl (fun hc43 => ?_) (fun hc43 => ?_)
              · try simp only [decide_eq_true_eq, decide_eq_false_iff_not, Bool.not_eq_true', Bool.not_eq_false', Bool.not_eq_true, Bool.not_eq_false, Bool.and_eq_true, Bool.or_eq_false_iff, beq_iff_eq, bne_iff_ne, Int.not_lt, Int.not_le, ne_eq] at hc43
                obtain ⟨q0, hq0⟩ : ∃ o, X2[i]? = some o := ⟨_, List.getElem?_eq_getElem (by omega)⟩
                refine wp_skip ?_
                refine Sx.then_normal (hK41 _ _ ?_)
                clear hK41
                refine wp_seq_k fun K44 hK44 => ?_
                refine wp_block ?_
                refine wp_seq_k fun K45 hK45 => ?_
                -- region 8 (law.go:54)
                refine Sx.wp_text [(0, .take)] rfl ?_
                refine Sx.st_take hT rfl rfl rfl rfl (Sx.x_assign hT rfl rfl) ?_
                clear hT; intro a hT
                replace hT := hT.keep [9, 70, 8, 66, 7, 6, 5, 4, 0, 1] rfl
                refine Sx.ser_nil ?_
                refine Sx.then_normal (hK45 _ _ ?_)
                clear hK45
                refine wp_block ?_
                -- loop 1
                refine Sx.wp_loopH (G := Nat × List Fr) (fun ⟨k, X2⟩ => [(9, .int .i64 (k : Int))]) (fun ⟨k, X2⟩ => [cF 50 4 Fr.rw (X2)]) (fun ⟨k, X2⟩ => X2.flatMap Fr.cells = X1.flatMap Fr.cells ∧ X2.length = X1.length ∧ k ≤ q0.ws.length ∧ ∃ q, X2[i]? = some q ∧ q.ws.length = q0.ws.length) (fun ⟨k, X2⟩ => q0.ws.length - k) (0, X2) (hT.keep [9, 70, 8, 66, 7, 6, 5, 4, 0, 1] rfl) (H.keep [0, 1, 2] rfl rfl) (⟨hX2c, hX2l, Nat.zero_le _, q0, hq0, rfl⟩) ?_
                clear hT H
                rintro ⟨k, X2⟩ a w18 hJ hT H
                replace hT := hT.keep [9, 70, 8, 66, 7, 6, 5, 4, 0, 1] rfl
                replace H := H.keep [0, 1, 2] rfl rfl
                obtain ⟨hX2c, hX2l, hk, q, hq, hql⟩ := hJ
                have hqm := List.mem_of_getElem? hq
                have hqb := ((H.fam 0 rfl).row q hqm).le
                have hqb2 : q.ws.length ≤ maxLen := Nat.le_trans hqb.1 hqb.2
                unfold maxLen at hqb2
                clear hqb
                refine wp_seq_k fun K46 hK46 => ?_
                refine wp_seq_k fun K47 hK47 => ?_
                -- region 9 (law.go:54)
                refine Sx.wp_text [(0, .take), (1, .take), (2, .take), (3, .take), (4, .take), (5, .run), (6, .take), (7, .take)] rfl ?_
                refine Sx.st_take hT rfl rfl rfl rfl (Sx.x_move hT rfl rfl) ?_
                clear hT; intro a hT
                refine Sx.st_take hT rfl rfl rfl rfl (Sx.x_move hT rfl rfl) ?_
                clear hT; intro a hT
                refine Sx.st_take hT rfl rfl rfl rfl (Sx.x_move hT rfl rfl) ?_
                clear hT; intro a hT
                refine Sx.st_take hT rfl rfl rfl rfl (Sx.x_index (k := i) hT rfl Try.underlying29 Try.ti35 (H.row 2 rfl).sv rfl rfl (by first | rfl | omega) (by omega)) ?_
                clear hT; intro a hT
                refine Sx.st_take hT rfl rfl rfl rfl (Sx.x_fieldAddr hT rfl Try.fa35_4 rfl) ?_
                clear hT; intro a hT
                refine Sx.st_run hT rfl rfl rfl rfl (Sx.x_load1 hT rfl Try.fl33 rfl ((row_ssnc (H.row 2 rfl) hX2c hX2l).cell (j := 8) Fr.len hq rfl)) ?_
                clear hT; intro a hT
                refine Sx.st_take hT rfl rfl rfl rfl (Sx.x_len_slice hT rfl rfl Try.underlying33 rfl) ?_
                clear hT; intro a hT
                refine Sx.st_take hT rfl rfl rfl rfl ((fun w => Sx.x_lt w hT rfl rfl rfl)) ?_
                clear hT; intro a hT
                replace hT := hT.keep [80, 9, 70, 8, 66, 7, 6, 5, 4, 0, 1] rfl
                refine Sx.ser_nil ?_
                refine Sx.then_normal (hK47 _ _ ?_)
                clear hK47
                -- cond 2
                refine Sx.wp_if hT rfl (fun hc48 => ?_) (fun hc48 => ?_)
                · try simp only [decide_eq_true_eq, decide_eq_false_iff_not, Bool.not_eq_true', Bool.not_eq_false', Bool.not_eq_true, Bool.not_eq_false, Bool.and_eq_true, Bool.or_eq_false_iff, beq_iff_eq, bne_iff_ne, Int.not_lt, Int.not_le, ne_eq] at hc48
                  skip
                  refine wp_skip ?_
                  refine Sx.then_normal (hK46 _ _ ?_)
                  clear hK46
                  refine wp_seq_k fun K49 hK49 => ?_
                  refine wp_block ?_
                  -- region 11 (law.go:55)
                  refine Sx.wp_text [(0, .take), (1, .take), (2, .take), (3, .take), (4, .run), (5, .take), (6, .take), (7, .take), (8, .run)] rfl ?_
                  refine Sx.st_take hT rfl rfl rfl rfl (Sx.x_move hT rfl rfl) ?_
                  clear hT; intro a hT
                  refine Sx.st_take hT rfl rfl rfl rfl (Sx.x_move hT rfl rfl) ?_
                  clear hT; intro a hT
                  refine Sx.st_take hT rfl rfl rfl rfl (Sx.x_index (k := i) hT rfl Try.underlying29 Try.ti35 (H.row 2 rfl).sv rfl rfl (by first | rfl | omega) (by omega)) ?_
                  clear hT; intro a hT
                  refine Sx.st_take hT rfl rfl rfl rfl (Sx.x_fieldAddr hT rfl Try.fa35_4 rfl) ?_
                  clear hT; intro a hT
                  refine Sx.st_run hT rfl rfl rfl rfl (Sx.x_load1 hT rfl Try.fl33 rfl ((row_ssnc (H.row 2 rfl) hX2c hX2l).cell (j := 8) Fr.len hq rfl)) ?_
                  clear hT; intro a hT
                  refine Sx.st_take hT rfl rfl rfl rfl (Sx.x_move hT rfl rfl) ?_
                  clear hT; intro a hT
                  refine Sx.st_take hT rfl rfl rfl rfl (Sx.x_bld hT rfl Try.bld50 rfl rfl) ?_
                  clear hT; intro a hT
                  refine Sx.st_take hT rfl rfl rfl rfl (Sx.x_index (k := k) hT rfl Try.underlying33 Try.ti50 ((H.fam 0 rfl).row q hqm).sv rfl rfl (by first | rfl | omega) (by show k < q.ws.length; omega)) ?_
                  clear hT; intro a hT
                  refine Sx.st_act hT rfl rfl rfl (Sx.x_storeRowS (k := k) (r := spW) hT rfl Try.ti50 rfl rfl Wt.len Wt.one rfl ((H.fam 0 rfl).row q hqm) rfl (by show k < q.ws.length; omega)) ?_
                  rintro w19 ⟨hr, E, _⟩
                  replace H := H.famSet (y := spF q k) 0 rfl hq (by rw [show (Fr.rw (spF q k)).n = (Fr.rw q).n from List.length_set]; exact hr) E (fun _ hk => .inl hk) rfl
                  clear hr E
                  replace hT := hT.keep [80, 9, 70, 8, 66, 7, 6, 5, 4, 0, 1] rfl
                  refine Sx.ser_nil ?_
                  refine Sx.block_normal ?_
                  refine Sx.then_normal (hK49 _ _ ?_)
                  clear hK49
                  -- region 10 (law.go:54)
                  refine Sx.wp_text [(0, .take), (1, .take), (2, .take)] rfl ?_
                  refine Sx.st_take hT rfl rfl rfl rfl (Sx.x_move hT rfl rfl) ?_
                  clear hT; intro a hT
                  refine Sx.st_take hT rfl rfl rfl rfl ((fun w => Sx.x_add w hT rfl rfl rfl (Sx.wrap64 (by omega)))) ?_
                  clear hT; intro a hT
                  refine Sx.st_take hT rfl rfl rfl rfl (Sx.x_assign hT rfl rfl) ?_
                  clear hT; intro a hT
                  replace hT := hT.keep [9, 80, 70, 8, 66, 7, 6, 5, 4, 0, 1] rfl
                  refine Sx.ser_nil ?_
                  refine Sx.then_normal ?_
                  exact ⟨(k + 1, X2.set i (spF q k)), ⟨by show (X2.set i _).flatMap _ = _; rw [set_cellsF hq (spF_cells q k), hX2c], by show (X2.set i _).length = _; rw [List.length_set, hX2l], by show k + 1 ≤ _; omega, spF q k, by show (X2.set i _)[i]? = _; rw [List.getElem?_set_self (by omega)], by show (q.ws.set k spW).length = _; rw [List.length_set, hql]⟩, (hT.keep [9, 70, 8, 66, 7, 6, 5, 4, 0, 1] rfl), (H.keep [0, 1, 2] rfl rfl), by show _ - (k + 1) < _ - k; omega⟩
                · try simp only [decide_eq_true_eq, decide_eq_false_iff_not, Bool.not_eq_true', Bool.not_eq_false', Bool.not_eq_true, Bool.not_eq_false, Bool.and_eq_true, Bool.or_eq_false_iff, beq_iff_eq, bne_iff_ne, Int.not_lt, Int.not_le, ne_eq] at hc48
                  refine wp_exit ?_
                  refine Sx.then_exit ?_
                  refine Sx.then_exit ?_
                  refine Sx.block_exit ?_
                  refine Sx.block_normal ?_
                  refine Sx.then_normal (hK44 _ _ ?_)
                  clear hK44
                  -- region 7 (law.go:53)
                  refine Sx.wp_text [(0, .take), (1, .take), (2, .take)] rfl ?_
                  refine Sx.st_take hT rfl rfl rfl rfl (Sx.x_move hT rfl rfl) ?_
                  clear hT; intro a hT
                  refine Sx.st_take hT rfl rfl rfl rfl ((fun w => Sx.x_add w hT rfl rfl rfl (Sx.wrap64 (by omega)))) ?_
                  clear hT; intro a hT
                  refine Sx.st_take hT rfl rfl rfl rfl (Sx.x_assign hT rfl rfl) ?_
                  clear hT; intro a hT
                  replace hT := hT.keep [8, 80, 9, 70, 66, 7, 6, 5, 4, 0, 1] rfl
                  refine Sx.ser_nil ?_
                  refine Sx.then_normal ?_
                  exact ⟨(i + 1, X2), ⟨by show i + 1 ≤ _; omega, hX2c, hX2l⟩, (hT.keep [8, 66, 7, 6, 5, 4, 0, 1] rfl), (H.keep [0, 1, 2] rfl rfl), by show _ - (i + 1) < _ - i; omega⟩
              · try simp only [decide_eq_true_eq, decide_eq_false_iff_not, Bool.not_eq_true', Bool.not_eq_false', Bool.not_eq_true, Bool.not_eq_false, Bool.and_eq_true, Bool.or_eq_false_iff, beq_iff_eq, bne_iff_ne, Int.not_lt, Int.not_le, ne_eq] at hc43
                refine wp_exit ?_
                refine Sx.then_exit ?_
                refine Sx.then_exit ?_
                refine Sx.block_exit ?_
                refine Sx.then_normal (hK39 _ _ ?_)
                clear hK39
                refine wp_seq_k fun K50 hK50 => ?_
                -- region 12 (law.go:58)
                refine Sx.wp_draws (fun u => Sx.Ext (Sx.No) u) [(0, .take), (2, .take), (3, .take), (4, .take), (5, .held), (1, .keep), (6, .run), (7, .take)] (by kernel_rfl) (by kernel_rfl) (fun u E _ => ?_)
                replace H := H.pure E; clear E
                have hH : Sx.Ext (Sx.No) u u := Sx.Ext.refl _ _
                have Hu := H
                refine Sx.st_take hT rfl rfl rfl rfl (Sx.x_move hT rfl rfl) ?_
                clear hT; intro a hT
                refine Sx.st_take hT rfl rfl rfl rfl (Sx.x_move hT rfl rfl) ?_
                clear hT; intro a hT
                refine Sx.st_take hT rfl rfl rfl rfl (Sx.x_nilCheck hT rfl rfl) ?_
                clear hT; intro a hT
                refine Sx.st_take hT rfl rfl rfl rfl (Sx.x_fieldAddr hT rfl Try.fa55_0 rfl) ?_
                clear hT; intro a hT
                refine Sx.st_held hT rfl rfl rfl rfl hH (fun w' h' => Sx.x_load1 hT rfl Try.fl29 rfl (by first | exact ((Hu.heldB 1 rfl h' Sx.off_No).nth rfl) | exact ((RB2.at (Hu.ext.step h')).nth (j := 0) rfl))) ?_
                clear hT; intro a hT
                refine Sx.st_callkeep hT rfl rfl rfl rfl rfl Try.can28 rfl (Held_calls L (RB.at H.ext) (R.at H.ext) (fun x hx => ⟨(RF.at H.ext) x hx, hfn x hx⟩) hl) ?_
                rintro _ w20 ⟨adx9, cx9, X9, rfl, K, hX9⟩
                refine ⟨_, rfl, hH.step K.ext, ?_⟩
                replace hH := hH.step K.ext
                clear hT; intro a hT
                replace H := H.more K rfl; clear K
                have hXl9 : X9.length = L.length := by have := congrArg List.length hX9; simpa using this
                refine Sx.st_call hT rfl rfl rfl rfl rfl Try.can27 rfl (Fragments_calls X9 M ((H.row 0 rfl).ssn rfl) (R2.at H.ext) (fun x hx => ⟨fam_fr (H.fam 1 rfl) x hx, by have h9 := (held_fam (L := X9) (by rw [hX9]; exact hHd) (H.fam 1 rfl) x hx).2.2; omega⟩) (RF2.at H.ext) (by have := congrArg List.length hX9; simp at this; omega)) ?_
                rintro _ w21 ⟨rfl, E⟩
                refine ⟨_, rfl, ?_⟩
                clear hT; intro a hT
                replace H := H.pure E; clear E
                rw [decide_eq_true (show List.map Fr.p X9 = List.map Fr.p M from hX9.trans hLM)] at hT
                refine Sx.st_take hT rfl rfl rfl rfl (Sx.x_assign hT rfl rfl) ?_
                clear hT; intro a hT
                replace hT := hT.keep [4, 70, 8, 66, 7, 6, 5, 0, 1] rfl
                clear Hu hH
                refine Sx.ser_calm ?_
                refine Sx.then_normal (hK50 _ _ ?_)
                clear hK50
                refine wp_ret ?_
                refine Sx.done1 (fn := Try.f25) hT rfl (.tmp (hT.get 4 _ rfl)) ?_
                exact ⟨ret_b rfl, H.ext⟩
          · try simp only [decide_eq_true_eq, decide_eq_false_iff_not, Bool.not_eq_true', Bool.not_eq_false', Bool.not_eq_true, Bool.not_eq_false, Bool.and_eq_true, Bool.or_eq_false_iff, beq_iff_eq, bne_iff_ne, Int.not_lt, Int.not_le, ne_eq] at hc37
            skip
            refine Sx.st_heldskip hT rfl rfl rfl rfl hH ?_
            clear hT; intro a hT
            refine Sx.st_skip hT rfl rfl rfl rfl ?_
            clear hT; intro a hT
            refine Sx.st_skip hT rfl rfl rfl rfl ?_
            clear hT; intro a hT
            refine Sx.st_take hT rfl rfl rfl rfl (Sx.x_pick_f hT rfl rfl rfl) ?_
            clear hT; intro a hT
            refine Sx.st_take hT rfl rfl rfl rfl (Sx.x_pick_f hT rfl rfl rfl) ?_
            clear hT; intro a hT
            replace hT := hT.keep [66, 7, 6, 5, 4, 0, 1] rfl
            clear Hu hH
            refine Sx.ser_calm ?_
            refine Sx.then_normal (hK5 _ _ ?_)
            clear hK5
            refine Sx.wp_if hT rfl (fun h => by cases h) (fun _ => ?_)
            refine wp_skip ?_
            refine Sx.then_normal (hK4 _ _ ?_)
            clear hK4
            refine wp_seq_k fun K51 hK51 => ?_
            refine wp_seq_k fun K52 hK52 => ?_
            -- region 5 (law.go:53)
            refine Sx.wp_text [(0, .take)] rfl ?_
            refine Sx.st_take hT rfl rfl rfl rfl (Sx.x_assign hT rfl rfl) ?_
            clear hT; intro a hT
            replace hT := hT.keep [8, 66, 7, 6, 5, 4, 0, 1] rfl
            refine Sx.ser_nil ?_
            refine Sx.then_normal (hK52 _ _ ?_)
            clear hK52
            refine wp_block ?_
            -- loop 0
            refine Sx.wp_loopH (G := Nat × List Fr) (fun ⟨i, X2⟩ => [(8, .int .i64 (i : Int))]) (fun ⟨i, X2⟩ => [cF 50 4 Fr.rw (X2)]) (fun ⟨i, X2⟩ => i ≤ X1.length ∧ X2.flatMap Fr.cells = X1.flatMap Fr.cells ∧ X2.length = X1.length) (fun ⟨i, X2⟩ => X1.length - i) (0, X1) (hT.keep [8, 66, 7, 6, 5, 4, 0, 1] rfl) (H.keep [2, 0, 1] rfl rfl) (⟨Nat.zero_le _, rfl, rfl⟩) ?_
            clear hT H
            rintro ⟨i, X2⟩ a w22 hJ hT H
            replace hT := hT.keep [8, 66, 7, 6, 5, 4, 0, 1] rfl
            replace H := H.keep [0, 1, 2] rfl rfl
            obtain ⟨hi, hX2c, hX2l⟩ := hJ
            refine wp_seq_k fun K53 hK53 => ?_
            refine wp_seq_k fun K54 hK54 => ?_
            -- region 6 (law.go:53)
            refine Sx.wp_text [(0, .take), (1, .take), (2, .take), (3, .take)] rfl ?_
            refine Sx.st_take hT rfl rfl rfl rfl (Sx.x_move hT rfl rfl) ?_
            clear hT; intro a hT
            refine Sx.st_take hT rfl rfl rfl rfl (Sx.x_move hT rfl rfl) ?_
            clear hT; intro a hT
            refine Sx.st_take hT rfl rfl rfl rfl (Sx.x_len_slice hT rfl rfl Try.underlying29 rfl) ?_
            clear hT; intro a hT
            refine Sx.st_take hT rfl rfl rfl rfl ((fun w => Sx.x_lt w hT rfl rfl rfl)) ?_
            clear hT; intro a hT
            replace hT := hT.keep [70, 8, 66, 7, 6, 5, 4, 0, 1] rfl
            refine Sx.ser_nil ?_
            refine Sx.then_normal (hK54 _ _ ?_)
            clear hK54
            -- cond 1
            refine Sx.wp_if hT rfl (fun hc55 => ?_) (fun hc55 => ?_)
            · try simp only [decide_eq_true_eq, decide_eq_false_iff_not, Bool.not_eq_true', Bool.not_eq_false', Bool.not_eq_true, Bool.not_eq_false, Bool.and_eq_true, Bool.or_eq_false_iff, beq_iff_eq, bne_iff_ne, Int.not_lt, Int.not_le, ne_eq] at hc55
              obtain ⟨q0, hq0⟩ : ∃ o, X2[i]? = some o := ⟨_, List.getElem?_eq_getElem (by omega)⟩
              refine wp_skip ?_
              refine Sx.then_normal (hK53 _ _ ?_)
              clear hK53
              refine wp_seq_k fun K56 hK56 => ?_
              refine wp_block ?_
              refine wp_seq_k fun K57 hK57 => ?_
              -- region 8 (law.go:54)
              refine Sx.wp_text [(0, .take)] rfl ?_
              refine Sx.st_take hT rfl rfl rfl rfl (Sx.x_assign hT rfl rfl) ?_
              clear hT; intro a hT
              replace hT := hT.keep [9, 70, 8, 66, 7, 6, 5, 4, 0, 1] rfl
              refine Sx.ser_nil ?_
              refine Sx.then_normal (hK57 _ _ ?_)
              clear hK57
              refine wp_block ?_
              -- loop 1
              refine Sx.wp_loopH (G := Nat × List Fr) (fun ⟨k, X2⟩ => [(9, .int .i64 (k : Int))]) (fun ⟨k, X2⟩ => [cF 50 4 Fr.rw (X2)]) (fun ⟨k, X2⟩ => X2.flatMap Fr.cells = X1.flatMap Fr.cells ∧ X2.length = X1.length ∧ k ≤ q0.ws.length ∧ ∃ q, X2[i]? = some q ∧ q.ws.length = q0.ws.length) (fun ⟨k, X2⟩ => q0.ws.length - k) (0, X2) (hT.keep [9, 70, 8, 66, 7, 6, 5, 4, 0, 1] rfl) (H.keep [0, 1, 2] rfl rfl) (⟨hX2c, hX2l, Nat.zero_le _, q0, hq0, rfl⟩) ?_
              clear hT H
              rintro ⟨k, X2⟩ a w23 hJ hT H
              replace hT := hT.keep [9, 70, 8, 66, 7, 6, 5, 4, 0, 1] rfl
              replace H := H.keep [0, 1, 2] rfl rfl
              obtain ⟨hX2c, hX2l, hk, q, hq, hql⟩ := hJ
              have hqm := List.mem_of_getElem? hq
              have hqb := ((H.fam 0 rfl).row q hqm).le
              have hqb2 : q.ws.length ≤ maxLen := Nat.le_trans hqb.1 hqb.2
              unfold maxLen at hqb2
              clear hqb
              refine wp_seq_k fun K58 hK58 => ?_
              refine wp_seq_k fun K59 hK59 => ?_
              -- region 9 (law.go:54)
              refine Sx.wp_text [(0, .take), (1, .take), (2, .take), (3, .take), (4, .take), (5, .run), (6, .take), (7, .take)] rfl ?_
              refine Sx.st_take hT rfl rfl rfl rfl (Sx.x_move hT rfl rfl) ?_
              clear hT; intro a hT
              refine Sx.st_take hT rfl rfl rfl rfl (Sx.x_move hT rfl rfl) ?_
              clear hT; intro a hT
              refine Sx.st_take hT rfl rfl rfl rfl (Sx.x_move hT rfl rfl) ?_
              clear hT; intro a hT
              refine Sx.st_take hT rfl rfl rfl rfl (Sx.x_index (k := i) hT rfl Try.underlying29 Try.ti35 (H.row 2 rfl).sv rfl rfl (by first | rfl | omega) (by omega)) ?_
              clear hT; intro a hT
              refine Sx.st_take hT rfl rfl rfl rfl (Sx.x_fieldAddr hT rfl Try.fa35_4 rfl) ?_
              clear hT; intro a hT
              refine Sx.st_run hT rfl rfl rfl rfl (Sx.x_load1 hT rfl Try.fl33 rfl ((row_ssnc (H.row 2 rfl) hX2c hX2l).cell (j := 8) Fr.len hq rfl)) ?_
              clear hT; intro a hT
              refine Sx.st_take hT rfl rfl rfl rfl (Sx.x_len_slice hT rfl rfl Try.underlying33 rfl) ?_
              clear hT; intro a hT
              refine Sx.st_take hT rfl rfl rfl rfl ((fun w => Sx.x_lt w hT rfl rfl rfl)) ?_
              clear hT; intro a hT
              replace hT := hT.keep [80, 9, 70, 8, 66, 7, 6, 5, 4, 0, 1] rfl
              refine Sx.ser_nil ?_
              refine Sx.then_normal (hK59 _ _ ?_)
              clear hK59
              -- cond 2
              refine Sx.wp_if hT rfl (fun hc60 => ?_) (fun hc60 => ?_)
              · try simp only [decide_eq_true_eq, decide_eq_false_iff_not, Bool.not_eq_true', Bool.not_eq_false', Bool.not_eq_true, Bool.not_eq_false, Bool.and_eq_true, Bool.or_eq_false_iff, beq_iff_eq, bne_iff_ne, Int.not_lt, Int.not_le, ne_eq] at hc60
                skip
                refine wp_skip ?_
                refine Sx.then_normal (hK58 _ _ ?_)
                clear hK58
                refine wp_seq_k fun K61 hK61 => ?_
                refine wp_block ?_
                -- region 11 (law.go:55)
                refine Sx.wp_text [(0, .take), (1, .take), (2, .take), (3, .take), (4, .run), (5, .take), (6, .take), (7, .take), (8, .run)] rfl ?_
                refine Sx.st_take hT rfl rfl rfl rfl (Sx.x_move hT rfl rfl) ?_
                clear hT; intro a hT
                refine Sx.st_take hT rfl rfl rfl rfl (Sx.x_move hT rfl rfl) ?_
                clear hT; intro a hT
                refine Sx.st_take hT rfl rfl rfl rfl (Sx.x_index (k := i) hT rfl Try.underlying29 Try.ti35 (H.row 2 rfl).sv rfl rfl (by first | rfl | omega) (by omega)) ?_
                clear hT; intro a hT
                refine Sx.st_take hT rfl rfl rfl rfl (Sx.x_fieldAddr hT rfl Try.fa35_4 rfl) ?_
                clear hT; intro a hT
                refine Sx.st_run hT rfl rfl rfl rfl (Sx.x_load1 hT rfl Try.fl33 rfl ((row_ssnc (H.row 2 rfl) hX2c hX2l).cell (j := 8) Fr.len hq rfl)) ?_
                clear hT; intro a hT
                refine Sx.st_take hT rfl rfl rfl rfl (Sx.x_move hT rfl rfl) ?_
                clear hT; intro a hT
                refine Sx.st_take hT rfl rfl rfl rfl (Sx.x_bld hT rfl Try.bld50 rfl rfl) ?_
                clear hT; intro a hT
                refine Sx.st_take hT rfl rfl rfl rfl (Sx.x_index (k := k) hT rfl Try.underlying33 Try.ti50 ((H.fam 0 rfl).row q hqm).sv rfl rfl (by first | rfl | omega) (by show k < q.ws.length; omega)) ?_
                clear hT; intro a hT
                refine Sx.st_act hT rfl rfl rfl (Sx.x_storeRowS (k := k) (r := spW) hT rfl Try.ti50 rfl rfl Wt.len Wt.one rfl ((H.fam 0 rfl).row q hqm) rfl (by show k < q.ws.length; omega)) ?_
                rintro w24 ⟨hr, E, _⟩
                replace H := H.famSet (y := spF q k) 0 rfl hq (by rw [show (Fr.rw (spF q k)).n = (Fr.rw q).n from List.length_set]; exact hr) E (fun _ hk => .inl hk) rfl
                clear hr E
                replace hT := hT.keep [80, 9, 70, 8, 66, 7, 6, 5, 4, 0, 1] rfl
                refine Sx.ser_nil ?_
                refine Sx.block_normal ?_
                refine Sx.then_normal (hK61 _ _ ?_)
                clear hK61
                -- region 10 (law.go:54)
                refine Sx.wp_text [(0, .take), (1, .take), (2, .take)] rfl ?_
                refine Sx.st_take hT rfl rfl rfl rfl (Sx.x_move hT rfl rfl) ?_
                clear hT; intro a hT
                refine Sx.st_take hT rfl rfl rfl rfl ((fun w => Sx.x_add w hT rfl rfl rfl (Sx.wrap64 (by omega)))) ?_
                clear hT; intro a hT
                refine Sx.st_take hT rfl rfl rfl rfl (Sx.x_assign hT rfl rfl) ?_
                clear hT; intro a hT
                replace hT := hT.keep [9, 80, 70, 8, 66, 7, 6, 5, 4, 0, 1] rfl
                refine Sx.ser_nil ?_
                refine Sx.then_normal ?_
                exact ⟨(k + 1, X2.set i (spF q k)), ⟨by show (X2.set i _).flatMap _ = _; rw [set_cellsF hq (spF_cells q k), hX2c], by show (X2.set i _).length = _; rw [List.length_set, hX2l], by show k + 1 ≤ _; omega, spF q k, by show (X2.set i _)[i]? = _; rw [List.getElem?_set_self (by omega)], by show (q.ws.set k spW).length = _; rw [List.length_set, hql]⟩, (hT.keep [9, 70, 8, 66, 7, 6, 5, 4, 0, 1] rfl), (H.keep [0, 1, 2] rfl rfl), by show _ - (k + 1) < _ - k; omega⟩
              · try simp only [decide_eq_true_eq, decide_eq_false_iff_not, Bool.not_eq_true', Bool.not_eq_false', Bool.not_eq_true, Bool.not_eq_false, Bool.and_eq_true, Bool.or_eq_false_iff, beq_iff_eq, bne_iff_ne, Int.not_lt, Int.not_le, ne_eq] at hc60
                refine wp_exit ?_
                refine Sx.then_exit ?_
                refine Sx.then_exit ?_
                refine Sx.block_exit ?_
                refine Sx.block_normal ?_
                refine Sx.then_normal (hK56 _ _ ?_)
                clear hK56
                -- region 7 (law.go:53)
                refine Sx.wp_text [(0, .take), (1, .take), (2, .take)] rfl ?_
                refine Sx.st_take hT rfl rfl rfl rfl (Sx.x_move hT rfl rfl) ?_
                clear hT; intro a hT
                refine Sx.st_take hT rfl rfl rfl rfl ((fun w => Sx.x_add w hT rfl rfl rfl (Sx.wrap64 (by omega)))) ?_
                clear hT; intro a hT
                refine Sx.st_take hT rfl rfl rfl rfl (Sx.x_assign hT rfl rfl) ?_
                clear hT; intro a hT
                replace hT := hT.keep [8, 80, 9, 70, 66, 7, 6, 5, 4, 0, 1] rfl
                refine Sx.ser_nil ?_
                refine Sx.then_normal ?_
                exact ⟨(i + 1, X2), ⟨by show i + 1 ≤ _; omega, hX2c, hX2l⟩, (hT.keep [8, 66, 7, 6, 5, 4, 0, 1] rfl), (H.keep [0, 1, 2] rfl rfl), by show _ - (i + 1) < _ - i; omega⟩
            · try simp only [decide_eq_true_eq, decide_eq_false_iff_not, Bool.not_eq_true', Bool.not_eq_false', Bool.not_eq_true, Bool.not_eq_false, Bool.and_eq_true, Bool.or_eq_false_iff, beq_iff_eq, bne_iff_ne, Int.not_lt, Int.not_le, ne_eq] at hc55
              refine wp_exit ?_
              refine Sx.then_exit ?_
              refine Sx.then_exit ?_
              refine Sx.block_exit ?_
              refine Sx.then_normal (hK51 _ _ ?_)
              clear hK51
              refine wp_seq_k fun K62 hK62 => ?_
              -- region 12 (law.go:58)
              refine Sx.wp_draws (fun u => Sx.Ext (Sx.No) u) [(0, .take), (2, .take), (3, .take), (4, .take), (5, .held), (1, .keep), (6, .run), (7, .take)] (by kernel_rfl) (by kernel_rfl) (fun u E _ => ?_)
              replace H := H.pure E; clear E
              have hH : Sx.Ext (Sx.No) u u := Sx.Ext.refl _ _
              have Hu := H
              refine Sx.st_take hT rfl rfl rfl rfl (Sx.x_move hT rfl rfl) ?_
              clear hT; intro a hT
              refine Sx.st_take hT rfl rfl rfl rfl (Sx.x_move hT rfl rfl) ?_
              clear hT; intro a hT
              refine Sx.st_take hT rfl rfl rfl rfl (Sx.x_nilCheck hT rfl rfl) ?_
              clear hT; intro a hT
              refine Sx.st_take hT rfl rfl rfl rfl (Sx.x_fieldAddr hT rfl Try.fa55_0 rfl) ?_
              clear hT; intro a hT
              refine Sx.st_held hT rfl rfl rfl rfl hH (fun w' h' => Sx.x_load1 hT rfl Try.fl29 rfl (by first | exact ((Hu.heldB 1 rfl h' Sx.off_No).nth rfl) | exact ((RB2.at (Hu.ext.step h')).nth (j := 0) rfl))) ?_
              clear hT; intro a hT
              refine Sx.st_callkeep hT rfl rfl rfl rfl rfl Try.can28 rfl (Held_calls L (RB.at H.ext) (R.at H.ext) (fun x hx => ⟨(RF.at H.ext) x hx, hfn x hx⟩) hl) ?_
              rintro _ w25 ⟨adx9, cx9, X9, rfl, K, hX9⟩
              refine ⟨_, rfl, hH.step K.ext, ?_⟩
              replace hH := hH.step K.ext
              clear hT; intro a hT
              replace H := H.more K rfl; clear K
              have hXl9 : X9.length = L.length := by have := congrArg List.length hX9; simpa using this
              refine Sx.st_call hT rfl rfl rfl rfl rfl Try.can27 rfl (Fragments_calls X9 M ((H.row 0 rfl).ssn rfl) (R2.at H.ext) (fun x hx => ⟨fam_fr (H.fam 1 rfl) x hx, by have h9 := (held_fam (L := X9) (by rw [hX9]; exact hHd) (H.fam 1 rfl) x hx).2.2; omega⟩) (RF2.at H.ext) (by have := congrArg List.length hX9; simp at this; omega)) ?_
              rintro _ w26 ⟨rfl, E⟩
              refine ⟨_, rfl, ?_⟩
              clear hT; intro a hT
              replace H := H.pure E; clear E
              rw [decide_eq_true (show List.map Fr.p X9 = List.map Fr.p M from hX9.trans hLM)] at hT
              refine Sx.st_take hT rfl rfl rfl rfl (Sx.x_assign hT rfl rfl) ?_
              clear hT; intro a hT
              replace hT := hT.keep [4, 70, 8, 66, 7, 6, 5, 0, 1] rfl
              clear Hu hH
              refine Sx.ser_calm ?_
              refine Sx.then_normal (hK62 _ _ ?_)
              clear hK62
              refine wp_ret ?_
              refine Sx.done1 (fn := Try.f25) hT rfl (.tmp (hT.get 4 _ rfl)) ?_
              exact ⟨ret_b rfl, H.ext⟩

end Go.Proofs.Ythhdoeflafakaaa
