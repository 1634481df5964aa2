/- Walks: do both stand alike? -/
import Derived.Test.YtgcelppbbjokeaaW10
set_option linter.unusedSimpArgs false
set_option linter.unusedVariables false
namespace Go.Proofs.Ytgcelppbbjokeaa
open Sx

theorem stands_calls {p q : Nat} {room : Int} {ms : List Mail} {F G : Nat → Prop} (w : World) (hn : Net w p room ms F) (hx : XNet w q room ms G) :
    Calls Try.prog 20 #[.pointer (some ⟨p, 0, none⟩), .pointer (some ⟨q, 0, none⟩)] w fun e w' => e = .returned (.bool true) ∧ Ext No w w' := by
  obtain ⟨adx, cx, rs, h⟩ := hx
  have hl := h.len
  have hfe := h.few
  have hfi := h.fits
  refine Sx.calls_into Try.func20 rfl Try.ntmps20 rfl fun a hT => ?_
  replace hT := hT.keep [0, 1] rfl
  have X : Sx.Ext Sx.No w w := Sx.Ext.refl _ _
  refine wp_seq_k fun K1 hK1 => ?_
  -- region 0 (law.go:76)
  refine Sx.wp_text [(0, .take)] rfl ?_
  refine Sx.st_take hT rfl rfl rfl rfl (Sx.x_assign hT rfl rfl) ?_
  clear hT; intro a hT
  replace hT := hT.keep [4, 0, 1] rfl
  refine Sx.ser_nil ?_
  refine Sx.then_normal (hK1 _ _ ?_)
  clear hK1
  refine wp_seq_k fun K2 hK2 => ?_
  refine wp_seq_k fun K3 hK3 => ?_
  -- region 1 (law.go:77)
  refine Sx.wp_draws (fun u => Sx.Ext Sx.No u) [(0, .take), (2, .take), (3, .take), (4, .take), (5, .held), (6, .take), (1, .keep), (7, .take)] (by kernel_rfl) (by kernel_rfl) (fun u E z => ?_)
  replace X := X.step E
  have hH : Sx.Ext Sx.No u u := Sx.Ext.refl _ _
  have Xu := X
  refine Sx.st_take hT rfl rfl rfl rfl (Sx.x_move hT rfl rfl) ?_
  clear hT; intro a hT
  refine Sx.st_take hT rfl rfl rfl rfl (Sx.x_move hT rfl rfl) ?_
  clear hT; intro a hT
  refine Sx.st_take hT rfl rfl rfl rfl (Sx.x_nilCheck hT rfl rfl) ?_
  clear hT; intro a hT
  refine Sx.st_take hT rfl rfl rfl rfl (Sx.x_fieldAddr hT rfl Try.fa63_1 rfl) ?_
  clear hT; intro a hT
  refine Sx.st_held hT rfl rfl rfl rfl hH (fun w' h' => Sx.x_load1 hT rfl Try.fl61 rfl (by first | exact (((h.ext_no (Xu.step h')).blk).nth rfl))) ?_
  clear hT; intro a hT
  refine Sx.st_take hT rfl rfl rfl rfl (Sx.x_len_slice hT rfl rfl Try.underlying61 rfl) ?_
  clear hT; intro a hT
  refine Sx.st_callkeep hT rfl rfl rfl rfl rfl Try.can13 rfl (nLen_calls (hn.ext_no X)) ?_
  rintro _ w1 ⟨rfl, E⟩
  refine ⟨_, rfl, ?_, ?_⟩
  · exact hH.step E
  replace hH := hH.step E
  clear hT; intro a hT
  replace X := X.step E
  refine Sx.st_take hT rfl rfl rfl rfl ((fun w => Sx.x_ne w hT rfl rfl rfl)) ?_
  clear hT; intro a hT
  replace hT := hT.keep [16, 4, 0, 1] rfl
  refine Sx.ser_calm ?_
  refine Sx.then_normal (hK3 _ _ ?_)
  clear hK3
  -- cond 0
  refine Sx.wp_if hT rfl (fun hc4 => ?_) (fun hc4 => ?_)
  · exfalso
    try simp only [decide_eq_true_eq, decide_eq_false_iff_not, Bool.not_eq_true', Bool.not_eq_false', Bool.not_eq_true, Bool.not_eq_false, Bool.and_eq_true, Bool.or_eq_false_iff, beq_iff_eq, bne_iff_ne, Int.not_lt, Int.not_le, ne_eq] at hc4
    first | omega | simp at hc4
  · try simp only [decide_eq_true_eq, decide_eq_false_iff_not, Bool.not_eq_true', Bool.not_eq_false', Bool.not_eq_true, Bool.not_eq_false, Bool.and_eq_true, Bool.or_eq_false_iff, beq_iff_eq, bne_iff_ne, Int.not_lt, Int.not_le, ne_eq] at hc4
    refine wp_skip ?_
    refine Sx.then_normal (hK2 _ _ ?_)
    clear hK2
    refine wp_seq_k fun K5 hK5 => ?_
    refine wp_seq_k fun K6 hK6 => ?_
    -- region 3 (law.go:80)
    refine Sx.wp_text [(0, .take)] rfl ?_
    refine Sx.st_take hT rfl rfl rfl rfl (Sx.x_assign hT rfl rfl) ?_
    clear hT; intro a hT
    replace hT := hT.keep [5, 16, 4, 0, 1] rfl
    refine Sx.ser_nil ?_
    refine Sx.then_normal (hK6 _ _ ?_)
    clear hK6
    refine wp_block ?_
    -- loop 0
    refine Sx.wp_while (G := Nat) (fun i a w2 => i ≤ rs.length ∧ Ext No w w2 ∧ Sl 77 [(0, .pointer (some ⟨p, 0, none⟩)), (1, .pointer (some ⟨q, 0, none⟩)), (5, .int .i64 i)] a) (fun i => rs.length - i) 0 ?_ ?_
    · exact ⟨Nat.zero_le _, X, hT.keep [0, 1, 5] rfl⟩
    clear hT X
    intro i a w2 hI
    obtain ⟨hi, X, hT⟩ := hI
    refine wp_seq_k fun K7 hK7 => ?_
    refine wp_seq_k fun K8 hK8 => ?_
    -- region 4 (law.go:80)
    refine Sx.wp_text [(0, .take), (1, .take), (2, .take), (3, .take), (4, .run), (5, .take), (6, .take)] rfl ?_
    refine Sx.st_take hT rfl rfl rfl rfl (Sx.x_move hT rfl rfl) ?_
    clear hT; intro a hT
    refine Sx.st_take hT rfl rfl rfl rfl (Sx.x_move hT rfl rfl) ?_
    clear hT; intro a hT
    refine Sx.st_take hT rfl rfl rfl rfl (Sx.x_nilCheck hT rfl rfl) ?_
    clear hT; intro a hT
    refine Sx.st_take hT rfl rfl rfl rfl (Sx.x_fieldAddr hT rfl Try.fa63_1 rfl) ?_
    clear hT; intro a hT
    refine Sx.st_run hT rfl rfl rfl rfl (Sx.x_load1 hT rfl Try.fl61 rfl (by first | exact (((h.ext_no X).blk).nth rfl))) ?_
    clear hT; intro a hT
    refine Sx.st_take hT rfl rfl rfl rfl (Sx.x_len_slice hT rfl rfl Try.underlying61 rfl) ?_
    clear hT; intro a hT
    refine Sx.st_take hT rfl rfl rfl rfl ((fun w => Sx.x_lt w hT rfl rfl rfl)) ?_
    clear hT; intro a hT
    replace hT := hT.keep [23, 0, 1, 5] rfl
    refine Sx.ser_nil ?_
    refine Sx.then_normal (hK8 _ _ ?_)
    clear hK8
    -- cond 1
    refine Sx.wp_if hT rfl (fun hc9 => ?_) (fun hc9 => ?_)
    · try simp only [decide_eq_true_eq, decide_eq_false_iff_not, Bool.not_eq_true', Bool.not_eq_false', Bool.not_eq_true, Bool.not_eq_false, Bool.and_eq_true, Bool.or_eq_false_iff, beq_iff_eq, bne_iff_ne, Int.not_lt, Int.not_le, ne_eq] at hc9
      obtain ⟨m, hm⟩ : ∃ m, ms[i]? = some m := ⟨_, List.getElem?_eq_getElem (by omega)⟩
      obtain ⟨r, hr, hmr⟩ := h.all.get hm
      have hsm1 := hmr.small
      have hsm2 := hmr.n
      refine wp_skip ?_
      refine Sx.then_normal (hK7 _ _ ?_)
      clear hK7
      refine wp_seq_k fun K10 hK10 => ?_
      refine wp_block ?_
      refine wp_seq_k fun K11 hK11 => ?_
      -- region 6 (law.go:81)
      refine Sx.wp_text [(0, .take), (1, .take), (2, .run), (3, .take), (4, .take), (5, .take), (6, .run), (7, .run), (8, .take)] rfl ?_
      refine Sx.st_take hT rfl rfl rfl rfl (Sx.x_move hT rfl rfl) ?_
      clear hT; intro a hT
      refine Sx.st_take hT rfl rfl rfl rfl (Sx.x_move hT rfl rfl) ?_
      clear hT; intro a hT
      refine Sx.st_call hT rfl rfl rfl rfl rfl Try.can11 rfl (nAt_yes (hn.ext_no X) (i : Int) i m rfl hm) ?_
      have hz6 := X.size
      rintro _ w3 ⟨ad6, c6, rfl, hto, E⟩
      refine ⟨_, rfl, ?_⟩
      clear hT; intro a hT
      replace X := X.step E
      refine Sx.st_take hT rfl rfl rfl rfl (Sx.x_move hT rfl rfl) ?_
      clear hT; intro a hT
      refine Sx.st_take hT rfl rfl rfl rfl (Sx.x_extract hT rfl rfl rfl) ?_
      clear hT; intro a hT
      refine Sx.st_take hT rfl rfl rfl rfl (Sx.x_extract hT rfl rfl rfl) ?_
      clear hT; intro a hT
      refine Sx.st_eff hT rfl rfl rfl rfl (Sx.y_alloc hT rfl Try.ti34 rfl _) ?_
      clear hT; rintro _ w4 ⟨b1, rfl, N⟩ a hT
      have hb1 : w.heap.size ≤ b1 := by rw [N.at_]; exact X.size
      have hd_b1 := fun h0 => Nat.lt_of_lt_of_le (hto.bs.lt h0) (Nat.le_of_eq N.at_.symm)
      have hdl := hd_b1
      have hnew : 0 < m.data.length → w.heap.size ≤ ab ad6 := fun h0 => Nat.le_trans hz6 (hto.new h0)
      replace X := X.step N.ext
      replace hto := hto.ext_no N.ext
      have B1 := N.blk
      clear N
      refine Sx.st_act hT rfl rfl rfl (Sx.y_storeS hT rfl Try.ti34 rfl rfl rfl rfl rfl B1 rfl) ?_
      rintro w5 ⟨NB1, E, z⟩
      replace X := X.fresh E (by omega)
      replace hto := hto.ext E (fun h0 h9 => by unfold Sx.One at h9; have := hto.new h0; omega)
      replace B1 := NB1; clear NB1 E
      refine Sx.st_take hT rfl rfl rfl rfl (Sx.x_assign hT rfl rfl) ?_
      clear hT; intro a hT
      replace hT := hT.keep [7, 6, 23, 0, 1, 5] rfl
      refine Sx.ser_nil ?_
      refine Sx.then_normal (hK11 _ _ ?_)
      clear hK11
      refine wp_seq_k fun K12 hK12 => ?_
      refine wp_seq_k fun K13 hK13 => ?_
      -- region 7 (law.go:82)
      refine Sx.wp_draws (fun u => Sx.Ext Sx.No u) [(0, .take), (1, .take), (2, .take), (3, .held), (4, .take), (5, .take), (6, .take), (7, .held), (8, .take), (9, .take), (10, .held), (11, .run), (12, .take), (13, .take)] (by kernel_rfl) (by kernel_rfl) (fun u E z => ?_)
      replace X := X.step E
      replace B1 := B1.ext_no E
      replace hto := hto.ext_no E
      have hH : Sx.Ext Sx.No u u := Sx.Ext.refl _ _
      have Xu := X
      have B1u := B1
      refine Sx.st_take hT rfl rfl rfl rfl (Sx.x_move hT rfl rfl) ?_
      clear hT; intro a hT
      refine Sx.st_take hT rfl rfl rfl rfl (Sx.x_not hT rfl rfl) ?_
      clear hT; intro a hT
      refine Sx.st_take hT rfl rfl rfl rfl (Sx.x_move hT rfl rfl) ?_
      clear hT; intro a hT
      refine Sx.st_held hT rfl rfl rfl rfl hH (fun w' h' => Sx.y_loadS hT rfl Try.underlying34 Try.ti34 rfl (by first | exact (B1u.ext_no h').seg (k := 3) rfl | exact ((h.row.ss.ext_no (Xu.step h')).cs RM.len hr)) (by rfl)) ?_
      clear hT; intro a hT
      refine Sx.st_take hT rfl rfl rfl rfl (Sx.x_move hT rfl rfl) ?_
      clear hT; intro a hT
      refine Sx.st_take hT rfl rfl rfl rfl (Sx.x_nilCheck hT rfl rfl) ?_
      clear hT; intro a hT
      refine Sx.st_take hT rfl rfl rfl rfl (Sx.x_fieldAddr hT rfl Try.fa63_1 rfl) ?_
      clear hT; intro a hT
      refine Sx.st_held hT rfl rfl rfl rfl hH (fun w' h' => Sx.x_load1 hT rfl Try.fl61 rfl (by first | exact (B1u.ext_no h').nth rfl | exact (((h.ext_no (Xu.step h')).blk).nth rfl))) ?_
      clear hT; intro a hT
      refine Sx.st_take hT rfl rfl rfl rfl (Sx.x_move hT rfl rfl) ?_
      clear hT; intro a hT
      refine Sx.st_take hT rfl rfl rfl rfl (Sx.x_index hT rfl Try.underlying61 Try.ti65 (by first | exact (h.row.sv.ext_no X) | exact ((hR (by omega)).sv)) rfl rfl rfl (by omega)) ?_
      clear hT; intro a hT
      refine Sx.st_held hT rfl rfl rfl rfl hH (fun w' h' => Sx.y_loadS hT rfl Try.underlying65 Try.ti65 rfl (by first | exact (B1u.ext_no h').seg (k := 3) rfl | exact ((h.row.ss.ext_no (Xu.step h')).cs RM.len hr)) (by rfl)) ?_
      clear hT; intro a hT
      refine Sx.st_call hT rfl rfl rfl rfl rfl Try.can31 rfl (same_is true m.src m.dst r.f r.t ad6 r.ad _ _ c6 r.c m.data m.data _ hto.bs (hmr.bs.ext_no X) rfl hmr.n (by simp [hmr.src, hmr.dst])) ?_
      rintro _ w6 ⟨rfl, E⟩
      refine ⟨_, rfl, ?_⟩
      clear hT; intro a hT
      replace X := X.step E
      replace B1 := B1.ext_no E
      replace hto := hto.ext_no E
      refine Sx.st_take hT rfl rfl rfl rfl (Sx.x_not hT rfl rfl) ?_
      clear hT; intro a hT
      refine Sx.st_take hT rfl rfl rfl rfl (Sx.x_pick_f hT rfl rfl rfl) ?_
      clear hT; intro a hT
      replace hT := hT.keep [45, 7, 6, 23, 0, 1, 5] rfl
      refine Sx.ser_calm ?_
      refine Sx.then_normal (hK13 _ _ ?_)
      clear hK13
      refine Sx.wp_if hT rfl (fun h => by cases h) (fun _ => ?_)
      refine wp_skip ?_
      refine Sx.then_normal (hK12 _ _ ?_)
      clear hK12
      refine wp_seq_k fun K14 hK14 => ?_
      refine wp_seq_k fun K15 hK15 => ?_
      -- region 9 (law.go:85)
      refine Sx.wp_text [(0, .take)] rfl ?_
      refine Sx.st_take hT rfl rfl rfl rfl (Sx.x_assign hT rfl rfl) ?_
      clear hT; intro a hT
      replace hT := hT.keep [8, 45, 7, 6, 23, 0, 1, 5] rfl
      refine Sx.ser_nil ?_
      refine Sx.then_normal (hK15 _ _ ?_)
      clear hK15
      refine wp_block ?_
      -- loop 1
      refine Sx.wp_while (G := Nat × List Value) (fun g a w7 => g.1 ≤ m.data.length ∧ Ext No w w7 ∧ Blk w7 b1 [.int .i64 m.src, .int .i64 m.dst, .slice ad6 m.data.length c6] 34 ∧ (0 < m.data.length → Row w7 5 1 ad6 m.data.length c6 g.2) ∧ Sl 77 [(0, .pointer (some ⟨p, 0, none⟩)), (1, .pointer (some ⟨q, 0, none⟩)), (5, .int .i64 i), (6, .pointer (some ⟨b1, 0, none⟩)), (8, .int .i64 g.1)] a) (fun g => m.data.length - g.1) (0, bcells m.data) ?_ ?_
      · exact ⟨Nat.zero_le _, X, B1, hto.row, hT.keep [0, 1, 5, 6, 8] rfl⟩
      clear hT X hto B1
      rintro ⟨k, xs⟩ a w7 hI
      obtain ⟨hk, X, B1, hR, hT⟩ := hI
      dsimp only at hk hR hT
      refine wp_seq_k fun K16 hK16 => ?_
      refine wp_seq_k fun K17 hK17 => ?_
      -- region 10 (law.go:85)
      refine Sx.wp_text [(0, .take), (1, .take), (2, .run), (3, .take), (4, .take)] rfl ?_
      refine Sx.st_take hT rfl rfl rfl rfl (Sx.x_move hT rfl rfl) ?_
      clear hT; intro a hT
      refine Sx.st_take hT rfl rfl rfl rfl (Sx.x_fieldAddr hT rfl Try.fa34_2 rfl) ?_
      clear hT; intro a hT
      refine Sx.st_run hT rfl rfl rfl rfl (Sx.x_load1 hT rfl Try.fl30 rfl (by first | exact (B1).nth rfl | exact (((h.ext_no X).blk).nth rfl))) ?_
      clear hT; intro a hT
      refine Sx.st_take hT rfl rfl rfl rfl (Sx.x_len_slice hT rfl rfl Try.underlying30 rfl) ?_
      clear hT; intro a hT
      refine Sx.st_take hT rfl rfl rfl rfl ((fun w => Sx.x_lt w hT rfl rfl rfl)) ?_
      clear hT; intro a hT
      replace hT := hT.keep [50, 0, 1, 5, 6, 8] rfl
      refine Sx.ser_nil ?_
      refine Sx.then_normal (hK17 _ _ ?_)
      clear hK17
      -- cond 3
      refine Sx.wp_if hT rfl (fun hc18 => ?_) (fun hc18 => ?_)
      · try simp only [decide_eq_true_eq, decide_eq_false_iff_not, Bool.not_eq_true', Bool.not_eq_false', Bool.not_eq_true, Bool.not_eq_false, Bool.and_eq_true, Bool.or_eq_false_iff, beq_iff_eq, bne_iff_ne, Int.not_lt, Int.not_le, ne_eq] at hc18
        refine wp_skip ?_
        refine Sx.then_normal (hK16 _ _ ?_)
        clear hK16
        refine wp_seq_k fun K19 hK19 => ?_
        refine wp_block ?_
        -- region 12 (law.go:86)
        refine Sx.wp_text [(0, .take), (1, .run), (2, .take), (3, .take), (4, .run)] rfl ?_
        refine Sx.st_take hT rfl rfl rfl rfl (Sx.x_fieldAddr hT rfl Try.fa34_2 rfl) ?_
        clear hT; intro a hT
        refine Sx.st_run hT rfl rfl rfl rfl (Sx.x_load1 hT rfl Try.fl30 rfl (by first | exact (B1).nth rfl | exact (((h.ext_no X).blk).nth rfl))) ?_
        clear hT; intro a hT
        refine Sx.st_take hT rfl rfl rfl rfl (Sx.x_move hT rfl rfl) ?_
        clear hT; intro a hT
        refine Sx.st_take hT rfl rfl rfl rfl (Sx.x_index hT rfl Try.underlying30 Try.ti5 (by first | exact (h.row.sv.ext_no X) | exact ((hR (by omega)).sv)) rfl rfl rfl (by omega)) ?_
        clear hT; intro a hT
        refine Sx.st_act hT rfl rfl rfl (Sx.x_storeRow (k := k) hT rfl Try.ti5 rfl rfl rfl (hR (by omega)) (by omega)) ?_
        rintro w88 ⟨hR2, E, z⟩
        replace X := X.trans E (fun i hi h9 => absurd hi (by have := own_ab_eq h9; have := hnew (by omega); omega))
        replace B1 := B1.ext E (fun h9 => by have := own_ab_eq h9; have := hdl (by omega); omega)
        clear hR E
        replace hT := hT.keep [50, 0, 1, 5, 6, 8] rfl
        refine Sx.ser_nil ?_
        refine Sx.block_normal ?_
        refine Sx.then_normal (hK19 _ _ ?_)
        clear hK19
        -- region 11 (law.go:85)
        refine Sx.wp_text [(0, .take), (1, .take), (2, .take)] rfl ?_
        refine Sx.st_take hT rfl rfl rfl rfl (Sx.x_move hT rfl rfl) ?_
        clear hT; intro a hT
        refine Sx.st_take hT rfl rfl rfl rfl ((fun w => Sx.x_add w hT rfl rfl rfl (Sx.wrap64 (by omega)))) ?_
        clear hT; intro a hT
        refine Sx.st_take hT rfl rfl rfl rfl (Sx.x_assign hT rfl rfl) ?_
        clear hT; intro a hT
        replace hT := hT.keep [8, 50, 0, 1, 5, 6] rfl
        refine Sx.ser_nil ?_
        refine Sx.then_normal ?_
        exact ⟨(k + 1, _), ⟨by show k + 1 ≤ _; omega, X, B1, fun _ => hR2, (hT.keep [0, 1, 5, 6, 8] rfl)⟩, by show _ - (k + 1) < _ - k; omega⟩
      · try simp only [decide_eq_true_eq, decide_eq_false_iff_not, Bool.not_eq_true', Bool.not_eq_false', Bool.not_eq_true, Bool.not_eq_false, Bool.and_eq_true, Bool.or_eq_false_iff, beq_iff_eq, bne_iff_ne, Int.not_lt, Int.not_le, ne_eq] at hc18
        refine wp_exit ?_
        refine Sx.then_exit ?_
        refine Sx.then_exit ?_
        refine Sx.block_exit ?_
        refine Sx.then_normal (hK14 _ _ ?_)
        clear hK14
        refine wp_seq_k fun K20 hK20 => ?_
        -- region 13 (law.go:88)
        refine Sx.wp_text [(0, .take), (1, .take), (2, .run), (3, .take), (4, .take), (5, .take), (6, .run), (7, .take)] rfl ?_
        refine Sx.st_take hT rfl rfl rfl rfl (Sx.x_move hT rfl rfl) ?_
        clear hT; intro a hT
        refine Sx.st_take hT rfl rfl rfl rfl (Sx.x_move hT rfl rfl) ?_
        clear hT; intro a hT
        refine Sx.st_call hT rfl rfl rfl rfl rfl Try.can11 rfl (nAt_yes (hn.ext_no X) (i : Int) i m rfl hm) ?_
        have hz13 := X.size
        have hBl := B1.lt
        rintro _ w8 ⟨ad13, c13, rfl, hto, E⟩
        refine ⟨_, rfl, ?_⟩
        clear hT; intro a hT
        replace X := X.step E
        replace B1 := B1.ext_no E
        refine Sx.st_take hT rfl rfl rfl rfl (Sx.x_move hT rfl rfl) ?_
        clear hT; intro a hT
        refine Sx.st_take hT rfl rfl rfl rfl (Sx.x_extract hT rfl rfl rfl) ?_
        clear hT; intro a hT
        refine Sx.st_take hT rfl rfl rfl rfl (Sx.x_extract hT rfl rfl rfl) ?_
        clear hT; intro a hT
        refine Sx.st_act hT rfl rfl rfl (Sx.y_storeS hT rfl Try.ti34 rfl rfl rfl rfl rfl B1 rfl) ?_
        rintro w9 ⟨NB1, E, z⟩
        replace X := X.fresh E (by omega)
        replace hto := hto.ext E (fun h0 h9 => by unfold Sx.One at h9; have := hto.new h0; omega)
        replace B1 := NB1; clear NB1 E
        refine Sx.st_take hT rfl rfl rfl rfl (Sx.x_assign hT rfl rfl) ?_
        clear hT; intro a hT
        replace hT := hT.keep [7, 50, 0, 1, 5, 6, 8] rfl
        refine Sx.ser_nil ?_
        refine Sx.then_normal (hK20 _ _ ?_)
        clear hK20
        refine wp_seq_k fun K21 hK21 => ?_
        -- region 14 (law.go:89)
        refine Sx.wp_draws (fun u => Sx.Ext Sx.No u) [(0, .take), (1, .take), (2, .take), (3, .held), (4, .take), (5, .take), (6, .take), (7, .held), (8, .take), (9, .take), (10, .held), (11, .run), (12, .take), (13, .take)] (by kernel_rfl) (by kernel_rfl) (fun u E z => ?_)
        replace X := X.step E
        replace B1 := B1.ext_no E
        replace hto := hto.ext_no E
        have hH : Sx.Ext Sx.No u u := Sx.Ext.refl _ _
        have Xu := X
        have B1u := B1
        refine Sx.st_take hT rfl rfl rfl rfl (Sx.x_move hT rfl rfl) ?_
        clear hT; intro a hT
        refine Sx.st_take hT rfl rfl rfl rfl (Sx.x_not hT rfl rfl) ?_
        clear hT; intro a hT
        refine Sx.st_take hT rfl rfl rfl rfl (Sx.x_move hT rfl rfl) ?_
        clear hT; intro a hT
        refine Sx.st_held hT rfl rfl rfl rfl hH (fun w' h' => Sx.y_loadS hT rfl Try.underlying34 Try.ti34 rfl (by first | exact (B1u.ext_no h').seg (k := 3) rfl | exact ((h.row.ss.ext_no (Xu.step h')).cs RM.len hr)) (by rfl)) ?_
        clear hT; intro a hT
        refine Sx.st_take hT rfl rfl rfl rfl (Sx.x_move hT rfl rfl) ?_
        clear hT; intro a hT
        refine Sx.st_take hT rfl rfl rfl rfl (Sx.x_nilCheck hT rfl rfl) ?_
        clear hT; intro a hT
        refine Sx.st_take hT rfl rfl rfl rfl (Sx.x_fieldAddr hT rfl Try.fa63_1 rfl) ?_
        clear hT; intro a hT
        refine Sx.st_held hT rfl rfl rfl rfl hH (fun w' h' => Sx.x_load1 hT rfl Try.fl61 rfl (by first | exact (B1u.ext_no h').nth rfl | exact (((h.ext_no (Xu.step h')).blk).nth rfl))) ?_
        clear hT; intro a hT
        refine Sx.st_take hT rfl rfl rfl rfl (Sx.x_move hT rfl rfl) ?_
        clear hT; intro a hT
        refine Sx.st_take hT rfl rfl rfl rfl (Sx.x_index hT rfl Try.underlying61 Try.ti65 (by first | exact (h.row.sv.ext_no X) | exact ((hR (by omega)).sv)) rfl rfl rfl (by omega)) ?_
        clear hT; intro a hT
        refine Sx.st_held hT rfl rfl rfl rfl hH (fun w' h' => Sx.y_loadS hT rfl Try.underlying65 Try.ti65 rfl (by first | exact (B1u.ext_no h').seg (k := 3) rfl | exact ((h.row.ss.ext_no (Xu.step h')).cs RM.len hr)) (by rfl)) ?_
        clear hT; intro a hT
        refine Sx.st_call hT rfl rfl rfl rfl rfl Try.can31 rfl (same_is true m.src m.dst r.f r.t ad13 r.ad _ _ c13 r.c m.data m.data _ hto.bs (hmr.bs.ext_no X) rfl hmr.n (by simp [hmr.src, hmr.dst])) ?_
        rintro _ w10 ⟨rfl, E⟩
        refine ⟨_, rfl, ?_⟩
        clear hT; intro a hT
        replace X := X.step E
        replace B1 := B1.ext_no E
        replace hto := hto.ext_no E
        refine Sx.st_take hT rfl rfl rfl rfl (Sx.x_not hT rfl rfl) ?_
        clear hT; intro a hT
        refine Sx.st_take hT rfl rfl rfl rfl (Sx.x_pick_f hT rfl rfl rfl) ?_
        clear hT; intro a hT
        replace hT := hT.keep [76, 7, 50, 0, 1, 5, 6, 8] rfl
        refine Sx.ser_calm ?_
        refine Sx.then_normal (hK21 _ _ ?_)
        clear hK21
        refine Sx.wp_if hT rfl (fun h => by cases h) (fun _ => ?_)
        refine wp_skip ?_
        refine Sx.block_normal ?_
        refine Sx.then_normal (hK10 _ _ ?_)
        clear hK10
        -- region 5 (law.go:80)
        refine Sx.wp_text [(0, .take), (1, .take), (2, .take)] rfl ?_
        refine Sx.st_take hT rfl rfl rfl rfl (Sx.x_move hT rfl rfl) ?_
        clear hT; intro a hT
        refine Sx.st_take hT rfl rfl rfl rfl ((fun w => Sx.x_add w hT rfl rfl rfl (Sx.wrap64 (by omega)))) ?_
        clear hT; intro a hT
        refine Sx.st_take hT rfl rfl rfl rfl (Sx.x_assign hT rfl rfl) ?_
        clear hT; intro a hT
        replace hT := hT.keep [5, 76, 7, 50, 0, 1, 6, 8] rfl
        refine Sx.ser_nil ?_
        refine Sx.then_normal ?_
        exact ⟨i + 1, ⟨by omega, X, (hT.keep [0, 1, 5] rfl)⟩, by omega⟩
    · try simp only [decide_eq_true_eq, decide_eq_false_iff_not, Bool.not_eq_true', Bool.not_eq_false', Bool.not_eq_true, Bool.not_eq_false, Bool.and_eq_true, Bool.or_eq_false_iff, beq_iff_eq, bne_iff_ne, Int.not_lt, Int.not_le, ne_eq] at hc9
      refine wp_exit ?_
      refine Sx.then_exit ?_
      refine Sx.then_exit ?_
      refine Sx.block_exit ?_
      refine Sx.then_normal (hK5 _ _ ?_)
      clear hK5
      refine wp_seq_k fun K22 hK22 => ?_
      -- region 16 (law.go:93)
      refine Sx.wp_text [(0, .take)] rfl ?_
      refine Sx.st_take hT rfl rfl rfl rfl (Sx.x_assign hT rfl rfl) ?_
      clear hT; intro a hT
      replace hT := hT.keep [4, 23, 0, 1, 5] rfl
      refine Sx.ser_nil ?_
      refine Sx.then_normal (hK22 _ _ ?_)
      clear hK22
      refine wp_ret ?_
      refine Sx.done1 (fn := Try.f20) hT rfl (.tmp (hT.get 4 _ rfl)) ?_
      exact ⟨rfl, X⟩

end Go.Proofs.Ytgcelppbbjokeaa
