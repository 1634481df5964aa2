/- Walks: drop, Take, Twice, Move of the net by definition. -/
import Derived.Test.YtgcelppbbjokeaaW6
set_option linter.unusedSimpArgs false
set_option linter.unusedVariables false
namespace Go.Proofs.Ytgcelppbbjokeaa
open Sx

theorem xdrop_calls (p : Nat) (room : Int) (ms : List Mail) (F : Nat → Prop) (ad : Option Addr) (c : Nat) (rs : List RM) (w : World) (h : XAt w p room ms F ad c rs) (i : Int) (k : Nat) (m : Mail) (hi : i = k) (hm : ms[k]? = some m) :
    Calls Try.prog 38 #[.pointer (some ⟨p, 0, none⟩), .int .i64 i] w fun e w' => e = .returned (.tuple #[]) ∧ XNet w' p room (ms.take k ++ ms.drop (k + 1)) (fun q => F q ∨ (w.heap.size ≤ q ∧ q < w'.heap.size)) ∧ Ext (Sx.One p) w w' := by
  subst hi
  obtain ⟨r, hr, hmr⟩ := h.all.get hm
  have hk : k < rs.length := (List.getElem?_eq_some_iff.1 hr).1
  have hl := h.len
  have hfe := h.few
  have hfi := h.fits
  have hino := h.ino
  have hind := h.ind
  have hlt := h.lt
  have hinp := h.inp
  have hp := h.blk
  have hple := hp.lt
  have hpo : ∀ q, Own ad q → ¬ Sx.One p q := fun q hq h9 => (hino q hq).2 h9
  refine Sx.calls_into Try.func38 rfl Try.ntmps38 rfl fun a hT => ?_
  replace hT := hT.keep [0, 1] rfl
  have X : Sx.Ext (Sx.One p) w w := Sx.Ext.refl _ _
  refine wp_seq_k fun K1 hK1 => ?_
  -- region 0 (ref.go:43)
  refine Sx.wp_text [(0, .take)] rfl ?_
  refine Sx.st_take hT rfl rfl rfl rfl (Sx.x_assign hT rfl rfl) ?_
  clear hT; intro a hT
  replace hT := hT.keep [4, 0, 1] rfl
  refine Sx.ser_nil ?_
  refine Sx.then_normal (hK1 _ _ ?_)
  clear hK1
  refine wp_seq_k fun K2 hK2 => ?_
  refine wp_seq_k fun K3 hK3 => ?_
  -- region 1 (ref.go:44)
  refine Sx.wp_text [(0, .take)] rfl ?_
  refine Sx.st_take hT rfl rfl rfl rfl (Sx.x_assign hT rfl rfl) ?_
  clear hT; intro a hT
  replace hT := hT.keep [5, 4, 0, 1] rfl
  refine Sx.ser_nil ?_
  refine Sx.then_normal (hK3 _ _ ?_)
  clear hK3
  refine wp_block ?_
  -- loop 0
  refine Sx.wp_while (G := Nat × Option Addr × Nat) (fun g a w1 => g.1 ≤ rs.length ∧ Ext (Sx.One p) w w1 ∧ Blk w1 p [.int .i64 room, .slice ad rs.length c] 63 ∧ Row w1 65 3 g.2.1 ((rs.take g.1).eraseIdx k).length g.2.2 (((rs.take g.1).eraseIdx k).flatMap RM.cells) ∧ (∀ q, Own g.2.1 q → w.heap.size ≤ q) ∧ Sl 32 [(0, .pointer (some ⟨p, 0, none⟩)), (1, .int .i64 k), (4, .slice g.2.1 ((rs.take g.1).eraseIdx k).length g.2.2), (5, .int .i64 g.1)] a) (fun g => rs.length - g.1) (0, none, 0) ?_ ?_
  · exact ⟨Nat.zero_le _, X, hp, Row.nil _ _ _, fun q hq => by simp [Own] at hq, hT.keep [0, 1, 4, 5] rfl⟩
  clear hT X hp
  rintro ⟨j, ad2, c2⟩ a w1 hI
  obtain ⟨hj, X, hp, hR, hO, hT⟩ := hI
  dsimp only at hj hR hO hT
  have hel := List.length_eraseIdx_le (rs.take j) k
  have hel2 : (rs.take j).length ≤ j := List.length_take_le _ _
  refine wp_seq_k fun K4 hK4 => ?_
  refine wp_seq_k fun K5 hK5 => ?_
  -- region 2 (ref.go:44)
  refine Sx.wp_text [(0, .take), (1, .take), (2, .take), (3, .take), (4, .run), (5, .take), (6, .take)] rfl ?_
  refine Sx.st_take hT rfl rfl rfl rfl (Sx.x_move hT rfl rfl) ?_
  clear hT; intro a hT
  refine Sx.st_take hT rfl rfl rfl rfl (Sx.x_move hT rfl rfl) ?_
  clear hT; intro a hT
  refine Sx.st_take hT rfl rfl rfl rfl (Sx.x_nilCheck hT rfl rfl) ?_
  clear hT; intro a hT
  refine Sx.st_take hT rfl rfl rfl rfl (Sx.x_fieldAddr hT rfl Try.fa63_1 rfl) ?_
  clear hT; intro a hT
  refine Sx.st_run hT rfl rfl rfl rfl (Sx.x_load1 hT rfl Try.fl61 rfl (by first | exact (hp).nth rfl)) ?_
  clear hT; intro a hT
  refine Sx.st_take hT rfl rfl rfl rfl (Sx.x_len_slice hT rfl rfl Try.underlying61 rfl) ?_
  clear hT; intro a hT
  refine Sx.st_take hT rfl rfl rfl rfl ((fun w => Sx.x_lt w hT rfl rfl rfl)) ?_
  clear hT; intro a hT
  replace hT := hT.keep [12, 0, 1, 4, 5] rfl
  refine Sx.ser_nil ?_
  refine Sx.then_normal (hK5 _ _ ?_)
  clear hK5
  -- cond 0
  refine Sx.wp_if hT rfl (fun hc6 => ?_) (fun hc6 => ?_)
  · try simp only [decide_eq_true_eq, decide_eq_false_iff_not, Bool.not_eq_true', Bool.not_eq_false', Bool.not_eq_true, Bool.not_eq_false, Bool.and_eq_true, Bool.or_eq_false_iff, beq_iff_eq, bne_iff_ne, Int.not_lt, Int.not_le, ne_eq] at hc6
    obtain ⟨r9, hr9⟩ : ∃ r, rs[j]? = some r := ⟨_, List.getElem?_eq_getElem (by omega)⟩
    refine wp_skip ?_
    refine Sx.then_normal (hK4 _ _ ?_)
    clear hK4
    refine wp_seq_k fun K7 hK7 => ?_
    refine wp_block ?_
    refine wp_seq_k fun K8 hK8 => ?_
    -- region 4 (ref.go:45)
    refine Sx.wp_text [(0, .take), (1, .take), (2, .take)] rfl ?_
    refine Sx.st_take hT rfl rfl rfl rfl (Sx.x_move hT rfl rfl) ?_
    clear hT; intro a hT
    refine Sx.st_take hT rfl rfl rfl rfl (Sx.x_move hT rfl rfl) ?_
    clear hT; intro a hT
    refine Sx.st_take hT rfl rfl rfl rfl ((fun w => Sx.x_ne w hT rfl rfl rfl)) ?_
    clear hT; intro a hT
    replace hT := hT.keep [17, 12, 0, 1, 4, 5] rfl
    refine Sx.ser_nil ?_
    refine Sx.then_normal (hK8 _ _ ?_)
    clear hK8
    -- cond 1
    refine Sx.wp_if hT rfl (fun hc9 => ?_) (fun hc9 => ?_)
    · try simp only [decide_eq_true_eq, decide_eq_false_iff_not, Bool.not_eq_true', Bool.not_eq_false', Bool.not_eq_true, Bool.not_eq_false, Bool.and_eq_true, Bool.or_eq_false_iff, beq_iff_eq, bne_iff_ne, Int.not_lt, Int.not_le, ne_eq] at hc9
      -- region 5 (ref.go:46)
      refine Sx.wp_text [(0, .take), (1, .take), (2, .take), (3, .take), (4, .run), (5, .take), (6, .take), (7, .run), (8, .run), (9, .run), (10, .take)] rfl ?_
      refine Sx.st_take hT rfl rfl rfl rfl (Sx.x_move hT rfl rfl) ?_
      clear hT; intro a hT
      refine Sx.st_take hT rfl rfl rfl rfl (Sx.x_move hT rfl rfl) ?_
      clear hT; intro a hT
      refine Sx.st_take hT rfl rfl rfl rfl (Sx.x_nilCheck hT rfl rfl) ?_
      clear hT; intro a hT
      refine Sx.st_take hT rfl rfl rfl rfl (Sx.x_fieldAddr hT rfl Try.fa63_1 rfl) ?_
      clear hT; intro a hT
      refine Sx.st_run hT rfl rfl rfl rfl (Sx.x_load1 hT rfl Try.fl61 rfl (by first | exact (hp).nth rfl)) ?_
      clear hT; intro a hT
      refine Sx.st_take hT rfl rfl rfl rfl (Sx.x_move hT rfl rfl) ?_
      clear hT; intro a hT
      refine Sx.st_take hT rfl rfl rfl rfl (Sx.x_index hT rfl Try.underlying61 Try.ti65 (by first | exact ((h.row.ext X hpo).sv)) rfl rfl rfl (by omega)) ?_
      clear hT; intro a hT
      refine Sx.st_run hT rfl rfl rfl rfl (Sx.y_loadS hT rfl Try.underlying65 Try.ti65 rfl (by first | exact (hp).seg (k := 3) rfl | exact (((h.row.ext X hpo).ss (enc := RM.cells)).cs RM.len hr9)) (by rfl)) ?_
      clear hT; intro a hT
      refine Sx.st_eff hT rfl rfl rfl rfl (Sx.y_slice1 hT rfl Try.underlying61 Try.ti65 rfl rfl rfl rfl rfl rfl _) ?_
      clear hT; rintro _ w2 ⟨b1, rfl, N⟩ a hT
      have hb1 : w.heap.size ≤ b1 := by rw [N.at_]; exact X.size
      have lhp_b1 : p < b1 := by have h1 := hp.lt; have h2 := N.at_; omega
      replace X := X.step N.ext
      replace hp := hp.ext_no N.ext
      replace hR := hR.ext_no N.ext
      have B1 := N.blk
      clear N
      refine Sx.st_eff hT rfl rfl rfl rfl (Sx.x_append hT rfl rfl Try.underlying61 Try.ti65 rfl (by decide) rfl rfl hR (B1.sv1 rfl) (RM.one r9) (fun h => by cases h) (by unfold maxLen; omega) (by omega)) ?_
      have hz1 := X.size
      clear hT; rintro _ w3 ⟨ad3, c3, rfl, hR2, E, hown, -⟩ a hT
      replace X := X.trans E (fun i hi h9 => absurd hi (by have := hO i h9; omega))
      replace hp := hp.ext E (fun h9 => by have := hO _ h9; omega)
      have hO2 : ∀ q, Own ad3 q → w.heap.size ≤ q := fun q hq => (hown q hq).elim (hO q) (fun h9 => by omega)
      clear hR E hown
      refine Sx.st_take hT rfl rfl rfl rfl (Sx.x_assign hT rfl rfl) ?_
      clear hT; intro a hT
      replace hT := hT.keep [4, 17, 12, 0, 1, 5] rfl
      refine Sx.ser_nil ?_
      refine Sx.block_normal ?_
      refine Sx.then_normal (hK7 _ _ ?_)
      clear hK7
      -- region 3 (ref.go:44)
      refine Sx.wp_text [(0, .take), (1, .take), (2, .take)] rfl ?_
      refine Sx.st_take hT rfl rfl rfl rfl (Sx.x_move hT rfl rfl) ?_
      clear hT; intro a hT
      refine Sx.st_take hT rfl rfl rfl rfl ((fun w => Sx.x_add w hT rfl rfl rfl (Sx.wrap64 (by omega)))) ?_
      clear hT; intro a hT
      refine Sx.st_take hT rfl rfl rfl rfl (Sx.x_assign hT rfl rfl) ?_
      clear hT; intro a hT
      replace hT := hT.keep [5, 4, 17, 12, 0, 1] rfl
      refine Sx.ser_nil ?_
      refine Sx.then_normal ?_
      exact ⟨(j + 1, ad3, c3), ⟨by show j + 1 ≤ _; omega, X, hp, by show Row _ _ _ ad3 ((rs.take (j + 1)).eraseIdx k).length c3 (((rs.take (j + 1)).eraseIdx k).flatMap RM.cells); rw [cut_more hr9 (by omega)]; simpa [RM.cells] using hR2, hO2, (hT.keep [0, 1, 4, 5] rfl).conv (by rw [cut_more hr9 (by omega)]; simp)⟩, by show _ - (j + 1) < _ - j; omega⟩
    · try simp only [decide_eq_true_eq, decide_eq_false_iff_not, Bool.not_eq_true', Bool.not_eq_false', Bool.not_eq_true, Bool.not_eq_false, Bool.and_eq_true, Bool.or_eq_false_iff, beq_iff_eq, bne_iff_ne, Int.not_lt, Int.not_le, ne_eq] at hc9
      refine wp_skip ?_
      refine Sx.block_normal ?_
      refine Sx.then_normal (hK7 _ _ ?_)
      clear hK7
      -- region 3 (ref.go:44)
      refine Sx.wp_text [(0, .take), (1, .take), (2, .take)] rfl ?_
      refine Sx.st_take hT rfl rfl rfl rfl (Sx.x_move hT rfl rfl) ?_
      clear hT; intro a hT
      refine Sx.st_take hT rfl rfl rfl rfl ((fun w => Sx.x_add w hT rfl rfl rfl (Sx.wrap64 (by omega)))) ?_
      clear hT; intro a hT
      refine Sx.st_take hT rfl rfl rfl rfl (Sx.x_assign hT rfl rfl) ?_
      clear hT; intro a hT
      replace hT := hT.keep [5, 17, 12, 0, 1, 4] rfl
      refine Sx.ser_nil ?_
      refine Sx.then_normal ?_
      exact ⟨(j + 1, ad2, c2), ⟨by show j + 1 ≤ _; omega, X, hp, by show Row _ _ _ ad2 ((rs.take (j + 1)).eraseIdx k).length c2 (((rs.take (j + 1)).eraseIdx k).flatMap RM.cells); rw [cut_same hr9 (by omega)]; exact hR, hO, (hT.keep [0, 1, 4, 5] rfl).conv (by rw [cut_same hr9 (by omega)]; simp)⟩, by show _ - (j + 1) < _ - j; omega⟩
  · try simp only [decide_eq_true_eq, decide_eq_false_iff_not, Bool.not_eq_true', Bool.not_eq_false', Bool.not_eq_true, Bool.not_eq_false, Bool.and_eq_true, Bool.or_eq_false_iff, beq_iff_eq, bne_iff_ne, Int.not_lt, Int.not_le, ne_eq] at hc6
    refine wp_exit ?_
    refine Sx.then_exit ?_
    refine Sx.then_exit ?_
    refine Sx.block_exit ?_
    refine Sx.then_normal (hK2 _ _ ?_)
    clear hK2
    -- region 6 (ref.go:49)
    refine Sx.wp_text [(0, .take), (1, .take), (2, .take), (3, .take), (4, .run)] rfl ?_
    refine Sx.st_take hT rfl rfl rfl rfl (Sx.x_move hT rfl rfl) ?_
    clear hT; intro a hT
    refine Sx.st_take hT rfl rfl rfl rfl (Sx.x_move hT rfl rfl) ?_
    clear hT; intro a hT
    refine Sx.st_take hT rfl rfl rfl rfl (Sx.x_nilCheck hT rfl rfl) ?_
    clear hT; intro a hT
    refine Sx.st_take hT rfl rfl rfl rfl (Sx.x_fieldAddr hT rfl Try.fa63_1 rfl) ?_
    clear hT; intro a hT
    refine Sx.st_act hT rfl rfl rfl (Sx.y_store1 hT rfl Try.ti61 rfl rfl rfl hp rfl) ?_
    rintro w2 ⟨Nhp, E, z⟩
    replace X := X.trans E (fun i _ hi => hi)
    replace hR := hR.ext E (fun q hq h9 => by unfold Sx.One at h9; have := hO q hq; omega)
    replace hp := Nhp; clear Nhp E
    replace hT := hT.keep [12, 0, 1, 4, 5] rfl
    refine Sx.ser_nil ?_
    refine Sx.done_end ?_
    refine Sx.done0 (fn := Try.f38) hT rfl  ?_
    have hz := X.size
    rw [cut_all (by omega)] at hR hp
    have hall := h.all.ext X (fun r hr h0 => (hind r hr h0).2.1)
    refine ⟨rfl, XNet.mk' (rs := rs.take k ++ rs.drop (k + 1)) hp rfl hR ((hall.take k).append (hall.drop (k + 1))) (.inl hinp) (fun q hq => ?_) (fun r2 h2 h0 => ?_) (fun q hq => ?_) hfe (by simp; omega), X⟩
    · have := hO q hq
      exact ⟨.inr ⟨this, hR.lt q hq⟩, by omega⟩
    · have h3 := hind r2 (mem_td h2) h0
      exact ⟨.inl h3.1, h3.2.1, fun h9 => by have := hO _ h9; have := hlt _ h3.1; omega⟩
    · rcases hq with h1 | h1
      · have := hlt q h1; omega
      · exact h1.2

theorem xTake_no (p : Nat) (room : Int) (ms : List Mail) (F : Nat → Prop) (ad : Option Addr) (c : Nat) (rs : List RM) (w : World) (h : XAt w p room ms F ad c rs) (i : Int) (hi : ¬ (0 ≤ i ∧ i < ms.length)) :
    Calls Try.prog 30 #[.pointer (some ⟨p, 0, none⟩), .int .i64 i] w fun e w' => e = .returned (.tuple #[.agg #[.int .i64 0, .int .i64 0, .slice none 0 0], .bool false]) ∧ Ext No w w' := by
  rw [← h.len] at hi
  refine Sx.calls_into Try.func30 rfl Try.ntmps30 rfl fun a hT => ?_
  replace hT := hT.keep [0, 1] rfl
  have X : Sx.Ext Sx.No w w := Sx.Ext.refl _ _
  refine wp_seq_k fun K1 hK1 => ?_
  -- region 0 (ref.go:53)
  refine Sx.wp_text [(0, .run), (1, .take)] rfl ?_
  refine Sx.st_eff hT rfl rfl rfl rfl (Sx.y_alloc hT rfl Try.ti65 rfl _) ?_
  clear hT; rintro _ w1 ⟨b1, rfl, N⟩ a hT
  have hb1 : w.heap.size ≤ b1 := by rw [N.at_]; exact X.size
  replace X := X.step N.ext
  have B1 := N.blk
  clear N
  refine Sx.st_take hT rfl rfl rfl rfl (Sx.x_assign hT rfl rfl) ?_
  clear hT; intro a hT
  replace hT := hT.keep [5, 4, 0, 1] rfl
  refine Sx.ser_nil ?_
  refine Sx.then_normal (hK1 _ _ ?_)
  clear hK1
  refine wp_seq_k fun K2 hK2 => ?_
  refine wp_seq_k fun K3 hK3 => ?_
  -- region 1 (ref.go:54)
  refine Sx.wp_text [(0, .take), (1, .take), (2, .run), (3, .take)] rfl ?_
  refine Sx.st_take hT rfl rfl rfl rfl (Sx.x_move hT rfl rfl) ?_
  clear hT; intro a hT
  refine Sx.st_take hT rfl rfl rfl rfl (Sx.x_move hT rfl rfl) ?_
  clear hT; intro a hT
  refine Sx.st_call hT rfl rfl rfl rfl rfl Try.can35 rfl (xHas_calls _ _ _ _ _ _ _ _ (h.ext_no X) _ false (by simp; omega)) ?_
  rintro _ w2 ⟨rfl, E⟩
  refine ⟨_, rfl, ?_⟩
  clear hT; intro a hT
  replace X := X.step E
  replace B1 := B1.ext_no E
  refine Sx.st_take hT rfl rfl rfl rfl (Sx.x_not hT rfl rfl) ?_
  clear hT; intro a hT
  replace hT := hT.keep [10, 5, 4, 0, 1] rfl
  refine Sx.ser_nil ?_
  refine Sx.then_normal (hK3 _ _ ?_)
  clear hK3
  refine Sx.wp_if hT rfl (fun _ => ?_) (fun h => by cases h)
  refine wp_seq_k fun K4 hK4 => ?_
  -- region 2 (ref.go:55)
  refine Sx.wp_text [(0, .take), (1, .run), (2, .take)] rfl ?_
  refine Sx.st_take hT rfl rfl rfl rfl ((fun w => Sx.x_build (w := w) rfl Try.bld65 (by simp only [List.map_toArray, List.map_cons, List.map_nil, Act.eval]; rfl) rfl)) ?_
  clear hT; intro a hT
  refine Sx.st_act hT rfl rfl rfl (Sx.y_storeS hT rfl Try.ti65 rfl rfl rfl rfl rfl B1 rfl) ?_
  rintro w3 ⟨NB1, E, z⟩
  replace X := X.fresh E (by omega)
  replace B1 := NB1; clear NB1 E
  refine Sx.st_take hT rfl rfl rfl rfl (Sx.x_assign hT rfl rfl) ?_
  clear hT; intro a hT
  replace hT := hT.keep [5, 10, 4, 0, 1] rfl
  refine Sx.ser_nil ?_
  refine Sx.then_normal (hK4 _ _ ?_)
  clear hK4
  refine wp_ret ?_
  refine Sx.then_ret ?_
  refine Sx.done2 (fn := Try.f30) hT rfl (.cell (hT.get 4 _ rfl) (Sx.run_resS Try.underlying65 Try.ti65 (by first | exact (B1).seg (k := 3) rfl) (by rfl))) (.tmp (hT.get 5 _ rfl)) ?_
  exact ⟨rfl, X⟩

theorem xTake_yes (p : Nat) (room : Int) (ms : List Mail) (F : Nat → Prop) (ad : Option Addr) (c : Nat) (rs : List RM) (w : World) (h : XAt w p room ms F ad c rs) (i : Int) (k : Nat) (m : Mail) (hi : i = k) (hm : ms[k]? = some m) :
    Calls Try.prog 30 #[.pointer (some ⟨p, 0, none⟩), .int .i64 i] w fun e w' => ∃ r : RM, e = .returned (.tuple #[.agg #[.int .i64 r.f, .int .i64 r.t, .slice r.ad r.n r.c], .bool true]) ∧ r.is w' m ∧
      XNet w' p room (ms.take k ++ ms.drop (k + 1)) (fun q => F q ∨ (w.heap.size ≤ q ∧ q < w'.heap.size)) ∧ (0 < r.n → F (ab r.ad) ∧ ab r.ad ≠ p) ∧ Ext (Sx.One p) w w' := by
  subst hi
  obtain ⟨r, hr, hmr⟩ := h.all.get hm
  have hk : k < rs.length := (List.getElem?_eq_some_iff.1 hr).1
  have hl := h.len
  have hfe := h.few
  have hfi := h.fits
  have hino := h.ino
  have hind := h.ind
  have hlt := h.lt
  have hinp := h.inp
  have hp := h.blk
  have hple := hp.lt
  have hrin := List.mem_of_getElem? hr
  refine Sx.calls_into Try.func30 rfl Try.ntmps30 rfl fun a hT => ?_
  replace hT := hT.keep [0, 1] rfl
  have X : Sx.Ext (Sx.One p) w w := Sx.Ext.refl _ _
  refine wp_seq_k fun K1 hK1 => ?_
  -- region 0 (ref.go:53)
  refine Sx.wp_text [(0, .run), (1, .take)] rfl ?_
  refine Sx.st_eff hT rfl rfl rfl rfl (Sx.y_alloc hT rfl Try.ti65 rfl _) ?_
  clear hT; rintro _ w1 ⟨b1, rfl, N⟩ a hT
  have hb1 : w.heap.size ≤ b1 := by rw [N.at_]; exact X.size
  have lhp_b1 : p < b1 := by have h1 := hp.lt; have h2 := N.at_; omega
  replace X := X.step N.ext
  replace hp := hp.ext_no N.ext
  replace h := h.ext_no N.ext
  replace hmr := hmr.ext_no N.ext
  have B1 := N.blk
  clear N
  refine Sx.st_take hT rfl rfl rfl rfl (Sx.x_assign hT rfl rfl) ?_
  clear hT; intro a hT
  replace hT := hT.keep [5, 4, 0, 1] rfl
  refine Sx.ser_nil ?_
  refine Sx.then_normal (hK1 _ _ ?_)
  clear hK1
  refine wp_seq_k fun K2 hK2 => ?_
  refine wp_seq_k fun K3 hK3 => ?_
  -- region 1 (ref.go:54)
  refine Sx.wp_text [(0, .take), (1, .take), (2, .run), (3, .take)] rfl ?_
  refine Sx.st_take hT rfl rfl rfl rfl (Sx.x_move hT rfl rfl) ?_
  clear hT; intro a hT
  refine Sx.st_take hT rfl rfl rfl rfl (Sx.x_move hT rfl rfl) ?_
  clear hT; intro a hT
  refine Sx.st_call hT rfl rfl rfl rfl rfl Try.can35 rfl (xHas_calls _ _ _ _ _ _ _ _ h _ true (by simp; omega)) ?_
  rintro _ w2 ⟨rfl, E⟩
  refine ⟨_, rfl, ?_⟩
  clear hT; intro a hT
  replace X := X.step E
  replace hp := hp.ext_no E
  replace B1 := B1.ext_no E
  replace h := h.ext_no E
  replace hmr := hmr.ext_no E
  refine Sx.st_take hT rfl rfl rfl rfl (Sx.x_not hT rfl rfl) ?_
  clear hT; intro a hT
  replace hT := hT.keep [10, 5, 4, 0, 1] rfl
  refine Sx.ser_nil ?_
  refine Sx.then_normal (hK3 _ _ ?_)
  clear hK3
  refine Sx.wp_if hT rfl (fun h => by cases h) (fun _ => ?_)
  refine wp_skip ?_
  refine Sx.then_normal (hK2 _ _ ?_)
  clear hK2
  refine wp_seq_k fun K4 hK4 => ?_
  -- region 3 (ref.go:57)
  refine Sx.wp_text [(0, .take), (1, .take), (2, .take), (3, .run), (4, .take), (5, .take), (6, .run), (7, .run), (8, .run)] rfl ?_
  refine Sx.st_take hT rfl rfl rfl rfl (Sx.x_move hT rfl rfl) ?_
  clear hT; intro a hT
  refine Sx.st_take hT rfl rfl rfl rfl (Sx.x_nilCheck hT rfl rfl) ?_
  clear hT; intro a hT
  refine Sx.st_take hT rfl rfl rfl rfl (Sx.x_fieldAddr hT rfl Try.fa63_1 rfl) ?_
  clear hT; intro a hT
  refine Sx.st_run hT rfl rfl rfl rfl (Sx.x_load1 hT rfl Try.fl61 rfl (by first | exact (hp).nth rfl | exact (B1).nth rfl)) ?_
  clear hT; intro a hT
  refine Sx.st_take hT rfl rfl rfl rfl (Sx.x_move hT rfl rfl) ?_
  clear hT; intro a hT
  refine Sx.st_take hT rfl rfl rfl rfl (Sx.x_index hT rfl Try.underlying61 Try.ti65 (by first | exact h.row.sv) rfl rfl rfl (by omega)) ?_
  clear hT; intro a hT
  refine Sx.st_run hT rfl rfl rfl rfl (Sx.y_loadS hT rfl Try.underlying65 Try.ti65 rfl (by first | exact (hp).seg (k := 3) rfl | exact (B1).seg (k := 3) rfl | exact ((h.row.ss).cs RM.len hr)) (by rfl)) ?_
  clear hT; intro a hT
  refine Sx.st_eff hT rfl rfl rfl rfl (Sx.y_alloc hT rfl Try.ti65 rfl _) ?_
  clear hT; rintro _ w3 ⟨b2, rfl, N⟩ a hT
  have hb2 : w.heap.size ≤ b2 := by rw [N.at_]; exact X.size
  have lhp_b2 : p < b2 := by have h1 := hp.lt; have h2 := N.at_; omega
  have lB1_b2 : b1 < b2 := by have h1 := B1.lt; have h2 := N.at_; omega
  replace X := X.step N.ext
  replace hp := hp.ext_no N.ext
  replace B1 := B1.ext_no N.ext
  replace h := h.ext_no N.ext
  replace hmr := hmr.ext_no N.ext
  have B2 := N.blk
  clear N
  refine Sx.st_act hT rfl rfl rfl (Sx.y_storeS hT rfl Try.ti65 rfl rfl rfl rfl rfl B2 rfl) ?_
  rintro w4 ⟨NB2, E, z⟩
  replace X := X.fresh E (by omega)
  replace hp := hp.ext E (by unfold Sx.One; omega)
  replace B1 := B1.ext E (by unfold Sx.One; omega)
  replace h := h.ext E (fun q hq h9 => by unfold Sx.One at h9; have := hlt q hq; omega)
  replace hmr := hmr.ext E (fun h0 h9 => by unfold Sx.One at h9; have := hlt _ (hind r hrin h0).1; omega)
  replace B2 := NB2; clear NB2 E
  replace hT := hT.keep [6, 10, 5, 4, 0, 1] rfl
  refine Sx.ser_nil ?_
  refine Sx.then_normal (hK4 _ _ ?_)
  clear hK4
  refine wp_seq_k fun K5 hK5 => ?_
  -- region 4 (ref.go:58)
  refine Sx.wp_text [(0, .take), (1, .take), (2, .run)] rfl ?_
  refine Sx.st_take hT rfl rfl rfl rfl (Sx.x_move hT rfl rfl) ?_
  clear hT; intro a hT
  refine Sx.st_take hT rfl rfl rfl rfl (Sx.x_move hT rfl rfl) ?_
  clear hT; intro a hT
  refine Sx.st_call hT rfl rfl rfl rfl rfl Try.can38 rfl (xdrop_calls p room ms F ad c rs _ h _ k m rfl hm) ?_
  have hz1 := X.size
  have hB1l := B1.lt
  have hB2l := B2.lt
  rintro _ w5 ⟨rfl, hnet, E⟩
  refine ⟨_, rfl, ?_⟩
  clear hT; intro a hT
  replace X := X.trans E (fun i _ hi => hi)
  replace B1 := B1.ext E (fun h9 => by unfold Sx.One at h9; omega)
  replace B2 := B2.ext E (fun h9 => by unfold Sx.One at h9; omega)
  replace hmr := hmr.ext E (fun h0 => (hind r hrin h0).2.1)
  clear h hp E
  replace hT := hT.keep [6, 10, 5, 4, 0, 1] rfl
  refine Sx.ser_nil ?_
  refine Sx.then_normal (hK5 _ _ ?_)
  clear hK5
  refine wp_seq_k fun K6 hK6 => ?_
  -- region 5 (ref.go:59)
  refine Sx.wp_text [(0, .run), (1, .run), (2, .take)] rfl ?_
  refine Sx.st_run hT rfl rfl rfl rfl (Sx.y_loadS hT rfl Try.underlying65 Try.ti65 rfl (by first | exact (B1).seg (k := 3) rfl | exact (B2).seg (k := 3) rfl | exact ((h.row.ss).cs RM.len hr)) (by rfl)) ?_
  clear hT; intro a hT
  refine Sx.st_act hT rfl rfl rfl (Sx.y_storeS hT rfl Try.ti65 rfl rfl rfl rfl rfl B1 rfl) ?_
  rintro w6 ⟨NB1, E, z⟩
  replace X := X.fresh E (by omega)
  replace B2 := B2.ext E (by unfold Sx.One; omega)
  replace hmr := hmr.ext E (fun h0 h9 => by unfold Sx.One at h9; have := hlt _ (hind r hrin h0).1; omega)
  replace hnet := hnet.ext E (fun q hq h9 => by unfold Sx.One at h9; rcases hq with h8 | h8; (have := hlt q h8; omega); omega)
  replace B1 := NB1; clear NB1 E
  refine Sx.st_take hT rfl rfl rfl rfl (Sx.x_assign hT rfl rfl) ?_
  clear hT; intro a hT
  replace hT := hT.keep [5, 6, 10, 4, 0, 1] rfl
  refine Sx.ser_nil ?_
  refine Sx.then_normal (hK6 _ _ ?_)
  clear hK6
  refine wp_ret ?_
  refine Sx.done2 (fn := Try.f30) hT rfl (.cell (hT.get 4 _ rfl) (Sx.run_resS Try.underlying65 Try.ti65 (by first | exact (B1).seg (k := 3) rfl | exact (B2).seg (k := 3) rfl | exact ((h.row.ss).cs RM.len hr)) (by rfl))) (.tmp (hT.get 5 _ rfl)) ?_
  have hz := X.size
  exact ⟨r, rfl, hmr, hnet.wider (fun q hq => hq.imp id (fun h9 => ⟨by omega, hnet.lt q (.inr h9)⟩)) (fun q hq => hq.elim (fun h9 => by have := hlt q h9; omega) (fun h9 => h9.2)), fun h0 => ⟨(hind r hrin h0).1, (hind r hrin h0).2.1⟩, X⟩

theorem row_take {w : World} {e c j : Nat} {ad : Option Addr} {rs : List RM} (h : Row w e 3 ad rs.length c (rs.flatMap RM.cells)) (hj : j ≤ rs.length) : Sv w ad j 3 ((rs.take j).flatMap RM.cells) := by
  have := (h.take hj).sv
  rwa [flat_take RM.len] at this
theorem row_drop {w : World} {e c j : Nat} {ad : Option Addr} {rs : List RM} (h : Row w e 3 ad rs.length c (rs.flatMap RM.cells)) (hj : j ≤ rs.length) : Sv w (cutAt ad 3 j c) (rs.length - j) 3 ((rs.drop j).flatMap RM.cells) := by
  have := h.sv.cut (lo := j) (hi := rs.length) hj (Nat.le_refl _) h.le.1
  rw [flat_drop RM.len, List.take_of_length_le (by rw [flat_len RM.len, List.length_drop]; omega)] at this
  exact this

theorem xTwice_no (p : Nat) (room : Int) (ms : List Mail) (F : Nat → Prop) (ad : Option Addr) (c : Nat) (rs : List RM) (w : World) (h : XAt w p room ms F ad c rs) (i : Int) (hi : ¬ (0 ≤ i ∧ i < ms.length)) :
    Calls Try.prog 32 #[.pointer (some ⟨p, 0, none⟩), .int .i64 i] w fun e w' => e = .returned (.int .i64 8) ∧ Ext No w w' := by
  rw [← h.len] at hi
  refine Sx.calls_into Try.func32 rfl Try.ntmps32 rfl fun a hT => ?_
  replace hT := hT.keep [0, 1] rfl
  have X : Sx.Ext Sx.No w w := Sx.Ext.refl _ _
  refine wp_seq_k fun K1 hK1 => ?_
  -- region 0 (ref.go:63)
  refine Sx.wp_text [(0, .take)] rfl ?_
  refine Sx.st_take hT rfl rfl rfl rfl (Sx.x_assign hT rfl rfl) ?_
  clear hT; intro a hT
  replace hT := hT.keep [4, 0, 1] rfl
  refine Sx.ser_nil ?_
  refine Sx.then_normal (hK1 _ _ ?_)
  clear hK1
  refine wp_seq_k fun K2 hK2 => ?_
  refine wp_seq_k fun K3 hK3 => ?_
  -- region 1 (ref.go:64)
  refine Sx.wp_text [(0, .take), (1, .take), (2, .run), (3, .take)] rfl ?_
  refine Sx.st_take hT rfl rfl rfl rfl (Sx.x_move hT rfl rfl) ?_
  clear hT; intro a hT
  refine Sx.st_take hT rfl rfl rfl rfl (Sx.x_move hT rfl rfl) ?_
  clear hT; intro a hT
  refine Sx.st_call hT rfl rfl rfl rfl rfl Try.can35 rfl (xHas_calls _ _ _ _ _ _ _ _ (h.ext_no X) _ false (by simp; omega)) ?_
  rintro _ w1 ⟨rfl, E⟩
  refine ⟨_, rfl, ?_⟩
  clear hT; intro a hT
  replace X := X.step E
  refine Sx.st_take hT rfl rfl rfl rfl (Sx.x_not hT rfl rfl) ?_
  clear hT; intro a hT
  replace hT := hT.keep [8, 4, 0, 1] rfl
  refine Sx.ser_nil ?_
  refine Sx.then_normal (hK3 _ _ ?_)
  clear hK3
  refine Sx.wp_if hT rfl (fun _ => ?_) (fun h => by cases h)
  refine wp_seq_k fun K4 hK4 => ?_
  -- region 2 (ref.go:65)
  refine Sx.wp_text [(0, .take)] rfl ?_
  refine Sx.st_take hT rfl rfl rfl rfl (Sx.x_assign hT rfl rfl) ?_
  clear hT; intro a hT
  replace hT := hT.keep [4, 8, 0, 1] rfl
  refine Sx.ser_nil ?_
  refine Sx.then_normal (hK4 _ _ ?_)
  clear hK4
  refine wp_ret ?_
  refine Sx.then_ret ?_
  refine Sx.done1 (fn := Try.f32) hT rfl (.tmp (hT.get 4 _ rfl)) ?_
  exact ⟨rfl, X⟩

theorem xTwice_full (p : Nat) (room : Int) (ms : List Mail) (F : Nat → Prop) (ad : Option Addr) (c : Nat) (rs : List RM) (w : World) (h : XAt w p room ms F ad c rs) (i : Int) (k : Nat) (m : Mail) (hi : i = k) (hm : ms[k]? = some m) (hfull : room ≤ ms.length) :
    Calls Try.prog 32 #[.pointer (some ⟨p, 0, none⟩), .int .i64 i] w fun e w' => e = .returned (.int .i64 11) ∧ Ext No w w' := by
  subst hi
  obtain ⟨r, hr, hmr⟩ := h.all.get hm
  have hk : k < rs.length := (List.getElem?_eq_some_iff.1 hr).1
  have hp := h.blk
  refine Sx.calls_into Try.func32 rfl Try.ntmps32 rfl fun a hT => ?_
  replace hT := hT.keep [0, 1] rfl
  have X : Sx.Ext Sx.No w w := Sx.Ext.refl _ _
  refine wp_seq_k fun K1 hK1 => ?_
  -- region 0 (ref.go:63)
  refine Sx.wp_text [(0, .take)] rfl ?_
  refine Sx.st_take hT rfl rfl rfl rfl (Sx.x_assign hT rfl rfl) ?_
  clear hT; intro a hT
  replace hT := hT.keep [4, 0, 1] rfl
  refine Sx.ser_nil ?_
  refine Sx.then_normal (hK1 _ _ ?_)
  clear hK1
  refine wp_seq_k fun K2 hK2 => ?_
  refine wp_seq_k fun K3 hK3 => ?_
  -- region 1 (ref.go:64)
  refine Sx.wp_text [(0, .take), (1, .take), (2, .run), (3, .take)] rfl ?_
  refine Sx.st_take hT rfl rfl rfl rfl (Sx.x_move hT rfl rfl) ?_
  clear hT; intro a hT
  refine Sx.st_take hT rfl rfl rfl rfl (Sx.x_move hT rfl rfl) ?_
  clear hT; intro a hT
  refine Sx.st_call hT rfl rfl rfl rfl rfl Try.can35 rfl (xHas_calls _ _ _ _ _ _ _ _ (h.ext_no X) _ true (by simp; omega)) ?_
  rintro _ w1 ⟨rfl, E⟩
  refine ⟨_, rfl, ?_⟩
  clear hT; intro a hT
  replace X := X.step E
  replace hp := hp.ext_no E
  refine Sx.st_take hT rfl rfl rfl rfl (Sx.x_not hT rfl rfl) ?_
  clear hT; intro a hT
  replace hT := hT.keep [8, 4, 0, 1] rfl
  refine Sx.ser_nil ?_
  refine Sx.then_normal (hK3 _ _ ?_)
  clear hK3
  refine Sx.wp_if hT rfl (fun h => by cases h) (fun _ => ?_)
  refine wp_skip ?_
  refine Sx.then_normal (hK2 _ _ ?_)
  clear hK2
  refine wp_seq_k fun K4 hK4 => ?_
  -- region 3 (ref.go:67)
  refine Sx.wp_draws (fun u => Sx.Ext Sx.No u) [(0, .take), (1, .take), (2, .take), (3, .take), (4, .held), (5, .take), (6, .take), (7, .take), (8, .held), (9, .take), (10, .take), (11, .take), (12, .held), (13, .take), (14, .take), (15, .take), (16, .held), (17, .take), (18, .take), (19, .take), (20, .held), (21, .take), (22, .take), (23, .take), (24, .held), (25, .run), (26, .take)] (by kernel_rfl) (by kernel_rfl) (fun u E z => ?_)
  replace X := X.step E
  replace hp := hp.ext_no E
  have hH : Sx.Ext Sx.No u u := Sx.Ext.refl _ _
  have Xu := X
  have hpu := hp
  refine Sx.st_take hT rfl rfl rfl rfl (Sx.x_move hT rfl rfl) ?_
  clear hT; intro a hT
  refine Sx.st_take hT rfl rfl rfl rfl (Sx.x_move hT rfl rfl) ?_
  clear hT; intro a hT
  refine Sx.st_take hT rfl rfl rfl rfl (Sx.x_nilCheck hT rfl rfl) ?_
  clear hT; intro a hT
  refine Sx.st_take hT rfl rfl rfl rfl (Sx.x_fieldAddr hT rfl Try.fa63_1 rfl) ?_
  clear hT; intro a hT
  refine Sx.st_held hT rfl rfl rfl rfl hH (fun w' h' => Sx.x_load1 hT rfl Try.fl61 rfl (by first | exact (hpu.ext_no h').nth rfl | exact ((h.row.ss.ext_no (Xu.step h')).cell RM.len hr rfl))) ?_
  clear hT; intro a hT
  refine Sx.st_take hT rfl rfl rfl rfl (Sx.x_move hT rfl rfl) ?_
  clear hT; intro a hT
  refine Sx.st_take hT rfl rfl rfl rfl (Sx.x_index hT rfl Try.underlying61 Try.ti65 (by first | exact (h.row.sv.ext_no X)) rfl rfl rfl (by omega)) ?_
  clear hT; intro a hT
  refine Sx.st_take hT rfl rfl rfl rfl (Sx.x_fieldAddr hT rfl Try.fa65_0 rfl) ?_
  clear hT; intro a hT
  refine Sx.st_held hT rfl rfl rfl rfl hH (fun w' h' => Sx.x_load1 hT rfl Try.fl3 rfl (by first | exact (hpu.ext_no h').nth rfl | exact ((h.row.ss.ext_no (Xu.step h')).cell RM.len hr rfl))) ?_
  clear hT; intro a hT
  refine Sx.st_take hT rfl rfl rfl rfl (Sx.x_move hT rfl rfl) ?_
  clear hT; intro a hT
  refine Sx.st_take hT rfl rfl rfl rfl (Sx.x_nilCheck hT rfl rfl) ?_
  clear hT; intro a hT
  refine Sx.st_take hT rfl rfl rfl rfl (Sx.x_fieldAddr hT rfl Try.fa63_1 rfl) ?_
  clear hT; intro a hT
  refine Sx.st_held hT rfl rfl rfl rfl hH (fun w' h' => Sx.x_load1 hT rfl Try.fl61 rfl (by first | exact (hpu.ext_no h').nth rfl | exact ((h.row.ss.ext_no (Xu.step h')).cell RM.len hr rfl))) ?_
  clear hT; intro a hT
  refine Sx.st_take hT rfl rfl rfl rfl (Sx.x_move hT rfl rfl) ?_
  clear hT; intro a hT
  refine Sx.st_take hT rfl rfl rfl rfl (Sx.x_index hT rfl Try.underlying61 Try.ti65 (by first | exact (h.row.sv.ext_no X)) rfl rfl rfl (by omega)) ?_
  clear hT; intro a hT
  refine Sx.st_take hT rfl rfl rfl rfl (Sx.x_fieldAddr hT rfl Try.fa65_1 rfl) ?_
  clear hT; intro a hT
  refine Sx.st_held hT rfl rfl rfl rfl hH (fun w' h' => Sx.x_load1 hT rfl Try.fl3 rfl (by first | exact (hpu.ext_no h').nth rfl | exact ((h.row.ss.ext_no (Xu.step h')).cell RM.len hr rfl))) ?_
  clear hT; intro a hT
  refine Sx.st_take hT rfl rfl rfl rfl (Sx.x_move hT rfl rfl) ?_
  clear hT; intro a hT
  refine Sx.st_take hT rfl rfl rfl rfl (Sx.x_nilCheck hT rfl rfl) ?_
  clear hT; intro a hT
  refine Sx.st_take hT rfl rfl rfl rfl (Sx.x_fieldAddr hT rfl Try.fa63_1 rfl) ?_
  clear hT; intro a hT
  refine Sx.st_held hT rfl rfl rfl rfl hH (fun w' h' => Sx.x_load1 hT rfl Try.fl61 rfl (by first | exact (hpu.ext_no h').nth rfl | exact ((h.row.ss.ext_no (Xu.step h')).cell RM.len hr rfl))) ?_
  clear hT; intro a hT
  refine Sx.st_take hT rfl rfl rfl rfl (Sx.x_move hT rfl rfl) ?_
  clear hT; intro a hT
  refine Sx.st_take hT rfl rfl rfl rfl (Sx.x_index hT rfl Try.underlying61 Try.ti65 (by first | exact (h.row.sv.ext_no X)) rfl rfl rfl (by omega)) ?_
  clear hT; intro a hT
  refine Sx.st_take hT rfl rfl rfl rfl (Sx.x_fieldAddr hT rfl Try.fa65_2 rfl) ?_
  clear hT; intro a hT
  refine Sx.st_held hT rfl rfl rfl rfl hH (fun w' h' => Sx.x_load1 hT rfl Try.fl30 rfl (by first | exact (hpu.ext_no h').nth rfl | exact ((h.row.ss.ext_no (Xu.step h')).cell RM.len hr rfl))) ?_
  clear hT; intro a hT
  refine Sx.st_call hT rfl rfl rfl rfl rfl Try.can29 rfl (xSend_full _ _ _ _ _ _ _ _ (h.ext_no X) r.f r.t r.ad r.n r.c hfull) ?_
  rintro _ w2 ⟨rfl, E⟩
  refine ⟨_, rfl, ?_⟩
  clear hT; intro a hT
  replace X := X.step E
  replace hp := hp.ext_no E
  refine Sx.st_take hT rfl rfl rfl rfl (Sx.x_assign hT rfl rfl) ?_
  clear hT; intro a hT
  replace hT := hT.keep [4, 8, 0, 1] rfl
  refine Sx.ser_calm ?_
  refine Sx.then_normal (hK4 _ _ ?_)
  clear hK4
  refine wp_ret ?_
  refine Sx.done1 (fn := Try.f32) hT rfl (.tmp (hT.get 4 _ rfl)) ?_
  exact ⟨rfl, X⟩

theorem xTwice_ok (p : Nat) (room : Int) (ms : List Mail) (F : Nat → Prop) (ad : Option Addr) (c : Nat) (rs : List RM) (w : World) (h : XAt w p room ms F ad c rs) (i : Int) (k : Nat) (m : Mail) (hi : i = k) (hm : ms[k]? = some m) (hroom : ms.length < room) :
    Calls Try.prog 32 #[.pointer (some ⟨p, 0, none⟩), .int .i64 i] w fun e w' => e = .returned (.int .i64 0) ∧ XNet w' p room (ms ++ [m]) (fun k => F k ∨ (w.heap.size ≤ k ∧ k < w'.heap.size)) ∧ Ext F w w' := by
  subst hi
  obtain ⟨r, hr, hmr⟩ := h.all.get hm
  have hk : k < rs.length := (List.getElem?_eq_some_iff.1 hr).1
  have hp := h.blk
  have hm' : m = ⟨r.f, r.t, m.data⟩ := by rw [hmr.src, hmr.dst]
  refine Sx.calls_into Try.func32 rfl Try.ntmps32 rfl fun a hT => ?_
  replace hT := hT.keep [0, 1] rfl
  have X : Sx.Ext Sx.No w w := Sx.Ext.refl _ _
  refine wp_seq_k fun K1 hK1 => ?_
  -- region 0 (ref.go:63)
  refine Sx.wp_text [(0, .take)] rfl ?_
  refine Sx.st_take hT rfl rfl rfl rfl (Sx.x_assign hT rfl rfl) ?_
  clear hT; intro a hT
  replace hT := hT.keep [4, 0, 1] rfl
  refine Sx.ser_nil ?_
  refine Sx.then_normal (hK1 _ _ ?_)
  clear hK1
  refine wp_seq_k fun K2 hK2 => ?_
  refine wp_seq_k fun K3 hK3 => ?_
  -- region 1 (ref.go:64)
  refine Sx.wp_text [(0, .take), (1, .take), (2, .run), (3, .take)] rfl ?_
  refine Sx.st_take hT rfl rfl rfl rfl (Sx.x_move hT rfl rfl) ?_
  clear hT; intro a hT
  refine Sx.st_take hT rfl rfl rfl rfl (Sx.x_move hT rfl rfl) ?_
  clear hT; intro a hT
  refine Sx.st_call hT rfl rfl rfl rfl rfl Try.can35 rfl (xHas_calls _ _ _ _ _ _ _ _ (h.ext_no X) _ true (by simp; omega)) ?_
  rintro _ w1 ⟨rfl, E⟩
  refine ⟨_, rfl, ?_⟩
  clear hT; intro a hT
  replace X := X.step E
  replace hp := hp.ext_no E
  refine Sx.st_take hT rfl rfl rfl rfl (Sx.x_not hT rfl rfl) ?_
  clear hT; intro a hT
  replace hT := hT.keep [8, 4, 0, 1] rfl
  refine Sx.ser_nil ?_
  refine Sx.then_normal (hK3 _ _ ?_)
  clear hK3
  refine Sx.wp_if hT rfl (fun h => by cases h) (fun _ => ?_)
  refine wp_skip ?_
  refine Sx.then_normal (hK2 _ _ ?_)
  clear hK2
  refine wp_seq_k fun K4 hK4 => ?_
  -- region 3 (ref.go:67)
  refine Sx.wp_draws (fun u => Sx.Ext Sx.No u) [(0, .take), (1, .take), (2, .take), (3, .take), (4, .held), (5, .take), (6, .take), (7, .take), (8, .held), (9, .take), (10, .take), (11, .take), (12, .held), (13, .take), (14, .take), (15, .take), (16, .held), (17, .take), (18, .take), (19, .take), (20, .held), (21, .take), (22, .take), (23, .take), (24, .held), (25, .run), (26, .take)] (by kernel_rfl) (by kernel_rfl) (fun u E z => ?_)
  replace X := X.step E
  replace hp := hp.ext_no E
  have hH : Sx.Ext Sx.No u u := Sx.Ext.refl _ _
  have Xu := X
  have hpu := hp
  refine Sx.st_take hT rfl rfl rfl rfl (Sx.x_move hT rfl rfl) ?_
  clear hT; intro a hT
  refine Sx.st_take hT rfl rfl rfl rfl (Sx.x_move hT rfl rfl) ?_
  clear hT; intro a hT
  refine Sx.st_take hT rfl rfl rfl rfl (Sx.x_nilCheck hT rfl rfl) ?_
  clear hT; intro a hT
  refine Sx.st_take hT rfl rfl rfl rfl (Sx.x_fieldAddr hT rfl Try.fa63_1 rfl) ?_
  clear hT; intro a hT
  refine Sx.st_held hT rfl rfl rfl rfl hH (fun w' h' => Sx.x_load1 hT rfl Try.fl61 rfl (by first | exact (hpu.ext_no h').nth rfl | exact ((h.row.ss.ext_no (Xu.step h')).cell RM.len hr rfl))) ?_
  clear hT; intro a hT
  refine Sx.st_take hT rfl rfl rfl rfl (Sx.x_move hT rfl rfl) ?_
  clear hT; intro a hT
  refine Sx.st_take hT rfl rfl rfl rfl (Sx.x_index hT rfl Try.underlying61 Try.ti65 (by first | exact (h.row.sv.ext_no X)) rfl rfl rfl (by omega)) ?_
  clear hT; intro a hT
  refine Sx.st_take hT rfl rfl rfl rfl (Sx.x_fieldAddr hT rfl Try.fa65_0 rfl) ?_
  clear hT; intro a hT
  refine Sx.st_held hT rfl rfl rfl rfl hH (fun w' h' => Sx.x_load1 hT rfl Try.fl3 rfl (by first | exact (hpu.ext_no h').nth rfl | exact ((h.row.ss.ext_no (Xu.step h')).cell RM.len hr rfl))) ?_
  clear hT; intro a hT
  refine Sx.st_take hT rfl rfl rfl rfl (Sx.x_move hT rfl rfl) ?_
  clear hT; intro a hT
  refine Sx.st_take hT rfl rfl rfl rfl (Sx.x_nilCheck hT rfl rfl) ?_
  clear hT; intro a hT
  refine Sx.st_take hT rfl rfl rfl rfl (Sx.x_fieldAddr hT rfl Try.fa63_1 rfl) ?_
  clear hT; intro a hT
  refine Sx.st_held hT rfl rfl rfl rfl hH (fun w' h' => Sx.x_load1 hT rfl Try.fl61 rfl (by first | exact (hpu.ext_no h').nth rfl | exact ((h.row.ss.ext_no (Xu.step h')).cell RM.len hr rfl))) ?_
  clear hT; intro a hT
  refine Sx.st_take hT rfl rfl rfl rfl (Sx.x_move hT rfl rfl) ?_
  clear hT; intro a hT
  refine Sx.st_take hT rfl rfl rfl rfl (Sx.x_index hT rfl Try.underlying61 Try.ti65 (by first | exact (h.row.sv.ext_no X)) rfl rfl rfl (by omega)) ?_
  clear hT; intro a hT
  refine Sx.st_take hT rfl rfl rfl rfl (Sx.x_fieldAddr hT rfl Try.fa65_1 rfl) ?_
  clear hT; intro a hT
  refine Sx.st_held hT rfl rfl rfl rfl hH (fun w' h' => Sx.x_load1 hT rfl Try.fl3 rfl (by first | exact (hpu.ext_no h').nth rfl | exact ((h.row.ss.ext_no (Xu.step h')).cell RM.len hr rfl))) ?_
  clear hT; intro a hT
  refine Sx.st_take hT rfl rfl rfl rfl (Sx.x_move hT rfl rfl) ?_
  clear hT; intro a hT
  refine Sx.st_take hT rfl rfl rfl rfl (Sx.x_nilCheck hT rfl rfl) ?_
  clear hT; intro a hT
  refine Sx.st_take hT rfl rfl rfl rfl (Sx.x_fieldAddr hT rfl Try.fa63_1 rfl) ?_
  clear hT; intro a hT
  refine Sx.st_held hT rfl rfl rfl rfl hH (fun w' h' => Sx.x_load1 hT rfl Try.fl61 rfl (by first | exact (hpu.ext_no h').nth rfl | exact ((h.row.ss.ext_no (Xu.step h')).cell RM.len hr rfl))) ?_
  clear hT; intro a hT
  refine Sx.st_take hT rfl rfl rfl rfl (Sx.x_move hT rfl rfl) ?_
  clear hT; intro a hT
  refine Sx.st_take hT rfl rfl rfl rfl (Sx.x_index hT rfl Try.underlying61 Try.ti65 (by first | exact (h.row.sv.ext_no X)) rfl rfl rfl (by omega)) ?_
  clear hT; intro a hT
  refine Sx.st_take hT rfl rfl rfl rfl (Sx.x_fieldAddr hT rfl Try.fa65_2 rfl) ?_
  clear hT; intro a hT
  refine Sx.st_held hT rfl rfl rfl rfl hH (fun w' h' => Sx.x_load1 hT rfl Try.fl30 rfl (by first | exact (hpu.ext_no h').nth rfl | exact ((h.row.ss.ext_no (Xu.step h')).cell RM.len hr rfl))) ?_
  clear hT; intro a hT
  refine Sx.st_call hT rfl rfl rfl rfl rfl Try.can29 rfl (xSend_ok _ _ _ _ _ _ _ _ (h.ext_no X) r.f r.t r.ad r.n r.c m.data hroom (hmr.bs.ext_no X) hmr.n hmr.small) ?_
  have hx0 := X.size
  rintro _ w2 ⟨rfl, hnet, E⟩
  refine ⟨_, rfl, ?_⟩
  clear hT; intro a hT
  have X9 : Ext F w _ := (X.of_no).same E
  refine Sx.st_take hT rfl rfl rfl rfl (Sx.x_assign hT rfl rfl) ?_
  clear hT; intro a hT
  replace hT := hT.keep [4, 8, 0, 1] rfl
  refine Sx.ser_calm ?_
  refine Sx.then_normal (hK4 _ _ ?_)
  clear hK4
  refine wp_ret ?_
  refine Sx.done1 (fn := Try.f32) hT rfl (.tmp (hT.get 4 _ rfl)) ?_
  rw [hm']
  exact ⟨rfl, hnet.wider (fun k hk => hk.imp id (fun h9 => ⟨by omega, h9.2⟩)) (fun k hk => hk.elim (fun h9 => Nat.lt_of_lt_of_le (h.lt k h9) X9.size) (fun h9 => h9.2)), X9⟩

theorem xMove_no (p : Nat) (room : Int) (ms : List Mail) (F : Nat → Prop) (ad : Option Addr) (c : Nat) (rs : List RM) (w : World) (h : XAt w p room ms F ad c rs) (i to : Int) (hi : ¬ (0 ≤ i ∧ i < ms.length)) :
    Calls Try.prog 33 #[.pointer (some ⟨p, 0, none⟩), .int .i64 i, .int .i64 to] w fun e w' => e = .returned (.bool false) ∧ Ext No w w' := by
  rw [← h.len] at hi
  refine Sx.calls_into Try.func33 rfl Try.ntmps33 rfl fun a hT => ?_
  replace hT := hT.keep [0, 1, 2] rfl
  have X : Sx.Ext Sx.No w w := Sx.Ext.refl _ _
  refine wp_seq_k fun K1 hK1 => ?_
  -- region 0 (ref.go:71)
  refine Sx.wp_text [(0, .take)] rfl ?_
  refine Sx.st_take hT rfl rfl rfl rfl (Sx.x_assign hT rfl rfl) ?_
  clear hT; intro a hT
  replace hT := hT.keep [6, 0, 1, 2] rfl
  refine Sx.ser_nil ?_
  refine Sx.then_normal (hK1 _ _ ?_)
  clear hK1
  refine wp_seq_k fun K2 hK2 => ?_
  refine wp_seq_k fun K3 hK3 => ?_
  -- region 1 (ref.go:72)
  refine Sx.wp_text [(0, .take), (1, .take), (2, .run), (3, .take)] rfl ?_
  refine Sx.st_take hT rfl rfl rfl rfl (Sx.x_move hT rfl rfl) ?_
  clear hT; intro a hT
  refine Sx.st_take hT rfl rfl rfl rfl (Sx.x_move hT rfl rfl) ?_
  clear hT; intro a hT
  refine Sx.st_call hT rfl rfl rfl rfl rfl Try.can35 rfl (xHas_calls _ _ _ _ _ _ _ _ (h.ext_no X) _ false (by simp; omega)) ?_
  rintro _ w1 ⟨rfl, E⟩
  refine ⟨_, rfl, ?_⟩
  clear hT; intro a hT
  replace X := X.step E
  refine Sx.st_take hT rfl rfl rfl rfl (Sx.x_not hT rfl rfl) ?_
  clear hT; intro a hT
  replace hT := hT.keep [14, 6, 0, 1, 2] rfl
  refine Sx.ser_nil ?_
  refine Sx.then_normal (hK3 _ _ ?_)
  clear hK3
  refine Sx.wp_if hT rfl (fun _ => ?_) (fun h => by cases h)
  refine wp_seq_k fun K4 hK4 => ?_
  -- region 2 (ref.go:73)
  refine Sx.wp_text [(0, .take)] rfl ?_
  refine Sx.st_take hT rfl rfl rfl rfl (Sx.x_assign hT rfl rfl) ?_
  clear hT; intro a hT
  replace hT := hT.keep [6, 14, 0, 1, 2] rfl
  refine Sx.ser_nil ?_
  refine Sx.then_normal (hK4 _ _ ?_)
  clear hK4
  refine wp_ret ?_
  refine Sx.then_ret ?_
  refine Sx.done1 (fn := Try.f33) hT rfl (.tmp (hT.get 6 _ rfl)) ?_
  exact ⟨rfl, X⟩

theorem xMove_yes (p : Nat) (room : Int) (ms : List Mail) (F : Nat → Prop) (ad : Option Addr) (c : Nat) (rs : List RM) (w : World) (h : XAt w p room ms F ad c rs) (i to : Int) (k : Nat) (m : Mail) (hi : i = k) (hm : ms[k]? = some m) :
    Calls Try.prog 33 #[.pointer (some ⟨p, 0, none⟩), .int .i64 i, .int .i64 to] w fun e w' => e = .returned (.bool true) ∧
      XNet w' p room ((ms.take k ++ ms.drop (k + 1)).take (goal to (k + (ms.length - (k + 1)))) ++ [m] ++ (ms.take k ++ ms.drop (k + 1)).drop (goal to (k + (ms.length - (k + 1))))) (fun q => F q ∨ (w.heap.size ≤ q ∧ q < w'.heap.size)) ∧ Ext (Sx.One p) w w' := by
  subst hi
  obtain ⟨r, hr, hmr⟩ := h.all.get hm
  have hk : k < rs.length := (List.getElem?_eq_some_iff.1 hr).1
  have hl := h.len
  have hfe := h.few
  have hfi := h.fits
  have hino := h.ino
  have hind := h.ind
  have hlt := h.lt
  have hinp := h.inp
  have hp := h.blk
  have hple := hp.lt
  obtain ⟨hj, hjn⟩ := goal_eq to (k + (rs.length - (k + 1)))
  rw [← hl]
  generalize goal to (k + (rs.length - (k + 1))) = j at *
  have hml5 : (ms.take k ++ ms.drop (k + 1)).length = k + (rs.length - (k + 1)) := by simp; omega
  generalize hms5 : ms.take k ++ ms.drop (k + 1) = ms5 at *
  refine Sx.calls_into Try.func33 rfl Try.ntmps33 rfl fun a hT => ?_
  replace hT := hT.keep [0, 1, 2] rfl
  have X : Sx.Ext (Sx.One p) w w := Sx.Ext.refl _ _
  refine wp_seq_k fun K1 hK1 => ?_
  -- region 0 (ref.go:71)
  refine Sx.wp_text [(0, .take)] rfl ?_
  refine Sx.st_take hT rfl rfl rfl rfl (Sx.x_assign hT rfl rfl) ?_
  clear hT; intro a hT
  replace hT := hT.keep [6, 0, 1, 2] rfl
  refine Sx.ser_nil ?_
  refine Sx.then_normal (hK1 _ _ ?_)
  clear hK1
  refine wp_seq_k fun K2 hK2 => ?_
  refine wp_seq_k fun K3 hK3 => ?_
  -- region 1 (ref.go:72)
  refine Sx.wp_text [(0, .take), (1, .take), (2, .run), (3, .take)] rfl ?_
  refine Sx.st_take hT rfl rfl rfl rfl (Sx.x_move hT rfl rfl) ?_
  clear hT; intro a hT
  refine Sx.st_take hT rfl rfl rfl rfl (Sx.x_move hT rfl rfl) ?_
  clear hT; intro a hT
  refine Sx.st_call hT rfl rfl rfl rfl rfl Try.can35 rfl (xHas_calls _ _ _ _ _ _ _ _ h _ true (by simp; omega)) ?_
  rintro _ w1 ⟨rfl, E⟩
  refine ⟨_, rfl, ?_⟩
  clear hT; intro a hT
  replace X := X.step E
  replace hp := hp.ext_no E
  replace h := h.ext_no E
  refine Sx.st_take hT rfl rfl rfl rfl (Sx.x_not hT rfl rfl) ?_
  clear hT; intro a hT
  replace hT := hT.keep [14, 6, 0, 1, 2] rfl
  refine Sx.ser_nil ?_
  refine Sx.then_normal (hK3 _ _ ?_)
  clear hK3
  refine Sx.wp_if hT rfl (fun h => by cases h) (fun _ => ?_)
  refine wp_skip ?_
  refine Sx.then_normal (hK2 _ _ ?_)
  clear hK2
  refine wp_seq_k fun K4 hK4 => ?_
  -- region 3 (ref.go:75)
  refine Sx.wp_text [(0, .take), (1, .take), (2, .run), (3, .take), (4, .take), (5, .take), (6, .run), (7, .run), (8, .take)] rfl ?_
  refine Sx.st_take hT rfl rfl rfl rfl (Sx.x_move hT rfl rfl) ?_
  clear hT; intro a hT
  refine Sx.st_take hT rfl rfl rfl rfl (Sx.x_move hT rfl rfl) ?_
  clear hT; intro a hT
  refine Sx.st_call hT rfl rfl rfl rfl rfl Try.can30 rfl (xTake_yes p room ms F ad c rs _ h _ k m rfl hm) ?_
  have hz1 := X.size
  rintro _ w2 ⟨r5, rfl, hmr5, hnet, hrF, E⟩
  refine ⟨_, rfl, ?_⟩
  clear hT; intro a hT
  replace X := X.trans E (fun i _ hi => hi)
  have hwW := X.size
  rw [hms5] at hnet
  obtain ⟨F5, ⟨ad5, c5, rs5, h5⟩, hF5, hF6⟩ : ∃ F5 : Nat → Prop, XNet _ p room ms5 F5 ∧ (∀ q, F5 q → F q ∨ w.heap.size ≤ q) ∧ (∀ q, F q → F5 q) := ⟨_, hnet, fun q hq => hq.imp id (fun h9 => by omega), fun q hq => .inl hq⟩
  clear h hp E hnet hmr
  have hp := h5.blk
  have hl5 := h5.len
  have hino5 := h5.ino
  have hind5 := h5.ind
  have hlt5 := h5.lt
  have hall5 := h5.all
  have hrow5 := h5.row
  have X5 := (fun {w9} (_ : XAt w9 p room ms5 F5 ad5 c5 rs5) => Ext.refl No w9) h5
  clear h5
  refine Sx.st_take hT rfl rfl rfl rfl (Sx.x_move hT rfl rfl) ?_
  clear hT; intro a hT
  refine Sx.st_take hT rfl rfl rfl rfl (Sx.x_extract hT rfl rfl rfl) ?_
  clear hT; intro a hT
  refine Sx.st_take hT rfl rfl rfl rfl (Sx.x_extract hT rfl rfl rfl) ?_
  clear hT; intro a hT
  refine Sx.st_eff hT rfl rfl rfl rfl (Sx.y_alloc hT rfl Try.ti65 rfl _) ?_
  clear hT; rintro _ w3 ⟨b1, rfl, N⟩ a hT
  have hb1 : w.heap.size ≤ b1 := by rw [N.at_]; exact X.size
  have lhp_b1 : p < b1 := by have h1 := hp.lt; have h2 := N.at_; omega
  have X5s_b1 := Nat.le_trans X5.size (Nat.le_of_eq N.at_.symm)
  have h5l_b1 : ∀ q, F5 q → q < b1 := fun q hq => Nat.lt_of_lt_of_le (hlt5 q hq) X5s_b1
  replace X := X.step N.ext
  replace hp := hp.ext_no N.ext
  replace hmr5 := hmr5.ext_no N.ext
  replace hall5 := hall5.ext_no N.ext
  replace hrow5 := hrow5.ext_no N.ext
  replace X5 := X5.ext_no N.ext
  have B1 := N.blk
  clear N
  refine Sx.st_act hT rfl rfl rfl (Sx.y_storeS hT rfl Try.ti65 rfl rfl rfl rfl rfl B1 rfl) ?_
  rintro w4 ⟨NB1, E, z⟩
  replace X := X.fresh E (by omega)
  replace hp := hp.ext E (by unfold Sx.One; omega)
  replace hmr5 := hmr5.ext E (fun h0 h9 => by unfold Sx.One at h9; have := hlt _ (hrF h0).1; omega)
  replace hall5 := hall5.ext E (fun r hr h0 h9 => by unfold Sx.One at h9; have := h5l_b1 _ (hind5 r hr h0).1; omega)
  replace hrow5 := hrow5.ext E (fun q hq h9 => by unfold Sx.One at h9; have := h5l_b1 q (hino5 q hq).1; omega)
  replace X5 := X5.ext E (fun q hq h9 => by unfold Sx.One at h9; have := X5s_b1; omega)
  replace B1 := NB1; clear NB1 E
  refine Sx.st_take hT rfl rfl rfl rfl (Sx.x_assign hT rfl rfl) ?_
  clear hT; intro a hT
  replace hT := hT.keep [7, 14, 6, 0, 1, 2] rfl
  refine Sx.ser_nil ?_
  refine Sx.then_normal (hK4 _ _ ?_)
  clear hK4
  refine wp_seq_k fun K5 hK5 => ?_
  -- region 4 (ref.go:76)
  refine Sx.wp_text [(0, .take), (1, .take), (2, .take), (3, .take), (4, .take), (5, .run), (6, .take), (7, .take), (8, .take)] rfl ?_
  refine Sx.st_take hT rfl rfl rfl rfl (Sx.x_move hT rfl rfl) ?_
  clear hT; intro a hT
  refine Sx.st_take hT rfl rfl rfl rfl (Sx.x_max hT rfl rfl rfl) ?_
  clear hT; intro a hT
  refine Sx.st_take hT rfl rfl rfl rfl (Sx.x_move hT rfl rfl) ?_
  clear hT; intro a hT
  refine Sx.st_take hT rfl rfl rfl rfl (Sx.x_nilCheck hT rfl rfl) ?_
  clear hT; intro a hT
  refine Sx.st_take hT rfl rfl rfl rfl (Sx.x_fieldAddr hT rfl Try.fa63_1 rfl) ?_
  clear hT; intro a hT
  refine Sx.st_run hT rfl rfl rfl rfl (Sx.x_load1 hT rfl Try.fl61 rfl (by first | exact (hp).nth rfl | exact (B1).nth rfl)) ?_
  clear hT; intro a hT
  refine Sx.st_take hT rfl rfl rfl rfl (Sx.x_len_slice hT rfl rfl Try.underlying61 rfl) ?_
  clear hT; intro a hT
  refine Sx.st_take hT rfl rfl rfl rfl (Sx.x_min hT rfl rfl rfl) ?_
  clear hT; intro a hT
  rw [show min (max to 0) ((rs5.length : Nat) : Int) = ((j : Nat) : Int) from by rw [← hj]; congr 1; omega] at hT
  refine Sx.st_take hT rfl rfl rfl rfl (Sx.x_assign hT rfl rfl) ?_
  clear hT; intro a hT
  replace hT := hT.keep [9, 7, 14, 6, 0, 1, 2] rfl
  refine Sx.ser_nil ?_
  refine Sx.then_normal (hK5 _ _ ?_)
  clear hK5
  refine wp_seq_k fun K6 hK6 => ?_
  -- region 5 (ref.go:77)
  refine Sx.wp_text [(0, .take)] rfl ?_
  refine Sx.st_take hT rfl rfl rfl rfl (Sx.x_assign hT rfl rfl) ?_
  clear hT; intro a hT
  replace hT := hT.keep [10, 9, 7, 14, 6, 0, 1, 2] rfl
  refine Sx.ser_nil ?_
  refine Sx.then_normal (hK6 _ _ ?_)
  clear hK6
  refine wp_seq_k fun K7 hK7 => ?_
  -- region 6 (ref.go:78)
  refine Sx.wp_text [(0, .take), (1, .take), (2, .take), (3, .take), (4, .run), (5, .take), (6, .take), (7, .run), (8, .take)] rfl ?_
  refine Sx.st_take hT rfl rfl rfl rfl (Sx.x_move hT rfl rfl) ?_
  clear hT; intro a hT
  refine Sx.st_take hT rfl rfl rfl rfl (Sx.x_move hT rfl rfl) ?_
  clear hT; intro a hT
  refine Sx.st_take hT rfl rfl rfl rfl (Sx.x_nilCheck hT rfl rfl) ?_
  clear hT; intro a hT
  refine Sx.st_take hT rfl rfl rfl rfl (Sx.x_fieldAddr hT rfl Try.fa63_1 rfl) ?_
  clear hT; intro a hT
  refine Sx.st_run hT rfl rfl rfl rfl (Sx.x_load1 hT rfl Try.fl61 rfl (by first | exact (hp).nth rfl | exact (B1).nth rfl)) ?_
  clear hT; intro a hT
  refine Sx.st_take hT rfl rfl rfl rfl (Sx.x_move hT rfl rfl) ?_
  clear hT; intro a hT
  refine Sx.st_take hT rfl rfl rfl rfl (Sx.x_slice_h hT rfl Try.underlying61 Try.ti65 rfl rfl rfl (by have := hrow5.le; omega)) ?_
  clear hT; intro a hT
  refine Sx.st_eff hT rfl rfl rfl rfl (Sx.x_append hT rfl rfl Try.underlying61 Try.ti65 rfl (by decide) rfl rfl (Row.nil _ 65 3) (row_take hrow5 (by omega)) (flat_one RM.one _) (fun h => by have := hrow5.nil' h; omega) (by unfold maxLen; omega) (by omega)) ?_
  have hB1l := B1.lt
  have hz5 := X5.size
  clear hT; rintro _ w5 ⟨ad6, c6, rfl, hr6, E, hown, -⟩ a hT
  rw [Own.none] at E
  rw [Nat.zero_add] at hr6 hT
  replace X := X.step E
  replace hp := hp.ext_no E
  replace hmr5 := hmr5.ext_no E
  replace hall5 := hall5.ext_no E
  replace hrow5 := hrow5.ext_no E
  replace B1 := B1.ext_no E
  replace X5 := X5.ext_no E
  have hO6 : ∀ q, Own ad6 q → _ ≤ q := fun q hq => (hown q hq).elim (fun h9 => by simp [Own] at h9) (fun h9 => Nat.le_trans hz5 h9)
  clear hown E
  refine Sx.st_take hT rfl rfl rfl rfl (Sx.x_assign hT rfl rfl) ?_
  clear hT; intro a hT
  replace hT := hT.keep [10, 9, 7, 14, 6, 0, 1, 2] rfl
  refine Sx.ser_nil ?_
  refine Sx.then_normal (hK7 _ _ ?_)
  clear hK7
  refine wp_seq_k fun K8 hK8 => ?_
  -- region 7 (ref.go:79)
  refine Sx.wp_text [(0, .take), (1, .run), (2, .run), (3, .run), (4, .take)] rfl ?_
  refine Sx.st_take hT rfl rfl rfl rfl (Sx.x_move hT rfl rfl) ?_
  clear hT; intro a hT
  refine Sx.st_run hT rfl rfl rfl rfl (Sx.y_loadS hT rfl Try.underlying65 Try.ti65 rfl (by first | exact (hp).seg (k := 3) rfl | exact (B1).seg (k := 3) rfl) (by rfl)) ?_
  clear hT; intro a hT
  refine Sx.st_eff hT rfl rfl rfl rfl (Sx.y_slice1 hT rfl Try.underlying61 Try.ti65 rfl rfl rfl rfl rfl rfl _) ?_
  clear hT; rintro _ w6 ⟨b2, rfl, N⟩ a hT
  have hb2 : w.heap.size ≤ b2 := by rw [N.at_]; exact X.size
  have lhp_b2 : p < b2 := by have h1 := hp.lt; have h2 := N.at_; omega
  have lB1_b2 : b1 < b2 := by have h1 := B1.lt; have h2 := N.at_; omega
  have X5s_b2 := Nat.le_trans X5.size (Nat.le_of_eq N.at_.symm)
  have h5l_b2 : ∀ q, F5 q → q < b2 := fun q hq => Nat.lt_of_lt_of_le (hlt5 q hq) X5s_b2
  replace X := X.step N.ext
  replace hp := hp.ext_no N.ext
  replace B1 := B1.ext_no N.ext
  replace hmr5 := hmr5.ext_no N.ext
  replace hall5 := hall5.ext_no N.ext
  replace hrow5 := hrow5.ext_no N.ext
  replace X5 := X5.ext_no N.ext
  replace hr6 := hr6.ext_no N.ext
  have B2 := N.blk
  clear N
  refine Sx.st_eff hT rfl rfl rfl rfl (Sx.x_append hT rfl rfl Try.underlying61 Try.ti65 rfl (by decide) rfl rfl hr6 (B2.sv1 rfl) (RM.one r5) (fun h => by cases h) (by unfold maxLen; omega) (by omega)) ?_
  have hz5 := X5.size
  clear hT; rintro _ w7 ⟨ad7, c7, rfl, hr7, E, hown, -⟩ a hT
  replace X := X.trans E (fun q hq h9 => absurd hq (by have := hO6 q h9; omega))
  replace hp := hp.ext E (fun h9 => by have := hO6 _ h9; omega)
  replace hmr5 := hmr5.ext E (fun h0 h9 => by have := hO6 _ h9; have := hlt _ (hrF h0).1; omega)
  replace hall5 := hall5.ext E (fun r hr h0 h9 => by have := hO6 _ h9; have := hlt5 _ (hind5 r hr h0).1; omega)
  replace hrow5 := hrow5.ext E (fun q hq h9 => by have := hO6 q h9; have := hlt5 q (hino5 q hq).1; omega)
  replace X5 := X5.trans E (fun q hq h9 => absurd hq (by have := hO6 q h9; omega))
  have hO7 : ∀ q, Own ad7 q → _ ≤ q := fun q hq => (hown q hq).elim (hO6 q) (fun h9 => Nat.le_trans hz5 h9)
  clear hown E hr6 B1 B2
  refine Sx.st_take hT rfl rfl rfl rfl (Sx.x_assign hT rfl rfl) ?_
  clear hT; intro a hT
  replace hT := hT.keep [10, 9, 7, 14, 6, 0, 1, 2] rfl
  refine Sx.ser_nil ?_
  refine Sx.then_normal (hK8 _ _ ?_)
  clear hK8
  refine wp_seq_k fun K9 hK9 => ?_
  -- region 8 (ref.go:80)
  refine Sx.wp_text [(0, .take), (1, .take), (2, .take), (3, .take), (4, .take), (5, .run), (6, .take), (7, .take), (8, .run), (9, .take), (10, .take), (11, .run)] rfl ?_
  refine Sx.st_take hT rfl rfl rfl rfl (Sx.x_move hT rfl rfl) ?_
  clear hT; intro a hT
  refine Sx.st_take hT rfl rfl rfl rfl (Sx.x_move hT rfl rfl) ?_
  clear hT; intro a hT
  refine Sx.st_take hT rfl rfl rfl rfl (Sx.x_move hT rfl rfl) ?_
  clear hT; intro a hT
  refine Sx.st_take hT rfl rfl rfl rfl (Sx.x_nilCheck hT rfl rfl) ?_
  clear hT; intro a hT
  refine Sx.st_take hT rfl rfl rfl rfl (Sx.x_fieldAddr hT rfl Try.fa63_1 rfl) ?_
  clear hT; intro a hT
  refine Sx.st_run hT rfl rfl rfl rfl (Sx.x_load1 hT rfl Try.fl61 rfl (by first | exact (hp).nth rfl)) ?_
  clear hT; intro a hT
  refine Sx.st_take hT rfl rfl rfl rfl (Sx.x_move hT rfl rfl) ?_
  clear hT; intro a hT
  refine Sx.st_take hT rfl rfl rfl rfl (Sx.x_slice_l hT rfl Try.underlying61 Try.ti65 rfl rfl rfl (by omega)) ?_
  clear hT; intro a hT
  refine Sx.st_eff hT rfl rfl rfl rfl (Sx.x_append hT rfl rfl Try.underlying61 Try.ti65 rfl (by decide) rfl rfl hr7 (row_drop hrow5 (by omega)) (flat_one RM.one _) (fun h => by have := hrow5.nilcut h; omega) (by unfold maxLen; omega) (by omega)) ?_
  have hz5 := X5.size
  clear hT; rintro _ w8 ⟨ad8, c8, rfl, hr8, E, hown, -⟩ a hT
  replace X := X.trans E (fun q hq h9 => absurd hq (by have := hO7 q h9; omega))
  replace hp := hp.ext E (fun h9 => by have := hO7 _ h9; omega)
  replace hmr5 := hmr5.ext E (fun h0 h9 => by have := hO7 _ h9; have := hlt _ (hrF h0).1; omega)
  replace hall5 := hall5.ext E (fun r hr h0 h9 => by have := hO7 _ h9; have := hlt5 _ (hind5 r hr h0).1; omega)
  replace X5 := X5.trans E (fun q hq h9 => absurd hq (by have := hO7 q h9; omega))
  have hO8 : ∀ q, Own ad8 q → _ ≤ q := fun q hq => (hown q hq).elim (hO7 q) (fun h9 => Nat.le_trans hz5 h9)
  have hz8 := X5.size
  clear hown E hr7 hrow5 X5
  refine Sx.st_take hT rfl rfl rfl rfl (Sx.x_nilCheck hT rfl rfl) ?_
  clear hT; intro a hT
  refine Sx.st_take hT rfl rfl rfl rfl (Sx.x_fieldAddr hT rfl Try.fa63_1 rfl) ?_
  clear hT; intro a hT
  refine Sx.st_act hT rfl rfl rfl (Sx.y_store1 hT rfl Try.ti61 rfl rfl rfl hp rfl) ?_
  rintro w9 ⟨Nhp, E, z⟩
  replace X := X.trans E (fun i _ hi => hi)
  replace hr8 := hr8.ext E (fun q hq h9 => by unfold Sx.One at h9; have := hO8 q hq; omega)
  replace hall5 := hall5.ext E (fun r hr h0 h9 => (hind5 r hr h0).2.1 h9)
  replace hmr5 := hmr5.ext E (fun h0 h9 => (hrF h0).2 h9)
  replace hp := Nhp; clear Nhp E
  replace hT := hT.keep [10, 9, 7, 14, 6, 0, 1, 2] rfl
  refine Sx.ser_nil ?_
  refine Sx.then_normal (hK9 _ _ ?_)
  clear hK9
  refine wp_seq_k fun K10 hK10 => ?_
  -- region 9 (ref.go:81)
  refine Sx.wp_text [(0, .take)] rfl ?_
  refine Sx.st_take hT rfl rfl rfl rfl (Sx.x_assign hT rfl rfl) ?_
  clear hT; intro a hT
  replace hT := hT.keep [6, 10, 9, 7, 14, 0, 1, 2] rfl
  refine Sx.ser_nil ?_
  refine Sx.then_normal (hK10 _ _ ?_)
  clear hK10
  refine wp_ret ?_
  refine Sx.done1 (fn := Try.f33) hT rfl (.tmp (hT.get 6 _ rfl)) ?_
  have hz := X.size
  refine ⟨rfl, XNet.mk' (rs := rs5.take j ++ [r5] ++ rs5.drop j) hp (by simp; omega) (by simp only [List.flatMap_append, List.flatMap_singleton]; exact hr8) (((hall5.take j).append (All2.single hmr5)).append (hall5.drop j)) (.inl hinp) (fun q hq => ?_) (fun r2 h2 h0 => ?_) (fun q hq => ?_) hfe (by simp; omega), X⟩
  · have := hO8 q hq
    exact ⟨.inr ⟨by omega, hr8.lt q hq⟩, by omega⟩
  · have hin : r2 ∈ rs5 ∨ r2 = r5 := by
      rcases List.mem_append.1 h2 with h3 | h3
      · rcases List.mem_append.1 h3 with h4 | h4
        · exact .inl (List.mem_of_mem_take h4)
        · exact .inr (List.mem_singleton.1 h4)
      · exact .inl (List.mem_of_mem_drop h3)
    rcases hin with h3 | rfl
    · have h4 := hind5 r2 h3 h0
      have h5 := hlt5 _ h4.1
      exact ⟨(hF5 _ h4.1).imp id (fun h6 => ⟨h6, by omega⟩), h4.2.1, fun h9 => by have := hO8 _ h9; omega⟩
    · have h4 := hrF h0
      have h5 := hlt _ h4.1
      exact ⟨.inl h4.1, h4.2, fun h9 => by have := hO8 _ h9; omega⟩
  · rcases hq with h1 | h1
    · have := hlt q h1; omega
    · exact h1.2

end Go.Proofs.Ytgcelppbbjokeaa
