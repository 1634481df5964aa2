/- Walks: the methods of a net that change nothing. -/
import Derived.Test.YtgcelppbbjokeaaTy
import Derived.Test.YtgcelppbbjokeaaN0
set_option linter.unusedSimpArgs false
set_option linter.unusedVariables false
namespace Go.Proofs.Ytgcelppbbjokeaa
open Sx

theorem clone_calls (f t : Int) (ad : Option Addr) (n c : Nat) (l : List UInt8) (w : World) (hl : Bs w ad l) (hn : n = l.length) (hnil : ad = none → n = 0 ∧ c = 0) (hs : n ≤ 1099511627776) :
    Calls Try.prog 24 #[.agg #[.int .i64 f, .int .i64 t, .slice ad n c]] w fun e w' => ∃ ad' c', e = .returned (.agg #[.int .i64 f, .int .i64 t, .slice ad' n c']) ∧ Told w' w.heap.size ad' c' l ∧ Ext No w w' := by
  subst hn
  refine Sx.calls_into Try.func24 rfl Try.ntmps24 rfl fun a hT => ?_
  replace hT := hT.keep [0] rfl
  have X : Sx.Ext Sx.No w w := Sx.Ext.refl _ _
  refine wp_seq_k fun K1 hK1 => ?_
  -- region 0 (net.go:30)
  refine Sx.wp_text [(0, .run), (1, .run)] rfl ?_
  refine Sx.st_eff hT rfl rfl rfl rfl (Sx.y_box hT rfl rfl rfl _) ?_
  clear hT; rintro _ w1 ⟨b1, rfl, N⟩ a hT
  have hb1 : w.heap.size ≤ b1 := by rw [N.at_]; exact X.size
  replace X := X.step N.ext
  have B1 := N.blk
  clear N
  refine Sx.st_eff hT rfl rfl rfl rfl (Sx.y_alloc hT rfl Try.ti34 rfl _) ?_
  clear hT; rintro _ w2 ⟨b2, rfl, N⟩ a hT
  have hb2 : w.heap.size ≤ b2 := by rw [N.at_]; exact X.size
  have lB1_b2 : b1 < b2 := by have h1 := B1.lt; have h2 := N.at_; omega
  replace X := X.step N.ext
  replace B1 := B1.ext_no N.ext
  have B2 := N.blk
  clear N
  replace hT := hT.keep [2, 1, 0] rfl
  refine Sx.ser_nil ?_
  refine Sx.then_normal (hK1 _ _ ?_)
  clear hK1
  refine wp_seq_k fun K2 hK2 => ?_
  -- region 1 (net.go:31)
  refine Sx.wp_text [(0, .run), (1, .take), (2, .run), (3, .run), (4, .take), (5, .run)] rfl ?_
  refine Sx.st_eff hT rfl rfl rfl rfl (Sx.y_slice0 hT rfl Try.underlying30 Try.ti5 _) ?_
  clear hT; rintro _ w3 ⟨b3, rfl, N⟩ a hT
  have hb3 : w.heap.size ≤ b3 := by rw [N.at_]; exact X.size
  have lB1_b3 : b1 < b3 := by have h1 := B1.lt; have h2 := N.at_; omega
  have lB2_b3 : b2 < b3 := by have h1 := B2.lt; have h2 := N.at_; omega
  replace X := X.step N.ext
  replace B1 := B1.ext_no N.ext
  replace B2 := B2.ext_no N.ext
  have B3 := N.blk
  clear N
  refine Sx.st_take hT rfl rfl rfl rfl (Sx.x_fieldAddr hT rfl Try.fa34_2 rfl) ?_
  clear hT; intro a hT
  refine Sx.st_run hT rfl rfl rfl rfl (Sx.x_load1 hT rfl Try.fl30 rfl (by first | exact (B1).nth rfl | exact (B2).nth rfl | exact (B3).nth rfl)) ?_
  clear hT; intro a hT
  refine Sx.st_eff hT rfl rfl rfl rfl (Sx.x_append hT rfl rfl Try.underlying30 Try.ti5 rfl (by decide) rfl rfl (B3.row0 1) (hl.ext_no X).sv (bcells_one l) hnil (by unfold maxLen; omega) (by omega)) ?_
  have hp2 := B2.lt
  have hp0 := X.size
  clear hT; rintro _ w4 ⟨ad2, c2, rfl, hr2, E, hown, -⟩ a hT
  try rw [Sx.Own.one] at E
  replace X := X.fresh E (by omega)
  replace B1 := B1.ext E (by unfold Sx.One; omega)
  replace B2 := B2.ext E (by unfold Sx.One; omega)
  rw [Nat.zero_add] at hr2 hT
  have hown2 : ∀ k, Own ad2 k → w.heap.size ≤ k ∧ b2 < k := by
    intro k hk
    rcases hown k hk with h | h
    · rw [Own.one] at h; unfold Sx.One at h; omega
    · omega
  clear hown
  refine Sx.st_take hT rfl rfl rfl rfl (Sx.x_fieldAddr hT rfl Try.fa34_2 rfl) ?_
  clear hT; intro a hT
  refine Sx.st_act hT rfl rfl rfl (Sx.y_store1 hT rfl Try.ti30 rfl rfl rfl B1 rfl) ?_
  rintro w5 ⟨NB1, E, z⟩
  replace X := X.fresh E (by omega)
  replace B2 := B2.ext E (by unfold Sx.One; omega)
  replace hr2 := hr2.ext E (fun k hk h => by unfold Sx.One at h; have := hown2 k hk; omega)
  replace B1 := NB1; clear NB1 E
  replace hT := hT.keep [2, 1, 0] rfl
  refine Sx.ser_nil ?_
  refine Sx.then_normal (hK2 _ _ ?_)
  clear hK2
  refine wp_seq_k fun K3 hK3 => ?_
  -- region 2 (net.go:32)
  refine Sx.wp_text [(0, .run), (1, .run)] rfl ?_
  refine Sx.st_run hT rfl rfl rfl rfl (Sx.y_loadS hT rfl Try.underlying34 Try.ti34 rfl (by first | exact (B1).seg (k := 3) rfl | exact (B2).seg (k := 3) rfl) (by rfl)) ?_
  clear hT; intro a hT
  refine Sx.st_act hT rfl rfl rfl (Sx.y_storeS hT rfl Try.ti34 rfl rfl rfl rfl rfl B2 rfl) ?_
  rintro w6 ⟨NB2, E, z⟩
  replace X := X.fresh E (by omega)
  replace B1 := B1.ext E (by unfold Sx.One; omega)
  replace hr2 := hr2.ext E (fun k hk h => by unfold Sx.One at h; have := hown2 k hk; omega)
  replace B2 := NB2; clear NB2 E
  replace hT := hT.keep [2, 1, 0] rfl
  refine Sx.ser_nil ?_
  refine Sx.then_normal (hK3 _ _ ?_)
  clear hK3
  refine wp_ret ?_
  refine Sx.done1 (fn := Try.f24) hT rfl (.cell (hT.get 2 _ rfl) (Sx.run_resS Try.underlying34 Try.ti34 (by first | exact (B1).seg (k := 3) rfl | exact (B2).seg (k := 3) rfl) (by rfl))) ?_
  exact ⟨_, _, rfl, ⟨hr2.bs, hr2.nil', fun h0 => (hown2 _ (hr2.own_ab h0)).1, fun _ => hr2⟩, X⟩

theorem has_calls (p : Nat) (room : Int) (ms : List Mail) (F : Nat → Prop) (ad : Option Addr) (c : Nat) (rs : List RM) (w : World) (h : NetAt w p room ms F ad c rs) (i : Int) (b : Bool) (hb : decide (0 ≤ i ∧ i < rs.length) = b) :
    Calls Try.prog 25 #[.pointer (some ⟨p, 0, none⟩), .int .i64 i] w fun e w' => e = .returned (.bool b) ∧ Ext No w w' := by
  have hp := h.blk
  subst hb
  refine Sx.calls_into Try.func25 rfl Try.ntmps25 rfl fun a hT => ?_
  replace hT := hT.keep [0, 1] rfl
  have X : Sx.Ext Sx.No w w := Sx.Ext.refl _ _
  refine wp_seq_k fun K1 hK1 => ?_
  -- region 0 (net.go:48)
  refine Sx.wp_text [(0, .take)] rfl ?_
  refine Sx.st_take hT rfl rfl rfl rfl (Sx.x_assign hT rfl rfl) ?_
  clear hT; intro a hT
  replace hT := hT.keep [4, 0, 1] rfl
  refine Sx.ser_nil ?_
  refine Sx.then_normal (hK1 _ _ ?_)
  clear hK1
  refine wp_seq_k fun K2 hK2 => ?_
  -- region 1 (net.go:48)
  refine Sx.wp_text [(0, .take), (1, .take), (2, .take), (3, .take), (4, .take), (5, .take), (6, .take), (7, .run), (8, .take), (9, .take), (10, .take), (11, .take)] rfl ?_
  refine Sx.st_take hT rfl rfl rfl rfl (Sx.x_move hT rfl rfl) ?_
  clear hT; intro a hT
  refine Sx.st_take hT rfl rfl rfl rfl ((fun w => Sx.x_ge w hT rfl rfl rfl)) ?_
  clear hT; intro a hT
  refine Sx.st_take hT rfl rfl rfl rfl (Sx.x_move hT rfl rfl) ?_
  clear hT; intro a hT
  -- guard (1, 2)
  refine Sx.Sl.two hT 7 rfl (fun hc3 hT => ?_) (fun hc3 hT => ?_)
  · try simp only [decide_eq_true_eq, decide_eq_false_iff_not, Bool.not_eq_true', Bool.not_eq_false', Bool.not_eq_true, Bool.not_eq_false, Bool.and_eq_true, Bool.or_eq_false_iff, beq_iff_eq, bne_iff_ne, Int.not_lt, Int.not_le, ne_eq] at hc3
    refine Sx.st_take hT rfl rfl rfl rfl (Sx.x_move hT rfl rfl) ?_
    clear hT; intro a hT
    refine Sx.st_take hT rfl rfl rfl rfl (Sx.x_move hT rfl rfl) ?_
    clear hT; intro a hT
    refine Sx.st_take hT rfl rfl rfl rfl (Sx.x_nilCheck hT rfl rfl) ?_
    clear hT; intro a hT
    refine Sx.st_take hT rfl rfl rfl rfl (Sx.x_fieldAddr hT rfl Try.fa57_1 rfl) ?_
    clear hT; intro a hT
    refine Sx.st_run hT rfl rfl rfl rfl (Sx.x_load1 hT rfl Try.fl52 rfl (by first | exact (hp).nth rfl)) ?_
    clear hT; intro a hT
    refine Sx.st_take hT rfl rfl rfl rfl (Sx.x_len_slice hT rfl rfl Try.underlying52 rfl) ?_
    clear hT; intro a hT
    refine Sx.st_take hT rfl rfl rfl rfl ((fun w => Sx.x_lt w hT rfl rfl rfl)) ?_
    clear hT; intro a hT
    refine Sx.st_take hT rfl rfl rfl rfl (Sx.x_pick_t hT rfl rfl rfl) ?_
    clear hT; intro a hT
    refine Sx.st_take hT rfl rfl rfl rfl (Sx.x_assign hT rfl rfl) ?_
    clear hT; intro a hT
    replace hT := hT.keep [4, 0, 1] rfl
    refine Sx.ser_nil ?_
    refine Sx.then_normal (hK2 _ _ ?_)
    clear hK2
    refine wp_ret ?_
    refine Sx.done1 (fn := Try.f25) hT rfl (.tmp (hT.get 4 _ rfl)) ?_
    exact ⟨by simp <;> omega, X⟩
  · try simp only [decide_eq_true_eq, decide_eq_false_iff_not, Bool.not_eq_true', Bool.not_eq_false', Bool.not_eq_true, Bool.not_eq_false, Bool.and_eq_true, Bool.or_eq_false_iff, beq_iff_eq, bne_iff_ne, Int.not_lt, Int.not_le, ne_eq] at hc3
    refine Sx.st_skip hT rfl rfl rfl rfl ?_
    clear hT; intro a hT
    refine Sx.st_skip hT rfl rfl rfl rfl ?_
    clear hT; intro a hT
    refine Sx.st_skip hT rfl rfl rfl rfl ?_
    clear hT; intro a hT
    refine Sx.st_skip hT rfl rfl rfl rfl ?_
    clear hT; intro a hT
    refine Sx.st_runskip hT rfl rfl rfl rfl ?_
    clear hT; intro a hT
    refine Sx.st_skip hT rfl rfl rfl rfl ?_
    clear hT; intro a hT
    refine Sx.st_skip hT rfl rfl rfl rfl ?_
    clear hT; intro a hT
    refine Sx.st_take hT rfl rfl rfl rfl (Sx.x_pick_f hT rfl rfl rfl) ?_
    clear hT; intro a hT
    refine Sx.st_take hT rfl rfl rfl rfl (Sx.x_assign hT rfl rfl) ?_
    clear hT; intro a hT
    replace hT := hT.keep [4, 0, 1] rfl
    refine Sx.ser_nil ?_
    refine Sx.then_normal (hK2 _ _ ?_)
    clear hK2
    refine wp_ret ?_
    refine Sx.done1 (fn := Try.f25) hT rfl (.tmp (hT.get 4 _ rfl)) ?_
    exact ⟨by simp <;> omega, X⟩

theorem Len_calls (p : Nat) (room : Int) (ms : List Mail) (F : Nat → Prop) (ad : Option Addr) (c : Nat) (rs : List RM) (w : World) (h : NetAt w p room ms F ad c rs) :
    Calls Try.prog 13 #[.pointer (some ⟨p, 0, none⟩)] w fun e w' => e = .returned (.int .i64 ms.length) ∧ Ext No w w' := by
  have hp := h.blk
  rw [← h.len]
  refine Sx.calls_into Try.func13 rfl Try.ntmps13 rfl fun a hT => ?_
  replace hT := hT.keep [0] rfl
  have X : Sx.Ext Sx.No w w := Sx.Ext.refl _ _
  refine wp_seq_k fun K1 hK1 => ?_
  -- region 0 (net.go:45)
  refine Sx.wp_text [(0, .take)] rfl ?_
  refine Sx.st_take hT rfl rfl rfl rfl (Sx.x_assign hT rfl rfl) ?_
  clear hT; intro a hT
  replace hT := hT.keep [2, 0] rfl
  refine Sx.ser_nil ?_
  refine Sx.then_normal (hK1 _ _ ?_)
  clear hK1
  refine wp_seq_k fun K2 hK2 => ?_
  -- region 1 (net.go:45)
  refine Sx.wp_text [(0, .take), (1, .take), (2, .take), (3, .run), (4, .take), (5, .take)] rfl ?_
  refine Sx.st_take hT rfl rfl rfl rfl (Sx.x_move hT rfl rfl) ?_
  clear hT; intro a hT
  refine Sx.st_take hT rfl rfl rfl rfl (Sx.x_nilCheck hT rfl rfl) ?_
  clear hT; intro a hT
  refine Sx.st_take hT rfl rfl rfl rfl (Sx.x_fieldAddr hT rfl Try.fa57_1 rfl) ?_
  clear hT; intro a hT
  refine Sx.st_run hT rfl rfl rfl rfl (Sx.x_load1 hT rfl Try.fl52 rfl (by first | exact (hp).nth rfl)) ?_
  clear hT; intro a hT
  refine Sx.st_take hT rfl rfl rfl rfl (Sx.x_len_slice hT rfl rfl Try.underlying52 rfl) ?_
  clear hT; intro a hT
  refine Sx.st_take hT rfl rfl rfl rfl (Sx.x_assign hT rfl rfl) ?_
  clear hT; intro a hT
  replace hT := hT.keep [2, 0] rfl
  refine Sx.ser_nil ?_
  refine Sx.then_normal (hK2 _ _ ?_)
  clear hK2
  refine wp_ret ?_
  refine Sx.done1 (fn := Try.f13) hT rfl (.tmp (hT.get 2 _ rfl)) ?_
  exact ⟨rfl, X⟩

theorem At_yes (p : Nat) (room : Int) (ms : List Mail) (F : Nat → Prop) (ad : Option Addr) (c : Nat) (rs : List RM) (w : World) (h : NetAt w p room ms F ad c rs) (i : Int) (k : Nat) (m : Mail) (hi : i = k) (hm : ms[k]? = some m) :
    Calls Try.prog 11 #[.pointer (some ⟨p, 0, none⟩), .int .i64 i] w fun e w' => ∃ ad' c', e = .returned (.tuple #[.agg #[.int .i64 m.src, .int .i64 m.dst, .slice ad' m.data.length c'], .bool true]) ∧ Told w' w.heap.size ad' c' m.data ∧ Ext No w w' := by
  subst hi
  obtain ⟨r, hr, hmr⟩ := h.all.get hm
  have hk : k < rs.length := (List.getElem?_eq_some_iff.1 hr).1
  have hp := h.blk
  refine Sx.calls_into Try.func11 rfl Try.ntmps11 rfl fun a hT => ?_
  replace hT := hT.keep [0, 1] rfl
  have X : Sx.Ext Sx.No w w := Sx.Ext.refl _ _
  refine wp_seq_k fun K1 hK1 => ?_
  -- region 0 (net.go:51)
  refine Sx.wp_text [(0, .run), (1, .take)] rfl ?_
  refine Sx.st_eff hT rfl rfl rfl rfl (Sx.y_alloc hT rfl Try.ti34 rfl _) ?_
  clear hT; rintro _ w1 ⟨b1, rfl, N⟩ a hT
  have hb1 : w.heap.size ≤ b1 := by rw [N.at_]; exact X.size
  have lhp_b1 : p < b1 := by have h1 := hp.lt; have h2 := N.at_; omega
  replace X := X.step N.ext
  replace hp := hp.ext_no N.ext
  have B1 := N.blk
  clear N
  refine Sx.st_take hT rfl rfl rfl rfl (Sx.x_assign hT rfl rfl) ?_
  clear hT; intro a hT
  replace hT := hT.keep [5, 4, 0, 1] rfl
  refine Sx.ser_nil ?_
  refine Sx.then_normal (hK1 _ _ ?_)
  clear hK1
  refine wp_seq_k fun K2 hK2 => ?_
  refine wp_seq_k fun K3 hK3 => ?_
  -- region 1 (net.go:52)
  refine Sx.wp_text [(0, .take), (1, .take), (2, .run), (3, .take)] rfl ?_
  refine Sx.st_take hT rfl rfl rfl rfl (Sx.x_move hT rfl rfl) ?_
  clear hT; intro a hT
  refine Sx.st_take hT rfl rfl rfl rfl (Sx.x_move hT rfl rfl) ?_
  clear hT; intro a hT
  refine Sx.st_call hT rfl rfl rfl rfl rfl Try.can25 rfl (has_calls _ _ _ _ _ _ _ _ (h.ext_no X) _ true (by simp; omega)) ?_
  rintro _ w2 ⟨rfl, E⟩
  refine ⟨_, rfl, ?_⟩
  clear hT; intro a hT
  replace X := X.step E
  replace hp := hp.ext_no E
  replace B1 := B1.ext_no E
  refine Sx.st_take hT rfl rfl rfl rfl (Sx.x_not hT rfl rfl) ?_
  clear hT; intro a hT
  replace hT := hT.keep [9, 5, 4, 0, 1] rfl
  refine Sx.ser_nil ?_
  refine Sx.then_normal (hK3 _ _ ?_)
  clear hK3
  refine Sx.wp_if hT rfl (fun h => by cases h) (fun _ => ?_)
  refine wp_skip ?_
  refine Sx.then_normal (hK2 _ _ ?_)
  clear hK2
  refine wp_seq_k fun K4 hK4 => ?_
  -- region 3 (net.go:55)
  refine Sx.wp_text [(0, .take), (1, .take), (2, .take), (3, .run), (4, .take), (5, .take), (6, .run), (7, .run), (8, .run), (9, .take)] rfl ?_
  refine Sx.st_take hT rfl rfl rfl rfl (Sx.x_move hT rfl rfl) ?_
  clear hT; intro a hT
  refine Sx.st_take hT rfl rfl rfl rfl (Sx.x_nilCheck hT rfl rfl) ?_
  clear hT; intro a hT
  refine Sx.st_take hT rfl rfl rfl rfl (Sx.x_fieldAddr hT rfl Try.fa57_1 rfl) ?_
  clear hT; intro a hT
  refine Sx.st_run hT rfl rfl rfl rfl (Sx.x_load1 hT rfl Try.fl52 rfl (by first | exact (hp).nth rfl | exact (B1).nth rfl)) ?_
  clear hT; intro a hT
  refine Sx.st_take hT rfl rfl rfl rfl (Sx.x_move hT rfl rfl) ?_
  clear hT; intro a hT
  refine Sx.st_take hT rfl rfl rfl rfl (Sx.x_index hT rfl Try.underlying52 Try.ti34 (by first | exact (h.row.sv.ext_no X)) rfl rfl rfl (by omega)) ?_
  clear hT; intro a hT
  refine Sx.st_run hT rfl rfl rfl rfl (Sx.y_loadS hT rfl Try.underlying34 Try.ti34 rfl (by first | exact (hp).seg (k := 3) rfl | exact (B1).seg (k := 3) rfl | exact ((h.row.ss.ext_no X).cs RM.len hr)) (by rfl)) ?_
  clear hT; intro a hT
  refine Sx.st_call hT rfl rfl rfl rfl rfl Try.can24 rfl (clone_calls r.f r.t r.ad r.n r.c m.data _ (hmr.bs.ext_no X) hmr.n hmr.nil hmr.small) ?_
  have hx0 := X.size
  have hp1 := B1.lt
  rintro _ w3 ⟨ad2, c2, rfl, hto, E⟩
  refine ⟨_, rfl, ?_⟩
  clear hT; intro a hT
  replace X := X.step E
  replace hp := hp.ext_no E
  replace B1 := B1.ext_no E
  have hnew1 : 0 < m.data.length → b1 < ab ad2 := fun h0 => by have := hto.new h0; omega
  replace hto : Told _ w.heap.size ad2 c2 m.data := ⟨hto.bs, hto.nil, fun h0 => Nat.le_trans hx0 (hto.new h0), hto.row⟩
  refine Sx.st_act hT rfl rfl rfl (Sx.y_storeS hT rfl Try.ti34 rfl rfl rfl rfl rfl B1 rfl) ?_
  rintro w4 ⟨NB1, E, z⟩
  replace X := X.fresh E (by omega)
  replace hp := hp.ext E (by unfold Sx.One; omega)
  replace hto := hto.ext E (fun h0 => by unfold Sx.One; have := hnew1 h0; omega)
  replace B1 := NB1; clear NB1 E
  refine Sx.st_take hT rfl rfl rfl rfl (Sx.x_assign hT rfl rfl) ?_
  clear hT; intro a hT
  replace hT := hT.keep [5, 9, 4, 0, 1] rfl
  refine Sx.ser_nil ?_
  refine Sx.then_normal (hK4 _ _ ?_)
  clear hK4
  refine wp_ret ?_
  refine Sx.done2 (fn := Try.f11) hT rfl (.cell (hT.get 4 _ rfl) (Sx.run_resS Try.underlying34 Try.ti34 (by first | exact (hp).seg (k := 3) rfl | exact (B1).seg (k := 3) rfl | exact ((h.row.ss.ext_no X).cs RM.len hr)) (by rfl))) (.tmp (hT.get 5 _ rfl)) ?_
  rw [hmr.src, hmr.dst, hmr.n]
  exact ⟨_, _, rfl, hto, X⟩

theorem At_no (p : Nat) (room : Int) (ms : List Mail) (F : Nat → Prop) (ad : Option Addr) (c : Nat) (rs : List RM) (w : World) (h : NetAt w p room ms F ad c rs) (i : Int) (hi : ¬ (0 ≤ i ∧ i < ms.length)) :
    Calls Try.prog 11 #[.pointer (some ⟨p, 0, none⟩), .int .i64 i] w fun e w' => e = .returned (.tuple #[.agg #[.int .i64 0, .int .i64 0, .slice none 0 0], .bool false]) ∧ Ext No w w' := by
  rw [← h.len] at hi
  have hp := h.blk
  refine Sx.calls_into Try.func11 rfl Try.ntmps11 rfl fun a hT => ?_
  replace hT := hT.keep [0, 1] rfl
  have X : Sx.Ext Sx.No w w := Sx.Ext.refl _ _
  refine wp_seq_k fun K1 hK1 => ?_
  -- region 0 (net.go:51)
  refine Sx.wp_text [(0, .run), (1, .take)] rfl ?_
  refine Sx.st_eff hT rfl rfl rfl rfl (Sx.y_alloc hT rfl Try.ti34 rfl _) ?_
  clear hT; rintro _ w1 ⟨b1, rfl, N⟩ a hT
  have hb1 : w.heap.size ≤ b1 := by rw [N.at_]; exact X.size
  have lhp_b1 : p < b1 := by have h1 := hp.lt; have h2 := N.at_; omega
  replace X := X.step N.ext
  replace hp := hp.ext_no N.ext
  have B1 := N.blk
  clear N
  refine Sx.st_take hT rfl rfl rfl rfl (Sx.x_assign hT rfl rfl) ?_
  clear hT; intro a hT
  replace hT := hT.keep [5, 4, 0, 1] rfl
  refine Sx.ser_nil ?_
  refine Sx.then_normal (hK1 _ _ ?_)
  clear hK1
  refine wp_seq_k fun K2 hK2 => ?_
  refine wp_seq_k fun K3 hK3 => ?_
  -- region 1 (net.go:52)
  refine Sx.wp_text [(0, .take), (1, .take), (2, .run), (3, .take)] rfl ?_
  refine Sx.st_take hT rfl rfl rfl rfl (Sx.x_move hT rfl rfl) ?_
  clear hT; intro a hT
  refine Sx.st_take hT rfl rfl rfl rfl (Sx.x_move hT rfl rfl) ?_
  clear hT; intro a hT
  refine Sx.st_call hT rfl rfl rfl rfl rfl Try.can25 rfl (has_calls _ _ _ _ _ _ _ _ (h.ext_no X) _ false (by simp; omega)) ?_
  rintro _ w2 ⟨rfl, E⟩
  refine ⟨_, rfl, ?_⟩
  clear hT; intro a hT
  replace X := X.step E
  replace hp := hp.ext_no E
  replace B1 := B1.ext_no E
  refine Sx.st_take hT rfl rfl rfl rfl (Sx.x_not hT rfl rfl) ?_
  clear hT; intro a hT
  replace hT := hT.keep [9, 5, 4, 0, 1] rfl
  refine Sx.ser_nil ?_
  refine Sx.then_normal (hK3 _ _ ?_)
  clear hK3
  refine Sx.wp_if hT rfl (fun _ => ?_) (fun h => by cases h)
  refine wp_seq_k fun K4 hK4 => ?_
  -- region 2 (net.go:53)
  refine Sx.wp_text [(0, .take), (1, .run), (2, .take)] rfl ?_
  refine Sx.st_take hT rfl rfl rfl rfl ((fun w => Sx.x_build (w := w) rfl Try.bld34 (by simp only [List.map_toArray, List.map_cons, List.map_nil, Act.eval]; rfl) rfl)) ?_
  clear hT; intro a hT
  refine Sx.st_act hT rfl rfl rfl (Sx.y_storeS hT rfl Try.ti34 rfl rfl rfl rfl rfl B1 rfl) ?_
  rintro w3 ⟨NB1, E, z⟩
  replace X := X.fresh E (by omega)
  replace hp := hp.ext E (by unfold Sx.One; omega)
  replace B1 := NB1; clear NB1 E
  refine Sx.st_take hT rfl rfl rfl rfl (Sx.x_assign hT rfl rfl) ?_
  clear hT; intro a hT
  replace hT := hT.keep [5, 9, 4, 0, 1] rfl
  refine Sx.ser_nil ?_
  refine Sx.then_normal (hK4 _ _ ?_)
  clear hK4
  refine wp_ret ?_
  refine Sx.then_ret ?_
  refine Sx.done2 (fn := Try.f11) hT rfl (.cell (hT.get 4 _ rfl) (Sx.run_resS Try.underlying34 Try.ti34 (by first | exact (hp).seg (k := 3) rfl | exact (B1).seg (k := 3) rfl) (by rfl))) (.tmp (hT.get 5 _ rfl)) ?_
  exact ⟨rfl, X⟩

/-- how many are for a node -/
def cnt (ms : List Mail) (to : Int) : Nat := (ms.filter fun m => m.dst == to).length
theorem cnt_take (ms : List Mail) (to : Int) (k : Nat) (m : Mail) (hm : ms[k]? = some m) : cnt (ms.take (k + 1)) to = cnt (ms.take k) to + if m.dst = to then 1 else 0 := by
  obtain ⟨hk, rfl⟩ := List.getElem?_eq_some_iff.1 hm
  unfold cnt
  rw [List.take_succ_eq_append_getElem hk, List.filter_append, List.length_append]
  by_cases h : ms[k].dst = to <;> simp [h, List.filter_cons]
theorem cnt_le (ms : List Mail) (to : Int) : cnt ms to ≤ ms.length := List.length_filter_le _ _

theorem Count_calls (p : Nat) (room : Int) (ms : List Mail) (F : Nat → Prop) (ad : Option Addr) (c : Nat) (rs : List RM) (w : World) (h : NetAt w p room ms F ad c rs) (to : Int) :
    Calls Try.prog 15 #[.pointer (some ⟨p, 0, none⟩), .int .i64 to] w fun e w' => e = .returned (.int .i64 (cnt ms to)) ∧ Ext No w w' := by
  have hl := h.len
  have hfe := h.few
  have hfi := h.fits
  have hp := h.blk
  refine Sx.calls_into Try.func15 rfl Try.ntmps15 rfl fun a hT => ?_
  replace hT := hT.keep [0, 1] rfl
  have X : Sx.Ext Sx.No w w := Sx.Ext.refl _ _
  refine wp_seq_k fun K1 hK1 => ?_
  -- region 0 (net.go:94)
  refine Sx.wp_text [(0, .take)] rfl ?_
  refine Sx.st_take hT rfl rfl rfl rfl (Sx.x_assign hT rfl rfl) ?_
  clear hT; intro a hT
  replace hT := hT.keep [4, 0, 1] rfl
  refine Sx.ser_nil ?_
  refine Sx.then_normal (hK1 _ _ ?_)
  clear hK1
  refine wp_seq_k fun K2 hK2 => ?_
  -- region 1 (net.go:95)
  refine Sx.wp_text [(0, .take)] rfl ?_
  refine Sx.st_take hT rfl rfl rfl rfl (Sx.x_assign hT rfl rfl) ?_
  clear hT; intro a hT
  replace hT := hT.keep [5, 4, 0, 1] rfl
  refine Sx.ser_nil ?_
  refine Sx.then_normal (hK2 _ _ ?_)
  clear hK2
  refine wp_seq_k fun K3 hK3 => ?_
  refine wp_seq_k fun K4 hK4 => ?_
  -- region 2 (net.go:96)
  refine Sx.wp_text [(0, .take), (1, .take), (2, .take), (3, .run), (4, .take), (5, .take)] rfl ?_
  refine Sx.st_take hT rfl rfl rfl rfl (Sx.x_move hT rfl rfl) ?_
  clear hT; intro a hT
  refine Sx.st_take hT rfl rfl rfl rfl (Sx.x_nilCheck hT rfl rfl) ?_
  clear hT; intro a hT
  refine Sx.st_take hT rfl rfl rfl rfl (Sx.x_fieldAddr hT rfl Try.fa57_1 rfl) ?_
  clear hT; intro a hT
  refine Sx.st_run hT rfl rfl rfl rfl (Sx.x_load1 hT rfl Try.fl52 rfl (by first | exact (hp).nth rfl)) ?_
  clear hT; intro a hT
  refine Sx.st_take hT rfl rfl rfl rfl (Sx.x_len_slice hT rfl rfl Try.underlying52 rfl) ?_
  clear hT; intro a hT
  refine Sx.st_take hT rfl rfl rfl rfl (Sx.x_move hT rfl rfl) ?_
  clear hT; intro a hT
  replace hT := hT.keep [13, 12, 11, 5, 4, 0, 1] rfl
  refine Sx.ser_nil ?_
  refine Sx.then_normal (hK4 _ _ ?_)
  clear hK4
  refine wp_block ?_
  -- loop 0
  refine Sx.wp_while (G := Nat) (fun k a w1 => k ≤ rs.length ∧ Ext No w w1 ∧ Sl 25 [(0, .pointer (some ⟨p, 0, none⟩)), (1, .int .i64 to), (5, .int .i64 (cnt (ms.take k) to)), (11, .slice ad rs.length c), (12, .int .i64 rs.length), (13, .int .i64 k)] a) (fun k => rs.length - k) 0 ?_ ?_
  · exact ⟨Nat.zero_le _, X, hT.keep [0, 1, 5, 11, 12, 13] rfl⟩
  clear hT X
  intro k a w1 hI
  obtain ⟨hk, X, hT⟩ := hI
  have hcl := cnt_le (ms.take k) to
  have hcl2 : (ms.take k).length ≤ k := List.length_take_le _ _
  refine wp_seq_k fun K5 hK5 => ?_
  -- region 3 (net.go:96)
  refine Sx.wp_text [(0, .take)] rfl ?_
  refine Sx.st_take hT rfl rfl rfl rfl ((fun w => Sx.x_lt w hT rfl rfl rfl)) ?_
  clear hT; intro a hT
  replace hT := hT.keep [14, 0, 1, 5, 11, 12, 13] rfl
  refine Sx.ser_nil ?_
  refine Sx.then_normal (hK5 _ _ ?_)
  clear hK5
  refine wp_seq_k fun K6 hK6 => ?_
  -- cond 0
  refine Sx.wp_if hT rfl (fun hc7 => ?_) (fun hc7 => ?_)
  · try simp only [decide_eq_true_eq, decide_eq_false_iff_not, Bool.not_eq_true', Bool.not_eq_false', Bool.not_eq_true, Bool.not_eq_false, Bool.and_eq_true, Bool.or_eq_false_iff, beq_iff_eq, bne_iff_ne, Int.not_lt, Int.not_le, ne_eq] at hc7
    obtain ⟨m, hm⟩ : ∃ m, ms[k]? = some m := ⟨_, List.getElem?_eq_getElem (by omega)⟩
    obtain ⟨r, hr, hmr⟩ := h.all.get hm
    refine wp_skip ?_
    refine Sx.then_normal (hK6 _ _ ?_)
    clear hK6
    refine wp_seq_k fun K8 hK8 => ?_
    refine wp_block ?_
    refine wp_seq_k fun K9 hK9 => ?_
    -- region 4 (net.go:96)
    refine Sx.wp_text [(0, .take), (1, .run), (2, .run), (3, .run)] rfl ?_
    refine Sx.st_take hT rfl rfl rfl rfl (Sx.x_index hT rfl Try.underlying52 Try.ti34 (by first | exact (h.row.sv.ext_no X)) rfl rfl rfl (by omega)) ?_
    clear hT; intro a hT
    refine Sx.st_run hT rfl rfl rfl rfl (Sx.y_loadS hT rfl Try.underlying34 Try.ti34 rfl (by first | exact ((h.row.ss.ext_no X).cs RM.len hr)) (by rfl)) ?_
    clear hT; intro a hT
    refine Sx.st_eff hT rfl rfl rfl rfl (Sx.y_alloc hT rfl Try.ti34 rfl _) ?_
    clear hT; rintro _ w2 ⟨b1, rfl, N⟩ a hT
    have hb1 : w.heap.size ≤ b1 := by rw [N.at_]; exact X.size
    replace X := X.step N.ext
    have B1 := N.blk
    clear N
    refine Sx.st_act hT rfl rfl rfl (Sx.y_storeS hT rfl Try.ti34 rfl rfl rfl rfl rfl B1 rfl) ?_
    rintro w3 ⟨NB1, E, z⟩
    replace X := X.fresh E (by omega)
    replace B1 := NB1; clear NB1 E
    replace hT := hT.keep [7, 14, 0, 1, 5, 11, 12, 13] rfl
    refine Sx.ser_nil ?_
    refine Sx.then_normal (hK9 _ _ ?_)
    clear hK9
    refine wp_seq_k fun K10 hK10 => ?_
    -- region 5 (net.go:97)
    refine Sx.wp_text [(0, .take), (1, .run), (2, .take), (3, .take)] rfl ?_
    refine Sx.st_take hT rfl rfl rfl rfl (Sx.x_fieldAddr hT rfl Try.fa34_1 rfl) ?_
    clear hT; intro a hT
    refine Sx.st_run hT rfl rfl rfl rfl (Sx.x_load1 hT rfl Try.fl3 rfl (by first | exact (B1).nth rfl)) ?_
    clear hT; intro a hT
    refine Sx.st_take hT rfl rfl rfl rfl (Sx.x_move hT rfl rfl) ?_
    clear hT; intro a hT
    refine Sx.st_take hT rfl rfl rfl rfl ((fun w => Sx.x_eq w hT rfl rfl rfl)) ?_
    clear hT; intro a hT
    replace hT := hT.keep [20, 7, 14, 0, 1, 5, 11, 12, 13] rfl
    refine Sx.ser_nil ?_
    refine Sx.then_normal (hK10 _ _ ?_)
    clear hK10
    -- cond 1
    refine Sx.wp_if hT rfl (fun hc11 => ?_) (fun hc11 => ?_)
    · try simp only [decide_eq_true_eq, decide_eq_false_iff_not, Bool.not_eq_true', Bool.not_eq_false', Bool.not_eq_true, Bool.not_eq_false, Bool.and_eq_true, Bool.or_eq_false_iff, beq_iff_eq, bne_iff_ne, Int.not_lt, Int.not_le, ne_eq] at hc11
      -- region 6 (net.go:98)
      refine Sx.wp_text [(0, .take), (1, .take), (2, .take)] rfl ?_
      refine Sx.st_take hT rfl rfl rfl rfl (Sx.x_move hT rfl rfl) ?_
      clear hT; intro a hT
      refine Sx.st_take hT rfl rfl rfl rfl ((fun w => Sx.x_add w hT rfl rfl rfl (Sx.wrap64 (by omega)))) ?_
      clear hT; intro a hT
      refine Sx.st_take hT rfl rfl rfl rfl (Sx.x_assign hT rfl rfl) ?_
      clear hT; intro a hT
      replace hT := hT.keep [5, 20, 7, 14, 0, 1, 11, 12, 13] rfl
      refine Sx.ser_nil ?_
      refine Sx.block_normal ?_
      refine Sx.then_normal (hK8 _ _ ?_)
      clear hK8
      -- region 7 (net.go:96)
      refine Sx.wp_text [(0, .take), (1, .take)] rfl ?_
      refine Sx.st_take hT rfl rfl rfl rfl ((fun w => Sx.x_add w hT rfl rfl rfl (Sx.wrap64 (by omega)))) ?_
      clear hT; intro a hT
      refine Sx.st_take hT rfl rfl rfl rfl (Sx.x_move hT rfl rfl) ?_
      clear hT; intro a hT
      replace hT := hT.keep [13, 5, 20, 7, 14, 0, 1, 11, 12] rfl
      refine Sx.ser_nil ?_
      refine Sx.then_normal ?_
      exact ⟨k + 1, ⟨by omega, X, (hT.keep [0, 1, 5, 11, 12, 13] rfl).conv (by rw [cnt_take ms to k m hm, if_pos (by have := hmr.dst; omega)]; simp)⟩, by omega⟩
    · try simp only [decide_eq_true_eq, decide_eq_false_iff_not, Bool.not_eq_true', Bool.not_eq_false', Bool.not_eq_true, Bool.not_eq_false, Bool.and_eq_true, Bool.or_eq_false_iff, beq_iff_eq, bne_iff_ne, Int.not_lt, Int.not_le, ne_eq] at hc11
      refine wp_skip ?_
      refine Sx.block_normal ?_
      refine Sx.then_normal (hK8 _ _ ?_)
      clear hK8
      -- region 7 (net.go:96)
      refine Sx.wp_text [(0, .take), (1, .take)] rfl ?_
      refine Sx.st_take hT rfl rfl rfl rfl ((fun w => Sx.x_add w hT rfl rfl rfl (Sx.wrap64 (by omega)))) ?_
      clear hT; intro a hT
      refine Sx.st_take hT rfl rfl rfl rfl (Sx.x_move hT rfl rfl) ?_
      clear hT; intro a hT
      replace hT := hT.keep [13, 20, 7, 14, 0, 1, 5, 11, 12] rfl
      refine Sx.ser_nil ?_
      refine Sx.then_normal ?_
      exact ⟨k + 1, ⟨by omega, X, (hT.keep [0, 1, 5, 11, 12, 13] rfl).conv (by rw [cnt_take ms to k m hm, if_neg (by have := hmr.dst; omega)]; simp)⟩, by omega⟩
  · try simp only [decide_eq_true_eq, decide_eq_false_iff_not, Bool.not_eq_true', Bool.not_eq_false', Bool.not_eq_true, Bool.not_eq_false, Bool.and_eq_true, Bool.or_eq_false_iff, beq_iff_eq, bne_iff_ne, Int.not_lt, Int.not_le, ne_eq] at hc7
    refine wp_exit ?_
    refine Sx.then_exit ?_
    refine Sx.then_exit ?_
    refine Sx.block_exit ?_
    refine Sx.then_normal (hK3 _ _ ?_)
    clear hK3
    refine wp_seq_k fun K12 hK12 => ?_
    -- region 8 (net.go:101)
    refine Sx.wp_text [(0, .take), (1, .take)] rfl ?_
    refine Sx.st_take hT rfl rfl rfl rfl (Sx.x_move hT rfl rfl) ?_
    clear hT; intro a hT
    refine Sx.st_take hT rfl rfl rfl rfl (Sx.x_assign hT rfl rfl) ?_
    clear hT; intro a hT
    replace hT := hT.keep [4, 14, 0, 1, 5, 11, 12, 13] rfl
    refine Sx.ser_nil ?_
    refine Sx.then_normal (hK12 _ _ ?_)
    clear hK12
    refine wp_ret ?_
    refine Sx.done1 (fn := Try.f15) hT rfl (.tmp (hT.get 4 _ rfl)) ?_
    have hkk : k = ms.length := by omega
    subst hkk
    rw [List.take_length]
    exact ⟨rfl, X⟩

theorem New_no (room : Int) (w : World) (hr : room < 1 ∨ 4096 < room) : Calls Try.prog 8 #[.int .i64 room] w fun e w' => e = .returned (.tuple #[.pointer none, .int .i64 1]) ∧ Ext No w w' := by
  skip
  refine Sx.calls_into Try.func8 rfl Try.ntmps8 rfl fun a hT => ?_
  replace hT := hT.keep [0] rfl
  have X : Sx.Ext Sx.No w w := Sx.Ext.refl _ _
  refine wp_seq_k fun K1 hK1 => ?_
  -- region 0 (net.go:23)
  refine Sx.wp_text [(0, .take), (1, .take)] rfl ?_
  refine Sx.st_take hT rfl rfl rfl rfl (Sx.x_assign hT rfl rfl) ?_
  clear hT; intro a hT
  refine Sx.st_take hT rfl rfl rfl rfl (Sx.x_assign hT rfl rfl) ?_
  clear hT; intro a hT
  replace hT := hT.keep [3, 2, 0] rfl
  refine Sx.ser_nil ?_
  refine Sx.then_normal (hK1 _ _ ?_)
  clear hK1
  refine wp_seq_k fun K2 hK2 => ?_
  refine wp_seq_k fun K3 hK3 => ?_
  -- region 1 (net.go:24)
  refine Sx.wp_text [(0, .take), (1, .take), (2, .take), (3, .take), (4, .take), (5, .take)] rfl ?_
  refine Sx.st_take hT rfl rfl rfl rfl (Sx.x_move hT rfl rfl) ?_
  clear hT; intro a hT
  refine Sx.st_take hT rfl rfl rfl rfl ((fun w => Sx.x_lt w hT rfl rfl rfl)) ?_
  clear hT; intro a hT
  refine Sx.st_take hT rfl rfl rfl rfl (Sx.x_move hT rfl rfl) ?_
  clear hT; intro a hT
  -- guard (1, 2)
  refine Sx.Sl.two hT 6 rfl (fun hc4 hT => ?_) (fun hc4 hT => ?_)
  · try simp only [decide_eq_true_eq, decide_eq_false_iff_not, Bool.not_eq_true', Bool.not_eq_false', Bool.not_eq_true, Bool.not_eq_false, Bool.and_eq_true, Bool.or_eq_false_iff, beq_iff_eq, bne_iff_ne, Int.not_lt, Int.not_le, ne_eq] at hc4
    refine Sx.st_skip hT rfl rfl rfl rfl ?_
    clear hT; intro a hT
    refine Sx.st_skip hT rfl rfl rfl rfl ?_
    clear hT; intro a hT
    refine Sx.st_take hT rfl rfl rfl rfl (Sx.x_pick_t hT rfl rfl rfl) ?_
    clear hT; intro a hT
    replace hT := hT.keep [9, 3, 2, 0] rfl
    refine Sx.ser_nil ?_
    refine Sx.then_normal (hK3 _ _ ?_)
    clear hK3
    refine Sx.wp_if hT rfl (fun _ => ?_) (fun h => by cases h)
    refine wp_seq_k fun K5 hK5 => ?_
    -- region 2 (net.go:25)
    refine Sx.wp_text [(0, .take), (1, .take)] rfl ?_
    refine Sx.st_take hT rfl rfl rfl rfl (Sx.x_assign hT rfl rfl) ?_
    clear hT; intro a hT
    refine Sx.st_take hT rfl rfl rfl rfl (Sx.x_assign hT rfl rfl) ?_
    clear hT; intro a hT
    replace hT := hT.keep [3, 2, 9, 0] rfl
    refine Sx.ser_nil ?_
    refine Sx.then_normal (hK5 _ _ ?_)
    clear hK5
    refine wp_ret ?_
    refine Sx.then_ret ?_
    refine Sx.done2 (fn := Try.f8) hT rfl (.tmp (hT.get 2 _ rfl)) (.tmp (hT.get 3 _ rfl)) ?_
    first | exact ⟨rfl, X⟩ | (exfalso; omega)
  · try simp only [decide_eq_true_eq, decide_eq_false_iff_not, Bool.not_eq_true', Bool.not_eq_false', Bool.not_eq_true, Bool.not_eq_false, Bool.and_eq_true, Bool.or_eq_false_iff, beq_iff_eq, bne_iff_ne, Int.not_lt, Int.not_le, ne_eq] at hc4
    refine Sx.st_take hT rfl rfl rfl rfl (Sx.x_move hT rfl rfl) ?_
    clear hT; intro a hT
    refine Sx.st_take hT rfl rfl rfl rfl ((fun w => Sx.x_gt w hT rfl rfl rfl)) ?_
    clear hT; intro a hT
    refine Sx.st_take hT rfl rfl rfl rfl (Sx.x_pick_f hT rfl rfl rfl) ?_
    clear hT; intro a hT
    replace hT := hT.keep [9, 3, 2, 0] rfl
    refine Sx.ser_nil ?_
    refine Sx.then_normal (hK3 _ _ ?_)
    clear hK3
    -- cond 0
    refine Sx.wp_if hT rfl (fun hc6 => ?_) (fun hc6 => ?_)
    · try simp only [decide_eq_true_eq, decide_eq_false_iff_not, Bool.not_eq_true', Bool.not_eq_false', Bool.not_eq_true, Bool.not_eq_false, Bool.and_eq_true, Bool.or_eq_false_iff, beq_iff_eq, bne_iff_ne, Int.not_lt, Int.not_le, ne_eq] at hc6
      refine wp_seq_k fun K7 hK7 => ?_
      -- region 2 (net.go:25)
      refine Sx.wp_text [(0, .take), (1, .take)] rfl ?_
      refine Sx.st_take hT rfl rfl rfl rfl (Sx.x_assign hT rfl rfl) ?_
      clear hT; intro a hT
      refine Sx.st_take hT rfl rfl rfl rfl (Sx.x_assign hT rfl rfl) ?_
      clear hT; intro a hT
      replace hT := hT.keep [3, 2, 9, 0] rfl
      refine Sx.ser_nil ?_
      refine Sx.then_normal (hK7 _ _ ?_)
      clear hK7
      refine wp_ret ?_
      refine Sx.then_ret ?_
      refine Sx.done2 (fn := Try.f8) hT rfl (.tmp (hT.get 2 _ rfl)) (.tmp (hT.get 3 _ rfl)) ?_
      first | exact ⟨rfl, X⟩ | (exfalso; omega)
    · try simp only [decide_eq_true_eq, decide_eq_false_iff_not, Bool.not_eq_true', Bool.not_eq_false', Bool.not_eq_true, Bool.not_eq_false, Bool.and_eq_true, Bool.or_eq_false_iff, beq_iff_eq, bne_iff_ne, Int.not_lt, Int.not_le, ne_eq] at hc6
      refine wp_skip ?_
      refine Sx.then_normal (hK2 _ _ ?_)
      clear hK2
      refine wp_seq_k fun K8 hK8 => ?_
      -- region 3 (net.go:27)
      refine Sx.wp_text [(0, .take), (1, .take), (2, .run), (3, .take), (4, .take)] rfl ?_
      refine Sx.st_take hT rfl rfl rfl rfl (Sx.x_move hT rfl rfl) ?_
      clear hT; intro a hT
      refine Sx.st_take hT rfl rfl rfl rfl ((fun w => Sx.x_build (w := w) rfl Try.bld57 (by simp only [List.map_toArray, List.map_cons, List.map_nil, hT.eval (x := .tmp 10) rfl]; rfl) rfl)) ?_
      clear hT; intro a hT
      refine Sx.st_eff hT rfl rfl rfl rfl (Sx.y_box hT rfl rfl rfl _) ?_
      clear hT; rintro _ w1 ⟨b1, rfl, N⟩ a hT
      have hb1 : w.heap.size ≤ b1 := by rw [N.at_]; exact X.size
      replace X := X.step N.ext
      have B1 := N.blk
      clear N
      refine Sx.st_take hT rfl rfl rfl rfl (Sx.x_assign hT rfl rfl) ?_
      clear hT; intro a hT
      refine Sx.st_take hT rfl rfl rfl rfl (Sx.x_assign hT rfl rfl) ?_
      clear hT; intro a hT
      replace hT := hT.keep [3, 2, 9, 0] rfl
      refine Sx.ser_nil ?_
      refine Sx.then_normal (hK8 _ _ ?_)
      clear hK8
      refine wp_ret ?_
      refine Sx.done2 (fn := Try.f8) hT rfl (.tmp (hT.get 2 _ rfl)) (.tmp (hT.get 3 _ rfl)) ?_
      first | exact ⟨rfl, X⟩ | (exfalso; omega)

theorem New_yes (room : Int) (w : World) (hr : ¬ (room < 1 ∨ 4096 < room)) : Calls Try.prog 8 #[.int .i64 room] w fun e w' => ∃ p, e = .returned (.tuple #[.pointer (some ⟨p, 0, none⟩), .int .i64 0]) ∧ w.heap.size ≤ p ∧ Net w' p room [] (Sx.One p) ∧ Ext No w w' := by
  skip
  refine Sx.calls_into Try.func8 rfl Try.ntmps8 rfl fun a hT => ?_
  replace hT := hT.keep [0] rfl
  have X : Sx.Ext Sx.No w w := Sx.Ext.refl _ _
  refine wp_seq_k fun K1 hK1 => ?_
  -- region 0 (net.go:23)
  refine Sx.wp_text [(0, .take), (1, .take)] rfl ?_
  refine Sx.st_take hT rfl rfl rfl rfl (Sx.x_assign hT rfl rfl) ?_
  clear hT; intro a hT
  refine Sx.st_take hT rfl rfl rfl rfl (Sx.x_assign hT rfl rfl) ?_
  clear hT; intro a hT
  replace hT := hT.keep [3, 2, 0] rfl
  refine Sx.ser_nil ?_
  refine Sx.then_normal (hK1 _ _ ?_)
  clear hK1
  refine wp_seq_k fun K2 hK2 => ?_
  refine wp_seq_k fun K3 hK3 => ?_
  -- region 1 (net.go:24)
  refine Sx.wp_text [(0, .take), (1, .take), (2, .take), (3, .take), (4, .take), (5, .take)] rfl ?_
  refine Sx.st_take hT rfl rfl rfl rfl (Sx.x_move hT rfl rfl) ?_
  clear hT; intro a hT
  refine Sx.st_take hT rfl rfl rfl rfl ((fun w => Sx.x_lt w hT rfl rfl rfl)) ?_
  clear hT; intro a hT
  refine Sx.st_take hT rfl rfl rfl rfl (Sx.x_move hT rfl rfl) ?_
  clear hT; intro a hT
  -- guard (1, 2)
  refine Sx.Sl.two hT 6 rfl (fun hc4 hT => ?_) (fun hc4 hT => ?_)
  · try simp only [decide_eq_true_eq, decide_eq_false_iff_not, Bool.not_eq_true', Bool.not_eq_false', Bool.not_eq_true, Bool.not_eq_false, Bool.and_eq_true, Bool.or_eq_false_iff, beq_iff_eq, bne_iff_ne, Int.not_lt, Int.not_le, ne_eq] at hc4
    refine Sx.st_skip hT rfl rfl rfl rfl ?_
    clear hT; intro a hT
    refine Sx.st_skip hT rfl rfl rfl rfl ?_
    clear hT; intro a hT
    refine Sx.st_take hT rfl rfl rfl rfl (Sx.x_pick_t hT rfl rfl rfl) ?_
    clear hT; intro a hT
    replace hT := hT.keep [9, 3, 2, 0] rfl
    refine Sx.ser_nil ?_
    refine Sx.then_normal (hK3 _ _ ?_)
    clear hK3
    refine Sx.wp_if hT rfl (fun _ => ?_) (fun h => by cases h)
    refine wp_seq_k fun K5 hK5 => ?_
    -- region 2 (net.go:25)
    refine Sx.wp_text [(0, .take), (1, .take)] rfl ?_
    refine Sx.st_take hT rfl rfl rfl rfl (Sx.x_assign hT rfl rfl) ?_
    clear hT; intro a hT
    refine Sx.st_take hT rfl rfl rfl rfl (Sx.x_assign hT rfl rfl) ?_
    clear hT; intro a hT
    replace hT := hT.keep [3, 2, 9, 0] rfl
    refine Sx.ser_nil ?_
    refine Sx.then_normal (hK5 _ _ ?_)
    clear hK5
    refine wp_ret ?_
    refine Sx.then_ret ?_
    refine Sx.done2 (fn := Try.f8) hT rfl (.tmp (hT.get 2 _ rfl)) (.tmp (hT.get 3 _ rfl)) ?_
    first | exact ⟨_, rfl, hb1, ⟨none, 0, [], B1, Row.nil _ _ _, trivial, rfl, fun k hk => by simp [Own] at hk, fun r hr => by simp at hr, fun k hk => by unfold Sx.One at hk; subst hk; exact B1.lt, by omega, by simp; omega⟩, X⟩ | (exfalso; omega)
  · try simp only [decide_eq_true_eq, decide_eq_false_iff_not, Bool.not_eq_true', Bool.not_eq_false', Bool.not_eq_true, Bool.not_eq_false, Bool.and_eq_true, Bool.or_eq_false_iff, beq_iff_eq, bne_iff_ne, Int.not_lt, Int.not_le, ne_eq] at hc4
    refine Sx.st_take hT rfl rfl rfl rfl (Sx.x_move hT rfl rfl) ?_
    clear hT; intro a hT
    refine Sx.st_take hT rfl rfl rfl rfl ((fun w => Sx.x_gt w hT rfl rfl rfl)) ?_
    clear hT; intro a hT
    refine Sx.st_take hT rfl rfl rfl rfl (Sx.x_pick_f hT rfl rfl rfl) ?_
    clear hT; intro a hT
    replace hT := hT.keep [9, 3, 2, 0] rfl
    refine Sx.ser_nil ?_
    refine Sx.then_normal (hK3 _ _ ?_)
    clear hK3
    -- cond 0
    refine Sx.wp_if hT rfl (fun hc6 => ?_) (fun hc6 => ?_)
    · try simp only [decide_eq_true_eq, decide_eq_false_iff_not, Bool.not_eq_true', Bool.not_eq_false', Bool.not_eq_true, Bool.not_eq_false, Bool.and_eq_true, Bool.or_eq_false_iff, beq_iff_eq, bne_iff_ne, Int.not_lt, Int.not_le, ne_eq] at hc6
      refine wp_seq_k fun K7 hK7 => ?_
      -- region 2 (net.go:25)
      refine Sx.wp_text [(0, .take), (1, .take)] rfl ?_
      refine Sx.st_take hT rfl rfl rfl rfl (Sx.x_assign hT rfl rfl) ?_
      clear hT; intro a hT
      refine Sx.st_take hT rfl rfl rfl rfl (Sx.x_assign hT rfl rfl) ?_
      clear hT; intro a hT
      replace hT := hT.keep [3, 2, 9, 0] rfl
      refine Sx.ser_nil ?_
      refine Sx.then_normal (hK7 _ _ ?_)
      clear hK7
      refine wp_ret ?_
      refine Sx.then_ret ?_
      refine Sx.done2 (fn := Try.f8) hT rfl (.tmp (hT.get 2 _ rfl)) (.tmp (hT.get 3 _ rfl)) ?_
      first | exact ⟨_, rfl, hb1, ⟨none, 0, [], B1, Row.nil _ _ _, trivial, rfl, fun k hk => by simp [Own] at hk, fun r hr => by simp at hr, fun k hk => by unfold Sx.One at hk; subst hk; exact B1.lt, by omega, by simp; omega⟩, X⟩ | (exfalso; omega)
    · try simp only [decide_eq_true_eq, decide_eq_false_iff_not, Bool.not_eq_true', Bool.not_eq_false', Bool.not_eq_true, Bool.not_eq_false, Bool.and_eq_true, Bool.or_eq_false_iff, beq_iff_eq, bne_iff_ne, Int.not_lt, Int.not_le, ne_eq] at hc6
      refine wp_skip ?_
      refine Sx.then_normal (hK2 _ _ ?_)
      clear hK2
      refine wp_seq_k fun K8 hK8 => ?_
      -- region 3 (net.go:27)
      refine Sx.wp_text [(0, .take), (1, .take), (2, .run), (3, .take), (4, .take)] rfl ?_
      refine Sx.st_take hT rfl rfl rfl rfl (Sx.x_move hT rfl rfl) ?_
      clear hT; intro a hT
      refine Sx.st_take hT rfl rfl rfl rfl ((fun w => Sx.x_build (w := w) rfl Try.bld57 (by simp only [List.map_toArray, List.map_cons, List.map_nil, hT.eval (x := .tmp 10) rfl]; rfl) rfl)) ?_
      clear hT; intro a hT
      refine Sx.st_eff hT rfl rfl rfl rfl (Sx.y_box hT rfl rfl rfl _) ?_
      clear hT; rintro _ w1 ⟨b1, rfl, N⟩ a hT
      have hb1 : w.heap.size ≤ b1 := by rw [N.at_]; exact X.size
      replace X := X.step N.ext
      have B1 := N.blk
      clear N
      refine Sx.st_take hT rfl rfl rfl rfl (Sx.x_assign hT rfl rfl) ?_
      clear hT; intro a hT
      refine Sx.st_take hT rfl rfl rfl rfl (Sx.x_assign hT rfl rfl) ?_
      clear hT; intro a hT
      replace hT := hT.keep [3, 2, 9, 0] rfl
      refine Sx.ser_nil ?_
      refine Sx.then_normal (hK8 _ _ ?_)
      clear hK8
      refine wp_ret ?_
      refine Sx.done2 (fn := Try.f8) hT rfl (.tmp (hT.get 2 _ rfl)) (.tmp (hT.get 3 _ rfl)) ?_
      first | exact ⟨_, rfl, hb1, ⟨none, 0, [], B1, Row.nil _ _ _, trivial, rfl, fun k hk => by simp [Own] at hk, fun r hr => by simp at hr, fun k hk => by unfold Sx.One at hk; subst hk; exact B1.lt, by omega, by simp; omega⟩, X⟩ | (exfalso; omega)

end Go.Proofs.Ytgcelppbbjokeaa
