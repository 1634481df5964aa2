/- Walks: the methods of a net that change it. -/
import Derived.Test.YtgcelppbbjokeaaW1
import Derived.Test.YtgcelppbbjokeaaW0
set_option linter.unusedSimpArgs false
set_option linter.unusedVariables false
namespace Go.Proofs.Ytgcelppbbjokeaa
open Sx

theorem sum64 {a b c : Int} (h : a + b = c) (hc : -9223372036854775808 ≤ c ∧ c ≤ 9223372036854775807) : IntKind.i64.wrap (a + b) = c := by rw [h]; exact wrap64 hc

/-- a net out of its parts, behind a change of its row and of its own block -/
theorem Net.mk' {w' : World} {p : Nat} {room : Int} {ms : List Mail} {F : Nat → Prop} {ad : Option Addr} {c n : Nat} {rs : List RM} (hb : Blk w' p [.int .i64 room, .slice ad n c] 57) (hn : n = rs.length)
    (hr : Row w' 34 3 ad n c (rs.flatMap RM.cells)) (ha : All2 (RM.is w') rs ms) (hp : F p) (ho : ∀ k, Own ad k → F k ∧ k ≠ p) (hd : ∀ r ∈ rs, 0 < r.n → F (ab r.ad) ∧ ab r.ad ≠ p ∧ ¬ Own ad (ab r.ad))
    (hl : ∀ k, F k → k < w'.heap.size) (hf : room ≤ 4096) (hm : (ms.length : Int) ≤ room) : Net w' p room ms F := by
  subst hn
  exact ⟨ad, c, rs, hb, hr, ha, hp, ho, hd, hl, hf, hm⟩

theorem Send_full (p : Nat) (room : Int) (ms : List Mail) (F : Nat → Prop) (ad : Option Addr) (c : Nat) (rs : List RM) (w : World) (h : NetAt w p room ms F ad c rs) (src dst : Int) (ad2 : Option Addr) (n2 c2 : Nat) (hfull : room ≤ ms.length) :
    Calls Try.prog 10 #[.pointer (some ⟨p, 0, none⟩), .int .i64 src, .int .i64 dst, .slice ad2 n2 c2] w fun e w' => e = .returned (.int .i64 11) ∧ Ext No w w' := by
  have hl := h.len
  have hp := h.blk
  refine Sx.calls_into Try.func10 rfl Try.ntmps10 rfl fun a hT => ?_
  replace hT := hT.keep [0, 1, 2, 3] rfl
  have X : Sx.Ext Sx.No w w := Sx.Ext.refl _ _
  refine wp_seq_k fun K1 hK1 => ?_
  -- region 0 (net.go:36)
  refine Sx.wp_text [(0, .take)] rfl ?_
  refine Sx.st_take hT rfl rfl rfl rfl (Sx.x_assign hT rfl rfl) ?_
  clear hT; intro a hT
  replace hT := hT.keep [8, 0, 1, 2, 3] rfl
  refine Sx.ser_nil ?_
  refine Sx.then_normal (hK1 _ _ ?_)
  clear hK1
  refine wp_seq_k fun K2 hK2 => ?_
  refine wp_seq_k fun K3 hK3 => ?_
  -- region 1 (net.go:37)
  refine Sx.wp_draws (fun u => Sx.Ext Sx.No u) [(0, .take), (1, .take), (2, .take), (3, .held), (4, .take), (5, .take), (6, .take), (7, .take), (8, .held), (9, .take)] (by kernel_rfl) (by kernel_rfl) (fun u E z => ?_)
  replace X := X.step E
  replace hp := hp.ext_no E
  have hH : Sx.Ext Sx.No u u := Sx.Ext.refl _ _
  refine Sx.st_take hT rfl rfl rfl rfl (Sx.x_move hT rfl rfl) ?_
  clear hT; intro a hT
  refine Sx.st_take hT rfl rfl rfl rfl (Sx.x_nilCheck hT rfl rfl) ?_
  clear hT; intro a hT
  refine Sx.st_take hT rfl rfl rfl rfl (Sx.x_fieldAddr hT rfl Try.fa57_1 rfl) ?_
  clear hT; intro a hT
  refine Sx.st_held hT rfl rfl rfl rfl hH (fun w' h' => Sx.x_load1 hT rfl Try.fl52 rfl (by first | exact (hp.ext_no h').nth rfl)) ?_
  clear hT; intro a hT
  refine Sx.st_take hT rfl rfl rfl rfl (Sx.x_len_slice hT rfl rfl Try.underlying52 rfl) ?_
  clear hT; intro a hT
  refine Sx.st_take hT rfl rfl rfl rfl (Sx.x_move hT rfl rfl) ?_
  clear hT; intro a hT
  refine Sx.st_take hT rfl rfl rfl rfl (Sx.x_nilCheck hT rfl rfl) ?_
  clear hT; intro a hT
  refine Sx.st_take hT rfl rfl rfl rfl (Sx.x_fieldAddr hT rfl Try.fa57_0 rfl) ?_
  clear hT; intro a hT
  refine Sx.st_held hT rfl rfl rfl rfl hH (fun w' h' => Sx.x_load1 hT rfl Try.fl3 rfl (by first | exact (hp.ext_no h').nth rfl)) ?_
  clear hT; intro a hT
  refine Sx.st_take hT rfl rfl rfl rfl ((fun w => Sx.x_ge w hT rfl rfl rfl)) ?_
  clear hT; intro a hT
  replace hT := hT.keep [18, 8, 0, 1, 2, 3] rfl
  refine Sx.ser_calm ?_
  refine Sx.then_normal (hK3 _ _ ?_)
  clear hK3
  -- cond 0
  refine Sx.wp_if hT rfl (fun hc4 => ?_) (fun hc4 => ?_)
  · try simp only [decide_eq_true_eq, decide_eq_false_iff_not, Bool.not_eq_true', Bool.not_eq_false', Bool.not_eq_true, Bool.not_eq_false, Bool.and_eq_true, Bool.or_eq_false_iff, beq_iff_eq, bne_iff_ne, Int.not_lt, Int.not_le, ne_eq] at hc4
    refine wp_seq_k fun K5 hK5 => ?_
    -- region 2 (net.go:38)
    refine Sx.wp_text [(0, .take)] rfl ?_
    refine Sx.st_take hT rfl rfl rfl rfl (Sx.x_assign hT rfl rfl) ?_
    clear hT; intro a hT
    replace hT := hT.keep [8, 18, 0, 1, 2, 3] rfl
    refine Sx.ser_nil ?_
    refine Sx.then_normal (hK5 _ _ ?_)
    clear hK5
    refine wp_ret ?_
    refine Sx.then_ret ?_
    refine Sx.done1 (fn := Try.f10) hT rfl (.tmp (hT.get 8 _ rfl)) ?_
    exact ⟨rfl, X⟩
  · exfalso
    try simp only [decide_eq_true_eq, decide_eq_false_iff_not, Bool.not_eq_true', Bool.not_eq_false', Bool.not_eq_true, Bool.not_eq_false, Bool.and_eq_true, Bool.or_eq_false_iff, beq_iff_eq, bne_iff_ne, Int.not_lt, Int.not_le, ne_eq] at hc4
    first | omega | simp at hc4

theorem Send_ok (p : Nat) (room : Int) (ms : List Mail) (F : Nat → Prop) (ad : Option Addr) (c : Nat) (rs : List RM) (w : World) (h : NetAt w p room ms F ad c rs) (src dst : Int) (ad2 : Option Addr) (n2 c2 : Nat) (l : List UInt8) (hroom : ms.length < room) (hd : Bs w ad2 l) (hn : n2 = l.length) (hnil : ad2 = none → n2 = 0 ∧ c2 = 0) (hs : n2 ≤ 1099511627776) :
    Calls Try.prog 10 #[.pointer (some ⟨p, 0, none⟩), .int .i64 src, .int .i64 dst, .slice ad2 n2 c2] w fun e w' => e = .returned (.int .i64 0) ∧ Net w' p room (ms ++ [⟨src, dst, l⟩]) (fun k => F k ∨ (w.heap.size ≤ k ∧ k < w'.heap.size)) ∧ Ext F w w' := by
  subst hn
  have hl := h.len
  have hfe := h.few
  have hfi := h.fits
  have hino := h.ino
  have hind := h.ind
  have hlt := h.lt
  have hinp := h.inp
  have hp := h.blk
  have hple := hp.lt
  refine Sx.calls_into Try.func10 rfl Try.ntmps10 rfl fun a hT => ?_
  replace hT := hT.keep [0, 1, 2, 3] rfl
  have X : Sx.Ext F w w := Sx.Ext.refl _ _
  have X0 : Ext No w w := Ext.refl _ _
  refine wp_seq_k fun K1 hK1 => ?_
  -- region 0 (net.go:36)
  refine Sx.wp_text [(0, .take)] rfl ?_
  refine Sx.st_take hT rfl rfl rfl rfl (Sx.x_assign hT rfl rfl) ?_
  clear hT; intro a hT
  replace hT := hT.keep [8, 0, 1, 2, 3] rfl
  refine Sx.ser_nil ?_
  refine Sx.then_normal (hK1 _ _ ?_)
  clear hK1
  refine wp_seq_k fun K2 hK2 => ?_
  refine wp_seq_k fun K3 hK3 => ?_
  -- region 1 (net.go:37)
  refine Sx.wp_draws (fun u => Sx.Ext Sx.No u) [(0, .take), (1, .take), (2, .take), (3, .held), (4, .take), (5, .take), (6, .take), (7, .take), (8, .held), (9, .take)] (by kernel_rfl) (by kernel_rfl) (fun u E z => ?_)
  replace X := X.step E
  replace hp := hp.ext_no E
  replace h := h.ext_no E
  replace X0 := X0.ext_no E
  have hH : Sx.Ext Sx.No u u := Sx.Ext.refl _ _
  refine Sx.st_take hT rfl rfl rfl rfl (Sx.x_move hT rfl rfl) ?_
  clear hT; intro a hT
  refine Sx.st_take hT rfl rfl rfl rfl (Sx.x_nilCheck hT rfl rfl) ?_
  clear hT; intro a hT
  refine Sx.st_take hT rfl rfl rfl rfl (Sx.x_fieldAddr hT rfl Try.fa57_1 rfl) ?_
  clear hT; intro a hT
  refine Sx.st_held hT rfl rfl rfl rfl hH (fun w' h' => Sx.x_load1 hT rfl Try.fl52 rfl (by first | exact (hp.ext_no h').nth rfl)) ?_
  clear hT; intro a hT
  refine Sx.st_take hT rfl rfl rfl rfl (Sx.x_len_slice hT rfl rfl Try.underlying52 rfl) ?_
  clear hT; intro a hT
  refine Sx.st_take hT rfl rfl rfl rfl (Sx.x_move hT rfl rfl) ?_
  clear hT; intro a hT
  refine Sx.st_take hT rfl rfl rfl rfl (Sx.x_nilCheck hT rfl rfl) ?_
  clear hT; intro a hT
  refine Sx.st_take hT rfl rfl rfl rfl (Sx.x_fieldAddr hT rfl Try.fa57_0 rfl) ?_
  clear hT; intro a hT
  refine Sx.st_held hT rfl rfl rfl rfl hH (fun w' h' => Sx.x_load1 hT rfl Try.fl3 rfl (by first | exact (hp.ext_no h').nth rfl)) ?_
  clear hT; intro a hT
  refine Sx.st_take hT rfl rfl rfl rfl ((fun w => Sx.x_ge w hT rfl rfl rfl)) ?_
  clear hT; intro a hT
  replace hT := hT.keep [18, 8, 0, 1, 2, 3] rfl
  refine Sx.ser_calm ?_
  refine Sx.then_normal (hK3 _ _ ?_)
  clear hK3
  -- cond 0
  refine Sx.wp_if hT rfl (fun hc4 => ?_) (fun hc4 => ?_)
  · exfalso
    try simp only [decide_eq_true_eq, decide_eq_false_iff_not, Bool.not_eq_true', Bool.not_eq_false', Bool.not_eq_true, Bool.not_eq_false, Bool.and_eq_true, Bool.or_eq_false_iff, beq_iff_eq, bne_iff_ne, Int.not_lt, Int.not_le, ne_eq] at hc4
    first | omega | simp at hc4
  · try simp only [decide_eq_true_eq, decide_eq_false_iff_not, Bool.not_eq_true', Bool.not_eq_false', Bool.not_eq_true, Bool.not_eq_false, Bool.and_eq_true, Bool.or_eq_false_iff, beq_iff_eq, bne_iff_ne, Int.not_lt, Int.not_le, ne_eq] at hc4
    refine wp_skip ?_
    refine Sx.then_normal (hK2 _ _ ?_)
    clear hK2
    refine wp_seq_k fun K5 hK5 => ?_
    -- region 3 (net.go:40)
    refine Sx.wp_draws (fun u => Sx.Ext Sx.No u) [(0, .take), (1, .take), (2, .take), (3, .take), (4, .held), (5, .take), (6, .take), (7, .take), (8, .take), (9, .keep), (10, .keep), (11, .run), (12, .take), (13, .take), (14, .run)] (by kernel_rfl) (by kernel_rfl) (fun u E z => ?_)
    replace X := X.step E
    replace hp := hp.ext_no E
    replace h := h.ext_no E
    replace X0 := X0.ext_no E
    have hH : Sx.Ext Sx.No u u := Sx.Ext.refl _ _
    have Xu := X
    have hpu := hp
    refine Sx.st_take hT rfl rfl rfl rfl (Sx.x_move hT rfl rfl) ?_
    clear hT; intro a hT
    refine Sx.st_take hT rfl rfl rfl rfl (Sx.x_move hT rfl rfl) ?_
    clear hT; intro a hT
    refine Sx.st_take hT rfl rfl rfl rfl (Sx.x_nilCheck hT rfl rfl) ?_
    clear hT; intro a hT
    refine Sx.st_take hT rfl rfl rfl rfl (Sx.x_fieldAddr hT rfl Try.fa57_1 rfl) ?_
    clear hT; intro a hT
    refine Sx.st_held hT rfl rfl rfl rfl hH (fun w' h' => Sx.x_load1 hT rfl Try.fl52 rfl (by first | exact (hpu.ext_no h').nth rfl)) ?_
    clear hT; intro a hT
    refine Sx.st_take hT rfl rfl rfl rfl (Sx.x_move hT rfl rfl) ?_
    clear hT; intro a hT
    refine Sx.st_take hT rfl rfl rfl rfl (Sx.x_move hT rfl rfl) ?_
    clear hT; intro a hT
    refine Sx.st_take hT rfl rfl rfl rfl (Sx.x_move hT rfl rfl) ?_
    clear hT; intro a hT
    refine Sx.st_take hT rfl rfl rfl rfl ((fun w => Sx.x_build (w := w) rfl Try.bld34 (by simp only [List.map_toArray, List.map_cons, List.map_nil, hT.eval (x := .tmp 24) rfl, hT.eval (x := .tmp 25) rfl, hT.eval (x := .tmp 26) rfl]; rfl) rfl)) ?_
    clear hT; intro a hT
    refine Sx.st_callkeep hT rfl rfl rfl rfl rfl Try.can24 rfl (clone_calls src dst ad2 l.length c2 l _ (hd.ext_no X0) rfl hnil hs) ?_
    have hx0 := X0.size
    rintro _ w1 ⟨ad3, c3, rfl, hto, E⟩
    refine ⟨_, rfl, ?_, ?_⟩
    · exact hH.step E
    replace hH := hH.step E
    clear hT; intro a hT
    replace X := X.step E
    replace hp := hp.ext_no E
    replace h := h.ext_no E
    replace X0 := X0.ext_no E
    have hnew : 0 < l.length → w.heap.size ≤ ab ad3 := fun h0 => Nat.le_trans hx0 (hto.new h0)
    replace hto : RM.is _ ⟨src, dst, ad3, l.length, c3⟩ ⟨src, dst, l⟩ := ⟨rfl, rfl, rfl, hto.bs, hto.nil, hs⟩
    refine Sx.st_effkeep hT rfl rfl rfl rfl (Sx.y_slice1 hT rfl Try.underlying52 Try.ti34 rfl rfl rfl rfl rfl rfl _) ?_
    rintro _ w2 ⟨b1, rfl, N⟩
    refine ⟨hH.step N.ext, ?_⟩
    replace hH := hH.step N.ext
    clear hT; intro a hT
    have hb1 : w.heap.size ≤ b1 := by rw [N.at_]; exact X.size
    have lhp_b1 : p < b1 := by have h1 := hp.lt; have h2 := N.at_; omega
    replace X := X.step N.ext
    replace hp := hp.ext_no N.ext
    replace h := h.ext_no N.ext
    replace X0 := X0.ext_no N.ext
    replace hto := hto.ext_no N.ext
    have B1 := N.blk
    clear N
    refine Sx.st_eff hT rfl rfl rfl rfl (Sx.x_append hT rfl rfl Try.underlying52 Try.ti34 rfl (by decide) rfl rfl h.row (B1.sv1 rfl) (by simp [Value.oneCell']) (fun h => by cases h) (by unfold maxLen; omega) (by omega)) ?_
    have hdl : 0 < l.length → ab ad3 < _ := fun h0 => hto.bs.lt h0
    have hal := h.all
    have hz1 := X0.size
    clear hT; rintro _ w3 ⟨ad4, c4, rfl, hr2, E, hown, -⟩ a hT
    replace X := X.trans E (fun i _ hi => (hino i hi).1)
    replace hp := h.blk.ext E (fun h9 => (hino _ h9).2 rfl)
    have hall := hal.ext E (fun r hr h0 => (hind r hr h0).2.2)
    have hda : 0 < l.length → ¬ Own ad (ab ad3) := fun h0 h9 => Nat.lt_irrefl _ (Nat.lt_of_lt_of_le (hlt _ (hino _ h9).1) (hnew h0))
    replace hto := hto.ext E hda
    have hown2 : ∀ k, Own ad4 k → k ≠ p ∧ (F k ∨ w.heap.size ≤ k) := fun k hk => by
      rcases hown k hk with h1 | h1
      · exact ⟨(hino k h1).2, .inl (hino k h1).1⟩
      · exact ⟨by omega, .inr (by omega)⟩
    have hdb : 0 < l.length → ¬ Own ad4 (ab ad3) := fun h0 h9 => by
      rcases hown _ h9 with h1 | h1
      · exact hda h0 h1
      · have := hdl h0; omega
    have hdc : ∀ r ∈ rs, 0 < r.n → ¬ Own ad4 (ab r.ad) := fun r hr h0 h9 => by
      rcases hown _ h9 with h1 | h1
      · exact (hind r hr h0).2.2 h1
      · have := hlt _ (hind r hr h0).1; omega
    clear h hal E hown hdl
    refine Sx.st_take hT rfl rfl rfl rfl (Sx.x_nilCheck hT rfl rfl) ?_
    clear hT; intro a hT
    refine Sx.st_take hT rfl rfl rfl rfl (Sx.x_fieldAddr hT rfl Try.fa57_1 rfl) ?_
    clear hT; intro a hT
    refine Sx.st_act hT rfl rfl rfl (Sx.y_store1 hT rfl Try.ti52 rfl rfl rfl hp rfl) ?_
    rintro w4 ⟨Nhp, E, z⟩
    replace X := X.trans E (fun i _ hi => by unfold Sx.One at hi; subst hi; exact hinp)
    replace hr2 := hr2.ext E (fun k hk h => (hown2 k hk).1 h)
    replace hall := hall.ext E (fun r hr h0 => (hind r hr h0).2.1)
    replace hto := hto.ext E (fun h0 h9 => by unfold Sx.One at h9; have := hnew h0; rw [h9] at this; omega)
    replace hp := Nhp; clear Nhp E
    replace hT := hT.keep [18, 8, 0, 1, 2, 3] rfl
    refine Sx.ser_calm ?_
    refine Sx.then_normal (hK5 _ _ ?_)
    clear hK5
    refine wp_seq_k fun K6 hK6 => ?_
    -- region 4 (net.go:41)
    refine Sx.wp_text [(0, .take)] rfl ?_
    refine Sx.st_take hT rfl rfl rfl rfl (Sx.x_assign hT rfl rfl) ?_
    clear hT; intro a hT
    replace hT := hT.keep [8, 18, 0, 1, 2, 3] rfl
    refine Sx.ser_nil ?_
    refine Sx.then_normal (hK6 _ _ ?_)
    clear hK6
    refine wp_ret ?_
    refine Sx.done1 (fn := Try.f10) hT rfl (.tmp (hT.get 8 _ rfl)) ?_
    have hz := X.size
    have hdt : 0 < l.length → ab ad3 < _ := fun h0 => hto.bs.lt h0
    refine ⟨rfl, Net.mk' (rs := rs ++ [⟨src, dst, ad3, l.length, c3⟩]) hp (by simp) (by simpa [RM.cells] using hr2) (hall.append (All2.single hto)) (.inl hinp) (fun k hk => ?_) (fun r hr h0 => ?_) (fun k hk => ?_) hfe (by simp; omega), X⟩
    · exact ⟨(hown2 k hk).2.imp id (fun h1 => ⟨h1, hr2.lt k hk⟩), (hown2 k hk).1⟩
    · rcases List.mem_append.1 hr with h1 | h1
      · exact ⟨.inl (hind r h1 h0).1, (hind r h1 h0).2.1, hdc r h1 h0⟩
      · simp only [List.mem_singleton] at h1
        subst h1
        have h0' : 0 < l.length := h0
        exact ⟨.inr ⟨hnew h0', hdt h0'⟩, fun h9 => (by have h8 : ab ad3 = p := h9; have := hnew h0'; omega), hdb h0'⟩
    · rcases hk with h1 | h1
      · have := hlt k h1; omega
      · exact h1.2

theorem Drop_no (p : Nat) (room : Int) (ms : List Mail) (F : Nat → Prop) (ad : Option Addr) (c : Nat) (rs : List RM) (w : World) (h : NetAt w p room ms F ad c rs) (i : Int) (hi : ¬ (0 ≤ i ∧ i < ms.length)) :
    Calls Try.prog 21 #[.pointer (some ⟨p, 0, none⟩), .int .i64 i] w fun e w' => e = .returned (.bool false) ∧ Ext No w w' := by
  rw [← h.len] at hi
  refine Sx.calls_into Try.func21 rfl Try.ntmps21 rfl fun a hT => ?_
  replace hT := hT.keep [0, 1] rfl
  have X : Sx.Ext Sx.No w w := Sx.Ext.refl _ _
  refine wp_seq_k fun K1 hK1 => ?_
  -- region 0 (net.go:65)
  refine Sx.wp_text [(0, .take)] rfl ?_
  refine Sx.st_take hT rfl rfl rfl rfl (Sx.x_assign hT rfl rfl) ?_
  clear hT; intro a hT
  replace hT := hT.keep [4, 0, 1] rfl
  refine Sx.ser_nil ?_
  refine Sx.then_normal (hK1 _ _ ?_)
  clear hK1
  refine wp_seq_k fun K2 hK2 => ?_
  refine wp_seq_k fun K3 hK3 => ?_
  -- region 1 (net.go:66)
  refine Sx.wp_text [(0, .take), (1, .take), (2, .run), (3, .take)] rfl ?_
  refine Sx.st_take hT rfl rfl rfl rfl (Sx.x_move hT rfl rfl) ?_
  clear hT; intro a hT
  refine Sx.st_take hT rfl rfl rfl rfl (Sx.x_move hT rfl rfl) ?_
  clear hT; intro a hT
  refine Sx.st_call hT rfl rfl rfl rfl rfl Try.can25 rfl (has_calls _ _ _ _ _ _ _ _ (h.ext_no X) _ false (by simp; omega)) ?_
  rintro _ w1 ⟨rfl, E⟩
  refine ⟨_, rfl, ?_⟩
  clear hT; intro a hT
  replace X := X.step E
  refine Sx.st_take hT rfl rfl rfl rfl (Sx.x_not hT rfl rfl) ?_
  clear hT; intro a hT
  replace hT := hT.keep [8, 4, 0, 1] rfl
  refine Sx.ser_nil ?_
  refine Sx.then_normal (hK3 _ _ ?_)
  clear hK3
  refine Sx.wp_if hT rfl (fun _ => ?_) (fun h => by cases h)
  refine wp_seq_k fun K4 hK4 => ?_
  -- region 2 (net.go:67)
  refine Sx.wp_text [(0, .take)] rfl ?_
  refine Sx.st_take hT rfl rfl rfl rfl (Sx.x_assign hT rfl rfl) ?_
  clear hT; intro a hT
  replace hT := hT.keep [4, 8, 0, 1] rfl
  refine Sx.ser_nil ?_
  refine Sx.then_normal (hK4 _ _ ?_)
  clear hK4
  refine wp_ret ?_
  refine Sx.then_ret ?_
  refine Sx.done1 (fn := Try.f21) hT rfl (.tmp (hT.get 4 _ rfl)) ?_
  exact ⟨rfl, X⟩

theorem Drop_yes (p : Nat) (room : Int) (ms : List Mail) (F : Nat → Prop) (ad : Option Addr) (c : Nat) (rs : List RM) (w : World) (h : NetAt w p room ms F ad c rs) (i : Int) (k : Nat) (m : Mail) (hi : i = k) (hm : ms[k]? = some m) :
    Calls Try.prog 21 #[.pointer (some ⟨p, 0, none⟩), .int .i64 i] w fun e w' => e = .returned (.bool true) ∧ Net w' p room (ms.take k ++ ms.drop (k + 1)) F ∧ Ext F w w' := by
  subst hi
  obtain ⟨r, hr, hmr⟩ := h.all.get hm
  have hk : k < rs.length := (List.getElem?_eq_some_iff.1 hr).1
  have hl := h.len
  have hfe := h.few
  have hfi := h.fits
  have hino := h.ino
  have hind := h.ind
  have hlt := h.lt
  have hinp := h.inp
  have hp := h.blk
  have hple := hp.lt
  refine Sx.calls_into Try.func21 rfl Try.ntmps21 rfl fun a hT => ?_
  replace hT := hT.keep [0, 1] rfl
  have X : Sx.Ext F w w := Sx.Ext.refl _ _
  have X0 : Ext No w w := Ext.refl _ _
  refine wp_seq_k fun K1 hK1 => ?_
  -- region 0 (net.go:65)
  refine Sx.wp_text [(0, .take)] rfl ?_
  refine Sx.st_take hT rfl rfl rfl rfl (Sx.x_assign hT rfl rfl) ?_
  clear hT; intro a hT
  replace hT := hT.keep [4, 0, 1] rfl
  refine Sx.ser_nil ?_
  refine Sx.then_normal (hK1 _ _ ?_)
  clear hK1
  refine wp_seq_k fun K2 hK2 => ?_
  refine wp_seq_k fun K3 hK3 => ?_
  -- region 1 (net.go:66)
  refine Sx.wp_text [(0, .take), (1, .take), (2, .run), (3, .take)] rfl ?_
  refine Sx.st_take hT rfl rfl rfl rfl (Sx.x_move hT rfl rfl) ?_
  clear hT; intro a hT
  refine Sx.st_take hT rfl rfl rfl rfl (Sx.x_move hT rfl rfl) ?_
  clear hT; intro a hT
  refine Sx.st_call hT rfl rfl rfl rfl rfl Try.can25 rfl (has_calls _ _ _ _ _ _ _ _ (h.ext_no X0) _ true (by simp; omega)) ?_
  rintro _ w1 ⟨rfl, E⟩
  refine ⟨_, rfl, ?_⟩
  clear hT; intro a hT
  replace X := X.step E
  replace hp := hp.ext_no E
  replace h := h.ext_no E
  replace X0 := X0.ext_no E
  refine Sx.st_take hT rfl rfl rfl rfl (Sx.x_not hT rfl rfl) ?_
  clear hT; intro a hT
  replace hT := hT.keep [8, 4, 0, 1] rfl
  refine Sx.ser_nil ?_
  refine Sx.then_normal (hK3 _ _ ?_)
  clear hK3
  refine Sx.wp_if hT rfl (fun h => by cases h) (fun _ => ?_)
  refine wp_skip ?_
  refine Sx.then_normal (hK2 _ _ ?_)
  clear hK2
  refine wp_seq_k fun K4 hK4 => ?_
  -- region 3 (net.go:69)
  refine Sx.wp_text [(0, .take), (1, .take), (2, .take), (3, .take), (4, .run), (5, .take), (6, .take), (7, .take), (8, .run), (9, .take), (10, .take), (11, .run)] rfl ?_
  refine Sx.st_take hT rfl rfl rfl rfl (Sx.x_move hT rfl rfl) ?_
  clear hT; intro a hT
  refine Sx.st_take hT rfl rfl rfl rfl (Sx.x_move hT rfl rfl) ?_
  clear hT; intro a hT
  refine Sx.st_take hT rfl rfl rfl rfl (Sx.x_nilCheck hT rfl rfl) ?_
  clear hT; intro a hT
  refine Sx.st_take hT rfl rfl rfl rfl (Sx.x_fieldAddr hT rfl Try.fa57_1 rfl) ?_
  clear hT; intro a hT
  refine Sx.st_run hT rfl rfl rfl rfl (Sx.x_load1 hT rfl Try.fl52 rfl (by first | exact (hp).nth rfl)) ?_
  clear hT; intro a hT
  refine Sx.st_take hT rfl rfl rfl rfl (Sx.x_move hT rfl rfl) ?_
  clear hT; intro a hT
  refine Sx.st_take hT rfl rfl rfl rfl (Sx.x_move hT rfl rfl) ?_
  clear hT; intro a hT
  refine Sx.st_take hT rfl rfl rfl rfl ((fun w => Sx.x_add (r := ((k + 1 : Nat) : Int)) w hT rfl rfl rfl (sum64 (by omega) (by omega)))) ?_
  clear hT; intro a hT
  refine Sx.st_call hT rfl rfl rfl rfl rfl Try.can26 rfl (mailDelete ad rs.length c k (k + 1) (rs.flatMap RM.cells) _ h.row (flat_one RM.one rs) (by omega) (by omega) (by omega)) ?_
  have hal := h.all
  have hp9 := h.blk
  rintro _ w2 ⟨rfl, hr2, E⟩
  refine ⟨_, rfl, ?_⟩
  clear hT; intro a hT
  replace X := X.trans E (fun i _ hi => (hino i hi).1)
  replace hp := hp9.ext E (fun h9 => (hino _ h9).2 rfl)
  have hall := ((hal.take k).append (hal.drop (k + 1))).ext E (fun r hr h0 => (hind r (mem_td hr) h0).2.2)
  rw [flat_take RM.len, flat_drop RM.len, ← List.flatMap_append] at hr2
  clear h hal hp9 E
  refine Sx.st_take hT rfl rfl rfl rfl (Sx.x_nilCheck hT rfl rfl) ?_
  clear hT; intro a hT
  refine Sx.st_take hT rfl rfl rfl rfl (Sx.x_fieldAddr hT rfl Try.fa57_1 rfl) ?_
  clear hT; intro a hT
  refine Sx.st_act hT rfl rfl rfl (Sx.y_store1 hT rfl Try.ti52 rfl rfl rfl hp rfl) ?_
  rintro w3 ⟨Nhp, E, z⟩
  replace X := X.trans E (fun i _ hi => by unfold Sx.One at hi; subst hi; exact hinp)
  replace hr2 := hr2.ext E (fun k hk => (hino k hk).2)
  replace hall := hall.ext E (fun r hr h0 => (hind r (mem_td hr) h0).2.1)
  replace hp := Nhp; clear Nhp E
  replace hT := hT.keep [8, 4, 0, 1] rfl
  refine Sx.ser_nil ?_
  refine Sx.then_normal (hK4 _ _ ?_)
  clear hK4
  refine wp_seq_k fun K5 hK5 => ?_
  -- region 4 (net.go:70)
  refine Sx.wp_text [(0, .take)] rfl ?_
  refine Sx.st_take hT rfl rfl rfl rfl (Sx.x_assign hT rfl rfl) ?_
  clear hT; intro a hT
  replace hT := hT.keep [4, 8, 0, 1] rfl
  refine Sx.ser_nil ?_
  refine Sx.then_normal (hK5 _ _ ?_)
  clear hK5
  refine wp_ret ?_
  refine Sx.done1 (fn := Try.f21) hT rfl (.tmp (hT.get 4 _ rfl)) ?_
  have hz := X.size
  exact ⟨rfl, Net.mk' (rs := rs.take k ++ rs.drop (k + 1)) hp (by simp; omega) hr2 hall hinp hino (fun r hr h0 => hind r (mem_td hr) h0) (fun k hk => by have := hlt k hk; omega) hfe (by simp; omega), X⟩

end Go.Proofs.Ytgcelppbbjokeaa
