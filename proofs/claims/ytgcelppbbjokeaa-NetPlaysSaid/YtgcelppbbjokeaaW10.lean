/- Walks: Send of both nets. -/
import Derived.Test.YtgcelppbbjokeaaW9
import Derived.Test.YtgcelppbbjokeaaSxJ
set_option linter.unusedSimpArgs false
set_option linter.unusedVariables false
namespace Go.Proofs.Ytgcelppbbjokeaa
open Sx

theorem does_send_full {p q : Nat} {room : Int} {ms : List Mail} {F G : Nat → Prop} (w : World) (hn : Net w p room ms F) (hx : XNet w q room ms G) (hdis : ∀ k, F k → ¬ G k) (r : ROp) (hkind : r.kind = 1) (o : OpV) (hr : r.is w o) (hsm : o.data.length ≤ 20000) (hdr : 0 < r.n → ¬ F (ab r.ad) ∧ ¬ G (ab r.ad)) (hfull : room ≤ ms.length) :
    Calls Try.prog 19 #[.pointer (some ⟨p, 0, none⟩), .pointer (some ⟨q, 0, none⟩), .agg #[.int .i64 r.kind, .int .i64 r.a, .int .i64 r.b, .slice r.ad r.n r.c]] w fun e w' => e = .returned (.bool true) ∧ Both w w' p q room F G := by
  have hFl := hn.lt
  have hGl := hx.lt
  have hqG := hx.inp
  have hpq : ∀ k, F k → k ≠ q := fun k hk h9 => hdis k hk (h9 ▸ hqG)
  have hbs := hr.bs
  have hrn := hr.n
  have hbw : 0 < o.data.length → ab r.ad < w.heap.size := fun h0 => hbs.lt h0
  obtain ⟨ecode, hec⟩ : ∃ e : Int, e = 11 := ⟨11, rfl⟩
  refine Sx.calls_into Try.func19 rfl Try.ntmps19 rfl fun a hT => ?_
  replace hT := hT.keep [0, 1, 2] rfl
  have X : Sx.Ext ((fun k => F k ∨ G k)) w w := Sx.Ext.refl _ _
  refine wp_seq_k fun K1 hK1 => ?_
  -- region 0 (law.go:48)
  refine Sx.wp_text [(0, .run), (1, .take)] rfl ?_
  refine Sx.st_eff hT rfl rfl rfl rfl (Sx.y_box hT rfl rfl rfl _) ?_
  clear hT; rintro _ w1 ⟨b1, rfl, N⟩ a hT
  have hb1 : w.heap.size ≤ b1 := by rw [N.at_]; exact X.size
  try (have hf_b1 := fun k hk => Nat.lt_of_lt_of_le (hn.lt k hk) (Nat.le_of_eq N.at_.symm))
  try (have hg_b1 := fun k hk => Nat.lt_of_lt_of_le (hx.lt k hk) (Nat.le_of_eq N.at_.symm))
  try (have hs_b1 := fun h0 => Nat.lt_of_lt_of_le (hbs.lt h0) (Nat.le_of_eq N.at_.symm))
  replace X := X.step N.ext
  replace hn := hn.ext_no N.ext
  replace hx := hx.ext_no N.ext
  replace hbs := hbs.ext_no N.ext
  have B1 := N.blk
  clear N
  refine Sx.st_take hT rfl rfl rfl rfl (Sx.x_assign hT rfl rfl) ?_
  clear hT; intro a hT
  replace hT := hT.keep [6, 5, 0, 1, 2] rfl
  refine Sx.ser_nil ?_
  refine Sx.then_normal (hK1 _ _ ?_)
  clear hK1
  refine wp_seq_k fun K2 hK2 => ?_
  refine wp_seq_k fun K3 hK3 => ?_
  -- region 1 (law.go:49)
  refine Sx.wp_text [(0, .take), (1, .run)] rfl ?_
  refine Sx.st_take hT rfl rfl rfl rfl (Sx.x_fieldAddr hT rfl Try.fa32_0 rfl) ?_
  clear hT; intro a hT
  refine Sx.st_run hT rfl rfl rfl rfl (Sx.x_load1 hT rfl Try.fl3 rfl (by first | exact (B1).nth rfl)) ?_
  clear hT; intro a hT
  replace hT := hT.keep [19, 6, 5, 0, 1, 2] rfl
  refine Sx.ser_nil ?_
  refine Sx.then_normal (hK3 _ _ ?_)
  clear hK3
  refine wp_block ?_
  refine wp_seq_k fun K4 hK4 => ?_
  -- region 2 (law.go:50)
  refine Sx.wp_text [(0, .take), (1, .take)] rfl ?_
  refine Sx.st_take hT rfl rfl rfl rfl ((fun w => Sx.x_eq w hT rfl rfl rfl)) ?_
  clear hT; intro a hT
  refine Sx.st_take hT rfl rfl rfl rfl (Sx.x_assign hT rfl rfl) ?_
  clear hT; intro a hT
  replace hT := hT.keep [20, 19, 6, 5, 0, 1, 2] rfl
  refine Sx.ser_nil ?_
  refine Sx.then_normal (hK4 _ _ ?_)
  clear hK4
  -- cond 0
  refine Sx.wp_if hT rfl (fun hc5 => ?_) (fun hc5 => ?_)
  · try simp only [decide_eq_true_eq, decide_eq_false_iff_not, Bool.not_eq_true', Bool.not_eq_false', Bool.not_eq_true, Bool.not_eq_false, Bool.and_eq_true, Bool.or_eq_false_iff, beq_iff_eq, bne_iff_ne, Int.not_lt, Int.not_le, ne_eq] at hc5
    refine wp_seq_k fun K6 hK6 => ?_
    -- region 3 (law.go:51)
    refine Sx.wp_text [(0, .take), (1, .run), (2, .run), (3, .take)] rfl ?_
    refine Sx.st_take hT rfl rfl rfl rfl (Sx.x_fieldAddr hT rfl Try.fa32_3 rfl) ?_
    clear hT; intro a hT
    refine Sx.st_run hT rfl rfl rfl rfl (Sx.x_load1 hT rfl Try.fl30 rfl (by first | exact (B1).nth rfl)) ?_
    clear hT; intro a hT
    refine Sx.st_call hT rfl rfl rfl rfl rfl Try.can28 rfl (CopyBytes_calls r.ad r.n r.c o.data _ hbs hrn (by omega)) ?_
    have hz1 := X.size
    have hnl := hn.lt
    have hxl := hx.lt
    have hbl := B1.lt
    rintro _ w2 ⟨ad3, c3, rfl, hR, hO, E⟩
    refine ⟨_, rfl, ?_⟩
    clear hT; intro a hT
    replace X := X.step E
    replace B1 := B1.ext_no E
    replace hn := hn.ext_no E
    replace hx := hx.ext_no E
    replace hbs := hbs.ext_no E
    have hO1 : ∀ k, Own ad3 k → ¬ F k ∧ ¬ G k ∧ k ≠ b1 ∧ w.heap.size ≤ k := fun k hk => by
      have := hO k hk
      exact ⟨fun h9 => by have := hnl k h9; omega, fun h9 => by have := hxl k h9; omega, by omega, by omega⟩
    have hRn := hR.nil'
    clear hO hnl hxl
    refine Sx.st_take hT rfl rfl rfl rfl (Sx.x_assign hT rfl rfl) ?_
    clear hT; intro a hT
    replace hT := hT.keep [7, 20, 19, 6, 5, 0, 1, 2] rfl
    refine Sx.ser_nil ?_
    refine Sx.then_normal (hK6 _ _ ?_)
    clear hK6
    refine wp_seq_k fun K7 hK7 => ?_
    -- region 4 (law.go:52)
    refine Sx.wp_text [(0, .take), (1, .take), (2, .run), (3, .take), (4, .run), (5, .take), (6, .run), (7, .take)] rfl ?_
    refine Sx.st_take hT rfl rfl rfl rfl (Sx.x_move hT rfl rfl) ?_
    clear hT; intro a hT
    refine Sx.st_take hT rfl rfl rfl rfl (Sx.x_fieldAddr hT rfl Try.fa32_1 rfl) ?_
    clear hT; intro a hT
    refine Sx.st_run hT rfl rfl rfl rfl (Sx.x_load1 hT rfl Try.fl3 rfl (by first | exact (B1).nth rfl)) ?_
    clear hT; intro a hT
    refine Sx.st_take hT rfl rfl rfl rfl (Sx.x_fieldAddr hT rfl Try.fa32_2 rfl) ?_
    clear hT; intro a hT
    refine Sx.st_run hT rfl rfl rfl rfl (Sx.x_load1 hT rfl Try.fl3 rfl (by first | exact (B1).nth rfl)) ?_
    clear hT; intro a hT
    refine Sx.st_take hT rfl rfl rfl rfl (Sx.x_move hT rfl rfl) ?_
    clear hT; intro a hT
    refine Sx.st_call hT rfl rfl rfl rfl rfl Try.can10 rfl (nSend_full hn r.a r.b ad3 r.n c3 hfull) ?_
    rintro _ w3 ⟨rfl, E⟩
    refine ⟨_, rfl, ?_⟩
    clear hT; intro a hT
    replace X := X.step E
    replace B1 := B1.ext_no E
    replace hn := hn.ext_no E
    replace hx := hx.ext_no E
    replace hbs := hbs.ext_no E
    replace hR := hR.ext_no E
    rw [← hec] at hT
    refine Sx.st_take hT rfl rfl rfl rfl (Sx.x_assign hT rfl rfl) ?_
    clear hT; intro a hT
    replace hT := hT.keep [8, 7, 20, 19, 6, 5, 0, 1, 2] rfl
    refine Sx.ser_nil ?_
    refine Sx.then_normal (hK7 _ _ ?_)
    clear hK7
    refine wp_seq_k fun K8 hK8 => ?_
    refine wp_seq_k fun K9 hK9 => ?_
    -- region 5 (law.go:53)
    refine Sx.wp_text [(0, .take)] rfl ?_
    refine Sx.st_take hT rfl rfl rfl rfl (Sx.x_assign hT rfl rfl) ?_
    clear hT; intro a hT
    replace hT := hT.keep [9, 8, 7, 20, 19, 6, 5, 0, 1, 2] rfl
    refine Sx.ser_nil ?_
    refine Sx.then_normal (hK9 _ _ ?_)
    clear hK9
    refine wp_block ?_
    -- loop 0
    refine Sx.wp_while (G := Nat × List Value) (fun g a w4 => g.1 ≤ r.n ∧ Ext (fun k => F k ∨ G k) w w4 ∧ Net w4 p room (ms) F ∧ XNet w4 q room ms G ∧ Bs w4 r.ad o.data ∧ Blk w4 b1 [.int .i64 r.kind, .int .i64 r.a, .int .i64 r.b, .slice r.ad r.n r.c] 32 ∧ Row w4 5 1 ad3 o.data.length c3 g.2 ∧ Sl 148 [(0, .pointer (some ⟨p, 0, none⟩)), (1, .pointer (some ⟨q, 0, none⟩)), (5, .pointer (some ⟨b1, 0, none⟩)), (7, .slice ad3 r.n c3), (8, .int .i64 ecode), (9, .int .i64 g.1)] a) (fun g => r.n - g.1) (0, bcells o.data) ?_ ?_
    · exact ⟨Nat.zero_le _, X, hn, hx, hbs, B1, hR, hT.keep [0, 1, 5, 7, 8, 9] rfl⟩
    clear hT X hn hx hbs B1 hR
    rintro ⟨k, xs⟩ a w4 hI
    obtain ⟨hk, X, hn, hx, hbs, B1, hR, hT⟩ := hI
    dsimp only at hk hR hT
    refine wp_seq_k fun K10 hK10 => ?_
    refine wp_seq_k fun K11 hK11 => ?_
    -- region 6 (law.go:53)
    refine Sx.wp_text [(0, .take), (1, .take), (2, .take), (3, .take)] rfl ?_
    refine Sx.st_take hT rfl rfl rfl rfl (Sx.x_move hT rfl rfl) ?_
    clear hT; intro a hT
    refine Sx.st_take hT rfl rfl rfl rfl (Sx.x_move hT rfl rfl) ?_
    clear hT; intro a hT
    refine Sx.st_take hT rfl rfl rfl rfl (Sx.x_len_slice hT rfl rfl Try.underlying30 rfl) ?_
    clear hT; intro a hT
    refine Sx.st_take hT rfl rfl rfl rfl ((fun w => Sx.x_lt w hT rfl rfl rfl)) ?_
    clear hT; intro a hT
    replace hT := hT.keep [35, 0, 1, 5, 7, 8, 9] rfl
    refine Sx.ser_nil ?_
    refine Sx.then_normal (hK11 _ _ ?_)
    clear hK11
    -- cond 1
    refine Sx.wp_if hT rfl (fun hc12 => ?_) (fun hc12 => ?_)
    · try simp only [decide_eq_true_eq, decide_eq_false_iff_not, Bool.not_eq_true', Bool.not_eq_false', Bool.not_eq_true, Bool.not_eq_false, Bool.and_eq_true, Bool.or_eq_false_iff, beq_iff_eq, bne_iff_ne, Int.not_lt, Int.not_le, ne_eq] at hc12
      refine wp_skip ?_
      refine Sx.then_normal (hK10 _ _ ?_)
      clear hK10
      refine wp_seq_k fun K13 hK13 => ?_
      refine wp_block ?_
      -- region 8 (law.go:54)
      refine Sx.wp_text [(0, .take), (1, .take), (2, .take), (3, .run)] rfl ?_
      refine Sx.st_take hT rfl rfl rfl rfl (Sx.x_move hT rfl rfl) ?_
      clear hT; intro a hT
      refine Sx.st_take hT rfl rfl rfl rfl (Sx.x_move hT rfl rfl) ?_
      clear hT; intro a hT
      refine Sx.st_take hT rfl rfl rfl rfl (Sx.x_index hT rfl Try.underlying30 Try.ti5 (by first | exact (by rw [hrn]; exact hR.sv)) rfl rfl rfl (by omega)) ?_
      clear hT; intro a hT
      refine Sx.st_act hT rfl rfl rfl (Sx.x_storeRow (k := k) hT rfl Try.ti5 rfl rfl rfl hR (by omega)) ?_
      rintro w88 ⟨hR2, E, z⟩
      replace X := X.trans E (fun i hi h9 => absurd hi (by have := (hO1 i h9).2.2.2; omega))
      replace hn := hn.ext E (fun i hi h9 => (hO1 i h9).1 hi)
      replace hx := hx.ext E (fun i hi h9 => (hO1 i h9).2.1 hi)
      replace hbs := hbs.ext E (fun h0 h9 => by have := (hO1 _ h9).2.2.2; have := hbw h0; omega)
      replace B1 := B1.ext E (fun h9 => (hO1 _ h9).2.2.1 rfl)
      clear hR E
      replace hT := hT.keep [35, 0, 1, 5, 7, 8, 9] rfl
      refine Sx.ser_nil ?_
      refine Sx.block_normal ?_
      refine Sx.then_normal (hK13 _ _ ?_)
      clear hK13
      -- region 7 (law.go:53)
      refine Sx.wp_text [(0, .take), (1, .take), (2, .take)] rfl ?_
      refine Sx.st_take hT rfl rfl rfl rfl (Sx.x_move hT rfl rfl) ?_
      clear hT; intro a hT
      refine Sx.st_take hT rfl rfl rfl rfl ((fun w => Sx.x_add w hT rfl rfl rfl (Sx.wrap64 (by omega)))) ?_
      clear hT; intro a hT
      refine Sx.st_take hT rfl rfl rfl rfl (Sx.x_assign hT rfl rfl) ?_
      clear hT; intro a hT
      replace hT := hT.keep [9, 35, 0, 1, 5, 7, 8] rfl
      refine Sx.ser_nil ?_
      refine Sx.then_normal ?_
      exact ⟨(k + 1, _), ⟨by show k + 1 ≤ _; omega, X, hn, hx, hbs, B1, hR2, (hT.keep [0, 1, 5, 7, 8, 9] rfl)⟩, by show _ - (k + 1) < _ - k; omega⟩
    · try simp only [decide_eq_true_eq, decide_eq_false_iff_not, Bool.not_eq_true', Bool.not_eq_false', Bool.not_eq_true, Bool.not_eq_false, Bool.and_eq_true, Bool.or_eq_false_iff, beq_iff_eq, bne_iff_ne, Int.not_lt, Int.not_le, ne_eq] at hc12
      refine wp_exit ?_
      refine Sx.then_exit ?_
      refine Sx.then_exit ?_
      refine Sx.block_exit ?_
      refine Sx.then_normal (hK8 _ _ ?_)
      clear hK8
      refine wp_seq_k fun K14 hK14 => ?_
      -- region 9 (law.go:56)
      refine Sx.wp_text [(0, .take), (1, .take), (2, .take), (3, .run), (4, .take), (5, .run), (6, .take), (7, .run), (8, .run), (9, .take), (10, .take)] rfl ?_
      refine Sx.st_take hT rfl rfl rfl rfl (Sx.x_move hT rfl rfl) ?_
      clear hT; intro a hT
      refine Sx.st_take hT rfl rfl rfl rfl (Sx.x_move hT rfl rfl) ?_
      clear hT; intro a hT
      refine Sx.st_take hT rfl rfl rfl rfl (Sx.x_fieldAddr hT rfl Try.fa32_1 rfl) ?_
      clear hT; intro a hT
      refine Sx.st_run hT rfl rfl rfl rfl (Sx.x_load1 hT rfl Try.fl3 rfl (by first | exact (B1).nth rfl)) ?_
      clear hT; intro a hT
      refine Sx.st_take hT rfl rfl rfl rfl (Sx.x_fieldAddr hT rfl Try.fa32_2 rfl) ?_
      clear hT; intro a hT
      refine Sx.st_run hT rfl rfl rfl rfl (Sx.x_load1 hT rfl Try.fl3 rfl (by first | exact (B1).nth rfl)) ?_
      clear hT; intro a hT
      refine Sx.st_take hT rfl rfl rfl rfl (Sx.x_fieldAddr hT rfl Try.fa32_3 rfl) ?_
      clear hT; intro a hT
      refine Sx.st_run hT rfl rfl rfl rfl (Sx.x_load1 hT rfl Try.fl30 rfl (by first | exact (B1).nth rfl)) ?_
      clear hT; intro a hT
      refine Sx.st_call hT rfl rfl rfl rfl rfl Try.can29 rfl (zSend_full hx r.a r.b r.ad r.n r.c hfull) ?_
      rintro _ w5 ⟨rfl, E⟩
      refine ⟨_, rfl, ?_⟩
      clear hT; intro a hT
      replace X := X.step E
      replace B1 := B1.ext_no E
      replace hn := hn.ext_no E
      replace hx := hx.ext_no E
      replace hbs := hbs.ext_no E
      replace hR := hR.ext_no E
      refine Sx.st_take hT rfl rfl rfl rfl ((fun w => Sx.x_eq w hT rfl rfl rfl)) ?_
      clear hT; intro a hT
      refine Sx.st_take hT rfl rfl rfl rfl (Sx.x_assign hT rfl rfl) ?_
      clear hT; intro a hT
      replace hT := hT.keep [6, 35, 0, 1, 5, 7, 8, 9] rfl
      refine Sx.ser_nil ?_
      refine Sx.then_normal (hK14 _ _ ?_)
      clear hK14
      refine wp_ret ?_
      refine Sx.block_ret ?_
      refine Sx.then_ret ?_
      refine Sx.done1 (fn := Try.f19) hT rfl (.tmp (hT.get 6 _ rfl)) ?_
      exact ⟨congrArg (fun b => Ending.returned (.bool b)) (by simp [hec]), ms, F, G, hn, hx, hdis, fun k h => .inl h, fun k h => .inl h, X⟩
  · exfalso
    try simp only [decide_eq_true_eq, decide_eq_false_iff_not, Bool.not_eq_true', Bool.not_eq_false', Bool.not_eq_true, Bool.not_eq_false, Bool.and_eq_true, Bool.or_eq_false_iff, beq_iff_eq, bne_iff_ne, Int.not_lt, Int.not_le, ne_eq] at hc5
    first | omega | simp at hc5

theorem does_send_ok {p q : Nat} {room : Int} {ms : List Mail} {F G : Nat → Prop} (w : World) (hn : Net w p room ms F) (hx : XNet w q room ms G) (hdis : ∀ k, F k → ¬ G k) (r : ROp) (hkind : r.kind = 1) (o : OpV) (hr : r.is w o) (hsm : o.data.length ≤ 20000) (hdr : 0 < r.n → ¬ F (ab r.ad) ∧ ¬ G (ab r.ad)) (hroom : ms.length < room) :
    Calls Try.prog 19 #[.pointer (some ⟨p, 0, none⟩), .pointer (some ⟨q, 0, none⟩), .agg #[.int .i64 r.kind, .int .i64 r.a, .int .i64 r.b, .slice r.ad r.n r.c]] w fun e w' => e = .returned (.bool true) ∧ Both w w' p q room F G := by
  have hFl := hn.lt
  have hGl := hx.lt
  have hqG := hx.inp
  have hpq : ∀ k, F k → k ≠ q := fun k hk h9 => hdis k hk (h9 ▸ hqG)
  have hbs := hr.bs
  have hrn := hr.n
  have hbw : 0 < o.data.length → ab r.ad < w.heap.size := fun h0 => hbs.lt h0
  obtain ⟨ecode, hec⟩ : ∃ e : Int, e = 0 := ⟨0, rfl⟩
  refine Sx.calls_into Try.func19 rfl Try.ntmps19 rfl fun a hT => ?_
  replace hT := hT.keep [0, 1, 2] rfl
  have X : Sx.Ext ((fun k => F k ∨ G k)) w w := Sx.Ext.refl _ _
  refine wp_seq_k fun K1 hK1 => ?_
  -- region 0 (law.go:48)
  refine Sx.wp_text [(0, .run), (1, .take)] rfl ?_
  refine Sx.st_eff hT rfl rfl rfl rfl (Sx.y_box hT rfl rfl rfl _) ?_
  clear hT; rintro _ w1 ⟨b1, rfl, N⟩ a hT
  have hb1 : w.heap.size ≤ b1 := by rw [N.at_]; exact X.size
  try (have hf_b1 := fun k hk => Nat.lt_of_lt_of_le (hn.lt k hk) (Nat.le_of_eq N.at_.symm))
  try (have hg_b1 := fun k hk => Nat.lt_of_lt_of_le (hx.lt k hk) (Nat.le_of_eq N.at_.symm))
  try (have hs_b1 := fun h0 => Nat.lt_of_lt_of_le (hbs.lt h0) (Nat.le_of_eq N.at_.symm))
  replace X := X.step N.ext
  replace hn := hn.ext_no N.ext
  replace hx := hx.ext_no N.ext
  replace hbs := hbs.ext_no N.ext
  have B1 := N.blk
  clear N
  refine Sx.st_take hT rfl rfl rfl rfl (Sx.x_assign hT rfl rfl) ?_
  clear hT; intro a hT
  replace hT := hT.keep [6, 5, 0, 1, 2] rfl
  refine Sx.ser_nil ?_
  refine Sx.then_normal (hK1 _ _ ?_)
  clear hK1
  refine wp_seq_k fun K2 hK2 => ?_
  refine wp_seq_k fun K3 hK3 => ?_
  -- region 1 (law.go:49)
  refine Sx.wp_text [(0, .take), (1, .run)] rfl ?_
  refine Sx.st_take hT rfl rfl rfl rfl (Sx.x_fieldAddr hT rfl Try.fa32_0 rfl) ?_
  clear hT; intro a hT
  refine Sx.st_run hT rfl rfl rfl rfl (Sx.x_load1 hT rfl Try.fl3 rfl (by first | exact (B1).nth rfl)) ?_
  clear hT; intro a hT
  replace hT := hT.keep [19, 6, 5, 0, 1, 2] rfl
  refine Sx.ser_nil ?_
  refine Sx.then_normal (hK3 _ _ ?_)
  clear hK3
  refine wp_block ?_
  refine wp_seq_k fun K4 hK4 => ?_
  -- region 2 (law.go:50)
  refine Sx.wp_text [(0, .take), (1, .take)] rfl ?_
  refine Sx.st_take hT rfl rfl rfl rfl ((fun w => Sx.x_eq w hT rfl rfl rfl)) ?_
  clear hT; intro a hT
  refine Sx.st_take hT rfl rfl rfl rfl (Sx.x_assign hT rfl rfl) ?_
  clear hT; intro a hT
  replace hT := hT.keep [20, 19, 6, 5, 0, 1, 2] rfl
  refine Sx.ser_nil ?_
  refine Sx.then_normal (hK4 _ _ ?_)
  clear hK4
  -- cond 0
  refine Sx.wp_if hT rfl (fun hc5 => ?_) (fun hc5 => ?_)
  · try simp only [decide_eq_true_eq, decide_eq_false_iff_not, Bool.not_eq_true', Bool.not_eq_false', Bool.not_eq_true, Bool.not_eq_false, Bool.and_eq_true, Bool.or_eq_false_iff, beq_iff_eq, bne_iff_ne, Int.not_lt, Int.not_le, ne_eq] at hc5
    refine wp_seq_k fun K6 hK6 => ?_
    -- region 3 (law.go:51)
    refine Sx.wp_text [(0, .take), (1, .run), (2, .run), (3, .take)] rfl ?_
    refine Sx.st_take hT rfl rfl rfl rfl (Sx.x_fieldAddr hT rfl Try.fa32_3 rfl) ?_
    clear hT; intro a hT
    refine Sx.st_run hT rfl rfl rfl rfl (Sx.x_load1 hT rfl Try.fl30 rfl (by first | exact (B1).nth rfl)) ?_
    clear hT; intro a hT
    refine Sx.st_call hT rfl rfl rfl rfl rfl Try.can28 rfl (CopyBytes_calls r.ad r.n r.c o.data _ hbs hrn (by omega)) ?_
    have hz1 := X.size
    have hnl := hn.lt
    have hxl := hx.lt
    have hbl := B1.lt
    rintro _ w2 ⟨ad3, c3, rfl, hR, hO, E⟩
    refine ⟨_, rfl, ?_⟩
    clear hT; intro a hT
    replace X := X.step E
    replace B1 := B1.ext_no E
    replace hn := hn.ext_no E
    replace hx := hx.ext_no E
    replace hbs := hbs.ext_no E
    have hO1 : ∀ k, Own ad3 k → ¬ F k ∧ ¬ G k ∧ k ≠ b1 ∧ w.heap.size ≤ k := fun k hk => by
      have := hO k hk
      exact ⟨fun h9 => by have := hnl k h9; omega, fun h9 => by have := hxl k h9; omega, by omega, by omega⟩
    have hRn := hR.nil'
    clear hO hnl hxl
    refine Sx.st_take hT rfl rfl rfl rfl (Sx.x_assign hT rfl rfl) ?_
    clear hT; intro a hT
    replace hT := hT.keep [7, 20, 19, 6, 5, 0, 1, 2] rfl
    refine Sx.ser_nil ?_
    refine Sx.then_normal (hK6 _ _ ?_)
    clear hK6
    refine wp_seq_k fun K7 hK7 => ?_
    -- region 4 (law.go:52)
    refine Sx.wp_text [(0, .take), (1, .take), (2, .run), (3, .take), (4, .run), (5, .take), (6, .run), (7, .take)] rfl ?_
    refine Sx.st_take hT rfl rfl rfl rfl (Sx.x_move hT rfl rfl) ?_
    clear hT; intro a hT
    refine Sx.st_take hT rfl rfl rfl rfl (Sx.x_fieldAddr hT rfl Try.fa32_1 rfl) ?_
    clear hT; intro a hT
    refine Sx.st_run hT rfl rfl rfl rfl (Sx.x_load1 hT rfl Try.fl3 rfl (by first | exact (B1).nth rfl)) ?_
    clear hT; intro a hT
    refine Sx.st_take hT rfl rfl rfl rfl (Sx.x_fieldAddr hT rfl Try.fa32_2 rfl) ?_
    clear hT; intro a hT
    refine Sx.st_run hT rfl rfl rfl rfl (Sx.x_load1 hT rfl Try.fl3 rfl (by first | exact (B1).nth rfl)) ?_
    clear hT; intro a hT
    refine Sx.st_take hT rfl rfl rfl rfl (Sx.x_move hT rfl rfl) ?_
    clear hT; intro a hT
    refine Sx.st_call hT rfl rfl rfl rfl rfl Try.can10 rfl (nSend_ok hn r.a r.b ad3 r.n c3 o.data hroom hR.bs hrn (fun h9 => by have := hRn h9; omega) (by omega)) ?_
    have hz2 := X.size
    have hRl := hR.lt
    have hxl := hx.lt
    rintro _ w3 ⟨rfl, hn2, E⟩
    refine ⟨_, rfl, ?_⟩
    clear hT; intro a hT
    replace X := X.trans E (fun k _ h9 => .inl h9)
    replace hx := hx.ext E (fun k hk h9 => hdis k h9 hk)
    replace hbs := hbs.ext E (fun h0 h9 => (hdr (by omega)).1 h9)
    replace B1 := B1.ext E (fun h9 => by have := hf_b1 _ h9; omega)
    replace hR := hR.ext E (fun k hk h9 => (hO1 k hk).1 h9)
    have hA : ∃ F2 : Nat → Prop, Net _ p room (ms ++ [⟨r.a, r.b, o.data⟩]) F2 ∧ (∀ k, F2 k → F k ∨ w.heap.size ≤ k) ∧ (∀ k, F2 k → ¬ G k) ∧ (∀ k, Own ad3 k → ¬ F2 k) := ⟨_, hn2, fun k hk => hk.imp id (fun h9 => by omega), fun k hk hg => hk.elim (fun h9 => hdis k h9 hg) (fun h9 => by have := hxl k hg; omega), fun k hk hg => hg.elim (hO1 k hk).1 (fun h9 => by have := hRl k hk; omega)⟩
    obtain ⟨F2, hn3, hF2, hdis2, hO2⟩ := hA
    clear hn2 hn E
    have hn := hn3
    clear hn3
    rw [← hec] at hT
    refine Sx.st_take hT rfl rfl rfl rfl (Sx.x_assign hT rfl rfl) ?_
    clear hT; intro a hT
    replace hT := hT.keep [8, 7, 20, 19, 6, 5, 0, 1, 2] rfl
    refine Sx.ser_nil ?_
    refine Sx.then_normal (hK7 _ _ ?_)
    clear hK7
    refine wp_seq_k fun K8 hK8 => ?_
    refine wp_seq_k fun K9 hK9 => ?_
    -- region 5 (law.go:53)
    refine Sx.wp_text [(0, .take)] rfl ?_
    refine Sx.st_take hT rfl rfl rfl rfl (Sx.x_assign hT rfl rfl) ?_
    clear hT; intro a hT
    replace hT := hT.keep [9, 8, 7, 20, 19, 6, 5, 0, 1, 2] rfl
    refine Sx.ser_nil ?_
    refine Sx.then_normal (hK9 _ _ ?_)
    clear hK9
    refine wp_block ?_
    -- loop 0
    refine Sx.wp_while (G := Nat × List Value) (fun g a w4 => g.1 ≤ r.n ∧ Ext (fun k => F k ∨ G k) w w4 ∧ Net w4 p room (ms ++ [⟨r.a, r.b, o.data⟩]) F2 ∧ XNet w4 q room ms G ∧ Bs w4 r.ad o.data ∧ Blk w4 b1 [.int .i64 r.kind, .int .i64 r.a, .int .i64 r.b, .slice r.ad r.n r.c] 32 ∧ Row w4 5 1 ad3 o.data.length c3 g.2 ∧ Sl 148 [(0, .pointer (some ⟨p, 0, none⟩)), (1, .pointer (some ⟨q, 0, none⟩)), (5, .pointer (some ⟨b1, 0, none⟩)), (7, .slice ad3 r.n c3), (8, .int .i64 ecode), (9, .int .i64 g.1)] a) (fun g => r.n - g.1) (0, bcells o.data) ?_ ?_
    · exact ⟨Nat.zero_le _, X, hn, hx, hbs, B1, hR, hT.keep [0, 1, 5, 7, 8, 9] rfl⟩
    clear hT X hn hx hbs B1 hR
    rintro ⟨k, xs⟩ a w4 hI
    obtain ⟨hk, X, hn, hx, hbs, B1, hR, hT⟩ := hI
    dsimp only at hk hR hT
    refine wp_seq_k fun K10 hK10 => ?_
    refine wp_seq_k fun K11 hK11 => ?_
    -- region 6 (law.go:53)
    refine Sx.wp_text [(0, .take), (1, .take), (2, .take), (3, .take)] rfl ?_
    refine Sx.st_take hT rfl rfl rfl rfl (Sx.x_move hT rfl rfl) ?_
    clear hT; intro a hT
    refine Sx.st_take hT rfl rfl rfl rfl (Sx.x_move hT rfl rfl) ?_
    clear hT; intro a hT
    refine Sx.st_take hT rfl rfl rfl rfl (Sx.x_len_slice hT rfl rfl Try.underlying30 rfl) ?_
    clear hT; intro a hT
    refine Sx.st_take hT rfl rfl rfl rfl ((fun w => Sx.x_lt w hT rfl rfl rfl)) ?_
    clear hT; intro a hT
    replace hT := hT.keep [35, 0, 1, 5, 7, 8, 9] rfl
    refine Sx.ser_nil ?_
    refine Sx.then_normal (hK11 _ _ ?_)
    clear hK11
    -- cond 1
    refine Sx.wp_if hT rfl (fun hc12 => ?_) (fun hc12 => ?_)
    · try simp only [decide_eq_true_eq, decide_eq_false_iff_not, Bool.not_eq_true', Bool.not_eq_false', Bool.not_eq_true, Bool.not_eq_false, Bool.and_eq_true, Bool.or_eq_false_iff, beq_iff_eq, bne_iff_ne, Int.not_lt, Int.not_le, ne_eq] at hc12
      refine wp_skip ?_
      refine Sx.then_normal (hK10 _ _ ?_)
      clear hK10
      refine wp_seq_k fun K13 hK13 => ?_
      refine wp_block ?_
      -- region 8 (law.go:54)
      refine Sx.wp_text [(0, .take), (1, .take), (2, .take), (3, .run)] rfl ?_
      refine Sx.st_take hT rfl rfl rfl rfl (Sx.x_move hT rfl rfl) ?_
      clear hT; intro a hT
      refine Sx.st_take hT rfl rfl rfl rfl (Sx.x_move hT rfl rfl) ?_
      clear hT; intro a hT
      refine Sx.st_take hT rfl rfl rfl rfl (Sx.x_index hT rfl Try.underlying30 Try.ti5 (by first | exact (by rw [hrn]; exact hR.sv)) rfl rfl rfl (by omega)) ?_
      clear hT; intro a hT
      refine Sx.st_act hT rfl rfl rfl (Sx.x_storeRow (k := k) hT rfl Try.ti5 rfl rfl rfl hR (by omega)) ?_
      rintro w88 ⟨hR2, E, z⟩
      replace X := X.trans E (fun i hi h9 => absurd hi (by have := (hO1 i h9).2.2.2; omega))
      replace hn := hn.ext E (fun i hi h9 => hO2 i h9 hi)
      replace hx := hx.ext E (fun i hi h9 => (hO1 i h9).2.1 hi)
      replace hbs := hbs.ext E (fun h0 h9 => by have := (hO1 _ h9).2.2.2; have := hbw h0; omega)
      replace B1 := B1.ext E (fun h9 => (hO1 _ h9).2.2.1 rfl)
      clear hR E
      replace hT := hT.keep [35, 0, 1, 5, 7, 8, 9] rfl
      refine Sx.ser_nil ?_
      refine Sx.block_normal ?_
      refine Sx.then_normal (hK13 _ _ ?_)
      clear hK13
      -- region 7 (law.go:53)
      refine Sx.wp_text [(0, .take), (1, .take), (2, .take)] rfl ?_
      refine Sx.st_take hT rfl rfl rfl rfl (Sx.x_move hT rfl rfl) ?_
      clear hT; intro a hT
      refine Sx.st_take hT rfl rfl rfl rfl ((fun w => Sx.x_add w hT rfl rfl rfl (Sx.wrap64 (by omega)))) ?_
      clear hT; intro a hT
      refine Sx.st_take hT rfl rfl rfl rfl (Sx.x_assign hT rfl rfl) ?_
      clear hT; intro a hT
      replace hT := hT.keep [9, 35, 0, 1, 5, 7, 8] rfl
      refine Sx.ser_nil ?_
      refine Sx.then_normal ?_
      exact ⟨(k + 1, _), ⟨by show k + 1 ≤ _; omega, X, hn, hx, hbs, B1, hR2, (hT.keep [0, 1, 5, 7, 8, 9] rfl)⟩, by show _ - (k + 1) < _ - k; omega⟩
    · try simp only [decide_eq_true_eq, decide_eq_false_iff_not, Bool.not_eq_true', Bool.not_eq_false', Bool.not_eq_true, Bool.not_eq_false, Bool.and_eq_true, Bool.or_eq_false_iff, beq_iff_eq, bne_iff_ne, Int.not_lt, Int.not_le, ne_eq] at hc12
      refine wp_exit ?_
      refine Sx.then_exit ?_
      refine Sx.then_exit ?_
      refine Sx.block_exit ?_
      refine Sx.then_normal (hK8 _ _ ?_)
      clear hK8
      refine wp_seq_k fun K14 hK14 => ?_
      -- region 9 (law.go:56)
      refine Sx.wp_text [(0, .take), (1, .take), (2, .take), (3, .run), (4, .take), (5, .run), (6, .take), (7, .run), (8, .run), (9, .take), (10, .take)] rfl ?_
      refine Sx.st_take hT rfl rfl rfl rfl (Sx.x_move hT rfl rfl) ?_
      clear hT; intro a hT
      refine Sx.st_take hT rfl rfl rfl rfl (Sx.x_move hT rfl rfl) ?_
      clear hT; intro a hT
      refine Sx.st_take hT rfl rfl rfl rfl (Sx.x_fieldAddr hT rfl Try.fa32_1 rfl) ?_
      clear hT; intro a hT
      refine Sx.st_run hT rfl rfl rfl rfl (Sx.x_load1 hT rfl Try.fl3 rfl (by first | exact (B1).nth rfl)) ?_
      clear hT; intro a hT
      refine Sx.st_take hT rfl rfl rfl rfl (Sx.x_fieldAddr hT rfl Try.fa32_2 rfl) ?_
      clear hT; intro a hT
      refine Sx.st_run hT rfl rfl rfl rfl (Sx.x_load1 hT rfl Try.fl3 rfl (by first | exact (B1).nth rfl)) ?_
      clear hT; intro a hT
      refine Sx.st_take hT rfl rfl rfl rfl (Sx.x_fieldAddr hT rfl Try.fa32_3 rfl) ?_
      clear hT; intro a hT
      refine Sx.st_run hT rfl rfl rfl rfl (Sx.x_load1 hT rfl Try.fl30 rfl (by first | exact (B1).nth rfl)) ?_
      clear hT; intro a hT
      refine Sx.st_call hT rfl rfl rfl rfl rfl Try.can29 rfl (zSend_ok hx r.a r.b r.ad r.n r.c o.data hroom hbs hrn (by omega)) ?_
      have hz3 := X.size
      have hnl := hn.lt
      rintro _ w5 ⟨rfl, hx2, E⟩
      refine ⟨_, rfl, ?_⟩
      clear hT; intro a hT
      replace X := X.trans E (fun k _ h9 => .inr h9)
      replace hn := hn.ext E (fun k hk h9 => hdis2 k hk h9)
      have hB : ∃ G2 : Nat → Prop, XNet _ q room (ms ++ [⟨r.a, r.b, o.data⟩]) G2 ∧ (∀ k, G2 k → G k ∨ w.heap.size ≤ k) ∧ (∀ k, F2 k → ¬ G2 k) := ⟨_, hx2, fun k hk => hk.imp id (fun h9 => by omega), fun k hk hg => hg.elim (hdis2 k hk) (fun h9 => by have := hnl k hk; omega)⟩
      obtain ⟨G2, hx3, hG2, hdis3⟩ := hB
      clear hx2 hx E
      have hx := hx3
      clear hx3
      clear hR hbs B1
      refine Sx.st_take hT rfl rfl rfl rfl ((fun w => Sx.x_eq w hT rfl rfl rfl)) ?_
      clear hT; intro a hT
      refine Sx.st_take hT rfl rfl rfl rfl (Sx.x_assign hT rfl rfl) ?_
      clear hT; intro a hT
      replace hT := hT.keep [6, 35, 0, 1, 5, 7, 8, 9] rfl
      refine Sx.ser_nil ?_
      refine Sx.then_normal (hK14 _ _ ?_)
      clear hK14
      refine wp_ret ?_
      refine Sx.block_ret ?_
      refine Sx.then_ret ?_
      refine Sx.done1 (fn := Try.f19) hT rfl (.tmp (hT.get 6 _ rfl)) ?_
      exact ⟨congrArg (fun b => Ending.returned (.bool b)) (by simp [hec]), _, F2, G2, hn, hx, hdis3, hF2, hG2, X⟩
  · exfalso
    try simp only [decide_eq_true_eq, decide_eq_false_iff_not, Bool.not_eq_true', Bool.not_eq_false', Bool.not_eq_true, Bool.not_eq_false, Bool.and_eq_true, Bool.or_eq_false_iff, beq_iff_eq, bne_iff_ne, Int.not_lt, Int.not_le, ne_eq] at hc5
    first | omega | simp at hc5

theorem does_calls {p q : Nat} {room : Int} {ms : List Mail} {F G : Nat → Prop} (w : World) (hn : Net w p room ms F) (hx : XNet w q room ms G) (hdis : ∀ k, F k → ¬ G k) (r : ROp) (o : OpV) (hr : r.is w o) (hsm : o.data.length ≤ 20000) (hdr : 0 < r.n → ¬ F (ab r.ad) ∧ ¬ G (ab r.ad)) :
    Calls Try.prog 19 #[.pointer (some ⟨p, 0, none⟩), .pointer (some ⟨q, 0, none⟩), .agg #[.int .i64 r.kind, .int .i64 r.a, .int .i64 r.b, .slice r.ad r.n r.c]] w fun e w' => e = .returned (.bool true) ∧ Both w w' p q room F G := by
  by_cases hroom : (ms.length : Int) < room
  · by_cases h1 : r.kind = 1
    · exact does_send_ok w hn hx hdis r h1 o hr hsm hdr hroom
    by_cases h4 : r.kind = 4
    · exact does_twice_ok w hn hx hdis r h4 hroom
    by_cases h2 : r.kind = 2
    · exact does_take w hn hx hdis r h2
    by_cases h3 : r.kind = 3
    · exact does_drop w hn hx hdis r h3
    by_cases h5 : r.kind = 5
    · exact does_move w hn hx hdis r h5
    by_cases h6 : r.kind = 6
    · exact does_count w hn hx hdis r h6
    exact does_at w hn hx hdis r (by omega)
  · by_cases h1 : r.kind = 1
    · exact does_send_full w hn hx hdis r h1 o hr hsm hdr (by omega)
    by_cases h4 : r.kind = 4
    · exact does_twice_full w hn hx hdis r h4 (by omega)
    by_cases h2 : r.kind = 2
    · exact does_take w hn hx hdis r h2
    by_cases h3 : r.kind = 3
    · exact does_drop w hn hx hdis r h3
    by_cases h5 : r.kind = 5
    · exact does_move w hn hx hdis r h5
    by_cases h6 : r.kind = 6
    · exact does_count w hn hx hdis r h6
    exact does_at w hn hx hdis r (by omega)

end Go.Proofs.Ytgcelppbbjokeaa
