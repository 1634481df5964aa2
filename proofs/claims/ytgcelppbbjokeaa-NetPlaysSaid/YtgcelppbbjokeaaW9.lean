/- Walks: an operation of both nets. -/
import Derived.Test.YtgcelppbbjokeaaSxJ
import Derived.Test.YtgcelppbbjokeaaW8
set_option linter.unusedSimpArgs false
set_option linter.unusedVariables false
namespace Go.Proofs.Ytgcelppbbjokeaa
open Sx
theorem XNet.inp {w : World} {p : Nat} {room : Int} {ms : List Mail} {F : Nat → Prop} (h : XNet w p room ms F) : F p := by
  obtain ⟨ad, c, rs, h⟩ := h
  exact h.inp
theorem Net.few {w : World} {p : Nat} {room : Int} {ms : List Mail} {F : Nat → Prop} (h : Net w p room ms F) : room ≤ 4096 := by
  obtain ⟨ad, c, rs, h⟩ := h
  exact h.few
theorem Net.fit {w : World} {p : Nat} {room : Int} {ms : List Mail} {F : Nat → Prop} (h : Net w p room ms F) : (ms.length : Int) ≤ room := by
  obtain ⟨ad, c, rs, h⟩ := h
  exact h.fits
/-- both nets have the same mails, and lie apart; what was there is as it was -/
def Both (w w' : World) (p q : Nat) (room : Int) (F G : Nat → Prop) : Prop :=
  ∃ ms' F' G', Net w' p room ms' F' ∧ XNet w' q room ms' G' ∧ (∀ k, F' k → ¬ G' k) ∧ (∀ k, F' k → F k ∨ w.heap.size ≤ k) ∧ (∀ k, G' k → G k ∨ w.heap.size ≤ k) ∧ Ext (fun k => F k ∨ G k) w w'

theorem does_count {p q : Nat} {room : Int} {ms : List Mail} {F G : Nat → Prop} (w : World) (hn : Net w p room ms F) (hx : XNet w q room ms G) (hdis : ∀ k, F k → ¬ G k) (r : ROp) (hkind : r.kind = 6) :
    Calls Try.prog 19 #[.pointer (some ⟨p, 0, none⟩), .pointer (some ⟨q, 0, none⟩), .agg #[.int .i64 r.kind, .int .i64 r.a, .int .i64 r.b, .slice r.ad r.n r.c]] w fun e w' => e = .returned (.bool true) ∧ Both w w' p q room F G := by
  have hFl := hn.lt
  have hGl := hx.lt
  have hqG := hx.inp
  have hpq : ∀ k, F k → k ≠ q := fun k hk h9 => hdis k hk (h9 ▸ hqG)
  refine Sx.calls_into Try.func19 rfl Try.ntmps19 rfl fun a hT => ?_
  replace hT := hT.keep [0, 1, 2] rfl
  have X : Sx.Ext ((fun k => F k ∨ G k)) w w := Sx.Ext.refl _ _
  refine wp_seq_k fun K1 hK1 => ?_
  -- region 0 (law.go:48)
  refine Sx.wp_text [(0, .run), (1, .take)] rfl ?_
  refine Sx.st_eff hT rfl rfl rfl rfl (Sx.y_box hT rfl rfl rfl _) ?_
  clear hT; rintro _ w1 ⟨b1, rfl, N⟩ a hT
  have hb1 : w.heap.size ≤ b1 := by rw [N.at_]; exact X.size
  try (have hf_b1 := fun k hk => Nat.lt_of_lt_of_le (hn.lt k hk) (Nat.le_of_eq N.at_.symm))
  try (have hg_b1 := fun k hk => Nat.lt_of_lt_of_le (hx.lt k hk) (Nat.le_of_eq N.at_.symm))
  replace X := X.step N.ext
  replace hn := hn.ext_no N.ext
  replace hx := hx.ext_no N.ext
  have B1 := N.blk
  clear N
  refine Sx.st_take hT rfl rfl rfl rfl (Sx.x_assign hT rfl rfl) ?_
  clear hT; intro a hT
  replace hT := hT.keep [6, 5, 0, 1, 2] rfl
  refine Sx.ser_nil ?_
  refine Sx.then_normal (hK1 _ _ ?_)
  clear hK1
  refine wp_seq_k fun K2 hK2 => ?_
  refine wp_seq_k fun K3 hK3 => ?_
  -- region 1 (law.go:49)
  refine Sx.wp_text [(0, .take), (1, .run)] rfl ?_
  refine Sx.st_take hT rfl rfl rfl rfl (Sx.x_fieldAddr hT rfl Try.fa32_0 rfl) ?_
  clear hT; intro a hT
  refine Sx.st_run hT rfl rfl rfl rfl (Sx.x_load1 hT rfl Try.fl3 rfl (by first | exact (B1).nth rfl)) ?_
  clear hT; intro a hT
  replace hT := hT.keep [19, 6, 5, 0, 1, 2] rfl
  refine Sx.ser_nil ?_
  refine Sx.then_normal (hK3 _ _ ?_)
  clear hK3
  refine wp_block ?_
  refine wp_seq_k fun K4 hK4 => ?_
  -- region 2 (law.go:50)
  refine Sx.wp_text [(0, .take), (1, .take)] rfl ?_
  refine Sx.st_take hT rfl rfl rfl rfl ((fun w => Sx.x_eq w hT rfl rfl rfl)) ?_
  clear hT; intro a hT
  refine Sx.st_take hT rfl rfl rfl rfl (Sx.x_assign hT rfl rfl) ?_
  clear hT; intro a hT
  replace hT := hT.keep [20, 19, 6, 5, 0, 1, 2] rfl
  refine Sx.ser_nil ?_
  refine Sx.then_normal (hK4 _ _ ?_)
  clear hK4
  -- cond 0
  refine Sx.wp_if hT rfl (fun hc5 => ?_) (fun hc5 => ?_)
  · exfalso
    try simp only [decide_eq_true_eq, decide_eq_false_iff_not, Bool.not_eq_true', Bool.not_eq_false', Bool.not_eq_true, Bool.not_eq_false, Bool.and_eq_true, Bool.or_eq_false_iff, beq_iff_eq, bne_iff_ne, Int.not_lt, Int.not_le, ne_eq] at hc5
    first | omega | simp at hc5
  · try simp only [decide_eq_true_eq, decide_eq_false_iff_not, Bool.not_eq_true', Bool.not_eq_false', Bool.not_eq_true, Bool.not_eq_false, Bool.and_eq_true, Bool.or_eq_false_iff, beq_iff_eq, bne_iff_ne, Int.not_lt, Int.not_le, ne_eq] at hc5
    refine wp_seq_k fun K6 hK6 => ?_
    -- region 10 (law.go:57)
    refine Sx.wp_text [(0, .take), (1, .take)] rfl ?_
    refine Sx.st_take hT rfl rfl rfl rfl ((fun w => Sx.x_eq w hT rfl rfl rfl)) ?_
    clear hT; intro a hT
    refine Sx.st_take hT rfl rfl rfl rfl (Sx.x_assign hT rfl rfl) ?_
    clear hT; intro a hT
    replace hT := hT.keep [51, 20, 19, 6, 5, 0, 1, 2] rfl
    refine Sx.ser_nil ?_
    refine Sx.then_normal (hK6 _ _ ?_)
    clear hK6
    -- cond 2
    refine Sx.wp_if hT rfl (fun hc7 => ?_) (fun hc7 => ?_)
    · exfalso
      try simp only [decide_eq_true_eq, decide_eq_false_iff_not, Bool.not_eq_true', Bool.not_eq_false', Bool.not_eq_true, Bool.not_eq_false, Bool.and_eq_true, Bool.or_eq_false_iff, beq_iff_eq, bne_iff_ne, Int.not_lt, Int.not_le, ne_eq] at hc7
      first | omega | simp at hc7
    · try simp only [decide_eq_true_eq, decide_eq_false_iff_not, Bool.not_eq_true', Bool.not_eq_false', Bool.not_eq_true, Bool.not_eq_false, Bool.and_eq_true, Bool.or_eq_false_iff, beq_iff_eq, bne_iff_ne, Int.not_lt, Int.not_le, ne_eq] at hc7
      refine wp_seq_k fun K8 hK8 => ?_
      -- region 14 (law.go:61)
      refine Sx.wp_text [(0, .take), (1, .take)] rfl ?_
      refine Sx.st_take hT rfl rfl rfl rfl ((fun w => Sx.x_eq w hT rfl rfl rfl)) ?_
      clear hT; intro a hT
      refine Sx.st_take hT rfl rfl rfl rfl (Sx.x_assign hT rfl rfl) ?_
      clear hT; intro a hT
      replace hT := hT.keep [75, 51, 20, 19, 6, 5, 0, 1, 2] rfl
      refine Sx.ser_nil ?_
      refine Sx.then_normal (hK8 _ _ ?_)
      clear hK8
      -- cond 3
      refine Sx.wp_if hT rfl (fun hc9 => ?_) (fun hc9 => ?_)
      · exfalso
        try simp only [decide_eq_true_eq, decide_eq_false_iff_not, Bool.not_eq_true', Bool.not_eq_false', Bool.not_eq_true, Bool.not_eq_false, Bool.and_eq_true, Bool.or_eq_false_iff, beq_iff_eq, bne_iff_ne, Int.not_lt, Int.not_le, ne_eq] at hc9
        first | omega | simp at hc9
      · try simp only [decide_eq_true_eq, decide_eq_false_iff_not, Bool.not_eq_true', Bool.not_eq_false', Bool.not_eq_true, Bool.not_eq_false, Bool.and_eq_true, Bool.or_eq_false_iff, beq_iff_eq, bne_iff_ne, Int.not_lt, Int.not_le, ne_eq] at hc9
        refine wp_seq_k fun K10 hK10 => ?_
        -- region 17 (law.go:64)
        refine Sx.wp_text [(0, .take), (1, .take)] rfl ?_
        refine Sx.st_take hT rfl rfl rfl rfl ((fun w => Sx.x_eq w hT rfl rfl rfl)) ?_
        clear hT; intro a hT
        refine Sx.st_take hT rfl rfl rfl rfl (Sx.x_assign hT rfl rfl) ?_
        clear hT; intro a hT
        replace hT := hT.keep [90, 75, 51, 20, 19, 6, 5, 0, 1, 2] rfl
        refine Sx.ser_nil ?_
        refine Sx.then_normal (hK10 _ _ ?_)
        clear hK10
        -- cond 4
        refine Sx.wp_if hT rfl (fun hc11 => ?_) (fun hc11 => ?_)
        · exfalso
          try simp only [decide_eq_true_eq, decide_eq_false_iff_not, Bool.not_eq_true', Bool.not_eq_false', Bool.not_eq_true, Bool.not_eq_false, Bool.and_eq_true, Bool.or_eq_false_iff, beq_iff_eq, bne_iff_ne, Int.not_lt, Int.not_le, ne_eq] at hc11
          first | omega | simp at hc11
        · try simp only [decide_eq_true_eq, decide_eq_false_iff_not, Bool.not_eq_true', Bool.not_eq_false', Bool.not_eq_true, Bool.not_eq_false, Bool.and_eq_true, Bool.or_eq_false_iff, beq_iff_eq, bne_iff_ne, Int.not_lt, Int.not_le, ne_eq] at hc11
          refine wp_seq_k fun K12 hK12 => ?_
          -- region 19 (law.go:66)
          refine Sx.wp_text [(0, .take), (1, .take)] rfl ?_
          refine Sx.st_take hT rfl rfl rfl rfl ((fun w => Sx.x_eq w hT rfl rfl rfl)) ?_
          clear hT; intro a hT
          refine Sx.st_take hT rfl rfl rfl rfl (Sx.x_assign hT rfl rfl) ?_
          clear hT; intro a hT
          replace hT := hT.keep [101, 90, 75, 51, 20, 19, 6, 5, 0, 1, 2] rfl
          refine Sx.ser_nil ?_
          refine Sx.then_normal (hK12 _ _ ?_)
          clear hK12
          -- cond 5
          refine Sx.wp_if hT rfl (fun hc13 => ?_) (fun hc13 => ?_)
          · exfalso
            try simp only [decide_eq_true_eq, decide_eq_false_iff_not, Bool.not_eq_true', Bool.not_eq_false', Bool.not_eq_true, Bool.not_eq_false, Bool.and_eq_true, Bool.or_eq_false_iff, beq_iff_eq, bne_iff_ne, Int.not_lt, Int.not_le, ne_eq] at hc13
            first | omega | simp at hc13
          · try simp only [decide_eq_true_eq, decide_eq_false_iff_not, Bool.not_eq_true', Bool.not_eq_false', Bool.not_eq_true, Bool.not_eq_false, Bool.and_eq_true, Bool.or_eq_false_iff, beq_iff_eq, bne_iff_ne, Int.not_lt, Int.not_le, ne_eq] at hc13
            refine wp_seq_k fun K14 hK14 => ?_
            -- region 21 (law.go:68)
            refine Sx.wp_text [(0, .take), (1, .take)] rfl ?_
            refine Sx.st_take hT rfl rfl rfl rfl ((fun w => Sx.x_eq w hT rfl rfl rfl)) ?_
            clear hT; intro a hT
            refine Sx.st_take hT rfl rfl rfl rfl (Sx.x_assign hT rfl rfl) ?_
            clear hT; intro a hT
            replace hT := hT.keep [116, 101, 90, 75, 51, 20, 19, 6, 5, 0, 1, 2] rfl
            refine Sx.ser_nil ?_
            refine Sx.then_normal (hK14 _ _ ?_)
            clear hK14
            -- cond 6
            refine Sx.wp_if hT rfl (fun hc15 => ?_) (fun hc15 => ?_)
            · try simp only [decide_eq_true_eq, decide_eq_false_iff_not, Bool.not_eq_true', Bool.not_eq_false', Bool.not_eq_true, Bool.not_eq_false, Bool.and_eq_true, Bool.or_eq_false_iff, beq_iff_eq, bne_iff_ne, Int.not_lt, Int.not_le, ne_eq] at hc15
              refine wp_seq_k fun K16 hK16 => ?_
              -- region 22 (law.go:69)
              refine Sx.wp_draws (fun u => Sx.Ext Sx.No u) [(0, .take), (1, .take), (2, .held), (4, .take), (5, .take), (6, .held), (3, .keep), (7, .run), (8, .take), (9, .take)] (by kernel_rfl) (by kernel_rfl) (fun u E z => ?_)
              replace X := X.step E
              replace B1 := B1.ext_no E
              replace hn := hn.ext_no E
              replace hx := hx.ext_no E
              have hH : Sx.Ext Sx.No u u := Sx.Ext.refl _ _
              have Xu := X
              have B1u := B1
              refine Sx.st_take hT rfl rfl rfl rfl (Sx.x_move hT rfl rfl) ?_
              clear hT; intro a hT
              refine Sx.st_take hT rfl rfl rfl rfl (Sx.x_fieldAddr hT rfl Try.fa32_1 rfl) ?_
              clear hT; intro a hT
              refine Sx.st_held hT rfl rfl rfl rfl hH (fun w' h' => Sx.x_load1 hT rfl Try.fl3 rfl (by first | exact (B1u.ext_no h').nth rfl)) ?_
              clear hT; intro a hT
              refine Sx.st_take hT rfl rfl rfl rfl (Sx.x_move hT rfl rfl) ?_
              clear hT; intro a hT
              refine Sx.st_take hT rfl rfl rfl rfl (Sx.x_fieldAddr hT rfl Try.fa32_1 rfl) ?_
              clear hT; intro a hT
              refine Sx.st_held hT rfl rfl rfl rfl hH (fun w' h' => Sx.x_load1 hT rfl Try.fl3 rfl (by first | exact (B1u.ext_no h').nth rfl)) ?_
              clear hT; intro a hT
              refine Sx.st_callkeep hT rfl rfl rfl rfl rfl Try.can15 rfl (nCount_calls hn r.a) ?_
              rintro _ w2 ⟨rfl, E⟩
              refine ⟨_, rfl, ?_, ?_⟩
              · exact hH.step E
              replace hH := hH.step E
              clear hT; intro a hT
              replace X := X.step E
              replace B1 := B1.ext_no E
              replace hn := hn.ext_no E
              replace hx := hx.ext_no E
              refine Sx.st_call hT rfl rfl rfl rfl rfl Try.can34 rfl (zCount_calls hx r.a) ?_
              rintro _ w3 ⟨rfl, E⟩
              refine ⟨_, rfl, ?_⟩
              clear hT; intro a hT
              replace X := X.step E
              replace B1 := B1.ext_no E
              replace hn := hn.ext_no E
              replace hx := hx.ext_no E
              refine Sx.st_take hT rfl rfl rfl rfl ((fun w => Sx.x_eq w hT rfl rfl rfl)) ?_
              clear hT; intro a hT
              refine Sx.st_take hT rfl rfl rfl rfl (Sx.x_assign hT rfl rfl) ?_
              clear hT; intro a hT
              replace hT := hT.keep [6, 116, 101, 90, 75, 51, 20, 19, 5, 0, 1, 2] rfl
              refine Sx.ser_calm ?_
              refine Sx.then_normal (hK16 _ _ ?_)
              clear hK16
              refine wp_ret ?_
              refine Sx.block_ret ?_
              refine Sx.then_ret ?_
              refine Sx.done1 (fn := Try.f19) hT rfl (.tmp (hT.get 6 _ rfl)) ?_
              exact ⟨congrArg (fun b => Ending.returned (.bool b)) (by simp), ms, F, G, hn, hx, hdis, fun k h => .inl h, fun k h => .inl h, X⟩
            · exfalso
              try simp only [decide_eq_true_eq, decide_eq_false_iff_not, Bool.not_eq_true', Bool.not_eq_false', Bool.not_eq_true, Bool.not_eq_false, Bool.and_eq_true, Bool.or_eq_false_iff, beq_iff_eq, bne_iff_ne, Int.not_lt, Int.not_le, ne_eq] at hc15
              first | omega | simp at hc15

theorem does_move {p q : Nat} {room : Int} {ms : List Mail} {F G : Nat → Prop} (w : World) (hn : Net w p room ms F) (hx : XNet w q room ms G) (hdis : ∀ k, F k → ¬ G k) (r : ROp) (hkind : r.kind = 5) :
    Calls Try.prog 19 #[.pointer (some ⟨p, 0, none⟩), .pointer (some ⟨q, 0, none⟩), .agg #[.int .i64 r.kind, .int .i64 r.a, .int .i64 r.b, .slice r.ad r.n r.c]] w fun e w' => e = .returned (.bool true) ∧ Both w w' p q room F G := by
  have hFl := hn.lt
  have hGl := hx.lt
  have hqG := hx.inp
  have hpq : ∀ k, F k → k ≠ q := fun k hk h9 => hdis k hk (h9 ▸ hqG)
  refine Sx.calls_into Try.func19 rfl Try.ntmps19 rfl fun a hT => ?_
  replace hT := hT.keep [0, 1, 2] rfl
  have X : Sx.Ext ((fun k => F k ∨ G k)) w w := Sx.Ext.refl _ _
  refine wp_seq_k fun K1 hK1 => ?_
  -- region 0 (law.go:48)
  refine Sx.wp_text [(0, .run), (1, .take)] rfl ?_
  refine Sx.st_eff hT rfl rfl rfl rfl (Sx.y_box hT rfl rfl rfl _) ?_
  clear hT; rintro _ w1 ⟨b1, rfl, N⟩ a hT
  have hb1 : w.heap.size ≤ b1 := by rw [N.at_]; exact X.size
  try (have hf_b1 := fun k hk => Nat.lt_of_lt_of_le (hn.lt k hk) (Nat.le_of_eq N.at_.symm))
  try (have hg_b1 := fun k hk => Nat.lt_of_lt_of_le (hx.lt k hk) (Nat.le_of_eq N.at_.symm))
  replace X := X.step N.ext
  replace hn := hn.ext_no N.ext
  replace hx := hx.ext_no N.ext
  have B1 := N.blk
  clear N
  refine Sx.st_take hT rfl rfl rfl rfl (Sx.x_assign hT rfl rfl) ?_
  clear hT; intro a hT
  replace hT := hT.keep [6, 5, 0, 1, 2] rfl
  refine Sx.ser_nil ?_
  refine Sx.then_normal (hK1 _ _ ?_)
  clear hK1
  refine wp_seq_k fun K2 hK2 => ?_
  refine wp_seq_k fun K3 hK3 => ?_
  -- region 1 (law.go:49)
  refine Sx.wp_text [(0, .take), (1, .run)] rfl ?_
  refine Sx.st_take hT rfl rfl rfl rfl (Sx.x_fieldAddr hT rfl Try.fa32_0 rfl) ?_
  clear hT; intro a hT
  refine Sx.st_run hT rfl rfl rfl rfl (Sx.x_load1 hT rfl Try.fl3 rfl (by first | exact (B1).nth rfl)) ?_
  clear hT; intro a hT
  replace hT := hT.keep [19, 6, 5, 0, 1, 2] rfl
  refine Sx.ser_nil ?_
  refine Sx.then_normal (hK3 _ _ ?_)
  clear hK3
  refine wp_block ?_
  refine wp_seq_k fun K4 hK4 => ?_
  -- region 2 (law.go:50)
  refine Sx.wp_text [(0, .take), (1, .take)] rfl ?_
  refine Sx.st_take hT rfl rfl rfl rfl ((fun w => Sx.x_eq w hT rfl rfl rfl)) ?_
  clear hT; intro a hT
  refine Sx.st_take hT rfl rfl rfl rfl (Sx.x_assign hT rfl rfl) ?_
  clear hT; intro a hT
  replace hT := hT.keep [20, 19, 6, 5, 0, 1, 2] rfl
  refine Sx.ser_nil ?_
  refine Sx.then_normal (hK4 _ _ ?_)
  clear hK4
  -- cond 0
  refine Sx.wp_if hT rfl (fun hc5 => ?_) (fun hc5 => ?_)
  · exfalso
    try simp only [decide_eq_true_eq, decide_eq_false_iff_not, Bool.not_eq_true', Bool.not_eq_false', Bool.not_eq_true, Bool.not_eq_false, Bool.and_eq_true, Bool.or_eq_false_iff, beq_iff_eq, bne_iff_ne, Int.not_lt, Int.not_le, ne_eq] at hc5
    first | omega | simp at hc5
  · try simp only [decide_eq_true_eq, decide_eq_false_iff_not, Bool.not_eq_true', Bool.not_eq_false', Bool.not_eq_true, Bool.not_eq_false, Bool.and_eq_true, Bool.or_eq_false_iff, beq_iff_eq, bne_iff_ne, Int.not_lt, Int.not_le, ne_eq] at hc5
    refine wp_seq_k fun K6 hK6 => ?_
    -- region 10 (law.go:57)
    refine Sx.wp_text [(0, .take), (1, .take)] rfl ?_
    refine Sx.st_take hT rfl rfl rfl rfl ((fun w => Sx.x_eq w hT rfl rfl rfl)) ?_
    clear hT; intro a hT
    refine Sx.st_take hT rfl rfl rfl rfl (Sx.x_assign hT rfl rfl) ?_
    clear hT; intro a hT
    replace hT := hT.keep [51, 20, 19, 6, 5, 0, 1, 2] rfl
    refine Sx.ser_nil ?_
    refine Sx.then_normal (hK6 _ _ ?_)
    clear hK6
    -- cond 2
    refine Sx.wp_if hT rfl (fun hc7 => ?_) (fun hc7 => ?_)
    · exfalso
      try simp only [decide_eq_true_eq, decide_eq_false_iff_not, Bool.not_eq_true', Bool.not_eq_false', Bool.not_eq_true, Bool.not_eq_false, Bool.and_eq_true, Bool.or_eq_false_iff, beq_iff_eq, bne_iff_ne, Int.not_lt, Int.not_le, ne_eq] at hc7
      first | omega | simp at hc7
    · try simp only [decide_eq_true_eq, decide_eq_false_iff_not, Bool.not_eq_true', Bool.not_eq_false', Bool.not_eq_true, Bool.not_eq_false, Bool.and_eq_true, Bool.or_eq_false_iff, beq_iff_eq, bne_iff_ne, Int.not_lt, Int.not_le, ne_eq] at hc7
      refine wp_seq_k fun K8 hK8 => ?_
      -- region 14 (law.go:61)
      refine Sx.wp_text [(0, .take), (1, .take)] rfl ?_
      refine Sx.st_take hT rfl rfl rfl rfl ((fun w => Sx.x_eq w hT rfl rfl rfl)) ?_
      clear hT; intro a hT
      refine Sx.st_take hT rfl rfl rfl rfl (Sx.x_assign hT rfl rfl) ?_
      clear hT; intro a hT
      replace hT := hT.keep [75, 51, 20, 19, 6, 5, 0, 1, 2] rfl
      refine Sx.ser_nil ?_
      refine Sx.then_normal (hK8 _ _ ?_)
      clear hK8
      -- cond 3
      refine Sx.wp_if hT rfl (fun hc9 => ?_) (fun hc9 => ?_)
      · exfalso
        try simp only [decide_eq_true_eq, decide_eq_false_iff_not, Bool.not_eq_true', Bool.not_eq_false', Bool.not_eq_true, Bool.not_eq_false, Bool.and_eq_true, Bool.or_eq_false_iff, beq_iff_eq, bne_iff_ne, Int.not_lt, Int.not_le, ne_eq] at hc9
        first | omega | simp at hc9
      · try simp only [decide_eq_true_eq, decide_eq_false_iff_not, Bool.not_eq_true', Bool.not_eq_false', Bool.not_eq_true, Bool.not_eq_false, Bool.and_eq_true, Bool.or_eq_false_iff, beq_iff_eq, bne_iff_ne, Int.not_lt, Int.not_le, ne_eq] at hc9
        refine wp_seq_k fun K10 hK10 => ?_
        -- region 17 (law.go:64)
        refine Sx.wp_text [(0, .take), (1, .take)] rfl ?_
        refine Sx.st_take hT rfl rfl rfl rfl ((fun w => Sx.x_eq w hT rfl rfl rfl)) ?_
        clear hT; intro a hT
        refine Sx.st_take hT rfl rfl rfl rfl (Sx.x_assign hT rfl rfl) ?_
        clear hT; intro a hT
        replace hT := hT.keep [90, 75, 51, 20, 19, 6, 5, 0, 1, 2] rfl
        refine Sx.ser_nil ?_
        refine Sx.then_normal (hK10 _ _ ?_)
        clear hK10
        -- cond 4
        refine Sx.wp_if hT rfl (fun hc11 => ?_) (fun hc11 => ?_)
        · exfalso
          try simp only [decide_eq_true_eq, decide_eq_false_iff_not, Bool.not_eq_true', Bool.not_eq_false', Bool.not_eq_true, Bool.not_eq_false, Bool.and_eq_true, Bool.or_eq_false_iff, beq_iff_eq, bne_iff_ne, Int.not_lt, Int.not_le, ne_eq] at hc11
          first | omega | simp at hc11
        · try simp only [decide_eq_true_eq, decide_eq_false_iff_not, Bool.not_eq_true', Bool.not_eq_false', Bool.not_eq_true, Bool.not_eq_false, Bool.and_eq_true, Bool.or_eq_false_iff, beq_iff_eq, bne_iff_ne, Int.not_lt, Int.not_le, ne_eq] at hc11
          refine wp_seq_k fun K12 hK12 => ?_
          -- region 19 (law.go:66)
          refine Sx.wp_text [(0, .take), (1, .take)] rfl ?_
          refine Sx.st_take hT rfl rfl rfl rfl ((fun w => Sx.x_eq w hT rfl rfl rfl)) ?_
          clear hT; intro a hT
          refine Sx.st_take hT rfl rfl rfl rfl (Sx.x_assign hT rfl rfl) ?_
          clear hT; intro a hT
          replace hT := hT.keep [101, 90, 75, 51, 20, 19, 6, 5, 0, 1, 2] rfl
          refine Sx.ser_nil ?_
          refine Sx.then_normal (hK12 _ _ ?_)
          clear hK12
          -- cond 5
          refine Sx.wp_if hT rfl (fun hc13 => ?_) (fun hc13 => ?_)
          · try simp only [decide_eq_true_eq, decide_eq_false_iff_not, Bool.not_eq_true', Bool.not_eq_false', Bool.not_eq_true, Bool.not_eq_false, Bool.and_eq_true, Bool.or_eq_false_iff, beq_iff_eq, bne_iff_ne, Int.not_lt, Int.not_le, ne_eq] at hc13
            refine wp_seq_k fun K14 hK14 => ?_
            by_cases hi : 0 ≤ r.a ∧ r.a < ms.length
            · skip
              obtain ⟨k0, hk0⟩ : ∃ k0 : Nat, r.a = k0 := ⟨r.a.toNat, by omega⟩
              have hk1 : k0 < ms.length := by omega
              obtain ⟨m, hm⟩ : ∃ m, ms[k0]? = some m := ⟨_, List.getElem?_eq_getElem hk1⟩
              -- region 20 (law.go:67)
              refine Sx.wp_draws (fun u => Sx.Ext F u) [(0, .take), (1, .take), (2, .held), (3, .take), (4, .held), (6, .take), (7, .take), (8, .held), (9, .take), (10, .held), (5, .keep), (11, .run), (12, .take), (13, .take)] (by kernel_rfl) (by kernel_rfl) (fun u E z => ?_)
              replace X := X.step E
              replace B1 := B1.ext_no E
              replace hn := hn.ext_no E
              replace hx := hx.ext_no E
              have hH : Sx.Ext F u u := Sx.Ext.refl _ _
              have Xu := X
              have B1u := B1
              refine Sx.st_take hT rfl rfl rfl rfl (Sx.x_move hT rfl rfl) ?_
              clear hT; intro a hT
              refine Sx.st_take hT rfl rfl rfl rfl (Sx.x_fieldAddr hT rfl Try.fa32_1 rfl) ?_
              clear hT; intro a hT
              refine Sx.st_held hT rfl rfl rfl rfl hH (fun w' h' => Sx.x_load1 hT rfl Try.fl3 rfl (by first | exact (B1u.ext h' (fun h9 => by have := hf_b1 _ h9; omega)).nth rfl)) ?_
              clear hT; intro a hT
              refine Sx.st_take hT rfl rfl rfl rfl (Sx.x_fieldAddr hT rfl Try.fa32_2 rfl) ?_
              clear hT; intro a hT
              refine Sx.st_held hT rfl rfl rfl rfl hH (fun w' h' => Sx.x_load1 hT rfl Try.fl3 rfl (by first | exact (B1u.ext h' (fun h9 => by have := hf_b1 _ h9; omega)).nth rfl)) ?_
              clear hT; intro a hT
              refine Sx.st_take hT rfl rfl rfl rfl (Sx.x_move hT rfl rfl) ?_
              clear hT; intro a hT
              refine Sx.st_take hT rfl rfl rfl rfl (Sx.x_fieldAddr hT rfl Try.fa32_1 rfl) ?_
              clear hT; intro a hT
              refine Sx.st_held hT rfl rfl rfl rfl hH (fun w' h' => Sx.x_load1 hT rfl Try.fl3 rfl (by first | exact (B1u.ext h' (fun h9 => by have := hf_b1 _ h9; omega)).nth rfl)) ?_
              clear hT; intro a hT
              refine Sx.st_take hT rfl rfl rfl rfl (Sx.x_fieldAddr hT rfl Try.fa32_2 rfl) ?_
              clear hT; intro a hT
              refine Sx.st_held hT rfl rfl rfl rfl hH (fun w' h' => Sx.x_load1 hT rfl Try.fl3 rfl (by first | exact (B1u.ext h' (fun h9 => by have := hf_b1 _ h9; omega)).nth rfl)) ?_
              clear hT; intro a hT
              refine Sx.st_callkeep hT rfl rfl rfl rfl rfl Try.can12 rfl (nMove_yes hn r.a r.b k0 m hk0 hm) ?_
              have hz1 := X.size
              have hxl := hx.lt
              rintro _ w2 ⟨rfl, hn2, E⟩
              refine ⟨_, rfl, ?_, ?_⟩
              · exact hH.same E
              replace hH := hH.same E
              clear hT; intro a hT
              replace X := X.trans E (fun k _ h9 => .inl h9)
              replace hx := hx.ext E (fun k hk h9 => hdis k h9 hk)
              replace B1 := B1.ext E (fun h9 => by have := hf_b1 _ h9; omega)
              obtain ⟨F2, hn3, hF2, hdis2⟩ : ∃ F2 : Nat → Prop, Net _ p room ((ms.take k0 ++ ms.drop (k0 + 1)).take (goal r.b (k0 + (ms.length - (k0 + 1)))) ++ [m] ++ (ms.take k0 ++ ms.drop (k0 + 1)).drop (goal r.b (k0 + (ms.length - (k0 + 1))))) F2 ∧ (∀ k, F2 k → F k ∨ w.heap.size ≤ k) ∧ (∀ k, F2 k → ¬ G k) := ⟨_, hn2, fun k hk => hk.imp id (fun h9 => by omega), fun k hk hg => hk.elim (fun h9 => hdis k h9 hg) (fun h9 => by have := hxl k hg; omega)⟩
              clear hn2 hn E
              have hn := hn3
              clear hn3
              refine Sx.st_call hT rfl rfl rfl rfl rfl Try.can33 rfl (zMove_yes hx r.a r.b k0 m hk0 hm) ?_
              have hz1 := X.size
              have hnl := hn.lt
              rintro _ w3 ⟨rfl, hx2, E⟩
              refine ⟨_, rfl, ?_⟩
              clear hT; intro a hT
              replace X := X.trans E (fun k _ h9 => .inr (by unfold Sx.One at h9; rw [h9]; exact hqG))
              replace hn := hn.ext E (fun k hk h9 => hdis2 k hk (by unfold Sx.One at h9; rw [h9]; exact hqG))
              have hB : ∃ G2 : Nat → Prop, XNet _ q room ((ms.take k0 ++ ms.drop (k0 + 1)).take (goal r.b (k0 + (ms.length - (k0 + 1)))) ++ [m] ++ (ms.take k0 ++ ms.drop (k0 + 1)).drop (goal r.b (k0 + (ms.length - (k0 + 1))))) G2 ∧ (∀ k, G2 k → G k ∨ w.heap.size ≤ k) ∧ (∀ k, F2 k → ¬ G2 k) := ⟨_, hx2, fun k hk => hk.imp id (fun h9 => by omega), fun k hk hg => hg.elim (hdis2 k hk) (fun h9 => by have := hnl k hk; omega)⟩
              obtain ⟨G2, hx3, hG2, hdis3⟩ := hB
              clear hx2 hx E
              have hx := hx3
              clear hx3
              clear B1
              refine Sx.st_take hT rfl rfl rfl rfl (Sx.x_eqb hT rfl Try.underlying4 rfl rfl) ?_
              clear hT; intro a hT
              refine Sx.st_take hT rfl rfl rfl rfl (Sx.x_assign hT rfl rfl) ?_
              clear hT; intro a hT
              replace hT := hT.keep [6, 101, 90, 75, 51, 20, 19, 5, 0, 1, 2] rfl
              refine Sx.ser_calm ?_
              refine Sx.then_normal (hK14 _ _ ?_)
              clear hK14
              refine wp_ret ?_
              refine Sx.block_ret ?_
              refine Sx.then_ret ?_
              refine Sx.done1 (fn := Try.f19) hT rfl (.tmp (hT.get 6 _ rfl)) ?_
              exact ⟨congrArg (fun b => Ending.returned (.bool b)) (by simp), _, F2, G2, hn, hx, hdis3, hF2, hG2, X⟩
            · skip
              -- region 20 (law.go:67)
              refine Sx.wp_draws (fun u => Sx.Ext F u) [(0, .take), (1, .take), (2, .held), (3, .take), (4, .held), (6, .take), (7, .take), (8, .held), (9, .take), (10, .held), (5, .keep), (11, .run), (12, .take), (13, .take)] (by kernel_rfl) (by kernel_rfl) (fun u E z => ?_)
              replace X := X.step E
              replace B1 := B1.ext_no E
              replace hn := hn.ext_no E
              replace hx := hx.ext_no E
              have hH : Sx.Ext F u u := Sx.Ext.refl _ _
              have Xu := X
              have B1u := B1
              refine Sx.st_take hT rfl rfl rfl rfl (Sx.x_move hT rfl rfl) ?_
              clear hT; intro a hT
              refine Sx.st_take hT rfl rfl rfl rfl (Sx.x_fieldAddr hT rfl Try.fa32_1 rfl) ?_
              clear hT; intro a hT
              refine Sx.st_held hT rfl rfl rfl rfl hH (fun w' h' => Sx.x_load1 hT rfl Try.fl3 rfl (by first | exact (B1u.ext h' (fun h9 => by have := hf_b1 _ h9; omega)).nth rfl)) ?_
              clear hT; intro a hT
              refine Sx.st_take hT rfl rfl rfl rfl (Sx.x_fieldAddr hT rfl Try.fa32_2 rfl) ?_
              clear hT; intro a hT
              refine Sx.st_held hT rfl rfl rfl rfl hH (fun w' h' => Sx.x_load1 hT rfl Try.fl3 rfl (by first | exact (B1u.ext h' (fun h9 => by have := hf_b1 _ h9; omega)).nth rfl)) ?_
              clear hT; intro a hT
              refine Sx.st_take hT rfl rfl rfl rfl (Sx.x_move hT rfl rfl) ?_
              clear hT; intro a hT
              refine Sx.st_take hT rfl rfl rfl rfl (Sx.x_fieldAddr hT rfl Try.fa32_1 rfl) ?_
              clear hT; intro a hT
              refine Sx.st_held hT rfl rfl rfl rfl hH (fun w' h' => Sx.x_load1 hT rfl Try.fl3 rfl (by first | exact (B1u.ext h' (fun h9 => by have := hf_b1 _ h9; omega)).nth rfl)) ?_
              clear hT; intro a hT
              refine Sx.st_take hT rfl rfl rfl rfl (Sx.x_fieldAddr hT rfl Try.fa32_2 rfl) ?_
              clear hT; intro a hT
              refine Sx.st_held hT rfl rfl rfl rfl hH (fun w' h' => Sx.x_load1 hT rfl Try.fl3 rfl (by first | exact (B1u.ext h' (fun h9 => by have := hf_b1 _ h9; omega)).nth rfl)) ?_
              clear hT; intro a hT
              refine Sx.st_callkeep hT rfl rfl rfl rfl rfl Try.can12 rfl (nMove_no hn r.a r.b hi) ?_
              rintro _ w2 ⟨rfl, E⟩
              refine ⟨_, rfl, ?_, ?_⟩
              · exact hH.step E
              replace hH := hH.step E
              clear hT; intro a hT
              replace X := X.step E
              replace B1 := B1.ext_no E
              replace hn := hn.ext_no E
              replace hx := hx.ext_no E
              refine Sx.st_call hT rfl rfl rfl rfl rfl Try.can33 rfl (zMove_no hx r.a r.b hi) ?_
              rintro _ w3 ⟨rfl, E⟩
              refine ⟨_, rfl, ?_⟩
              clear hT; intro a hT
              replace X := X.step E
              replace B1 := B1.ext_no E
              replace hn := hn.ext_no E
              replace hx := hx.ext_no E
              refine Sx.st_take hT rfl rfl rfl rfl (Sx.x_eqb hT rfl Try.underlying4 rfl rfl) ?_
              clear hT; intro a hT
              refine Sx.st_take hT rfl rfl rfl rfl (Sx.x_assign hT rfl rfl) ?_
              clear hT; intro a hT
              replace hT := hT.keep [6, 101, 90, 75, 51, 20, 19, 5, 0, 1, 2] rfl
              refine Sx.ser_calm ?_
              refine Sx.then_normal (hK14 _ _ ?_)
              clear hK14
              refine wp_ret ?_
              refine Sx.block_ret ?_
              refine Sx.then_ret ?_
              refine Sx.done1 (fn := Try.f19) hT rfl (.tmp (hT.get 6 _ rfl)) ?_
              exact ⟨congrArg (fun b => Ending.returned (.bool b)) (by simp), ms, F, G, hn, hx, hdis, fun k h => .inl h, fun k h => .inl h, X⟩
          · exfalso
            try simp only [decide_eq_true_eq, decide_eq_false_iff_not, Bool.not_eq_true', Bool.not_eq_false', Bool.not_eq_true, Bool.not_eq_false, Bool.and_eq_true, Bool.or_eq_false_iff, beq_iff_eq, bne_iff_ne, Int.not_lt, Int.not_le, ne_eq] at hc13
            first | omega | simp at hc13

theorem does_twice_full {p q : Nat} {room : Int} {ms : List Mail} {F G : Nat → Prop} (w : World) (hn : Net w p room ms F) (hx : XNet w q room ms G) (hdis : ∀ k, F k → ¬ G k) (r : ROp) (hkind : r.kind = 4) (hfull : room ≤ ms.length) :
    Calls Try.prog 19 #[.pointer (some ⟨p, 0, none⟩), .pointer (some ⟨q, 0, none⟩), .agg #[.int .i64 r.kind, .int .i64 r.a, .int .i64 r.b, .slice r.ad r.n r.c]] w fun e w' => e = .returned (.bool true) ∧ Both w w' p q room F G := by
  have hFl := hn.lt
  have hGl := hx.lt
  have hqG := hx.inp
  have hpq : ∀ k, F k → k ≠ q := fun k hk h9 => hdis k hk (h9 ▸ hqG)
  refine Sx.calls_into Try.func19 rfl Try.ntmps19 rfl fun a hT => ?_
  replace hT := hT.keep [0, 1, 2] rfl
  have X : Sx.Ext ((fun k => F k ∨ G k)) w w := Sx.Ext.refl _ _
  refine wp_seq_k fun K1 hK1 => ?_
  -- region 0 (law.go:48)
  refine Sx.wp_text [(0, .run), (1, .take)] rfl ?_
  refine Sx.st_eff hT rfl rfl rfl rfl (Sx.y_box hT rfl rfl rfl _) ?_
  clear hT; rintro _ w1 ⟨b1, rfl, N⟩ a hT
  have hb1 : w.heap.size ≤ b1 := by rw [N.at_]; exact X.size
  try (have hf_b1 := fun k hk => Nat.lt_of_lt_of_le (hn.lt k hk) (Nat.le_of_eq N.at_.symm))
  try (have hg_b1 := fun k hk => Nat.lt_of_lt_of_le (hx.lt k hk) (Nat.le_of_eq N.at_.symm))
  replace X := X.step N.ext
  replace hn := hn.ext_no N.ext
  replace hx := hx.ext_no N.ext
  have B1 := N.blk
  clear N
  refine Sx.st_take hT rfl rfl rfl rfl (Sx.x_assign hT rfl rfl) ?_
  clear hT; intro a hT
  replace hT := hT.keep [6, 5, 0, 1, 2] rfl
  refine Sx.ser_nil ?_
  refine Sx.then_normal (hK1 _ _ ?_)
  clear hK1
  refine wp_seq_k fun K2 hK2 => ?_
  refine wp_seq_k fun K3 hK3 => ?_
  -- region 1 (law.go:49)
  refine Sx.wp_text [(0, .take), (1, .run)] rfl ?_
  refine Sx.st_take hT rfl rfl rfl rfl (Sx.x_fieldAddr hT rfl Try.fa32_0 rfl) ?_
  clear hT; intro a hT
  refine Sx.st_run hT rfl rfl rfl rfl (Sx.x_load1 hT rfl Try.fl3 rfl (by first | exact (B1).nth rfl)) ?_
  clear hT; intro a hT
  replace hT := hT.keep [19, 6, 5, 0, 1, 2] rfl
  refine Sx.ser_nil ?_
  refine Sx.then_normal (hK3 _ _ ?_)
  clear hK3
  refine wp_block ?_
  refine wp_seq_k fun K4 hK4 => ?_
  -- region 2 (law.go:50)
  refine Sx.wp_text [(0, .take), (1, .take)] rfl ?_
  refine Sx.st_take hT rfl rfl rfl rfl ((fun w => Sx.x_eq w hT rfl rfl rfl)) ?_
  clear hT; intro a hT
  refine Sx.st_take hT rfl rfl rfl rfl (Sx.x_assign hT rfl rfl) ?_
  clear hT; intro a hT
  replace hT := hT.keep [20, 19, 6, 5, 0, 1, 2] rfl
  refine Sx.ser_nil ?_
  refine Sx.then_normal (hK4 _ _ ?_)
  clear hK4
  -- cond 0
  refine Sx.wp_if hT rfl (fun hc5 => ?_) (fun hc5 => ?_)
  · exfalso
    try simp only [decide_eq_true_eq, decide_eq_false_iff_not, Bool.not_eq_true', Bool.not_eq_false', Bool.not_eq_true, Bool.not_eq_false, Bool.and_eq_true, Bool.or_eq_false_iff, beq_iff_eq, bne_iff_ne, Int.not_lt, Int.not_le, ne_eq] at hc5
    first | omega | simp at hc5
  · try simp only [decide_eq_true_eq, decide_eq_false_iff_not, Bool.not_eq_true', Bool.not_eq_false', Bool.not_eq_true, Bool.not_eq_false, Bool.and_eq_true, Bool.or_eq_false_iff, beq_iff_eq, bne_iff_ne, Int.not_lt, Int.not_le, ne_eq] at hc5
    refine wp_seq_k fun K6 hK6 => ?_
    -- region 10 (law.go:57)
    refine Sx.wp_text [(0, .take), (1, .take)] rfl ?_
    refine Sx.st_take hT rfl rfl rfl rfl ((fun w => Sx.x_eq w hT rfl rfl rfl)) ?_
    clear hT; intro a hT
    refine Sx.st_take hT rfl rfl rfl rfl (Sx.x_assign hT rfl rfl) ?_
    clear hT; intro a hT
    replace hT := hT.keep [51, 20, 19, 6, 5, 0, 1, 2] rfl
    refine Sx.ser_nil ?_
    refine Sx.then_normal (hK6 _ _ ?_)
    clear hK6
    -- cond 2
    refine Sx.wp_if hT rfl (fun hc7 => ?_) (fun hc7 => ?_)
    · exfalso
      try simp only [decide_eq_true_eq, decide_eq_false_iff_not, Bool.not_eq_true', Bool.not_eq_false', Bool.not_eq_true, Bool.not_eq_false, Bool.and_eq_true, Bool.or_eq_false_iff, beq_iff_eq, bne_iff_ne, Int.not_lt, Int.not_le, ne_eq] at hc7
      first | omega | simp at hc7
    · try simp only [decide_eq_true_eq, decide_eq_false_iff_not, Bool.not_eq_true', Bool.not_eq_false', Bool.not_eq_true, Bool.not_eq_false, Bool.and_eq_true, Bool.or_eq_false_iff, beq_iff_eq, bne_iff_ne, Int.not_lt, Int.not_le, ne_eq] at hc7
      refine wp_seq_k fun K8 hK8 => ?_
      -- region 14 (law.go:61)
      refine Sx.wp_text [(0, .take), (1, .take)] rfl ?_
      refine Sx.st_take hT rfl rfl rfl rfl ((fun w => Sx.x_eq w hT rfl rfl rfl)) ?_
      clear hT; intro a hT
      refine Sx.st_take hT rfl rfl rfl rfl (Sx.x_assign hT rfl rfl) ?_
      clear hT; intro a hT
      replace hT := hT.keep [75, 51, 20, 19, 6, 5, 0, 1, 2] rfl
      refine Sx.ser_nil ?_
      refine Sx.then_normal (hK8 _ _ ?_)
      clear hK8
      -- cond 3
      refine Sx.wp_if hT rfl (fun hc9 => ?_) (fun hc9 => ?_)
      · exfalso
        try simp only [decide_eq_true_eq, decide_eq_false_iff_not, Bool.not_eq_true', Bool.not_eq_false', Bool.not_eq_true, Bool.not_eq_false, Bool.and_eq_true, Bool.or_eq_false_iff, beq_iff_eq, bne_iff_ne, Int.not_lt, Int.not_le, ne_eq] at hc9
        first | omega | simp at hc9
      · try simp only [decide_eq_true_eq, decide_eq_false_iff_not, Bool.not_eq_true', Bool.not_eq_false', Bool.not_eq_true, Bool.not_eq_false, Bool.and_eq_true, Bool.or_eq_false_iff, beq_iff_eq, bne_iff_ne, Int.not_lt, Int.not_le, ne_eq] at hc9
        refine wp_seq_k fun K10 hK10 => ?_
        -- region 17 (law.go:64)
        refine Sx.wp_text [(0, .take), (1, .take)] rfl ?_
        refine Sx.st_take hT rfl rfl rfl rfl ((fun w => Sx.x_eq w hT rfl rfl rfl)) ?_
        clear hT; intro a hT
        refine Sx.st_take hT rfl rfl rfl rfl (Sx.x_assign hT rfl rfl) ?_
        clear hT; intro a hT
        replace hT := hT.keep [90, 75, 51, 20, 19, 6, 5, 0, 1, 2] rfl
        refine Sx.ser_nil ?_
        refine Sx.then_normal (hK10 _ _ ?_)
        clear hK10
        -- cond 4
        refine Sx.wp_if hT rfl (fun hc11 => ?_) (fun hc11 => ?_)
        · try simp only [decide_eq_true_eq, decide_eq_false_iff_not, Bool.not_eq_true', Bool.not_eq_false', Bool.not_eq_true, Bool.not_eq_false, Bool.and_eq_true, Bool.or_eq_false_iff, beq_iff_eq, bne_iff_ne, Int.not_lt, Int.not_le, ne_eq] at hc11
          refine wp_seq_k fun K12 hK12 => ?_
          by_cases hi : 0 ≤ r.a ∧ r.a < ms.length
          · skip
            obtain ⟨k0, hk0⟩ : ∃ k0 : Nat, r.a = k0 := ⟨r.a.toNat, by omega⟩
            have hk1 : k0 < ms.length := by omega
            obtain ⟨m, hm⟩ : ∃ m, ms[k0]? = some m := ⟨_, List.getElem?_eq_getElem hk1⟩
            -- region 18 (law.go:65)
            refine Sx.wp_draws (fun u => Sx.Ext F u) [(0, .take), (1, .take), (2, .held), (4, .take), (5, .take), (6, .held), (3, .keep), (7, .run), (8, .take), (9, .take)] (by kernel_rfl) (by kernel_rfl) (fun u E z => ?_)
            replace X := X.step E
            replace B1 := B1.ext_no E
            replace hn := hn.ext_no E
            replace hx := hx.ext_no E
            have hH : Sx.Ext F u u := Sx.Ext.refl _ _
            have Xu := X
            have B1u := B1
            refine Sx.st_take hT rfl rfl rfl rfl (Sx.x_move hT rfl rfl) ?_
            clear hT; intro a hT
            refine Sx.st_take hT rfl rfl rfl rfl (Sx.x_fieldAddr hT rfl Try.fa32_1 rfl) ?_
            clear hT; intro a hT
            refine Sx.st_held hT rfl rfl rfl rfl hH (fun w' h' => Sx.x_load1 hT rfl Try.fl3 rfl (by first | exact (B1u.ext h' (fun h9 => by have := hf_b1 _ h9; omega)).nth rfl)) ?_
            clear hT; intro a hT
            refine Sx.st_take hT rfl rfl rfl rfl (Sx.x_move hT rfl rfl) ?_
            clear hT; intro a hT
            refine Sx.st_take hT rfl rfl rfl rfl (Sx.x_fieldAddr hT rfl Try.fa32_1 rfl) ?_
            clear hT; intro a hT
            refine Sx.st_held hT rfl rfl rfl rfl hH (fun w' h' => Sx.x_load1 hT rfl Try.fl3 rfl (by first | exact (B1u.ext h' (fun h9 => by have := hf_b1 _ h9; omega)).nth rfl)) ?_
            clear hT; intro a hT
            refine Sx.st_callkeep hT rfl rfl rfl rfl rfl Try.can22 rfl (nTwice_full hn r.a k0 m hk0 hm hfull) ?_
            rintro _ w2 ⟨rfl, E⟩
            refine ⟨_, rfl, ?_, ?_⟩
            · exact hH.step E
            replace hH := hH.step E
            clear hT; intro a hT
            replace X := X.step E
            replace B1 := B1.ext_no E
            replace hn := hn.ext_no E
            replace hx := hx.ext_no E
            refine Sx.st_call hT rfl rfl rfl rfl rfl Try.can32 rfl (zTwice_full hx r.a k0 m hk0 hm hfull) ?_
            rintro _ w3 ⟨rfl, E⟩
            refine ⟨_, rfl, ?_⟩
            clear hT; intro a hT
            replace X := X.step E
            replace B1 := B1.ext_no E
            replace hn := hn.ext_no E
            replace hx := hx.ext_no E
            refine Sx.st_take hT rfl rfl rfl rfl ((fun w => Sx.x_eq w hT rfl rfl rfl)) ?_
            clear hT; intro a hT
            refine Sx.st_take hT rfl rfl rfl rfl (Sx.x_assign hT rfl rfl) ?_
            clear hT; intro a hT
            replace hT := hT.keep [6, 90, 75, 51, 20, 19, 5, 0, 1, 2] rfl
            refine Sx.ser_calm ?_
            refine Sx.then_normal (hK12 _ _ ?_)
            clear hK12
            refine wp_ret ?_
            refine Sx.block_ret ?_
            refine Sx.then_ret ?_
            refine Sx.done1 (fn := Try.f19) hT rfl (.tmp (hT.get 6 _ rfl)) ?_
            exact ⟨congrArg (fun b => Ending.returned (.bool b)) (by simp), ms, F, G, hn, hx, hdis, fun k h => .inl h, fun k h => .inl h, X⟩
          · skip
            -- region 18 (law.go:65)
            refine Sx.wp_draws (fun u => Sx.Ext F u) [(0, .take), (1, .take), (2, .held), (4, .take), (5, .take), (6, .held), (3, .keep), (7, .run), (8, .take), (9, .take)] (by kernel_rfl) (by kernel_rfl) (fun u E z => ?_)
            replace X := X.step E
            replace B1 := B1.ext_no E
            replace hn := hn.ext_no E
            replace hx := hx.ext_no E
            have hH : Sx.Ext F u u := Sx.Ext.refl _ _
            have Xu := X
            have B1u := B1
            refine Sx.st_take hT rfl rfl rfl rfl (Sx.x_move hT rfl rfl) ?_
            clear hT; intro a hT
            refine Sx.st_take hT rfl rfl rfl rfl (Sx.x_fieldAddr hT rfl Try.fa32_1 rfl) ?_
            clear hT; intro a hT
            refine Sx.st_held hT rfl rfl rfl rfl hH (fun w' h' => Sx.x_load1 hT rfl Try.fl3 rfl (by first | exact (B1u.ext h' (fun h9 => by have := hf_b1 _ h9; omega)).nth rfl)) ?_
            clear hT; intro a hT
            refine Sx.st_take hT rfl rfl rfl rfl (Sx.x_move hT rfl rfl) ?_
            clear hT; intro a hT
            refine Sx.st_take hT rfl rfl rfl rfl (Sx.x_fieldAddr hT rfl Try.fa32_1 rfl) ?_
            clear hT; intro a hT
            refine Sx.st_held hT rfl rfl rfl rfl hH (fun w' h' => Sx.x_load1 hT rfl Try.fl3 rfl (by first | exact (B1u.ext h' (fun h9 => by have := hf_b1 _ h9; omega)).nth rfl)) ?_
            clear hT; intro a hT
            refine Sx.st_callkeep hT rfl rfl rfl rfl rfl Try.can22 rfl (nTwice_no hn r.a hi) ?_
            rintro _ w2 ⟨rfl, E⟩
            refine ⟨_, rfl, ?_, ?_⟩
            · exact hH.step E
            replace hH := hH.step E
            clear hT; intro a hT
            replace X := X.step E
            replace B1 := B1.ext_no E
            replace hn := hn.ext_no E
            replace hx := hx.ext_no E
            refine Sx.st_call hT rfl rfl rfl rfl rfl Try.can32 rfl (zTwice_no hx r.a hi) ?_
            rintro _ w3 ⟨rfl, E⟩
            refine ⟨_, rfl, ?_⟩
            clear hT; intro a hT
            replace X := X.step E
            replace B1 := B1.ext_no E
            replace hn := hn.ext_no E
            replace hx := hx.ext_no E
            refine Sx.st_take hT rfl rfl rfl rfl ((fun w => Sx.x_eq w hT rfl rfl rfl)) ?_
            clear hT; intro a hT
            refine Sx.st_take hT rfl rfl rfl rfl (Sx.x_assign hT rfl rfl) ?_
            clear hT; intro a hT
            replace hT := hT.keep [6, 90, 75, 51, 20, 19, 5, 0, 1, 2] rfl
            refine Sx.ser_calm ?_
            refine Sx.then_normal (hK12 _ _ ?_)
            clear hK12
            refine wp_ret ?_
            refine Sx.block_ret ?_
            refine Sx.then_ret ?_
            refine Sx.done1 (fn := Try.f19) hT rfl (.tmp (hT.get 6 _ rfl)) ?_
            exact ⟨congrArg (fun b => Ending.returned (.bool b)) (by simp), ms, F, G, hn, hx, hdis, fun k h => .inl h, fun k h => .inl h, X⟩
        · exfalso
          try simp only [decide_eq_true_eq, decide_eq_false_iff_not, Bool.not_eq_true', Bool.not_eq_false', Bool.not_eq_true, Bool.not_eq_false, Bool.and_eq_true, Bool.or_eq_false_iff, beq_iff_eq, bne_iff_ne, Int.not_lt, Int.not_le, ne_eq] at hc11
          first | omega | simp at hc11

theorem does_twice_ok {p q : Nat} {room : Int} {ms : List Mail} {F G : Nat → Prop} (w : World) (hn : Net w p room ms F) (hx : XNet w q room ms G) (hdis : ∀ k, F k → ¬ G k) (r : ROp) (hkind : r.kind = 4) (hroom : ms.length < room) :
    Calls Try.prog 19 #[.pointer (some ⟨p, 0, none⟩), .pointer (some ⟨q, 0, none⟩), .agg #[.int .i64 r.kind, .int .i64 r.a, .int .i64 r.b, .slice r.ad r.n r.c]] w fun e w' => e = .returned (.bool true) ∧ Both w w' p q room F G := by
  have hFl := hn.lt
  have hGl := hx.lt
  have hqG := hx.inp
  have hpq : ∀ k, F k → k ≠ q := fun k hk h9 => hdis k hk (h9 ▸ hqG)
  refine Sx.calls_into Try.func19 rfl Try.ntmps19 rfl fun a hT => ?_
  replace hT := hT.keep [0, 1, 2] rfl
  have X : Sx.Ext ((fun k => F k ∨ G k)) w w := Sx.Ext.refl _ _
  refine wp_seq_k fun K1 hK1 => ?_
  -- region 0 (law.go:48)
  refine Sx.wp_text [(0, .run), (1, .take)] rfl ?_
  refine Sx.st_eff hT rfl rfl rfl rfl (Sx.y_box hT rfl rfl rfl _) ?_
  clear hT; rintro _ w1 ⟨b1, rfl, N⟩ a hT
  have hb1 : w.heap.size ≤ b1 := by rw [N.at_]; exact X.size
  try (have hf_b1 := fun k hk => Nat.lt_of_lt_of_le (hn.lt k hk) (Nat.le_of_eq N.at_.symm))
  try (have hg_b1 := fun k hk => Nat.lt_of_lt_of_le (hx.lt k hk) (Nat.le_of_eq N.at_.symm))
  replace X := X.step N.ext
  replace hn := hn.ext_no N.ext
  replace hx := hx.ext_no N.ext
  have B1 := N.blk
  clear N
  refine Sx.st_take hT rfl rfl rfl rfl (Sx.x_assign hT rfl rfl) ?_
  clear hT; intro a hT
  replace hT := hT.keep [6, 5, 0, 1, 2] rfl
  refine Sx.ser_nil ?_
  refine Sx.then_normal (hK1 _ _ ?_)
  clear hK1
  refine wp_seq_k fun K2 hK2 => ?_
  refine wp_seq_k fun K3 hK3 => ?_
  -- region 1 (law.go:49)
  refine Sx.wp_text [(0, .take), (1, .run)] rfl ?_
  refine Sx.st_take hT rfl rfl rfl rfl (Sx.x_fieldAddr hT rfl Try.fa32_0 rfl) ?_
  clear hT; intro a hT
  refine Sx.st_run hT rfl rfl rfl rfl (Sx.x_load1 hT rfl Try.fl3 rfl (by first | exact (B1).nth rfl)) ?_
  clear hT; intro a hT
  replace hT := hT.keep [19, 6, 5, 0, 1, 2] rfl
  refine Sx.ser_nil ?_
  refine Sx.then_normal (hK3 _ _ ?_)
  clear hK3
  refine wp_block ?_
  refine wp_seq_k fun K4 hK4 => ?_
  -- region 2 (law.go:50)
  refine Sx.wp_text [(0, .take), (1, .take)] rfl ?_
  refine Sx.st_take hT rfl rfl rfl rfl ((fun w => Sx.x_eq w hT rfl rfl rfl)) ?_
  clear hT; intro a hT
  refine Sx.st_take hT rfl rfl rfl rfl (Sx.x_assign hT rfl rfl) ?_
  clear hT; intro a hT
  replace hT := hT.keep [20, 19, 6, 5, 0, 1, 2] rfl
  refine Sx.ser_nil ?_
  refine Sx.then_normal (hK4 _ _ ?_)
  clear hK4
  -- cond 0
  refine Sx.wp_if hT rfl (fun hc5 => ?_) (fun hc5 => ?_)
  · exfalso
    try simp only [decide_eq_true_eq, decide_eq_false_iff_not, Bool.not_eq_true', Bool.not_eq_false', Bool.not_eq_true, Bool.not_eq_false, Bool.and_eq_true, Bool.or_eq_false_iff, beq_iff_eq, bne_iff_ne, Int.not_lt, Int.not_le, ne_eq] at hc5
    first | omega | simp at hc5
  · try simp only [decide_eq_true_eq, decide_eq_false_iff_not, Bool.not_eq_true', Bool.not_eq_false', Bool.not_eq_true, Bool.not_eq_false, Bool.and_eq_true, Bool.or_eq_false_iff, beq_iff_eq, bne_iff_ne, Int.not_lt, Int.not_le, ne_eq] at hc5
    refine wp_seq_k fun K6 hK6 => ?_
    -- region 10 (law.go:57)
    refine Sx.wp_text [(0, .take), (1, .take)] rfl ?_
    refine Sx.st_take hT rfl rfl rfl rfl ((fun w => Sx.x_eq w hT rfl rfl rfl)) ?_
    clear hT; intro a hT
    refine Sx.st_take hT rfl rfl rfl rfl (Sx.x_assign hT rfl rfl) ?_
    clear hT; intro a hT
    replace hT := hT.keep [51, 20, 19, 6, 5, 0, 1, 2] rfl
    refine Sx.ser_nil ?_
    refine Sx.then_normal (hK6 _ _ ?_)
    clear hK6
    -- cond 2
    refine Sx.wp_if hT rfl (fun hc7 => ?_) (fun hc7 => ?_)
    · exfalso
      try simp only [decide_eq_true_eq, decide_eq_false_iff_not, Bool.not_eq_true', Bool.not_eq_false', Bool.not_eq_true, Bool.not_eq_false, Bool.and_eq_true, Bool.or_eq_false_iff, beq_iff_eq, bne_iff_ne, Int.not_lt, Int.not_le, ne_eq] at hc7
      first | omega | simp at hc7
    · try simp only [decide_eq_true_eq, decide_eq_false_iff_not, Bool.not_eq_true', Bool.not_eq_false', Bool.not_eq_true, Bool.not_eq_false, Bool.and_eq_true, Bool.or_eq_false_iff, beq_iff_eq, bne_iff_ne, Int.not_lt, Int.not_le, ne_eq] at hc7
      refine wp_seq_k fun K8 hK8 => ?_
      -- region 14 (law.go:61)
      refine Sx.wp_text [(0, .take), (1, .take)] rfl ?_
      refine Sx.st_take hT rfl rfl rfl rfl ((fun w => Sx.x_eq w hT rfl rfl rfl)) ?_
      clear hT; intro a hT
      refine Sx.st_take hT rfl rfl rfl rfl (Sx.x_assign hT rfl rfl) ?_
      clear hT; intro a hT
      replace hT := hT.keep [75, 51, 20, 19, 6, 5, 0, 1, 2] rfl
      refine Sx.ser_nil ?_
      refine Sx.then_normal (hK8 _ _ ?_)
      clear hK8
      -- cond 3
      refine Sx.wp_if hT rfl (fun hc9 => ?_) (fun hc9 => ?_)
      · exfalso
        try simp only [decide_eq_true_eq, decide_eq_false_iff_not, Bool.not_eq_true', Bool.not_eq_false', Bool.not_eq_true, Bool.not_eq_false, Bool.and_eq_true, Bool.or_eq_false_iff, beq_iff_eq, bne_iff_ne, Int.not_lt, Int.not_le, ne_eq] at hc9
        first | omega | simp at hc9
      · try simp only [decide_eq_true_eq, decide_eq_false_iff_not, Bool.not_eq_true', Bool.not_eq_false', Bool.not_eq_true, Bool.not_eq_false, Bool.and_eq_true, Bool.or_eq_false_iff, beq_iff_eq, bne_iff_ne, Int.not_lt, Int.not_le, ne_eq] at hc9
        refine wp_seq_k fun K10 hK10 => ?_
        -- region 17 (law.go:64)
        refine Sx.wp_text [(0, .take), (1, .take)] rfl ?_
        refine Sx.st_take hT rfl rfl rfl rfl ((fun w => Sx.x_eq w hT rfl rfl rfl)) ?_
        clear hT; intro a hT
        refine Sx.st_take hT rfl rfl rfl rfl (Sx.x_assign hT rfl rfl) ?_
        clear hT; intro a hT
        replace hT := hT.keep [90, 75, 51, 20, 19, 6, 5, 0, 1, 2] rfl
        refine Sx.ser_nil ?_
        refine Sx.then_normal (hK10 _ _ ?_)
        clear hK10
        -- cond 4
        refine Sx.wp_if hT rfl (fun hc11 => ?_) (fun hc11 => ?_)
        · try simp only [decide_eq_true_eq, decide_eq_false_iff_not, Bool.not_eq_true', Bool.not_eq_false', Bool.not_eq_true, Bool.not_eq_false, Bool.and_eq_true, Bool.or_eq_false_iff, beq_iff_eq, bne_iff_ne, Int.not_lt, Int.not_le, ne_eq] at hc11
          refine wp_seq_k fun K12 hK12 => ?_
          by_cases hi : 0 ≤ r.a ∧ r.a < ms.length
          · skip
            obtain ⟨k0, hk0⟩ : ∃ k0 : Nat, r.a = k0 := ⟨r.a.toNat, by omega⟩
            have hk1 : k0 < ms.length := by omega
            obtain ⟨m, hm⟩ : ∃ m, ms[k0]? = some m := ⟨_, List.getElem?_eq_getElem hk1⟩
            -- region 18 (law.go:65)
            refine Sx.wp_draws (fun u => Sx.Ext F u) [(0, .take), (1, .take), (2, .held), (4, .take), (5, .take), (6, .held), (3, .keep), (7, .run), (8, .take), (9, .take)] (by kernel_rfl) (by kernel_rfl) (fun u E z => ?_)
            replace X := X.step E
            replace B1 := B1.ext_no E
            replace hn := hn.ext_no E
            replace hx := hx.ext_no E
            have hH : Sx.Ext F u u := Sx.Ext.refl _ _
            have Xu := X
            have B1u := B1
            refine Sx.st_take hT rfl rfl rfl rfl (Sx.x_move hT rfl rfl) ?_
            clear hT; intro a hT
            refine Sx.st_take hT rfl rfl rfl rfl (Sx.x_fieldAddr hT rfl Try.fa32_1 rfl) ?_
            clear hT; intro a hT
            refine Sx.st_held hT rfl rfl rfl rfl hH (fun w' h' => Sx.x_load1 hT rfl Try.fl3 rfl (by first | exact (B1u.ext h' (fun h9 => by have := hf_b1 _ h9; omega)).nth rfl)) ?_
            clear hT; intro a hT
            refine Sx.st_take hT rfl rfl rfl rfl (Sx.x_move hT rfl rfl) ?_
            clear hT; intro a hT
            refine Sx.st_take hT rfl rfl rfl rfl (Sx.x_fieldAddr hT rfl Try.fa32_1 rfl) ?_
            clear hT; intro a hT
            refine Sx.st_held hT rfl rfl rfl rfl hH (fun w' h' => Sx.x_load1 hT rfl Try.fl3 rfl (by first | exact (B1u.ext h' (fun h9 => by have := hf_b1 _ h9; omega)).nth rfl)) ?_
            clear hT; intro a hT
            refine Sx.st_callkeep hT rfl rfl rfl rfl rfl Try.can22 rfl (nTwice_ok hn r.a k0 m hk0 hm hroom) ?_
            have hz1 := X.size
            have hxl := hx.lt
            rintro _ w2 ⟨rfl, hn2, E⟩
            refine ⟨_, rfl, ?_, ?_⟩
            · exact hH.same E
            replace hH := hH.same E
            clear hT; intro a hT
            replace X := X.trans E (fun k _ h9 => .inl h9)
            replace hx := hx.ext E (fun k hk h9 => hdis k h9 hk)
            replace B1 := B1.ext E (fun h9 => by have := hf_b1 _ h9; omega)
            obtain ⟨F2, hn3, hF2, hdis2⟩ : ∃ F2 : Nat → Prop, Net _ p room (ms ++ [m]) F2 ∧ (∀ k, F2 k → F k ∨ w.heap.size ≤ k) ∧ (∀ k, F2 k → ¬ G k) := ⟨_, hn2, fun k hk => hk.imp id (fun h9 => by omega), fun k hk hg => hk.elim (fun h9 => hdis k h9 hg) (fun h9 => by have := hxl k hg; omega)⟩
            clear hn2 hn E
            have hn := hn3
            clear hn3
            refine Sx.st_call hT rfl rfl rfl rfl rfl Try.can32 rfl (zTwice_ok hx r.a k0 m hk0 hm hroom) ?_
            have hz1 := X.size
            have hnl := hn.lt
            rintro _ w3 ⟨rfl, hx2, E⟩
            refine ⟨_, rfl, ?_⟩
            clear hT; intro a hT
            replace X := X.trans E (fun k _ h9 => .inr h9)
            replace hn := hn.ext E (fun k hk h9 => hdis2 k hk h9)
            have hB : ∃ G2 : Nat → Prop, XNet _ q room (ms ++ [m]) G2 ∧ (∀ k, G2 k → G k ∨ w.heap.size ≤ k) ∧ (∀ k, F2 k → ¬ G2 k) := ⟨_, hx2, fun k hk => hk.imp id (fun h9 => by omega), fun k hk hg => hg.elim (hdis2 k hk) (fun h9 => by have := hnl k hk; omega)⟩
            obtain ⟨G2, hx3, hG2, hdis3⟩ := hB
            clear hx2 hx E
            have hx := hx3
            clear hx3
            clear B1
            refine Sx.st_take hT rfl rfl rfl rfl ((fun w => Sx.x_eq w hT rfl rfl rfl)) ?_
            clear hT; intro a hT
            refine Sx.st_take hT rfl rfl rfl rfl (Sx.x_assign hT rfl rfl) ?_
            clear hT; intro a hT
            replace hT := hT.keep [6, 90, 75, 51, 20, 19, 5, 0, 1, 2] rfl
            refine Sx.ser_calm ?_
            refine Sx.then_normal (hK12 _ _ ?_)
            clear hK12
            refine wp_ret ?_
            refine Sx.block_ret ?_
            refine Sx.then_ret ?_
            refine Sx.done1 (fn := Try.f19) hT rfl (.tmp (hT.get 6 _ rfl)) ?_
            exact ⟨congrArg (fun b => Ending.returned (.bool b)) (by simp), _, F2, G2, hn, hx, hdis3, hF2, hG2, X⟩
          · skip
            -- region 18 (law.go:65)
            refine Sx.wp_draws (fun u => Sx.Ext F u) [(0, .take), (1, .take), (2, .held), (4, .take), (5, .take), (6, .held), (3, .keep), (7, .run), (8, .take), (9, .take)] (by kernel_rfl) (by kernel_rfl) (fun u E z => ?_)
            replace X := X.step E
            replace B1 := B1.ext_no E
            replace hn := hn.ext_no E
            replace hx := hx.ext_no E
            have hH : Sx.Ext F u u := Sx.Ext.refl _ _
            have Xu := X
            have B1u := B1
            refine Sx.st_take hT rfl rfl rfl rfl (Sx.x_move hT rfl rfl) ?_
            clear hT; intro a hT
            refine Sx.st_take hT rfl rfl rfl rfl (Sx.x_fieldAddr hT rfl Try.fa32_1 rfl) ?_
            clear hT; intro a hT
            refine Sx.st_held hT rfl rfl rfl rfl hH (fun w' h' => Sx.x_load1 hT rfl Try.fl3 rfl (by first | exact (B1u.ext h' (fun h9 => by have := hf_b1 _ h9; omega)).nth rfl)) ?_
            clear hT; intro a hT
            refine Sx.st_take hT rfl rfl rfl rfl (Sx.x_move hT rfl rfl) ?_
            clear hT; intro a hT
            refine Sx.st_take hT rfl rfl rfl rfl (Sx.x_fieldAddr hT rfl Try.fa32_1 rfl) ?_
            clear hT; intro a hT
            refine Sx.st_held hT rfl rfl rfl rfl hH (fun w' h' => Sx.x_load1 hT rfl Try.fl3 rfl (by first | exact (B1u.ext h' (fun h9 => by have := hf_b1 _ h9; omega)).nth rfl)) ?_
            clear hT; intro a hT
            refine Sx.st_callkeep hT rfl rfl rfl rfl rfl Try.can22 rfl (nTwice_no hn r.a hi) ?_
            rintro _ w2 ⟨rfl, E⟩
            refine ⟨_, rfl, ?_, ?_⟩
            · exact hH.step E
            replace hH := hH.step E
            clear hT; intro a hT
            replace X := X.step E
            replace B1 := B1.ext_no E
            replace hn := hn.ext_no E
            replace hx := hx.ext_no E
            refine Sx.st_call hT rfl rfl rfl rfl rfl Try.can32 rfl (zTwice_no hx r.a hi) ?_
            rintro _ w3 ⟨rfl, E⟩
            refine ⟨_, rfl, ?_⟩
            clear hT; intro a hT
            replace X := X.step E
            replace B1 := B1.ext_no E
            replace hn := hn.ext_no E
            replace hx := hx.ext_no E
            refine Sx.st_take hT rfl rfl rfl rfl ((fun w => Sx.x_eq w hT rfl rfl rfl)) ?_
            clear hT; intro a hT
            refine Sx.st_take hT rfl rfl rfl rfl (Sx.x_assign hT rfl rfl) ?_
            clear hT; intro a hT
            replace hT := hT.keep [6, 90, 75, 51, 20, 19, 5, 0, 1, 2] rfl
            refine Sx.ser_calm ?_
            refine Sx.then_normal (hK12 _ _ ?_)
            clear hK12
            refine wp_ret ?_
            refine Sx.block_ret ?_
            refine Sx.then_ret ?_
            refine Sx.done1 (fn := Try.f19) hT rfl (.tmp (hT.get 6 _ rfl)) ?_
            exact ⟨congrArg (fun b => Ending.returned (.bool b)) (by simp), ms, F, G, hn, hx, hdis, fun k h => .inl h, fun k h => .inl h, X⟩
        · exfalso
          try simp only [decide_eq_true_eq, decide_eq_false_iff_not, Bool.not_eq_true', Bool.not_eq_false', Bool.not_eq_true, Bool.not_eq_false, Bool.and_eq_true, Bool.or_eq_false_iff, beq_iff_eq, bne_iff_ne, Int.not_lt, Int.not_le, ne_eq] at hc11
          first | omega | simp at hc11

theorem does_drop {p q : Nat} {room : Int} {ms : List Mail} {F G : Nat → Prop} (w : World) (hn : Net w p room ms F) (hx : XNet w q room ms G) (hdis : ∀ k, F k → ¬ G k) (r : ROp) (hkind : r.kind = 3) :
    Calls Try.prog 19 #[.pointer (some ⟨p, 0, none⟩), .pointer (some ⟨q, 0, none⟩), .agg #[.int .i64 r.kind, .int .i64 r.a, .int .i64 r.b, .slice r.ad r.n r.c]] w fun e w' => e = .returned (.bool true) ∧ Both w w' p q room F G := by
  have hFl := hn.lt
  have hGl := hx.lt
  have hqG := hx.inp
  have hpq : ∀ k, F k → k ≠ q := fun k hk h9 => hdis k hk (h9 ▸ hqG)
  refine Sx.calls_into Try.func19 rfl Try.ntmps19 rfl fun a hT => ?_
  replace hT := hT.keep [0, 1, 2] rfl
  have X : Sx.Ext ((fun k => F k ∨ G k)) w w := Sx.Ext.refl _ _
  refine wp_seq_k fun K1 hK1 => ?_
  -- region 0 (law.go:48)
  refine Sx.wp_text [(0, .run), (1, .take)] rfl ?_
  refine Sx.st_eff hT rfl rfl rfl rfl (Sx.y_box hT rfl rfl rfl _) ?_
  clear hT; rintro _ w1 ⟨b1, rfl, N⟩ a hT
  have hb1 : w.heap.size ≤ b1 := by rw [N.at_]; exact X.size
  try (have hf_b1 := fun k hk => Nat.lt_of_lt_of_le (hn.lt k hk) (Nat.le_of_eq N.at_.symm))
  try (have hg_b1 := fun k hk => Nat.lt_of_lt_of_le (hx.lt k hk) (Nat.le_of_eq N.at_.symm))
  replace X := X.step N.ext
  replace hn := hn.ext_no N.ext
  replace hx := hx.ext_no N.ext
  have B1 := N.blk
  clear N
  refine Sx.st_take hT rfl rfl rfl rfl (Sx.x_assign hT rfl rfl) ?_
  clear hT; intro a hT
  replace hT := hT.keep [6, 5, 0, 1, 2] rfl
  refine Sx.ser_nil ?_
  refine Sx.then_normal (hK1 _ _ ?_)
  clear hK1
  refine wp_seq_k fun K2 hK2 => ?_
  refine wp_seq_k fun K3 hK3 => ?_
  -- region 1 (law.go:49)
  refine Sx.wp_text [(0, .take), (1, .run)] rfl ?_
  refine Sx.st_take hT rfl rfl rfl rfl (Sx.x_fieldAddr hT rfl Try.fa32_0 rfl) ?_
  clear hT; intro a hT
  refine Sx.st_run hT rfl rfl rfl rfl (Sx.x_load1 hT rfl Try.fl3 rfl (by first | exact (B1).nth rfl)) ?_
  clear hT; intro a hT
  replace hT := hT.keep [19, 6, 5, 0, 1, 2] rfl
  refine Sx.ser_nil ?_
  refine Sx.then_normal (hK3 _ _ ?_)
  clear hK3
  refine wp_block ?_
  refine wp_seq_k fun K4 hK4 => ?_
  -- region 2 (law.go:50)
  refine Sx.wp_text [(0, .take), (1, .take)] rfl ?_
  refine Sx.st_take hT rfl rfl rfl rfl ((fun w => Sx.x_eq w hT rfl rfl rfl)) ?_
  clear hT; intro a hT
  refine Sx.st_take hT rfl rfl rfl rfl (Sx.x_assign hT rfl rfl) ?_
  clear hT; intro a hT
  replace hT := hT.keep [20, 19, 6, 5, 0, 1, 2] rfl
  refine Sx.ser_nil ?_
  refine Sx.then_normal (hK4 _ _ ?_)
  clear hK4
  -- cond 0
  refine Sx.wp_if hT rfl (fun hc5 => ?_) (fun hc5 => ?_)
  · exfalso
    try simp only [decide_eq_true_eq, decide_eq_false_iff_not, Bool.not_eq_true', Bool.not_eq_false', Bool.not_eq_true, Bool.not_eq_false, Bool.and_eq_true, Bool.or_eq_false_iff, beq_iff_eq, bne_iff_ne, Int.not_lt, Int.not_le, ne_eq] at hc5
    first | omega | simp at hc5
  · try simp only [decide_eq_true_eq, decide_eq_false_iff_not, Bool.not_eq_true', Bool.not_eq_false', Bool.not_eq_true, Bool.not_eq_false, Bool.and_eq_true, Bool.or_eq_false_iff, beq_iff_eq, bne_iff_ne, Int.not_lt, Int.not_le, ne_eq] at hc5
    refine wp_seq_k fun K6 hK6 => ?_
    -- region 10 (law.go:57)
    refine Sx.wp_text [(0, .take), (1, .take)] rfl ?_
    refine Sx.st_take hT rfl rfl rfl rfl ((fun w => Sx.x_eq w hT rfl rfl rfl)) ?_
    clear hT; intro a hT
    refine Sx.st_take hT rfl rfl rfl rfl (Sx.x_assign hT rfl rfl) ?_
    clear hT; intro a hT
    replace hT := hT.keep [51, 20, 19, 6, 5, 0, 1, 2] rfl
    refine Sx.ser_nil ?_
    refine Sx.then_normal (hK6 _ _ ?_)
    clear hK6
    -- cond 2
    refine Sx.wp_if hT rfl (fun hc7 => ?_) (fun hc7 => ?_)
    · exfalso
      try simp only [decide_eq_true_eq, decide_eq_false_iff_not, Bool.not_eq_true', Bool.not_eq_false', Bool.not_eq_true, Bool.not_eq_false, Bool.and_eq_true, Bool.or_eq_false_iff, beq_iff_eq, bne_iff_ne, Int.not_lt, Int.not_le, ne_eq] at hc7
      first | omega | simp at hc7
    · try simp only [decide_eq_true_eq, decide_eq_false_iff_not, Bool.not_eq_true', Bool.not_eq_false', Bool.not_eq_true, Bool.not_eq_false, Bool.and_eq_true, Bool.or_eq_false_iff, beq_iff_eq, bne_iff_ne, Int.not_lt, Int.not_le, ne_eq] at hc7
      refine wp_seq_k fun K8 hK8 => ?_
      -- region 14 (law.go:61)
      refine Sx.wp_text [(0, .take), (1, .take)] rfl ?_
      refine Sx.st_take hT rfl rfl rfl rfl ((fun w => Sx.x_eq w hT rfl rfl rfl)) ?_
      clear hT; intro a hT
      refine Sx.st_take hT rfl rfl rfl rfl (Sx.x_assign hT rfl rfl) ?_
      clear hT; intro a hT
      replace hT := hT.keep [75, 51, 20, 19, 6, 5, 0, 1, 2] rfl
      refine Sx.ser_nil ?_
      refine Sx.then_normal (hK8 _ _ ?_)
      clear hK8
      -- cond 3
      refine Sx.wp_if hT rfl (fun hc9 => ?_) (fun hc9 => ?_)
      · try simp only [decide_eq_true_eq, decide_eq_false_iff_not, Bool.not_eq_true', Bool.not_eq_false', Bool.not_eq_true, Bool.not_eq_false, Bool.and_eq_true, Bool.or_eq_false_iff, beq_iff_eq, bne_iff_ne, Int.not_lt, Int.not_le, ne_eq] at hc9
        refine wp_seq_k fun K10 hK10 => ?_
        by_cases hi : 0 ≤ r.a ∧ r.a < ms.length
        · skip
          obtain ⟨k0, hk0⟩ : ∃ k0 : Nat, r.a = k0 := ⟨r.a.toNat, by omega⟩
          have hk1 : k0 < ms.length := by omega
          obtain ⟨m, hm⟩ : ∃ m, ms[k0]? = some m := ⟨_, List.getElem?_eq_getElem hk1⟩
          -- region 15 (law.go:62)
          refine Sx.wp_text [(0, .take), (1, .take), (2, .run), (3, .run), (4, .take), (5, .take), (6, .take), (7, .run), (8, .run), (9, .take)] rfl ?_
          refine Sx.st_take hT rfl rfl rfl rfl (Sx.x_move hT rfl rfl) ?_
          clear hT; intro a hT
          refine Sx.st_take hT rfl rfl rfl rfl (Sx.x_fieldAddr hT rfl Try.fa32_1 rfl) ?_
          clear hT; intro a hT
          refine Sx.st_run hT rfl rfl rfl rfl (Sx.x_load1 hT rfl Try.fl3 rfl (by first | exact (B1).nth rfl)) ?_
          clear hT; intro a hT
          refine Sx.st_call hT rfl rfl rfl rfl rfl Try.can30 rfl (zTake_yes hx r.a k0 m hk0 hm) ?_
          have hz1 := X.size
          have hnl := hn.lt
          rintro _ w2 ⟨r5, rfl, hmr5, hx2, hrq, E⟩
          refine ⟨_, rfl, ?_⟩
          clear hT; intro a hT
          replace X := X.trans E (fun k _ h9 => .inr (by unfold Sx.One at h9; rw [h9]; exact hqG))
          replace hn := hn.ext E (fun k hk h9 => hpq k hk h9)
          replace B1 := B1.ext E (fun h9 => by unfold Sx.One at h9; have := hg_b1 q hqG; omega)
          have hB : ∃ G2 : Nat → Prop, XNet _ q room (ms.take k0 ++ ms.drop (k0 + 1)) G2 ∧ (∀ k, G2 k → G k ∨ w.heap.size ≤ k) ∧ (∀ k, F k → ¬ G2 k) := ⟨_, hx2, fun k hk => hk.imp id (fun h9 => by omega), fun k hk hg => hg.elim (hdis k hk) (fun h9 => by have := hnl k hk; omega)⟩
          obtain ⟨G2, hx3, hG2, hdis2⟩ := hB
          clear hx2 hx
          clear E
          have hx := hx3
          clear hx3
          refine Sx.st_take hT rfl rfl rfl rfl (Sx.x_move hT rfl rfl) ?_
          clear hT; intro a hT
          refine Sx.st_take hT rfl rfl rfl rfl (Sx.x_extract hT rfl rfl rfl) ?_
          clear hT; intro a hT
          refine Sx.st_take hT rfl rfl rfl rfl (Sx.x_extract hT rfl rfl rfl) ?_
          clear hT; intro a hT
          refine Sx.st_eff hT rfl rfl rfl rfl (Sx.y_alloc hT rfl Try.ti65 rfl _) ?_
          clear hT; rintro _ w3 ⟨b2, rfl, N⟩ a hT
          have hb2 : w.heap.size ≤ b2 := by rw [N.at_]; exact X.size
          have lB1_b2 : b1 < b2 := by have h1 := B1.lt; have h2 := N.at_; omega
          try (have hf_b2 := fun k hk => Nat.lt_of_lt_of_le (hn.lt k hk) (Nat.le_of_eq N.at_.symm))
          try (have hg_b2 := fun k hk => Nat.lt_of_lt_of_le (hx.lt k hk) (Nat.le_of_eq N.at_.symm))
          replace X := X.step N.ext
          replace B1 := B1.ext_no N.ext
          replace hn := hn.ext_no N.ext
          replace hx := hx.ext_no N.ext
          have B2 := N.blk
          clear N
          refine Sx.st_act hT rfl rfl rfl (Sx.y_storeS hT rfl Try.ti65 rfl rfl rfl rfl rfl B2 rfl) ?_
          rintro w4 ⟨NB2, E, z⟩
          replace X := X.fresh E (by omega)
          replace B1 := B1.ext E (by unfold Sx.One; omega)
          replace hn := hn.ext E (fun k hk h9 => by unfold Sx.One at h9; have := hf_b2 k hk; omega)
          replace hx := hx.ext E (fun k hk h9 => by unfold Sx.One at h9; have := hg_b2 k hk; omega)
          replace B2 := NB2; clear NB2 E
          refine Sx.st_take hT rfl rfl rfl rfl (Sx.x_assign hT rfl rfl) ?_
          clear hT; intro a hT
          replace hT := hT.keep [15, 75, 51, 20, 19, 6, 5, 0, 1, 2] rfl
          refine Sx.ser_nil ?_
          refine Sx.then_normal (hK10 _ _ ?_)
          clear hK10
          refine wp_seq_k fun K11 hK11 => ?_
          -- region 16 (law.go:63)
          refine Sx.wp_text [(0, .take), (1, .take), (2, .run), (3, .run), (4, .take), (5, .take), (6, .take)] rfl ?_
          refine Sx.st_take hT rfl rfl rfl rfl (Sx.x_move hT rfl rfl) ?_
          clear hT; intro a hT
          refine Sx.st_take hT rfl rfl rfl rfl (Sx.x_fieldAddr hT rfl Try.fa32_1 rfl) ?_
          clear hT; intro a hT
          refine Sx.st_run hT rfl rfl rfl rfl (Sx.x_load1 hT rfl Try.fl3 rfl (by first | exact (B1).nth rfl | exact (B2).nth rfl)) ?_
          clear hT; intro a hT
          refine Sx.st_call hT rfl rfl rfl rfl rfl Try.can21 rfl (nDrop_yes hn r.a k0 m hk0 hm) ?_
          rintro _ w5 ⟨rfl, hn2, E⟩
          refine ⟨_, rfl, ?_⟩
          clear hT; intro a hT
          replace X := X.trans E (fun k _ h9 => .inl h9)
          replace hx := hx.ext E (fun k hk h9 => hdis2 k h9 hk)
          clear B1 B2 E
          refine Sx.st_take hT rfl rfl rfl rfl (Sx.x_move hT rfl rfl) ?_
          clear hT; intro a hT
          refine Sx.st_take hT rfl rfl rfl rfl (Sx.x_eqb hT rfl Try.underlying4 rfl rfl) ?_
          clear hT; intro a hT
          refine Sx.st_take hT rfl rfl rfl rfl (Sx.x_assign hT rfl rfl) ?_
          clear hT; intro a hT
          replace hT := hT.keep [6, 15, 75, 51, 20, 19, 5, 0, 1, 2] rfl
          refine Sx.ser_nil ?_
          refine Sx.then_normal (hK11 _ _ ?_)
          clear hK11
          refine wp_ret ?_
          refine Sx.block_ret ?_
          refine Sx.then_ret ?_
          refine Sx.done1 (fn := Try.f19) hT rfl (.tmp (hT.get 6 _ rfl)) ?_
          exact ⟨congrArg (fun b => Ending.returned (.bool b)) (by simp), _, F, G2, hn2, hx, hdis2, fun k h => .inl h, hG2, X⟩
        · skip
          -- region 15 (law.go:62)
          refine Sx.wp_text [(0, .take), (1, .take), (2, .run), (3, .run), (4, .take), (5, .take), (6, .take), (7, .run), (8, .run), (9, .take)] rfl ?_
          refine Sx.st_take hT rfl rfl rfl rfl (Sx.x_move hT rfl rfl) ?_
          clear hT; intro a hT
          refine Sx.st_take hT rfl rfl rfl rfl (Sx.x_fieldAddr hT rfl Try.fa32_1 rfl) ?_
          clear hT; intro a hT
          refine Sx.st_run hT rfl rfl rfl rfl (Sx.x_load1 hT rfl Try.fl3 rfl (by first | exact (B1).nth rfl)) ?_
          clear hT; intro a hT
          refine Sx.st_call hT rfl rfl rfl rfl rfl Try.can30 rfl (zTake_no hx r.a hi) ?_
          rintro _ w2 ⟨rfl, E⟩
          refine ⟨_, rfl, ?_⟩
          clear hT; intro a hT
          replace X := X.step E
          replace B1 := B1.ext_no E
          replace hn := hn.ext_no E
          replace hx := hx.ext_no E
          refine Sx.st_take hT rfl rfl rfl rfl (Sx.x_move hT rfl rfl) ?_
          clear hT; intro a hT
          refine Sx.st_take hT rfl rfl rfl rfl (Sx.x_extract hT rfl rfl rfl) ?_
          clear hT; intro a hT
          refine Sx.st_take hT rfl rfl rfl rfl (Sx.x_extract hT rfl rfl rfl) ?_
          clear hT; intro a hT
          refine Sx.st_eff hT rfl rfl rfl rfl (Sx.y_alloc hT rfl Try.ti65 rfl _) ?_
          clear hT; rintro _ w3 ⟨b2, rfl, N⟩ a hT
          have hb2 : w.heap.size ≤ b2 := by rw [N.at_]; exact X.size
          have lB1_b2 : b1 < b2 := by have h1 := B1.lt; have h2 := N.at_; omega
          try (have hf_b2 := fun k hk => Nat.lt_of_lt_of_le (hn.lt k hk) (Nat.le_of_eq N.at_.symm))
          try (have hg_b2 := fun k hk => Nat.lt_of_lt_of_le (hx.lt k hk) (Nat.le_of_eq N.at_.symm))
          replace X := X.step N.ext
          replace B1 := B1.ext_no N.ext
          replace hn := hn.ext_no N.ext
          replace hx := hx.ext_no N.ext
          have B2 := N.blk
          clear N
          refine Sx.st_act hT rfl rfl rfl (Sx.y_storeS hT rfl Try.ti65 rfl rfl rfl rfl rfl B2 rfl) ?_
          rintro w4 ⟨NB2, E, z⟩
          replace X := X.fresh E (by omega)
          replace B1 := B1.ext E (by unfold Sx.One; omega)
          replace hn := hn.ext E (fun k hk h9 => by unfold Sx.One at h9; have := hf_b2 k hk; omega)
          replace hx := hx.ext E (fun k hk h9 => by unfold Sx.One at h9; have := hg_b2 k hk; omega)
          replace B2 := NB2; clear NB2 E
          refine Sx.st_take hT rfl rfl rfl rfl (Sx.x_assign hT rfl rfl) ?_
          clear hT; intro a hT
          replace hT := hT.keep [15, 75, 51, 20, 19, 6, 5, 0, 1, 2] rfl
          refine Sx.ser_nil ?_
          refine Sx.then_normal (hK10 _ _ ?_)
          clear hK10
          refine wp_seq_k fun K12 hK12 => ?_
          -- region 16 (law.go:63)
          refine Sx.wp_text [(0, .take), (1, .take), (2, .run), (3, .run), (4, .take), (5, .take), (6, .take)] rfl ?_
          refine Sx.st_take hT rfl rfl rfl rfl (Sx.x_move hT rfl rfl) ?_
          clear hT; intro a hT
          refine Sx.st_take hT rfl rfl rfl rfl (Sx.x_fieldAddr hT rfl Try.fa32_1 rfl) ?_
          clear hT; intro a hT
          refine Sx.st_run hT rfl rfl rfl rfl (Sx.x_load1 hT rfl Try.fl3 rfl (by first | exact (B1).nth rfl | exact (B2).nth rfl)) ?_
          clear hT; intro a hT
          refine Sx.st_call hT rfl rfl rfl rfl rfl Try.can21 rfl (nDrop_no hn r.a hi) ?_
          rintro _ w5 ⟨rfl, E⟩
          refine ⟨_, rfl, ?_⟩
          clear hT; intro a hT
          replace X := X.step E
          replace B1 := B1.ext_no E
          replace B2 := B2.ext_no E
          replace hn := hn.ext_no E
          replace hx := hx.ext_no E
          refine Sx.st_take hT rfl rfl rfl rfl (Sx.x_move hT rfl rfl) ?_
          clear hT; intro a hT
          refine Sx.st_take hT rfl rfl rfl rfl (Sx.x_eqb hT rfl Try.underlying4 rfl rfl) ?_
          clear hT; intro a hT
          refine Sx.st_take hT rfl rfl rfl rfl (Sx.x_assign hT rfl rfl) ?_
          clear hT; intro a hT
          replace hT := hT.keep [6, 15, 75, 51, 20, 19, 5, 0, 1, 2] rfl
          refine Sx.ser_nil ?_
          refine Sx.then_normal (hK12 _ _ ?_)
          clear hK12
          refine wp_ret ?_
          refine Sx.block_ret ?_
          refine Sx.then_ret ?_
          refine Sx.done1 (fn := Try.f19) hT rfl (.tmp (hT.get 6 _ rfl)) ?_
          exact ⟨congrArg (fun b => Ending.returned (.bool b)) (by simp), ms, F, G, hn, hx, hdis, fun k h => .inl h, fun k h => .inl h, X⟩
      · exfalso
        try simp only [decide_eq_true_eq, decide_eq_false_iff_not, Bool.not_eq_true', Bool.not_eq_false', Bool.not_eq_true, Bool.not_eq_false, Bool.and_eq_true, Bool.or_eq_false_iff, beq_iff_eq, bne_iff_ne, Int.not_lt, Int.not_le, ne_eq] at hc9
        first | omega | simp at hc9

theorem does_take {p q : Nat} {room : Int} {ms : List Mail} {F G : Nat → Prop} (w : World) (hn : Net w p room ms F) (hx : XNet w q room ms G) (hdis : ∀ k, F k → ¬ G k) (r : ROp) (hkind : r.kind = 2) :
    Calls Try.prog 19 #[.pointer (some ⟨p, 0, none⟩), .pointer (some ⟨q, 0, none⟩), .agg #[.int .i64 r.kind, .int .i64 r.a, .int .i64 r.b, .slice r.ad r.n r.c]] w fun e w' => e = .returned (.bool true) ∧ Both w w' p q room F G := by
  have hFl := hn.lt
  have hGl := hx.lt
  have hqG := hx.inp
  have hpq : ∀ k, F k → k ≠ q := fun k hk h9 => hdis k hk (h9 ▸ hqG)
  refine Sx.calls_into Try.func19 rfl Try.ntmps19 rfl fun a hT => ?_
  replace hT := hT.keep [0, 1, 2] rfl
  have X : Sx.Ext ((fun k => F k ∨ G k)) w w := Sx.Ext.refl _ _
  refine wp_seq_k fun K1 hK1 => ?_
  -- region 0 (law.go:48)
  refine Sx.wp_text [(0, .run), (1, .take)] rfl ?_
  refine Sx.st_eff hT rfl rfl rfl rfl (Sx.y_box hT rfl rfl rfl _) ?_
  clear hT; rintro _ w1 ⟨b1, rfl, N⟩ a hT
  have hb1 : w.heap.size ≤ b1 := by rw [N.at_]; exact X.size
  try (have hf_b1 := fun k hk => Nat.lt_of_lt_of_le (hn.lt k hk) (Nat.le_of_eq N.at_.symm))
  try (have hg_b1 := fun k hk => Nat.lt_of_lt_of_le (hx.lt k hk) (Nat.le_of_eq N.at_.symm))
  try (have hd_b1 := fun h0 => Nat.lt_of_lt_of_le (hto.bs.lt h0) (Nat.le_of_eq N.at_.symm))
  replace X := X.step N.ext
  replace hn := hn.ext_no N.ext
  replace hx := hx.ext_no N.ext
  have B1 := N.blk
  clear N
  refine Sx.st_take hT rfl rfl rfl rfl (Sx.x_assign hT rfl rfl) ?_
  clear hT; intro a hT
  replace hT := hT.keep [6, 5, 0, 1, 2] rfl
  refine Sx.ser_nil ?_
  refine Sx.then_normal (hK1 _ _ ?_)
  clear hK1
  refine wp_seq_k fun K2 hK2 => ?_
  refine wp_seq_k fun K3 hK3 => ?_
  -- region 1 (law.go:49)
  refine Sx.wp_text [(0, .take), (1, .run)] rfl ?_
  refine Sx.st_take hT rfl rfl rfl rfl (Sx.x_fieldAddr hT rfl Try.fa32_0 rfl) ?_
  clear hT; intro a hT
  refine Sx.st_run hT rfl rfl rfl rfl (Sx.x_load1 hT rfl Try.fl3 rfl (by first | exact (B1).nth rfl)) ?_
  clear hT; intro a hT
  replace hT := hT.keep [19, 6, 5, 0, 1, 2] rfl
  refine Sx.ser_nil ?_
  refine Sx.then_normal (hK3 _ _ ?_)
  clear hK3
  refine wp_block ?_
  refine wp_seq_k fun K4 hK4 => ?_
  -- region 2 (law.go:50)
  refine Sx.wp_text [(0, .take), (1, .take)] rfl ?_
  refine Sx.st_take hT rfl rfl rfl rfl ((fun w => Sx.x_eq w hT rfl rfl rfl)) ?_
  clear hT; intro a hT
  refine Sx.st_take hT rfl rfl rfl rfl (Sx.x_assign hT rfl rfl) ?_
  clear hT; intro a hT
  replace hT := hT.keep [20, 19, 6, 5, 0, 1, 2] rfl
  refine Sx.ser_nil ?_
  refine Sx.then_normal (hK4 _ _ ?_)
  clear hK4
  -- cond 0
  refine Sx.wp_if hT rfl (fun hc5 => ?_) (fun hc5 => ?_)
  · exfalso
    try simp only [decide_eq_true_eq, decide_eq_false_iff_not, Bool.not_eq_true', Bool.not_eq_false', Bool.not_eq_true, Bool.not_eq_false, Bool.and_eq_true, Bool.or_eq_false_iff, beq_iff_eq, bne_iff_ne, Int.not_lt, Int.not_le, ne_eq] at hc5
    first | omega | simp at hc5
  · try simp only [decide_eq_true_eq, decide_eq_false_iff_not, Bool.not_eq_true', Bool.not_eq_false', Bool.not_eq_true, Bool.not_eq_false, Bool.and_eq_true, Bool.or_eq_false_iff, beq_iff_eq, bne_iff_ne, Int.not_lt, Int.not_le, ne_eq] at hc5
    refine wp_seq_k fun K6 hK6 => ?_
    -- region 10 (law.go:57)
    refine Sx.wp_text [(0, .take), (1, .take)] rfl ?_
    refine Sx.st_take hT rfl rfl rfl rfl ((fun w => Sx.x_eq w hT rfl rfl rfl)) ?_
    clear hT; intro a hT
    refine Sx.st_take hT rfl rfl rfl rfl (Sx.x_assign hT rfl rfl) ?_
    clear hT; intro a hT
    replace hT := hT.keep [51, 20, 19, 6, 5, 0, 1, 2] rfl
    refine Sx.ser_nil ?_
    refine Sx.then_normal (hK6 _ _ ?_)
    clear hK6
    -- cond 2
    refine Sx.wp_if hT rfl (fun hc7 => ?_) (fun hc7 => ?_)
    · try simp only [decide_eq_true_eq, decide_eq_false_iff_not, Bool.not_eq_true', Bool.not_eq_false', Bool.not_eq_true, Bool.not_eq_false, Bool.and_eq_true, Bool.or_eq_false_iff, beq_iff_eq, bne_iff_ne, Int.not_lt, Int.not_le, ne_eq] at hc7
      refine wp_seq_k fun K8 hK8 => ?_
      by_cases hi : 0 ≤ r.a ∧ r.a < ms.length
      · skip
        obtain ⟨k0, hk0⟩ : ∃ k0 : Nat, r.a = k0 := ⟨r.a.toNat, by omega⟩
        have hk1 : k0 < ms.length := by omega
        obtain ⟨m, hm⟩ : ∃ m, ms[k0]? = some m := ⟨_, List.getElem?_eq_getElem hk1⟩
        -- region 11 (law.go:58)
        refine Sx.wp_text [(0, .take), (1, .take), (2, .run), (3, .run), (4, .take), (5, .take), (6, .take), (7, .run), (8, .run), (9, .take)] rfl ?_
        refine Sx.st_take hT rfl rfl rfl rfl (Sx.x_move hT rfl rfl) ?_
        clear hT; intro a hT
        refine Sx.st_take hT rfl rfl rfl rfl (Sx.x_fieldAddr hT rfl Try.fa32_1 rfl) ?_
        clear hT; intro a hT
        refine Sx.st_run hT rfl rfl rfl rfl (Sx.x_load1 hT rfl Try.fl3 rfl (by first | exact (B1).nth rfl)) ?_
        clear hT; intro a hT
        refine Sx.st_call hT rfl rfl rfl rfl rfl Try.can16 rfl (nTake_yes hn r.a k0 m hk0 hm) ?_
        have hz1 := X.size
        rintro _ w2 ⟨ad4, c4, rfl, hto, hn2, E⟩
        refine ⟨_, rfl, ?_⟩
        clear hT; intro a hT
        replace X := X.trans E (fun k _ h9 => .inl h9)
        replace hx := hx.ext E (fun k hk h9 => hdis k h9 hk)
        replace B1 := B1.ext E (fun h9 => by have := hf_b1 _ h9; omega)
        have hnew : 0 < m.data.length → w.heap.size ≤ ab ad4 := fun h0 => Nat.le_trans hz1 (hto.new h0)
        clear hn E
        have hn := hn2
        clear hn2
        refine Sx.st_take hT rfl rfl rfl rfl (Sx.x_move hT rfl rfl) ?_
        clear hT; intro a hT
        refine Sx.st_take hT rfl rfl rfl rfl (Sx.x_extract hT rfl rfl rfl) ?_
        clear hT; intro a hT
        refine Sx.st_take hT rfl rfl rfl rfl (Sx.x_extract hT rfl rfl rfl) ?_
        clear hT; intro a hT
        refine Sx.st_eff hT rfl rfl rfl rfl (Sx.y_alloc hT rfl Try.ti34 rfl _) ?_
        clear hT; rintro _ w3 ⟨b2, rfl, N⟩ a hT
        have hb2 : w.heap.size ≤ b2 := by rw [N.at_]; exact X.size
        have lB1_b2 : b1 < b2 := by have h1 := B1.lt; have h2 := N.at_; omega
        try (have hf_b2 := fun k hk => Nat.lt_of_lt_of_le (hn.lt k hk) (Nat.le_of_eq N.at_.symm))
        try (have hg_b2 := fun k hk => Nat.lt_of_lt_of_le (hx.lt k hk) (Nat.le_of_eq N.at_.symm))
        try (have hd_b2 := fun h0 => Nat.lt_of_lt_of_le (hto.bs.lt h0) (Nat.le_of_eq N.at_.symm))
        replace X := X.step N.ext
        replace B1 := B1.ext_no N.ext
        replace hn := hn.ext_no N.ext
        replace hx := hx.ext_no N.ext
        replace hto := hto.ext_no N.ext
        have B2 := N.blk
        clear N
        refine Sx.st_act hT rfl rfl rfl (Sx.y_storeS hT rfl Try.ti34 rfl rfl rfl rfl rfl B2 rfl) ?_
        rintro w4 ⟨NB2, E, z⟩
        replace X := X.fresh E (by omega)
        replace B1 := B1.ext E (by unfold Sx.One; omega)
        replace hn := hn.ext E (fun k hk h9 => by unfold Sx.One at h9; have := hf_b2 k hk; omega)
        replace hx := hx.ext E (fun k hk h9 => by unfold Sx.One at h9; have := hg_b2 k hk; omega)
        replace hto := hto.ext E (fun h0 h9 => by unfold Sx.One at h9; have := hd_b2 h0; omega)
        replace B2 := NB2; clear NB2 E
        refine Sx.st_take hT rfl rfl rfl rfl (Sx.x_assign hT rfl rfl) ?_
        clear hT; intro a hT
        replace hT := hT.keep [11, 10, 51, 20, 19, 6, 5, 0, 1, 2] rfl
        refine Sx.ser_nil ?_
        refine Sx.then_normal (hK8 _ _ ?_)
        clear hK8
        refine wp_seq_k fun K9 hK9 => ?_
        -- region 12 (law.go:59)
        refine Sx.wp_text [(0, .take), (1, .take), (2, .run), (3, .run), (4, .take), (5, .take), (6, .take), (7, .run), (8, .run), (9, .take)] rfl ?_
        refine Sx.st_take hT rfl rfl rfl rfl (Sx.x_move hT rfl rfl) ?_
        clear hT; intro a hT
        refine Sx.st_take hT rfl rfl rfl rfl (Sx.x_fieldAddr hT rfl Try.fa32_1 rfl) ?_
        clear hT; intro a hT
        refine Sx.st_run hT rfl rfl rfl rfl (Sx.x_load1 hT rfl Try.fl3 rfl (by first | exact (B1).nth rfl | exact (B2).nth rfl)) ?_
        clear hT; intro a hT
        refine Sx.st_call hT rfl rfl rfl rfl rfl Try.can30 rfl (zTake_yes hx r.a k0 m hk0 hm) ?_
        have hz2 := X.size
        have hnl := hn.lt
        rintro _ w5 ⟨r5, rfl, hmr5, hx2, hrq, E⟩
        refine ⟨_, rfl, ?_⟩
        clear hT; intro a hT
        replace X := X.trans E (fun k _ h9 => .inr (by unfold Sx.One at h9; rw [h9]; exact hqG))
        replace hn := hn.ext E (fun k hk h9 => hpq k hk h9)
        replace B1 := B1.ext E (fun h9 => by unfold Sx.One at h9; have := hg_b1 q hqG; omega)
        have hB : ∃ G2 : Nat → Prop, XNet _ q room (ms.take k0 ++ ms.drop (k0 + 1)) G2 ∧ (∀ k, G2 k → G k ∨ w.heap.size ≤ k) ∧ (∀ k, F k → ¬ G2 k) := ⟨_, hx2, fun k hk => hk.imp id (fun h9 => by omega), fun k hk hg => hg.elim (hdis k hk) (fun h9 => by have := hnl k hk; omega)⟩
        obtain ⟨G2, hx3, hG2, hdis2⟩ := hB
        clear hx2 hx
        replace B2 := B2.ext E (fun h9 => by unfold Sx.One at h9; have := hg_b2 q hqG; omega)
        replace hto := hto.ext E (fun h0 h9 => by unfold Sx.One at h9; have := hnew h0; have := hGl q hqG; omega)
        clear E
        have hx := hx3
        clear hx3
        refine Sx.st_take hT rfl rfl rfl rfl (Sx.x_move hT rfl rfl) ?_
        clear hT; intro a hT
        refine Sx.st_take hT rfl rfl rfl rfl (Sx.x_extract hT rfl rfl rfl) ?_
        clear hT; intro a hT
        refine Sx.st_take hT rfl rfl rfl rfl (Sx.x_extract hT rfl rfl rfl) ?_
        clear hT; intro a hT
        refine Sx.st_eff hT rfl rfl rfl rfl (Sx.y_alloc hT rfl Try.ti65 rfl _) ?_
        clear hT; rintro _ w6 ⟨b3, rfl, N⟩ a hT
        have hb3 : w.heap.size ≤ b3 := by rw [N.at_]; exact X.size
        have lB1_b3 : b1 < b3 := by have h1 := B1.lt; have h2 := N.at_; omega
        have lB2_b3 : b2 < b3 := by have h1 := B2.lt; have h2 := N.at_; omega
        try (have hf_b3 := fun k hk => Nat.lt_of_lt_of_le (hn.lt k hk) (Nat.le_of_eq N.at_.symm))
        try (have hg_b3 := fun k hk => Nat.lt_of_lt_of_le (hx.lt k hk) (Nat.le_of_eq N.at_.symm))
        try (have hd_b3 := fun h0 => Nat.lt_of_lt_of_le (hto.bs.lt h0) (Nat.le_of_eq N.at_.symm))
        replace X := X.step N.ext
        replace B1 := B1.ext_no N.ext
        replace B2 := B2.ext_no N.ext
        replace hn := hn.ext_no N.ext
        replace hx := hx.ext_no N.ext
        replace hto := hto.ext_no N.ext
        replace hmr5 := hmr5.ext_no N.ext
        have B3 := N.blk
        clear N
        refine Sx.st_act hT rfl rfl rfl (Sx.y_storeS hT rfl Try.ti65 rfl rfl rfl rfl rfl B3 rfl) ?_
        rintro w7 ⟨NB3, E, z⟩
        replace X := X.fresh E (by omega)
        replace B1 := B1.ext E (by unfold Sx.One; omega)
        replace B2 := B2.ext E (by unfold Sx.One; omega)
        replace hn := hn.ext E (fun k hk h9 => by unfold Sx.One at h9; have := hf_b3 k hk; omega)
        replace hx := hx.ext E (fun k hk h9 => by unfold Sx.One at h9; have := hg_b3 k hk; omega)
        replace hto := hto.ext E (fun h0 h9 => by unfold Sx.One at h9; have := hd_b3 h0; omega)
        replace hmr5 := hmr5.ext E (fun h0 h9 => by unfold Sx.One at h9; have := hGl _ (hrq h0).1; omega)
        replace B3 := NB3; clear NB3 E
        refine Sx.st_take hT rfl rfl rfl rfl (Sx.x_assign hT rfl rfl) ?_
        clear hT; intro a hT
        replace hT := hT.keep [13, 12, 11, 10, 51, 20, 19, 6, 5, 0, 1, 2] rfl
        refine Sx.ser_nil ?_
        refine Sx.then_normal (hK9 _ _ ?_)
        clear hK9
        refine wp_seq_k fun K10 hK10 => ?_
        -- region 13 (law.go:60)
        refine Sx.wp_text [(0, .take), (1, .take), (2, .take), (3, .take), (4, .run), (5, .run), (6, .run), (7, .take), (8, .take)] rfl ?_
        refine Sx.st_take hT rfl rfl rfl rfl (Sx.x_move hT rfl rfl) ?_
        clear hT; intro a hT
        refine Sx.st_take hT rfl rfl rfl rfl (Sx.x_move hT rfl rfl) ?_
        clear hT; intro a hT
        refine Sx.st_take hT rfl rfl rfl rfl (Sx.x_eqb hT rfl Try.underlying4 rfl rfl) ?_
        clear hT; intro a hT
        refine Sx.st_take hT rfl rfl rfl rfl (Sx.x_move hT rfl rfl) ?_
        clear hT; intro a hT
        -- guard (13, 3)
        refine Sx.Sl.two hT 70 rfl (fun hc11 hT => ?_) (fun hc11 hT => ?_)
        · try simp only [decide_eq_true_eq, decide_eq_false_iff_not, Bool.not_eq_true', Bool.not_eq_false', Bool.not_eq_true, Bool.not_eq_false, Bool.and_eq_true, Bool.or_eq_false_iff, beq_iff_eq, bne_iff_ne, Int.not_lt, Int.not_le, ne_eq] at hc11
          refine Sx.st_run hT rfl rfl rfl rfl (Sx.y_loadS hT rfl Try.underlying34 Try.ti34 rfl (by first | exact (B1).seg (k := 3) rfl | exact (B2).seg (k := 3) rfl | exact (B3).seg (k := 3) rfl) (by rfl)) ?_
          clear hT; intro a hT
          refine Sx.st_run hT rfl rfl rfl rfl (Sx.y_loadS hT rfl Try.underlying65 Try.ti65 rfl (by first | exact (B1).seg (k := 3) rfl | exact (B2).seg (k := 3) rfl | exact (B3).seg (k := 3) rfl) (by rfl)) ?_
          clear hT; intro a hT
          refine Sx.st_call hT rfl rfl rfl rfl rfl Try.can31 rfl (same_is true m.src m.dst r5.f r5.t ad4 r5.ad _ _ c4 r5.c m.data m.data _ hto.bs hmr5.bs rfl hmr5.n (by simp [hmr5.src, hmr5.dst])) ?_
          rintro _ w8 ⟨rfl, E⟩
          refine ⟨_, rfl, ?_⟩
          clear hT; intro a hT
          replace X := X.step E
          replace B1 := B1.ext_no E
          replace B2 := B2.ext_no E
          replace B3 := B3.ext_no E
          replace hn := hn.ext_no E
          replace hx := hx.ext_no E
          replace hto := hto.ext_no E
          replace hmr5 := hmr5.ext_no E
          refine Sx.st_take hT rfl rfl rfl rfl (Sx.x_pick_t hT rfl rfl rfl) ?_
          clear hT; intro a hT
          refine Sx.st_take hT rfl rfl rfl rfl (Sx.x_assign hT rfl rfl) ?_
          clear hT; intro a hT
          replace hT := hT.keep [6, 13, 12, 11, 10, 51, 20, 19, 5, 0, 1, 2] rfl
          refine Sx.ser_nil ?_
          refine Sx.then_normal (hK10 _ _ ?_)
          clear hK10
          refine wp_ret ?_
          refine Sx.block_ret ?_
          refine Sx.then_ret ?_
          refine Sx.done1 (fn := Try.f19) hT rfl (.tmp (hT.get 6 _ rfl)) ?_
          exact ⟨rfl, _, F, G2, hn, hx, hdis2, fun k h => .inl h, hG2, X⟩
        · exfalso
          try simp only [decide_eq_true_eq, decide_eq_false_iff_not, Bool.not_eq_true', Bool.not_eq_false', Bool.not_eq_true, Bool.not_eq_false, Bool.and_eq_true, Bool.or_eq_false_iff, beq_iff_eq, bne_iff_ne, Int.not_lt, Int.not_le, ne_eq] at hc11
          simp at hc11
      · skip
        -- region 11 (law.go:58)
        refine Sx.wp_text [(0, .take), (1, .take), (2, .run), (3, .run), (4, .take), (5, .take), (6, .take), (7, .run), (8, .run), (9, .take)] rfl ?_
        refine Sx.st_take hT rfl rfl rfl rfl (Sx.x_move hT rfl rfl) ?_
        clear hT; intro a hT
        refine Sx.st_take hT rfl rfl rfl rfl (Sx.x_fieldAddr hT rfl Try.fa32_1 rfl) ?_
        clear hT; intro a hT
        refine Sx.st_run hT rfl rfl rfl rfl (Sx.x_load1 hT rfl Try.fl3 rfl (by first | exact (B1).nth rfl)) ?_
        clear hT; intro a hT
        refine Sx.st_call hT rfl rfl rfl rfl rfl Try.can16 rfl (nTake_no hn r.a hi) ?_
        rintro _ w2 ⟨rfl, E⟩
        refine ⟨_, rfl, ?_⟩
        clear hT; intro a hT
        replace X := X.step E
        replace B1 := B1.ext_no E
        replace hn := hn.ext_no E
        replace hx := hx.ext_no E
        refine Sx.st_take hT rfl rfl rfl rfl (Sx.x_move hT rfl rfl) ?_
        clear hT; intro a hT
        refine Sx.st_take hT rfl rfl rfl rfl (Sx.x_extract hT rfl rfl rfl) ?_
        clear hT; intro a hT
        refine Sx.st_take hT rfl rfl rfl rfl (Sx.x_extract hT rfl rfl rfl) ?_
        clear hT; intro a hT
        refine Sx.st_eff hT rfl rfl rfl rfl (Sx.y_alloc hT rfl Try.ti34 rfl _) ?_
        clear hT; rintro _ w3 ⟨b2, rfl, N⟩ a hT
        have hb2 : w.heap.size ≤ b2 := by rw [N.at_]; exact X.size
        have lB1_b2 : b1 < b2 := by have h1 := B1.lt; have h2 := N.at_; omega
        try (have hf_b2 := fun k hk => Nat.lt_of_lt_of_le (hn.lt k hk) (Nat.le_of_eq N.at_.symm))
        try (have hg_b2 := fun k hk => Nat.lt_of_lt_of_le (hx.lt k hk) (Nat.le_of_eq N.at_.symm))
        try (have hd_b2 := fun h0 => Nat.lt_of_lt_of_le (hto.bs.lt h0) (Nat.le_of_eq N.at_.symm))
        replace X := X.step N.ext
        replace B1 := B1.ext_no N.ext
        replace hn := hn.ext_no N.ext
        replace hx := hx.ext_no N.ext
        have B2 := N.blk
        clear N
        refine Sx.st_act hT rfl rfl rfl (Sx.y_storeS hT rfl Try.ti34 rfl rfl rfl rfl rfl B2 rfl) ?_
        rintro w4 ⟨NB2, E, z⟩
        replace X := X.fresh E (by omega)
        replace B1 := B1.ext E (by unfold Sx.One; omega)
        replace hn := hn.ext E (fun k hk h9 => by unfold Sx.One at h9; have := hf_b2 k hk; omega)
        replace hx := hx.ext E (fun k hk h9 => by unfold Sx.One at h9; have := hg_b2 k hk; omega)
        replace B2 := NB2; clear NB2 E
        refine Sx.st_take hT rfl rfl rfl rfl (Sx.x_assign hT rfl rfl) ?_
        clear hT; intro a hT
        replace hT := hT.keep [11, 10, 51, 20, 19, 6, 5, 0, 1, 2] rfl
        refine Sx.ser_nil ?_
        refine Sx.then_normal (hK8 _ _ ?_)
        clear hK8
        refine wp_seq_k fun K12 hK12 => ?_
        -- region 12 (law.go:59)
        refine Sx.wp_text [(0, .take), (1, .take), (2, .run), (3, .run), (4, .take), (5, .take), (6, .take), (7, .run), (8, .run), (9, .take)] rfl ?_
        refine Sx.st_take hT rfl rfl rfl rfl (Sx.x_move hT rfl rfl) ?_
        clear hT; intro a hT
        refine Sx.st_take hT rfl rfl rfl rfl (Sx.x_fieldAddr hT rfl Try.fa32_1 rfl) ?_
        clear hT; intro a hT
        refine Sx.st_run hT rfl rfl rfl rfl (Sx.x_load1 hT rfl Try.fl3 rfl (by first | exact (B1).nth rfl | exact (B2).nth rfl)) ?_
        clear hT; intro a hT
        refine Sx.st_call hT rfl rfl rfl rfl rfl Try.can30 rfl (zTake_no hx r.a hi) ?_
        rintro _ w5 ⟨rfl, E⟩
        refine ⟨_, rfl, ?_⟩
        clear hT; intro a hT
        replace X := X.step E
        replace B1 := B1.ext_no E
        replace B2 := B2.ext_no E
        replace hn := hn.ext_no E
        replace hx := hx.ext_no E
        refine Sx.st_take hT rfl rfl rfl rfl (Sx.x_move hT rfl rfl) ?_
        clear hT; intro a hT
        refine Sx.st_take hT rfl rfl rfl rfl (Sx.x_extract hT rfl rfl rfl) ?_
        clear hT; intro a hT
        refine Sx.st_take hT rfl rfl rfl rfl (Sx.x_extract hT rfl rfl rfl) ?_
        clear hT; intro a hT
        refine Sx.st_eff hT rfl rfl rfl rfl (Sx.y_alloc hT rfl Try.ti65 rfl _) ?_
        clear hT; rintro _ w6 ⟨b3, rfl, N⟩ a hT
        have hb3 : w.heap.size ≤ b3 := by rw [N.at_]; exact X.size
        have lB1_b3 : b1 < b3 := by have h1 := B1.lt; have h2 := N.at_; omega
        have lB2_b3 : b2 < b3 := by have h1 := B2.lt; have h2 := N.at_; omega
        try (have hf_b3 := fun k hk => Nat.lt_of_lt_of_le (hn.lt k hk) (Nat.le_of_eq N.at_.symm))
        try (have hg_b3 := fun k hk => Nat.lt_of_lt_of_le (hx.lt k hk) (Nat.le_of_eq N.at_.symm))
        try (have hd_b3 := fun h0 => Nat.lt_of_lt_of_le (hto.bs.lt h0) (Nat.le_of_eq N.at_.symm))
        replace X := X.step N.ext
        replace B1 := B1.ext_no N.ext
        replace B2 := B2.ext_no N.ext
        replace hn := hn.ext_no N.ext
        replace hx := hx.ext_no N.ext
        have B3 := N.blk
        clear N
        refine Sx.st_act hT rfl rfl rfl (Sx.y_storeS hT rfl Try.ti65 rfl rfl rfl rfl rfl B3 rfl) ?_
        rintro w7 ⟨NB3, E, z⟩
        replace X := X.fresh E (by omega)
        replace B1 := B1.ext E (by unfold Sx.One; omega)
        replace B2 := B2.ext E (by unfold Sx.One; omega)
        replace hn := hn.ext E (fun k hk h9 => by unfold Sx.One at h9; have := hf_b3 k hk; omega)
        replace hx := hx.ext E (fun k hk h9 => by unfold Sx.One at h9; have := hg_b3 k hk; omega)
        replace B3 := NB3; clear NB3 E
        refine Sx.st_take hT rfl rfl rfl rfl (Sx.x_assign hT rfl rfl) ?_
        clear hT; intro a hT
        replace hT := hT.keep [13, 12, 11, 10, 51, 20, 19, 6, 5, 0, 1, 2] rfl
        refine Sx.ser_nil ?_
        refine Sx.then_normal (hK12 _ _ ?_)
        clear hK12
        refine wp_seq_k fun K13 hK13 => ?_
        -- region 13 (law.go:60)
        refine Sx.wp_text [(0, .take), (1, .take), (2, .take), (3, .take), (4, .run), (5, .run), (6, .run), (7, .take), (8, .take)] rfl ?_
        refine Sx.st_take hT rfl rfl rfl rfl (Sx.x_move hT rfl rfl) ?_
        clear hT; intro a hT
        refine Sx.st_take hT rfl rfl rfl rfl (Sx.x_move hT rfl rfl) ?_
        clear hT; intro a hT
        refine Sx.st_take hT rfl rfl rfl rfl (Sx.x_eqb hT rfl Try.underlying4 rfl rfl) ?_
        clear hT; intro a hT
        refine Sx.st_take hT rfl rfl rfl rfl (Sx.x_move hT rfl rfl) ?_
        clear hT; intro a hT
        -- guard (13, 3)
        refine Sx.Sl.two hT 70 rfl (fun hc14 hT => ?_) (fun hc14 hT => ?_)
        · try simp only [decide_eq_true_eq, decide_eq_false_iff_not, Bool.not_eq_true', Bool.not_eq_false', Bool.not_eq_true, Bool.not_eq_false, Bool.and_eq_true, Bool.or_eq_false_iff, beq_iff_eq, bne_iff_ne, Int.not_lt, Int.not_le, ne_eq] at hc14
          refine Sx.st_run hT rfl rfl rfl rfl (Sx.y_loadS hT rfl Try.underlying34 Try.ti34 rfl (by first | exact (B1).seg (k := 3) rfl | exact (B2).seg (k := 3) rfl | exact (B3).seg (k := 3) rfl) (by rfl)) ?_
          clear hT; intro a hT
          refine Sx.st_run hT rfl rfl rfl rfl (Sx.y_loadS hT rfl Try.underlying65 Try.ti65 rfl (by first | exact (B1).seg (k := 3) rfl | exact (B2).seg (k := 3) rfl | exact (B3).seg (k := 3) rfl) (by rfl)) ?_
          clear hT; intro a hT
          refine Sx.st_call hT rfl rfl rfl rfl rfl Try.can31 rfl (same_is true 0 0 0 0 none none 0 0 0 0 [] [] _ (Sv.nil _ 1) (Sv.nil _ 1) rfl rfl (by simp)) ?_
          rintro _ w8 ⟨rfl, E⟩
          refine ⟨_, rfl, ?_⟩
          clear hT; intro a hT
          replace X := X.step E
          replace B1 := B1.ext_no E
          replace B2 := B2.ext_no E
          replace B3 := B3.ext_no E
          replace hn := hn.ext_no E
          replace hx := hx.ext_no E
          refine Sx.st_take hT rfl rfl rfl rfl (Sx.x_pick_t hT rfl rfl rfl) ?_
          clear hT; intro a hT
          refine Sx.st_take hT rfl rfl rfl rfl (Sx.x_assign hT rfl rfl) ?_
          clear hT; intro a hT
          replace hT := hT.keep [6, 13, 12, 11, 10, 51, 20, 19, 5, 0, 1, 2] rfl
          refine Sx.ser_nil ?_
          refine Sx.then_normal (hK13 _ _ ?_)
          clear hK13
          refine wp_ret ?_
          refine Sx.block_ret ?_
          refine Sx.then_ret ?_
          refine Sx.done1 (fn := Try.f19) hT rfl (.tmp (hT.get 6 _ rfl)) ?_
          exact ⟨rfl, ms, F, G, hn, hx, hdis, fun k h => .inl h, fun k h => .inl h, X⟩
        · exfalso
          try simp only [decide_eq_true_eq, decide_eq_false_iff_not, Bool.not_eq_true', Bool.not_eq_false', Bool.not_eq_true, Bool.not_eq_false, Bool.and_eq_true, Bool.or_eq_false_iff, beq_iff_eq, bne_iff_ne, Int.not_lt, Int.not_le, ne_eq] at hc14
          simp at hc14
    · exfalso
      try simp only [decide_eq_true_eq, decide_eq_false_iff_not, Bool.not_eq_true', Bool.not_eq_false', Bool.not_eq_true, Bool.not_eq_false, Bool.and_eq_true, Bool.or_eq_false_iff, beq_iff_eq, bne_iff_ne, Int.not_lt, Int.not_le, ne_eq] at hc7
      first | omega | simp at hc7

theorem does_at {p q : Nat} {room : Int} {ms : List Mail} {F G : Nat → Prop} (w : World) (hn : Net w p room ms F) (hx : XNet w q room ms G) (hdis : ∀ k, F k → ¬ G k) (r : ROp) (hkind : r.kind < 1 ∨ 6 < r.kind) :
    Calls Try.prog 19 #[.pointer (some ⟨p, 0, none⟩), .pointer (some ⟨q, 0, none⟩), .agg #[.int .i64 r.kind, .int .i64 r.a, .int .i64 r.b, .slice r.ad r.n r.c]] w fun e w' => e = .returned (.bool true) ∧ Both w w' p q room F G := by
  have hFl := hn.lt
  have hGl := hx.lt
  have hqG := hx.inp
  have hpq : ∀ k, F k → k ≠ q := fun k hk h9 => hdis k hk (h9 ▸ hqG)
  refine Sx.calls_into Try.func19 rfl Try.ntmps19 rfl fun a hT => ?_
  replace hT := hT.keep [0, 1, 2] rfl
  have X : Sx.Ext ((fun k => F k ∨ G k)) w w := Sx.Ext.refl _ _
  refine wp_seq_k fun K1 hK1 => ?_
  -- region 0 (law.go:48)
  refine Sx.wp_text [(0, .run), (1, .take)] rfl ?_
  refine Sx.st_eff hT rfl rfl rfl rfl (Sx.y_box hT rfl rfl rfl _) ?_
  clear hT; rintro _ w1 ⟨b1, rfl, N⟩ a hT
  have hb1 : w.heap.size ≤ b1 := by rw [N.at_]; exact X.size
  try (have hf_b1 := fun k hk => Nat.lt_of_lt_of_le (hn.lt k hk) (Nat.le_of_eq N.at_.symm))
  try (have hg_b1 := fun k hk => Nat.lt_of_lt_of_le (hx.lt k hk) (Nat.le_of_eq N.at_.symm))
  replace X := X.step N.ext
  replace hn := hn.ext_no N.ext
  replace hx := hx.ext_no N.ext
  have B1 := N.blk
  clear N
  refine Sx.st_take hT rfl rfl rfl rfl (Sx.x_assign hT rfl rfl) ?_
  clear hT; intro a hT
  replace hT := hT.keep [6, 5, 0, 1, 2] rfl
  refine Sx.ser_nil ?_
  refine Sx.then_normal (hK1 _ _ ?_)
  clear hK1
  refine wp_seq_k fun K2 hK2 => ?_
  refine wp_seq_k fun K3 hK3 => ?_
  -- region 1 (law.go:49)
  refine Sx.wp_text [(0, .take), (1, .run)] rfl ?_
  refine Sx.st_take hT rfl rfl rfl rfl (Sx.x_fieldAddr hT rfl Try.fa32_0 rfl) ?_
  clear hT; intro a hT
  refine Sx.st_run hT rfl rfl rfl rfl (Sx.x_load1 hT rfl Try.fl3 rfl (by first | exact (B1).nth rfl)) ?_
  clear hT; intro a hT
  replace hT := hT.keep [19, 6, 5, 0, 1, 2] rfl
  refine Sx.ser_nil ?_
  refine Sx.then_normal (hK3 _ _ ?_)
  clear hK3
  refine wp_block ?_
  refine wp_seq_k fun K4 hK4 => ?_
  -- region 2 (law.go:50)
  refine Sx.wp_text [(0, .take), (1, .take)] rfl ?_
  refine Sx.st_take hT rfl rfl rfl rfl ((fun w => Sx.x_eq w hT rfl rfl rfl)) ?_
  clear hT; intro a hT
  refine Sx.st_take hT rfl rfl rfl rfl (Sx.x_assign hT rfl rfl) ?_
  clear hT; intro a hT
  replace hT := hT.keep [20, 19, 6, 5, 0, 1, 2] rfl
  refine Sx.ser_nil ?_
  refine Sx.then_normal (hK4 _ _ ?_)
  clear hK4
  -- cond 0
  refine Sx.wp_if hT rfl (fun hc5 => ?_) (fun hc5 => ?_)
  · exfalso
    try simp only [decide_eq_true_eq, decide_eq_false_iff_not, Bool.not_eq_true', Bool.not_eq_false', Bool.not_eq_true, Bool.not_eq_false, Bool.and_eq_true, Bool.or_eq_false_iff, beq_iff_eq, bne_iff_ne, Int.not_lt, Int.not_le, ne_eq] at hc5
    first | omega | simp at hc5
  · try simp only [decide_eq_true_eq, decide_eq_false_iff_not, Bool.not_eq_true', Bool.not_eq_false', Bool.not_eq_true, Bool.not_eq_false, Bool.and_eq_true, Bool.or_eq_false_iff, beq_iff_eq, bne_iff_ne, Int.not_lt, Int.not_le, ne_eq] at hc5
    refine wp_seq_k fun K6 hK6 => ?_
    -- region 10 (law.go:57)
    refine Sx.wp_text [(0, .take), (1, .take)] rfl ?_
    refine Sx.st_take hT rfl rfl rfl rfl ((fun w => Sx.x_eq w hT rfl rfl rfl)) ?_
    clear hT; intro a hT
    refine Sx.st_take hT rfl rfl rfl rfl (Sx.x_assign hT rfl rfl) ?_
    clear hT; intro a hT
    replace hT := hT.keep [51, 20, 19, 6, 5, 0, 1, 2] rfl
    refine Sx.ser_nil ?_
    refine Sx.then_normal (hK6 _ _ ?_)
    clear hK6
    -- cond 2
    refine Sx.wp_if hT rfl (fun hc7 => ?_) (fun hc7 => ?_)
    · exfalso
      try simp only [decide_eq_true_eq, decide_eq_false_iff_not, Bool.not_eq_true', Bool.not_eq_false', Bool.not_eq_true, Bool.not_eq_false, Bool.and_eq_true, Bool.or_eq_false_iff, beq_iff_eq, bne_iff_ne, Int.not_lt, Int.not_le, ne_eq] at hc7
      first | omega | simp at hc7
    · try simp only [decide_eq_true_eq, decide_eq_false_iff_not, Bool.not_eq_true', Bool.not_eq_false', Bool.not_eq_true, Bool.not_eq_false, Bool.and_eq_true, Bool.or_eq_false_iff, beq_iff_eq, bne_iff_ne, Int.not_lt, Int.not_le, ne_eq] at hc7
      refine wp_seq_k fun K8 hK8 => ?_
      -- region 14 (law.go:61)
      refine Sx.wp_text [(0, .take), (1, .take)] rfl ?_
      refine Sx.st_take hT rfl rfl rfl rfl ((fun w => Sx.x_eq w hT rfl rfl rfl)) ?_
      clear hT; intro a hT
      refine Sx.st_take hT rfl rfl rfl rfl (Sx.x_assign hT rfl rfl) ?_
      clear hT; intro a hT
      replace hT := hT.keep [75, 51, 20, 19, 6, 5, 0, 1, 2] rfl
      refine Sx.ser_nil ?_
      refine Sx.then_normal (hK8 _ _ ?_)
      clear hK8
      -- cond 3
      refine Sx.wp_if hT rfl (fun hc9 => ?_) (fun hc9 => ?_)
      · exfalso
        try simp only [decide_eq_true_eq, decide_eq_false_iff_not, Bool.not_eq_true', Bool.not_eq_false', Bool.not_eq_true, Bool.not_eq_false, Bool.and_eq_true, Bool.or_eq_false_iff, beq_iff_eq, bne_iff_ne, Int.not_lt, Int.not_le, ne_eq] at hc9
        first | omega | simp at hc9
      · try simp only [decide_eq_true_eq, decide_eq_false_iff_not, Bool.not_eq_true', Bool.not_eq_false', Bool.not_eq_true, Bool.not_eq_false, Bool.and_eq_true, Bool.or_eq_false_iff, beq_iff_eq, bne_iff_ne, Int.not_lt, Int.not_le, ne_eq] at hc9
        refine wp_seq_k fun K10 hK10 => ?_
        -- region 17 (law.go:64)
        refine Sx.wp_text [(0, .take), (1, .take)] rfl ?_
        refine Sx.st_take hT rfl rfl rfl rfl ((fun w => Sx.x_eq w hT rfl rfl rfl)) ?_
        clear hT; intro a hT
        refine Sx.st_take hT rfl rfl rfl rfl (Sx.x_assign hT rfl rfl) ?_
        clear hT; intro a hT
        replace hT := hT.keep [90, 75, 51, 20, 19, 6, 5, 0, 1, 2] rfl
        refine Sx.ser_nil ?_
        refine Sx.then_normal (hK10 _ _ ?_)
        clear hK10
        -- cond 4
        refine Sx.wp_if hT rfl (fun hc11 => ?_) (fun hc11 => ?_)
        · exfalso
          try simp only [decide_eq_true_eq, decide_eq_false_iff_not, Bool.not_eq_true', Bool.not_eq_false', Bool.not_eq_true, Bool.not_eq_false, Bool.and_eq_true, Bool.or_eq_false_iff, beq_iff_eq, bne_iff_ne, Int.not_lt, Int.not_le, ne_eq] at hc11
          first | omega | simp at hc11
        · try simp only [decide_eq_true_eq, decide_eq_false_iff_not, Bool.not_eq_true', Bool.not_eq_false', Bool.not_eq_true, Bool.not_eq_false, Bool.and_eq_true, Bool.or_eq_false_iff, beq_iff_eq, bne_iff_ne, Int.not_lt, Int.not_le, ne_eq] at hc11
          refine wp_seq_k fun K12 hK12 => ?_
          -- region 19 (law.go:66)
          refine Sx.wp_text [(0, .take), (1, .take)] rfl ?_
          refine Sx.st_take hT rfl rfl rfl rfl ((fun w => Sx.x_eq w hT rfl rfl rfl)) ?_
          clear hT; intro a hT
          refine Sx.st_take hT rfl rfl rfl rfl (Sx.x_assign hT rfl rfl) ?_
          clear hT; intro a hT
          replace hT := hT.keep [101, 90, 75, 51, 20, 19, 6, 5, 0, 1, 2] rfl
          refine Sx.ser_nil ?_
          refine Sx.then_normal (hK12 _ _ ?_)
          clear hK12
          -- cond 5
          refine Sx.wp_if hT rfl (fun hc13 => ?_) (fun hc13 => ?_)
          · exfalso
            try simp only [decide_eq_true_eq, decide_eq_false_iff_not, Bool.not_eq_true', Bool.not_eq_false', Bool.not_eq_true, Bool.not_eq_false, Bool.and_eq_true, Bool.or_eq_false_iff, beq_iff_eq, bne_iff_ne, Int.not_lt, Int.not_le, ne_eq] at hc13
            first | omega | simp at hc13
          · try simp only [decide_eq_true_eq, decide_eq_false_iff_not, Bool.not_eq_true', Bool.not_eq_false', Bool.not_eq_true, Bool.not_eq_false, Bool.and_eq_true, Bool.or_eq_false_iff, beq_iff_eq, bne_iff_ne, Int.not_lt, Int.not_le, ne_eq] at hc13
            refine wp_seq_k fun K14 hK14 => ?_
            -- region 21 (law.go:68)
            refine Sx.wp_text [(0, .take), (1, .take)] rfl ?_
            refine Sx.st_take hT rfl rfl rfl rfl ((fun w => Sx.x_eq w hT rfl rfl rfl)) ?_
            clear hT; intro a hT
            refine Sx.st_take hT rfl rfl rfl rfl (Sx.x_assign hT rfl rfl) ?_
            clear hT; intro a hT
            replace hT := hT.keep [116, 101, 90, 75, 51, 20, 19, 6, 5, 0, 1, 2] rfl
            refine Sx.ser_nil ?_
            refine Sx.then_normal (hK14 _ _ ?_)
            clear hK14
            -- cond 6
            refine Sx.wp_if hT rfl (fun hc15 => ?_) (fun hc15 => ?_)
            · exfalso
              try simp only [decide_eq_true_eq, decide_eq_false_iff_not, Bool.not_eq_true', Bool.not_eq_false', Bool.not_eq_true, Bool.not_eq_false, Bool.and_eq_true, Bool.or_eq_false_iff, beq_iff_eq, bne_iff_ne, Int.not_lt, Int.not_le, ne_eq] at hc15
              first | omega | simp at hc15
            · try simp only [decide_eq_true_eq, decide_eq_false_iff_not, Bool.not_eq_true', Bool.not_eq_false', Bool.not_eq_true, Bool.not_eq_false, Bool.and_eq_true, Bool.or_eq_false_iff, beq_iff_eq, bne_iff_ne, Int.not_lt, Int.not_le, ne_eq] at hc15
              refine wp_skip ?_
              refine Sx.block_normal ?_
              refine Sx.then_normal (hK2 _ _ ?_)
              clear hK2
              refine wp_seq_k fun K16 hK16 => ?_
              by_cases hi : 0 ≤ r.a ∧ r.a < ms.length
              · skip
                obtain ⟨k0, hk0⟩ : ∃ k0 : Nat, r.a = k0 := ⟨r.a.toNat, by omega⟩
                have hk1 : k0 < ms.length := by omega
                obtain ⟨m, hm⟩ : ∃ m, ms[k0]? = some m := ⟨_, List.getElem?_eq_getElem hk1⟩
                -- region 23 (law.go:71)
                refine Sx.wp_text [(0, .take), (1, .take), (2, .run), (3, .run), (4, .take), (5, .take), (6, .take), (7, .run), (8, .run), (9, .take)] rfl ?_
                refine Sx.st_take hT rfl rfl rfl rfl (Sx.x_move hT rfl rfl) ?_
                clear hT; intro a hT
                refine Sx.st_take hT rfl rfl rfl rfl (Sx.x_fieldAddr hT rfl Try.fa32_1 rfl) ?_
                clear hT; intro a hT
                refine Sx.st_run hT rfl rfl rfl rfl (Sx.x_load1 hT rfl Try.fl3 rfl (by first | exact (B1).nth rfl)) ?_
                clear hT; intro a hT
                refine Sx.st_call hT rfl rfl rfl rfl rfl Try.can11 rfl (nAt_yes hn r.a k0 m hk0 hm) ?_
                rintro _ w2 ⟨ad4, c4, rfl, hto, E⟩
                refine ⟨_, rfl, ?_⟩
                clear hT; intro a hT
                replace X := X.step E
                replace B1 := B1.ext_no E
                replace hn := hn.ext_no E
                replace hx := hx.ext_no E
                refine Sx.st_take hT rfl rfl rfl rfl (Sx.x_move hT rfl rfl) ?_
                clear hT; intro a hT
                refine Sx.st_take hT rfl rfl rfl rfl (Sx.x_extract hT rfl rfl rfl) ?_
                clear hT; intro a hT
                refine Sx.st_take hT rfl rfl rfl rfl (Sx.x_extract hT rfl rfl rfl) ?_
                clear hT; intro a hT
                refine Sx.st_eff hT rfl rfl rfl rfl (Sx.y_alloc hT rfl Try.ti34 rfl _) ?_
                clear hT; rintro _ w3 ⟨b2, rfl, N⟩ a hT
                have hb2 : w.heap.size ≤ b2 := by rw [N.at_]; exact X.size
                have lB1_b2 : b1 < b2 := by have h1 := B1.lt; have h2 := N.at_; omega
                try (have hf_b2 := fun k hk => Nat.lt_of_lt_of_le (hn.lt k hk) (Nat.le_of_eq N.at_.symm))
                try (have hg_b2 := fun k hk => Nat.lt_of_lt_of_le (hx.lt k hk) (Nat.le_of_eq N.at_.symm))
                replace X := X.step N.ext
                replace B1 := B1.ext_no N.ext
                replace hn := hn.ext_no N.ext
                replace hx := hx.ext_no N.ext
                have B2 := N.blk
                clear N
                refine Sx.st_act hT rfl rfl rfl (Sx.y_storeS hT rfl Try.ti34 rfl rfl rfl rfl rfl B2 rfl) ?_
                rintro w4 ⟨NB2, E, z⟩
                replace X := X.fresh E (by omega)
                replace B1 := B1.ext E (by unfold Sx.One; omega)
                replace hn := hn.ext E (fun k hk h9 => by unfold Sx.One at h9; have := hf_b2 k hk; omega)
                replace hx := hx.ext E (fun k hk h9 => by unfold Sx.One at h9; have := hg_b2 k hk; omega)
                replace B2 := NB2; clear NB2 E
                refine Sx.st_take hT rfl rfl rfl rfl (Sx.x_assign hT rfl rfl) ?_
                clear hT; intro a hT
                replace hT := hT.keep [17, 16, 116, 101, 90, 75, 51, 20, 19, 6, 5, 0, 1, 2] rfl
                refine Sx.ser_nil ?_
                refine Sx.then_normal (hK16 _ _ ?_)
                clear hK16
                refine wp_seq_k fun K17 hK17 => ?_
                -- region 24 (law.go:72)
                refine Sx.wp_text [(0, .take), (1, .take), (2, .take), (3, .run), (4, .run), (5, .take), (6, .take), (7, .take), (8, .take), (9, .run), (10, .take), (11, .run), (12, .take), (13, .take), (14, .take)] rfl ?_
                refine Sx.st_take hT rfl rfl rfl rfl (Sx.x_move hT rfl rfl) ?_
                clear hT; intro a hT
                refine Sx.st_take hT rfl rfl rfl rfl (Sx.x_move hT rfl rfl) ?_
                clear hT; intro a hT
                refine Sx.st_take hT rfl rfl rfl rfl (Sx.x_fieldAddr hT rfl Try.fa32_1 rfl) ?_
                clear hT; intro a hT
                refine Sx.st_run hT rfl rfl rfl rfl (Sx.x_load1 hT rfl Try.fl3 rfl (by first | exact (B1).nth rfl | exact (B2).nth rfl)) ?_
                clear hT; intro a hT
                refine Sx.st_call hT rfl rfl rfl rfl rfl Try.can35 rfl (zHas_calls hx r.a true (by simp; omega)) ?_
                rintro _ w5 ⟨rfl, E⟩
                refine ⟨_, rfl, ?_⟩
                clear hT; intro a hT
                replace X := X.step E
                replace B1 := B1.ext_no E
                replace B2 := B2.ext_no E
                replace hn := hn.ext_no E
                replace hx := hx.ext_no E
                refine Sx.st_take hT rfl rfl rfl rfl (Sx.x_eqb hT rfl Try.underlying4 rfl rfl) ?_
                clear hT; intro a hT
                refine Sx.st_take hT rfl rfl rfl rfl (Sx.x_move hT rfl rfl) ?_
                clear hT; intro a hT
                -- guard (24, 6)
                refine Sx.Sl.two hT 140 rfl (fun hc18 hT => ?_) (fun hc18 hT => ?_)
                · try simp only [decide_eq_true_eq, decide_eq_false_iff_not, Bool.not_eq_true', Bool.not_eq_false', Bool.not_eq_true, Bool.not_eq_false, Bool.and_eq_true, Bool.or_eq_false_iff, beq_iff_eq, bne_iff_ne, Int.not_lt, Int.not_le, ne_eq] at hc18
                  refine Sx.st_take hT rfl rfl rfl rfl (Sx.x_move hT rfl rfl) ?_
                  clear hT; intro a hT
                  refine Sx.st_take hT rfl rfl rfl rfl (Sx.x_move hT rfl rfl) ?_
                  clear hT; intro a hT
                  refine Sx.st_runskip hT rfl rfl rfl rfl ?_
                  clear hT; intro a hT
                  refine Sx.st_skip hT rfl rfl rfl rfl ?_
                  clear hT; intro a hT
                  refine Sx.st_runskip hT rfl rfl rfl rfl ?_
                  clear hT; intro a hT
                  refine Sx.st_take hT rfl rfl rfl rfl (Sx.x_pick_t hT rfl rfl rfl) ?_
                  clear hT; intro a hT
                  refine Sx.st_take hT rfl rfl rfl rfl (Sx.x_pick_t hT rfl rfl rfl) ?_
                  clear hT; intro a hT
                  refine Sx.st_take hT rfl rfl rfl rfl (Sx.x_assign hT rfl rfl) ?_
                  clear hT; intro a hT
                  replace hT := hT.keep [6, 17, 16, 116, 101, 90, 75, 51, 20, 19, 5, 0, 1, 2] rfl
                  refine Sx.ser_nil ?_
                  refine Sx.then_normal (hK17 _ _ ?_)
                  clear hK17
                  refine wp_ret ?_
                  refine Sx.done1 (fn := Try.f19) hT rfl (.tmp (hT.get 6 _ rfl)) ?_
                  exact ⟨rfl, ms, F, G, hn, hx, hdis, fun k h => .inl h, fun k h => .inl h, X⟩
                · exfalso
                  try simp only [decide_eq_true_eq, decide_eq_false_iff_not, Bool.not_eq_true', Bool.not_eq_false', Bool.not_eq_true, Bool.not_eq_false, Bool.and_eq_true, Bool.or_eq_false_iff, beq_iff_eq, bne_iff_ne, Int.not_lt, Int.not_le, ne_eq] at hc18
                  simp at hc18
              · skip
                -- region 23 (law.go:71)
                refine Sx.wp_text [(0, .take), (1, .take), (2, .run), (3, .run), (4, .take), (5, .take), (6, .take), (7, .run), (8, .run), (9, .take)] rfl ?_
                refine Sx.st_take hT rfl rfl rfl rfl (Sx.x_move hT rfl rfl) ?_
                clear hT; intro a hT
                refine Sx.st_take hT rfl rfl rfl rfl (Sx.x_fieldAddr hT rfl Try.fa32_1 rfl) ?_
                clear hT; intro a hT
                refine Sx.st_run hT rfl rfl rfl rfl (Sx.x_load1 hT rfl Try.fl3 rfl (by first | exact (B1).nth rfl)) ?_
                clear hT; intro a hT
                refine Sx.st_call hT rfl rfl rfl rfl rfl Try.can11 rfl (nAt_no hn r.a hi) ?_
                rintro _ w2 ⟨rfl, E⟩
                refine ⟨_, rfl, ?_⟩
                clear hT; intro a hT
                replace X := X.step E
                replace B1 := B1.ext_no E
                replace hn := hn.ext_no E
                replace hx := hx.ext_no E
                refine Sx.st_take hT rfl rfl rfl rfl (Sx.x_move hT rfl rfl) ?_
                clear hT; intro a hT
                refine Sx.st_take hT rfl rfl rfl rfl (Sx.x_extract hT rfl rfl rfl) ?_
                clear hT; intro a hT
                refine Sx.st_take hT rfl rfl rfl rfl (Sx.x_extract hT rfl rfl rfl) ?_
                clear hT; intro a hT
                refine Sx.st_eff hT rfl rfl rfl rfl (Sx.y_alloc hT rfl Try.ti34 rfl _) ?_
                clear hT; rintro _ w3 ⟨b2, rfl, N⟩ a hT
                have hb2 : w.heap.size ≤ b2 := by rw [N.at_]; exact X.size
                have lB1_b2 : b1 < b2 := by have h1 := B1.lt; have h2 := N.at_; omega
                try (have hf_b2 := fun k hk => Nat.lt_of_lt_of_le (hn.lt k hk) (Nat.le_of_eq N.at_.symm))
                try (have hg_b2 := fun k hk => Nat.lt_of_lt_of_le (hx.lt k hk) (Nat.le_of_eq N.at_.symm))
                replace X := X.step N.ext
                replace B1 := B1.ext_no N.ext
                replace hn := hn.ext_no N.ext
                replace hx := hx.ext_no N.ext
                have B2 := N.blk
                clear N
                refine Sx.st_act hT rfl rfl rfl (Sx.y_storeS hT rfl Try.ti34 rfl rfl rfl rfl rfl B2 rfl) ?_
                rintro w4 ⟨NB2, E, z⟩
                replace X := X.fresh E (by omega)
                replace B1 := B1.ext E (by unfold Sx.One; omega)
                replace hn := hn.ext E (fun k hk h9 => by unfold Sx.One at h9; have := hf_b2 k hk; omega)
                replace hx := hx.ext E (fun k hk h9 => by unfold Sx.One at h9; have := hg_b2 k hk; omega)
                replace B2 := NB2; clear NB2 E
                refine Sx.st_take hT rfl rfl rfl rfl (Sx.x_assign hT rfl rfl) ?_
                clear hT; intro a hT
                replace hT := hT.keep [17, 16, 116, 101, 90, 75, 51, 20, 19, 6, 5, 0, 1, 2] rfl
                refine Sx.ser_nil ?_
                refine Sx.then_normal (hK16 _ _ ?_)
                clear hK16
                refine wp_seq_k fun K19 hK19 => ?_
                -- region 24 (law.go:72)
                refine Sx.wp_text [(0, .take), (1, .take), (2, .take), (3, .run), (4, .run), (5, .take), (6, .take), (7, .take), (8, .take), (9, .run), (10, .take), (11, .run), (12, .take), (13, .take), (14, .take)] rfl ?_
                refine Sx.st_take hT rfl rfl rfl rfl (Sx.x_move hT rfl rfl) ?_
                clear hT; intro a hT
                refine Sx.st_take hT rfl rfl rfl rfl (Sx.x_move hT rfl rfl) ?_
                clear hT; intro a hT
                refine Sx.st_take hT rfl rfl rfl rfl (Sx.x_fieldAddr hT rfl Try.fa32_1 rfl) ?_
                clear hT; intro a hT
                refine Sx.st_run hT rfl rfl rfl rfl (Sx.x_load1 hT rfl Try.fl3 rfl (by first | exact (B1).nth rfl | exact (B2).nth rfl)) ?_
                clear hT; intro a hT
                refine Sx.st_call hT rfl rfl rfl rfl rfl Try.can35 rfl (zHas_calls hx r.a false (by simp; omega)) ?_
                rintro _ w5 ⟨rfl, E⟩
                refine ⟨_, rfl, ?_⟩
                clear hT; intro a hT
                replace X := X.step E
                replace B1 := B1.ext_no E
                replace B2 := B2.ext_no E
                replace hn := hn.ext_no E
                replace hx := hx.ext_no E
                refine Sx.st_take hT rfl rfl rfl rfl (Sx.x_eqb hT rfl Try.underlying4 rfl rfl) ?_
                clear hT; intro a hT
                refine Sx.st_take hT rfl rfl rfl rfl (Sx.x_move hT rfl rfl) ?_
                clear hT; intro a hT
                -- guard (24, 6)
                refine Sx.Sl.two hT 140 rfl (fun hc20 hT => ?_) (fun hc20 hT => ?_)
                · try simp only [decide_eq_true_eq, decide_eq_false_iff_not, Bool.not_eq_true', Bool.not_eq_false', Bool.not_eq_true, Bool.not_eq_false, Bool.and_eq_true, Bool.or_eq_false_iff, beq_iff_eq, bne_iff_ne, Int.not_lt, Int.not_le, ne_eq] at hc20
                  refine Sx.st_take hT rfl rfl rfl rfl (Sx.x_move hT rfl rfl) ?_
                  clear hT; intro a hT
                  refine Sx.st_take hT rfl rfl rfl rfl (Sx.x_move hT rfl rfl) ?_
                  clear hT; intro a hT
                  refine Sx.st_run hT rfl rfl rfl rfl (Sx.y_loadS hT rfl Try.underlying34 Try.ti34 rfl (by first | exact (B1).seg (k := 3) rfl | exact (B2).seg (k := 3) rfl) (by rfl)) ?_
                  clear hT; intro a hT
                  refine Sx.st_take hT rfl rfl rfl rfl ((fun w => Sx.x_build (w := w) rfl Try.bld65 (by simp only [List.map_toArray, List.map_cons, List.map_nil, Act.eval]; rfl) rfl)) ?_
                  clear hT; intro a hT
                  refine Sx.st_call hT rfl rfl rfl rfl rfl Try.can31 rfl (same_is true 0 0 0 0 none none 0 0 0 0 [] [] _ (Sv.nil _ 1) (Sv.nil _ 1) rfl rfl (by simp)) ?_
                  rintro _ w6 ⟨rfl, E⟩
                  refine ⟨_, rfl, ?_⟩
                  clear hT; intro a hT
                  replace X := X.step E
                  replace B1 := B1.ext_no E
                  replace B2 := B2.ext_no E
                  replace hn := hn.ext_no E
                  replace hx := hx.ext_no E
                  refine Sx.st_take hT rfl rfl rfl rfl (Sx.x_pick_f hT rfl rfl rfl) ?_
                  clear hT; intro a hT
                  refine Sx.st_take hT rfl rfl rfl rfl (Sx.x_pick_t hT rfl rfl rfl) ?_
                  clear hT; intro a hT
                  refine Sx.st_take hT rfl rfl rfl rfl (Sx.x_assign hT rfl rfl) ?_
                  clear hT; intro a hT
                  replace hT := hT.keep [6, 17, 16, 116, 101, 90, 75, 51, 20, 19, 5, 0, 1, 2] rfl
                  refine Sx.ser_nil ?_
                  refine Sx.then_normal (hK19 _ _ ?_)
                  clear hK19
                  refine wp_ret ?_
                  refine Sx.done1 (fn := Try.f19) hT rfl (.tmp (hT.get 6 _ rfl)) ?_
                  exact ⟨rfl, ms, F, G, hn, hx, hdis, fun k h => .inl h, fun k h => .inl h, X⟩
                · exfalso
                  try simp only [decide_eq_true_eq, decide_eq_false_iff_not, Bool.not_eq_true', Bool.not_eq_false', Bool.not_eq_true, Bool.not_eq_false, Bool.and_eq_true, Bool.or_eq_false_iff, beq_iff_eq, bne_iff_ne, Int.not_lt, Int.not_le, ne_eq] at hc20
                  simp at hc20

end Go.Proofs.Ytgcelppbbjokeaa
