/- The walk over NetOrder. -/
import Derived.Test.YtgcelppbbjokeaaN2
import Derived.Test.YtgcelppbbjokeaaW5
set_option linter.unusedSimpArgs false
set_option linter.unusedVariables false
namespace Go.Proofs.Ytgcelppbbjokeaa
open Sx
theorem Bytes_is (ad ad2 : Option Addr) (n n2 c c2 : Nat) (l : List UInt8) (w : World) (h1 : Bs w ad l) (h2 : Bs w ad2 l) (hn : n = l.length) (hn2 : n2 = l.length) :
    Calls Try.prog 17 #[.slice ad n c, .slice ad2 n2 c2] w fun e w' => e = .returned (.bool true) ∧ Ext No w w' := by
  have h := Bytes_calls ad ad2 n n2 c c2 l l w h1 h2 hn hn2
  rw [decide_eq_true (rfl : l = l)] at h
  exact h

theorem NetOrder_room (ad : Option Addr) (c : Nat) (rs : List RB) (ls : List (List UInt8)) (adT : Option Addr) (cT : Nat) (bs : List Bool) (w : World) (h : Dat w ad rs ls) (hb : Ss w adT bit 1 bs) (hbl : bs.length ≤ 9223372036854775807) (most : Int) (hr : most < 1 ∨ 4096 < most) :
    Calls Try.prog 4 #[.int .i64 most, .slice ad rs.length c, .slice adT bs.length cT] w fun e w' => e = .returned (.bool true) ∧ Ext No w w' := by
  skip
  refine Sx.calls_into Try.func4 rfl Try.ntmps4 rfl fun a hT => ?_
  replace hT := hT.keep [0, 1, 2] rfl
  have X : Sx.Ext Sx.No w w := Sx.Ext.refl _ _
  refine wp_seq_k fun K1 hK1 => ?_
  -- region 0 (law.go:193)
  refine Sx.wp_text [(0, .take)] rfl ?_
  refine Sx.st_take hT rfl rfl rfl rfl (Sx.x_assign hT rfl rfl) ?_
  clear hT; intro a hT
  replace hT := hT.keep [6, 0, 1, 2] rfl
  refine Sx.ser_nil ?_
  refine Sx.then_normal (hK1 _ _ ?_)
  clear hK1
  refine wp_seq_k fun K2 hK2 => ?_
  refine wp_seq_k fun K3 hK3 => ?_
  -- region 1 (law.go:194)
  refine Sx.wp_text [(0, .run), (1, .take)] rfl ?_
  refine Sx.st_call hT rfl rfl rfl rfl rfl Try.can7 rfl (first_calls _) ?_
  rintro _ w1 ⟨rfl, E⟩
  refine ⟨_, rfl, ?_⟩
  clear hT; intro a hT
  replace X := X.step E
  refine Sx.st_take hT rfl rfl rfl rfl (Sx.x_not hT rfl rfl) ?_
  clear hT; intro a hT
  replace hT := hT.keep [19, 6, 0, 1, 2] rfl
  refine Sx.ser_nil ?_
  refine Sx.then_normal (hK3 _ _ ?_)
  clear hK3
  refine Sx.wp_if hT rfl (fun h => by cases h) (fun _ => ?_)
  refine wp_skip ?_
  refine Sx.then_normal (hK2 _ _ ?_)
  clear hK2
  refine wp_seq_k fun K4 hK4 => ?_
  -- region 3 (law.go:197)
  refine Sx.wp_text [(0, .take), (1, .run), (2, .take), (3, .take), (4, .take), (5, .take), (6, .take)] rfl ?_
  refine Sx.st_take hT rfl rfl rfl rfl (Sx.x_move hT rfl rfl) ?_
  clear hT; intro a hT
  refine Sx.st_call hT rfl rfl rfl rfl rfl Try.can8 rfl (New_no most _ hr) ?_
  rintro _ w2 ⟨rfl, E⟩
  refine ⟨_, rfl, ?_⟩
  clear hT; intro a hT
  replace X := X.step E
  refine Sx.st_take hT rfl rfl rfl rfl (Sx.x_move hT rfl rfl) ?_
  clear hT; intro a hT
  refine Sx.st_take hT rfl rfl rfl rfl (Sx.x_extract hT rfl rfl rfl) ?_
  clear hT; intro a hT
  refine Sx.st_take hT rfl rfl rfl rfl (Sx.x_extract hT rfl rfl rfl) ?_
  clear hT; intro a hT
  refine Sx.st_take hT rfl rfl rfl rfl (Sx.x_assign hT rfl rfl) ?_
  clear hT; intro a hT
  refine Sx.st_take hT rfl rfl rfl rfl (Sx.x_assign hT rfl rfl) ?_
  clear hT; intro a hT
  replace hT := hT.keep [8, 7, 19, 6, 0, 1, 2] rfl
  refine Sx.ser_nil ?_
  refine Sx.then_normal (hK4 _ _ ?_)
  clear hK4
  refine wp_seq_k fun K5 hK5 => ?_
  refine wp_seq_k fun K6 hK6 => ?_
  -- region 4 (law.go:198)
  refine Sx.wp_text [(0, .take), (1, .take), (2, .take), (3, .take), (4, .take), (5, .take), (6, .take), (7, .take), (8, .take), (9, .take)] rfl ?_
  refine Sx.st_take hT rfl rfl rfl rfl (Sx.x_move hT rfl rfl) ?_
  clear hT; intro a hT
  refine Sx.st_take hT rfl rfl rfl rfl ((fun w => Sx.x_ne w hT rfl rfl rfl)) ?_
  clear hT; intro a hT
  refine Sx.st_take hT rfl rfl rfl rfl (Sx.x_move hT rfl rfl) ?_
  clear hT; intro a hT
  -- guard (4, 2)
  refine Sx.Sl.two hT 27 rfl (fun hc7 hT => ?_) (fun hc7 hT => ?_)
  · try simp only [decide_eq_true_eq, decide_eq_false_iff_not, Bool.not_eq_true', Bool.not_eq_false', Bool.not_eq_true, Bool.not_eq_false, Bool.and_eq_true, Bool.or_eq_false_iff, beq_iff_eq, bne_iff_ne, Int.not_lt, Int.not_le, ne_eq] at hc7
    refine Sx.st_skip hT rfl rfl rfl rfl ?_
    clear hT; intro a hT
    refine Sx.st_skip hT rfl rfl rfl rfl ?_
    clear hT; intro a hT
    refine Sx.st_take hT rfl rfl rfl rfl (Sx.x_pick_t hT rfl rfl rfl) ?_
    clear hT; intro a hT
    refine Sx.st_take hT rfl rfl rfl rfl (Sx.x_move hT rfl rfl) ?_
    clear hT; intro a hT
    refine Sx.st_skip hT rfl rfl rfl rfl ?_
    clear hT; intro a hT
    refine Sx.st_skip hT rfl rfl rfl rfl ?_
    clear hT; intro a hT
    refine Sx.st_take hT rfl rfl rfl rfl (Sx.x_pick_t hT rfl rfl rfl) ?_
    clear hT; intro a hT
    replace hT := hT.keep [34, 8, 7, 19, 6, 0, 1, 2] rfl
    refine Sx.ser_nil ?_
    refine Sx.then_normal (hK6 _ _ ?_)
    clear hK6
    refine Sx.wp_if hT rfl (fun _ => ?_) (fun h => by cases h)
    refine wp_seq_k fun K8 hK8 => ?_
    -- region 5 (law.go:199)
    refine Sx.wp_text [(0, .run), (1, .take), (2, .take), (3, .take), (4, .take), (5, .take), (6, .take), (7, .take), (8, .take)] rfl ?_
    refine Sx.st_call hT rfl rfl rfl rfl rfl Try.can7 rfl (first_calls _) ?_
    rintro _ w3 ⟨rfl, E⟩
    refine ⟨_, rfl, ?_⟩
    clear hT; intro a hT
    replace X := X.step E
    refine Sx.st_take hT rfl rfl rfl rfl (Sx.x_move hT rfl rfl) ?_
    clear hT; intro a hT
    refine Sx.st_take hT rfl rfl rfl rfl (Sx.x_move hT rfl rfl) ?_
    clear hT; intro a hT
    refine Sx.st_take hT rfl rfl rfl rfl ((fun w => Sx.x_eq w hT rfl rfl rfl)) ?_
    clear hT; intro a hT
    refine Sx.st_take hT rfl rfl rfl rfl (Sx.x_move hT rfl rfl) ?_
    clear hT; intro a hT
    refine Sx.st_take hT rfl rfl rfl rfl (Sx.x_nenil_none hT rfl Try.underlying24 rfl rfl) ?_
    clear hT; intro a hT
    refine Sx.st_take hT rfl rfl rfl rfl (Sx.x_eqb hT rfl Try.underlying4 rfl rfl) ?_
    clear hT; intro a hT
    refine Sx.st_take hT rfl rfl rfl rfl (Sx.x_pick_t hT rfl rfl rfl) ?_
    clear hT; intro a hT
    refine Sx.st_take hT rfl rfl rfl rfl (Sx.x_assign hT rfl rfl) ?_
    clear hT; intro a hT
    replace hT := hT.keep [6, 34, 8, 7, 19, 0, 1, 2] rfl
    refine Sx.ser_nil ?_
    refine Sx.then_normal (hK8 _ _ ?_)
    clear hK8
    refine wp_ret ?_
    refine Sx.then_ret ?_
    refine Sx.done1 (fn := Try.f4) hT rfl (.tmp (hT.get 6 _ rfl)) ?_
    exact ⟨congrArg (fun b => Ending.returned (.bool b)) (by simp), X⟩
  · exfalso
    try simp only [decide_eq_true_eq, decide_eq_false_iff_not, Bool.not_eq_true', Bool.not_eq_false', Bool.not_eq_true, Bool.not_eq_false, Bool.and_eq_true, Bool.or_eq_false_iff, beq_iff_eq, bne_iff_ne, Int.not_lt, Int.not_le, ne_eq] at hc7
    simp at hc7

theorem NetOrder_wide (ad : Option Addr) (c : Nat) (rs : List RB) (ls : List (List UInt8)) (adT : Option Addr) (cT : Nat) (bs : List Bool) (w : World) (h : Dat w ad rs ls) (hb : Ss w adT bit 1 bs) (hbl : bs.length ≤ 9223372036854775807) (most : Int) (hr : ¬ (most < 1 ∨ 4096 < most)) (hw : 64 < most) :
    Calls Try.prog 4 #[.int .i64 most, .slice ad rs.length c, .slice adT bs.length cT] w fun e w' => e = .returned (.bool true) ∧ Ext No w w' := by
  skip
  refine Sx.calls_into Try.func4 rfl Try.ntmps4 rfl fun a hT => ?_
  replace hT := hT.keep [0, 1, 2] rfl
  have X : Sx.Ext Sx.No w w := Sx.Ext.refl _ _
  refine wp_seq_k fun K1 hK1 => ?_
  -- region 0 (law.go:193)
  refine Sx.wp_text [(0, .take)] rfl ?_
  refine Sx.st_take hT rfl rfl rfl rfl (Sx.x_assign hT rfl rfl) ?_
  clear hT; intro a hT
  replace hT := hT.keep [6, 0, 1, 2] rfl
  refine Sx.ser_nil ?_
  refine Sx.then_normal (hK1 _ _ ?_)
  clear hK1
  refine wp_seq_k fun K2 hK2 => ?_
  refine wp_seq_k fun K3 hK3 => ?_
  -- region 1 (law.go:194)
  refine Sx.wp_text [(0, .run), (1, .take)] rfl ?_
  refine Sx.st_call hT rfl rfl rfl rfl rfl Try.can7 rfl (first_calls _) ?_
  rintro _ w1 ⟨rfl, E⟩
  refine ⟨_, rfl, ?_⟩
  clear hT; intro a hT
  replace X := X.step E
  refine Sx.st_take hT rfl rfl rfl rfl (Sx.x_not hT rfl rfl) ?_
  clear hT; intro a hT
  replace hT := hT.keep [19, 6, 0, 1, 2] rfl
  refine Sx.ser_nil ?_
  refine Sx.then_normal (hK3 _ _ ?_)
  clear hK3
  refine Sx.wp_if hT rfl (fun h => by cases h) (fun _ => ?_)
  refine wp_skip ?_
  refine Sx.then_normal (hK2 _ _ ?_)
  clear hK2
  refine wp_seq_k fun K4 hK4 => ?_
  -- region 3 (law.go:197)
  refine Sx.wp_text [(0, .take), (1, .run), (2, .take), (3, .take), (4, .take), (5, .take), (6, .take)] rfl ?_
  refine Sx.st_take hT rfl rfl rfl rfl (Sx.x_move hT rfl rfl) ?_
  clear hT; intro a hT
  refine Sx.st_call hT rfl rfl rfl rfl rfl Try.can8 rfl (New_yes most _ hr) ?_
  rintro _ w2 ⟨p, rfl, -, -, E⟩
  refine ⟨_, rfl, ?_⟩
  clear hT; intro a hT
  replace X := X.step E
  refine Sx.st_take hT rfl rfl rfl rfl (Sx.x_move hT rfl rfl) ?_
  clear hT; intro a hT
  refine Sx.st_take hT rfl rfl rfl rfl (Sx.x_extract hT rfl rfl rfl) ?_
  clear hT; intro a hT
  refine Sx.st_take hT rfl rfl rfl rfl (Sx.x_extract hT rfl rfl rfl) ?_
  clear hT; intro a hT
  refine Sx.st_take hT rfl rfl rfl rfl (Sx.x_assign hT rfl rfl) ?_
  clear hT; intro a hT
  refine Sx.st_take hT rfl rfl rfl rfl (Sx.x_assign hT rfl rfl) ?_
  clear hT; intro a hT
  replace hT := hT.keep [8, 7, 19, 6, 0, 1, 2] rfl
  refine Sx.ser_nil ?_
  refine Sx.then_normal (hK4 _ _ ?_)
  clear hK4
  refine wp_seq_k fun K5 hK5 => ?_
  refine wp_seq_k fun K6 hK6 => ?_
  -- region 4 (law.go:198)
  refine Sx.wp_text [(0, .take), (1, .take), (2, .take), (3, .take), (4, .take), (5, .take), (6, .take), (7, .take), (8, .take), (9, .take)] rfl ?_
  refine Sx.st_take hT rfl rfl rfl rfl (Sx.x_move hT rfl rfl) ?_
  clear hT; intro a hT
  refine Sx.st_take hT rfl rfl rfl rfl ((fun w => Sx.x_ne w hT rfl rfl rfl)) ?_
  clear hT; intro a hT
  refine Sx.st_take hT rfl rfl rfl rfl (Sx.x_move hT rfl rfl) ?_
  clear hT; intro a hT
  -- guard (4, 2)
  refine Sx.Sl.two hT 27 rfl (fun hc7 hT => ?_) (fun hc7 hT => ?_)
  · exfalso
    try simp only [decide_eq_true_eq, decide_eq_false_iff_not, Bool.not_eq_true', Bool.not_eq_false', Bool.not_eq_true, Bool.not_eq_false, Bool.and_eq_true, Bool.or_eq_false_iff, beq_iff_eq, bne_iff_ne, Int.not_lt, Int.not_le, ne_eq] at hc7
    simp at hc7
  · try simp only [decide_eq_true_eq, decide_eq_false_iff_not, Bool.not_eq_true', Bool.not_eq_false', Bool.not_eq_true, Bool.not_eq_false, Bool.and_eq_true, Bool.or_eq_false_iff, beq_iff_eq, bne_iff_ne, Int.not_lt, Int.not_le, ne_eq] at hc7
    refine Sx.st_take hT rfl rfl rfl rfl (Sx.x_move hT rfl rfl) ?_
    clear hT; intro a hT
    refine Sx.st_take hT rfl rfl rfl rfl (Sx.x_eqnil_some hT rfl Try.underlying24 rfl rfl) ?_
    clear hT; intro a hT
    refine Sx.st_take hT rfl rfl rfl rfl (Sx.x_pick_f hT rfl rfl rfl) ?_
    clear hT; intro a hT
    refine Sx.st_take hT rfl rfl rfl rfl (Sx.x_move hT rfl rfl) ?_
    clear hT; intro a hT
    refine Sx.st_take hT rfl rfl rfl rfl (Sx.x_move hT rfl rfl) ?_
    clear hT; intro a hT
    refine Sx.st_take hT rfl rfl rfl rfl ((fun w => Sx.x_gt w hT rfl rfl rfl)) ?_
    clear hT; intro a hT
    refine Sx.st_take hT rfl rfl rfl rfl (Sx.x_pick_f hT rfl rfl rfl) ?_
    clear hT; intro a hT
    replace hT := hT.keep [34, 8, 7, 19, 6, 0, 1, 2] rfl
    refine Sx.ser_nil ?_
    refine Sx.then_normal (hK6 _ _ ?_)
    clear hK6
    -- cond 1
    refine Sx.wp_if hT rfl (fun hc8 => ?_) (fun hc8 => ?_)
    · try simp only [decide_eq_true_eq, decide_eq_false_iff_not, Bool.not_eq_true', Bool.not_eq_false', Bool.not_eq_true, Bool.not_eq_false, Bool.and_eq_true, Bool.or_eq_false_iff, beq_iff_eq, bne_iff_ne, Int.not_lt, Int.not_le, ne_eq] at hc8
      refine wp_seq_k fun K9 hK9 => ?_
      -- region 5 (law.go:199)
      refine Sx.wp_text [(0, .run), (1, .take), (2, .take), (3, .take), (4, .take), (5, .take), (6, .take), (7, .take), (8, .take)] rfl ?_
      refine Sx.st_call hT rfl rfl rfl rfl rfl Try.can7 rfl (first_calls _) ?_
      rintro _ w3 ⟨rfl, E⟩
      refine ⟨_, rfl, ?_⟩
      clear hT; intro a hT
      replace X := X.step E
      refine Sx.st_take hT rfl rfl rfl rfl (Sx.x_move hT rfl rfl) ?_
      clear hT; intro a hT
      refine Sx.st_take hT rfl rfl rfl rfl (Sx.x_move hT rfl rfl) ?_
      clear hT; intro a hT
      refine Sx.st_take hT rfl rfl rfl rfl ((fun w => Sx.x_eq w hT rfl rfl rfl)) ?_
      clear hT; intro a hT
      refine Sx.st_take hT rfl rfl rfl rfl (Sx.x_move hT rfl rfl) ?_
      clear hT; intro a hT
      refine Sx.st_take hT rfl rfl rfl rfl (Sx.x_nenil_some hT rfl Try.underlying24 rfl rfl) ?_
      clear hT; intro a hT
      refine Sx.st_take hT rfl rfl rfl rfl (Sx.x_eqb hT rfl Try.underlying4 rfl rfl) ?_
      clear hT; intro a hT
      refine Sx.st_take hT rfl rfl rfl rfl (Sx.x_pick_t hT rfl rfl rfl) ?_
      clear hT; intro a hT
      refine Sx.st_take hT rfl rfl rfl rfl (Sx.x_assign hT rfl rfl) ?_
      clear hT; intro a hT
      replace hT := hT.keep [6, 34, 8, 7, 19, 0, 1, 2] rfl
      refine Sx.ser_nil ?_
      refine Sx.then_normal (hK9 _ _ ?_)
      clear hK9
      refine wp_ret ?_
      refine Sx.then_ret ?_
      refine Sx.done1 (fn := Try.f4) hT rfl (.tmp (hT.get 6 _ rfl)) ?_
      exact ⟨congrArg (fun b => Ending.returned (.bool b)) (by simp), X⟩
    · exfalso
      try simp only [decide_eq_true_eq, decide_eq_false_iff_not, Bool.not_eq_true', Bool.not_eq_false', Bool.not_eq_true, Bool.not_eq_false, Bool.and_eq_true, Bool.or_eq_false_iff, beq_iff_eq, bne_iff_ne, Int.not_lt, Int.not_le, ne_eq] at hc8
      first | omega | simp at hc8

theorem NetOrder_many (ad : Option Addr) (c : Nat) (rs : List RB) (ls : List (List UInt8)) (adT : Option Addr) (cT : Nat) (bs : List Bool) (w : World) (h : Dat w ad rs ls) (hb : Ss w adT bit 1 bs) (hbl : bs.length ≤ 9223372036854775807) (most : Int) (hr : ¬ (most < 1 ∨ 4096 < most)) (hw : ¬ 64 < most) (hf : fewD ls = false) :
    Calls Try.prog 4 #[.int .i64 most, .slice ad rs.length c, .slice adT bs.length cT] w fun e w' => e = .returned (.bool true) ∧ Ext No w w' := by
  have hf := fewD_no hf
  have hl := h.all.length
  have hsmall := h.small
  refine Sx.calls_into Try.func4 rfl Try.ntmps4 rfl fun a hT => ?_
  replace hT := hT.keep [0, 1, 2] rfl
  have X : Sx.Ext Sx.No w w := Sx.Ext.refl _ _
  refine wp_seq_k fun K1 hK1 => ?_
  -- region 0 (law.go:193)
  refine Sx.wp_text [(0, .take)] rfl ?_
  refine Sx.st_take hT rfl rfl rfl rfl (Sx.x_assign hT rfl rfl) ?_
  clear hT; intro a hT
  replace hT := hT.keep [6, 0, 1, 2] rfl
  refine Sx.ser_nil ?_
  refine Sx.then_normal (hK1 _ _ ?_)
  clear hK1
  refine wp_seq_k fun K2 hK2 => ?_
  refine wp_seq_k fun K3 hK3 => ?_
  -- region 1 (law.go:194)
  refine Sx.wp_text [(0, .run), (1, .take)] rfl ?_
  refine Sx.st_call hT rfl rfl rfl rfl rfl Try.can7 rfl (first_calls _) ?_
  rintro _ w1 ⟨rfl, E⟩
  refine ⟨_, rfl, ?_⟩
  clear hT; intro a hT
  replace X := X.step E
  refine Sx.st_take hT rfl rfl rfl rfl (Sx.x_not hT rfl rfl) ?_
  clear hT; intro a hT
  replace hT := hT.keep [19, 6, 0, 1, 2] rfl
  refine Sx.ser_nil ?_
  refine Sx.then_normal (hK3 _ _ ?_)
  clear hK3
  refine Sx.wp_if hT rfl (fun h => by cases h) (fun _ => ?_)
  refine wp_skip ?_
  refine Sx.then_normal (hK2 _ _ ?_)
  clear hK2
  refine wp_seq_k fun K4 hK4 => ?_
  -- region 3 (law.go:197)
  refine Sx.wp_text [(0, .take), (1, .run), (2, .take), (3, .take), (4, .take), (5, .take), (6, .take)] rfl ?_
  refine Sx.st_take hT rfl rfl rfl rfl (Sx.x_move hT rfl rfl) ?_
  clear hT; intro a hT
  refine Sx.st_call hT rfl rfl rfl rfl rfl Try.can8 rfl (New_yes most _ hr) ?_
  rintro _ w2 ⟨p, rfl, -, -, E⟩
  refine ⟨_, rfl, ?_⟩
  clear hT; intro a hT
  replace X := X.step E
  refine Sx.st_take hT rfl rfl rfl rfl (Sx.x_move hT rfl rfl) ?_
  clear hT; intro a hT
  refine Sx.st_take hT rfl rfl rfl rfl (Sx.x_extract hT rfl rfl rfl) ?_
  clear hT; intro a hT
  refine Sx.st_take hT rfl rfl rfl rfl (Sx.x_extract hT rfl rfl rfl) ?_
  clear hT; intro a hT
  refine Sx.st_take hT rfl rfl rfl rfl (Sx.x_assign hT rfl rfl) ?_
  clear hT; intro a hT
  refine Sx.st_take hT rfl rfl rfl rfl (Sx.x_assign hT rfl rfl) ?_
  clear hT; intro a hT
  replace hT := hT.keep [8, 7, 19, 6, 0, 1, 2] rfl
  refine Sx.ser_nil ?_
  refine Sx.then_normal (hK4 _ _ ?_)
  clear hK4
  refine wp_seq_k fun K5 hK5 => ?_
  refine wp_seq_k fun K6 hK6 => ?_
  -- region 4 (law.go:198)
  refine Sx.wp_text [(0, .take), (1, .take), (2, .take), (3, .take), (4, .take), (5, .take), (6, .take), (7, .take), (8, .take), (9, .take)] rfl ?_
  refine Sx.st_take hT rfl rfl rfl rfl (Sx.x_move hT rfl rfl) ?_
  clear hT; intro a hT
  refine Sx.st_take hT rfl rfl rfl rfl ((fun w => Sx.x_ne w hT rfl rfl rfl)) ?_
  clear hT; intro a hT
  refine Sx.st_take hT rfl rfl rfl rfl (Sx.x_move hT rfl rfl) ?_
  clear hT; intro a hT
  -- guard (4, 2)
  refine Sx.Sl.two hT 27 rfl (fun hc7 hT => ?_) (fun hc7 hT => ?_)
  · exfalso
    try simp only [decide_eq_true_eq, decide_eq_false_iff_not, Bool.not_eq_true', Bool.not_eq_false', Bool.not_eq_true, Bool.not_eq_false, Bool.and_eq_true, Bool.or_eq_false_iff, beq_iff_eq, bne_iff_ne, Int.not_lt, Int.not_le, ne_eq] at hc7
    simp at hc7
  · try simp only [decide_eq_true_eq, decide_eq_false_iff_not, Bool.not_eq_true', Bool.not_eq_false', Bool.not_eq_true, Bool.not_eq_false, Bool.and_eq_true, Bool.or_eq_false_iff, beq_iff_eq, bne_iff_ne, Int.not_lt, Int.not_le, ne_eq] at hc7
    refine Sx.st_take hT rfl rfl rfl rfl (Sx.x_move hT rfl rfl) ?_
    clear hT; intro a hT
    refine Sx.st_take hT rfl rfl rfl rfl (Sx.x_eqnil_some hT rfl Try.underlying24 rfl rfl) ?_
    clear hT; intro a hT
    refine Sx.st_take hT rfl rfl rfl rfl (Sx.x_pick_f hT rfl rfl rfl) ?_
    clear hT; intro a hT
    refine Sx.st_take hT rfl rfl rfl rfl (Sx.x_move hT rfl rfl) ?_
    clear hT; intro a hT
    refine Sx.st_take hT rfl rfl rfl rfl (Sx.x_move hT rfl rfl) ?_
    clear hT; intro a hT
    refine Sx.st_take hT rfl rfl rfl rfl ((fun w => Sx.x_gt w hT rfl rfl rfl)) ?_
    clear hT; intro a hT
    refine Sx.st_take hT rfl rfl rfl rfl (Sx.x_pick_f hT rfl rfl rfl) ?_
    clear hT; intro a hT
    replace hT := hT.keep [34, 8, 7, 19, 6, 0, 1, 2] rfl
    refine Sx.ser_nil ?_
    refine Sx.then_normal (hK6 _ _ ?_)
    clear hK6
    -- cond 1
    refine Sx.wp_if hT rfl (fun hc8 => ?_) (fun hc8 => ?_)
    · exfalso
      try simp only [decide_eq_true_eq, decide_eq_false_iff_not, Bool.not_eq_true', Bool.not_eq_false', Bool.not_eq_true, Bool.not_eq_false, Bool.and_eq_true, Bool.or_eq_false_iff, beq_iff_eq, bne_iff_ne, Int.not_lt, Int.not_le, ne_eq] at hc8
      first | omega | simp at hc8
    · try simp only [decide_eq_true_eq, decide_eq_false_iff_not, Bool.not_eq_true', Bool.not_eq_false', Bool.not_eq_true, Bool.not_eq_false, Bool.and_eq_true, Bool.or_eq_false_iff, beq_iff_eq, bne_iff_ne, Int.not_lt, Int.not_le, ne_eq] at hc8
      refine wp_skip ?_
      refine Sx.then_normal (hK5 _ _ ?_)
      clear hK5
      refine wp_seq_k fun K9 hK9 => ?_
      -- region 6 (law.go:201)
      refine Sx.wp_text [(0, .take)] rfl ?_
      refine Sx.st_take hT rfl rfl rfl rfl (Sx.x_assign hT rfl rfl) ?_
      clear hT; intro a hT
      replace hT := hT.keep [9, 34, 8, 7, 19, 6, 0, 1, 2] rfl
      refine Sx.ser_nil ?_
      refine Sx.then_normal (hK9 _ _ ?_)
      clear hK9
      refine wp_seq_k fun K10 hK10 => ?_
      refine wp_seq_k fun K11 hK11 => ?_
      -- region 7 (law.go:202)
      refine Sx.wp_text [(0, .take)] rfl ?_
      refine Sx.st_take hT rfl rfl rfl rfl (Sx.x_assign hT rfl rfl) ?_
      clear hT; intro a hT
      replace hT := hT.keep [10, 9, 34, 8, 7, 19, 6, 0, 1, 2] rfl
      refine Sx.ser_nil ?_
      refine Sx.then_normal (hK11 _ _ ?_)
      clear hK11
      refine wp_block ?_
      -- loop 0
      refine Sx.wp_while (G := Nat) (fun k a w3 => k ≤ rs.length ∧ k ≤ 400 ∧ Ext No w w3 ∧ Sl 156 [(0, .int .i64 most), (1, .slice ad rs.length c), (2, .slice adT bs.length cT), (7, .pointer (some ⟨p, 0, none⟩)), (9, .int .i64 (sumD ls k)), (10, .int .i64 k)] a) (fun k => rs.length - k) 0 ?_ ?_
      · exact ⟨Nat.zero_le _, Nat.zero_le _, X, hT.keep [0, 1, 2, 7, 9, 10] rfl⟩
      clear hT X
      intro k a w3 hI
      obtain ⟨hk, hk4, X, hT⟩ := hI
      have hsl := sumD_le ls k
      have hsm := sumD_mono ls hk4
      refine wp_seq_k fun K12 hK12 => ?_
      refine wp_seq_k fun K13 hK13 => ?_
      -- region 8 (law.go:202)
      refine Sx.wp_text [(0, .take), (1, .take), (2, .take), (3, .take), (4, .take), (5, .take), (6, .take), (7, .take)] rfl ?_
      refine Sx.st_take hT rfl rfl rfl rfl (Sx.x_move hT rfl rfl) ?_
      clear hT; intro a hT
      refine Sx.st_take hT rfl rfl rfl rfl (Sx.x_move hT rfl rfl) ?_
      clear hT; intro a hT
      refine Sx.st_take hT rfl rfl rfl rfl (Sx.x_len_slice hT rfl rfl Try.underlying42 rfl) ?_
      clear hT; intro a hT
      refine Sx.st_take hT rfl rfl rfl rfl ((fun w => Sx.x_lt w hT rfl rfl rfl)) ?_
      clear hT; intro a hT
      refine Sx.st_take hT rfl rfl rfl rfl (Sx.x_move hT rfl rfl) ?_
      clear hT; intro a hT
      -- guard (8, 4)
      refine Sx.Sl.two hT 47 rfl (fun hc14 hT => ?_) (fun hc14 hT => ?_)
      · try simp only [decide_eq_true_eq, decide_eq_false_iff_not, Bool.not_eq_true', Bool.not_eq_false', Bool.not_eq_true, Bool.not_eq_false, Bool.and_eq_true, Bool.or_eq_false_iff, beq_iff_eq, bne_iff_ne, Int.not_lt, Int.not_le, ne_eq] at hc14
        refine Sx.st_take hT rfl rfl rfl rfl (Sx.x_move hT rfl rfl) ?_
        clear hT; intro a hT
        refine Sx.st_take hT rfl rfl rfl rfl ((fun w => Sx.x_lt w hT rfl rfl rfl)) ?_
        clear hT; intro a hT
        refine Sx.st_take hT rfl rfl rfl rfl (Sx.x_pick_t hT rfl rfl rfl) ?_
        clear hT; intro a hT
        replace hT := hT.keep [50, 0, 1, 2, 7, 9, 10] rfl
        refine Sx.ser_nil ?_
        refine Sx.then_normal (hK13 _ _ ?_)
        clear hK13
        -- cond 2
        refine Sx.wp_if hT rfl (fun hc15 => ?_) (fun hc15 => ?_)
        · try simp only [decide_eq_true_eq, decide_eq_false_iff_not, Bool.not_eq_true', Bool.not_eq_false', Bool.not_eq_true, Bool.not_eq_false, Bool.and_eq_true, Bool.or_eq_false_iff, beq_iff_eq, bne_iff_ne, Int.not_lt, Int.not_le, ne_eq] at hc15
          obtain ⟨o, ho⟩ : ∃ o, ls[k]? = some o := ⟨_, List.getElem?_eq_getElem (by omega)⟩
          obtain ⟨r, hr9, hor⟩ := h.all.get ho
          refine wp_skip ?_
          refine Sx.then_normal (hK12 _ _ ?_)
          clear hK12
          refine wp_seq_k fun K16 hK16 => ?_
          refine wp_block ?_
          -- region 10 (law.go:203)
          refine Sx.wp_text [(0, .take), (1, .take), (2, .take), (3, .take), (4, .run), (5, .take), (6, .take), (7, .take), (8, .take)] rfl ?_
          refine Sx.st_take hT rfl rfl rfl rfl (Sx.x_move hT rfl rfl) ?_
          clear hT; intro a hT
          refine Sx.st_take hT rfl rfl rfl rfl (Sx.x_move hT rfl rfl) ?_
          clear hT; intro a hT
          refine Sx.st_take hT rfl rfl rfl rfl (Sx.x_move hT rfl rfl) ?_
          clear hT; intro a hT
          refine Sx.st_take hT rfl rfl rfl rfl (Sx.x_index hT rfl Try.underlying42 Try.ti30 (by first | exact (h.ss.sv.ext_no X)) rfl rfl rfl (by omega)) ?_
          clear hT; intro a hT
          refine Sx.st_run hT rfl rfl rfl rfl (Sx.x_load1 hT rfl Try.fl30 rfl (by first | exact (ss_one RB.len (h.ss.ext_no X) hr9 rfl))) ?_
          clear hT; intro a hT
          refine Sx.st_take hT rfl rfl rfl rfl (Sx.x_len_slice hT rfl rfl Try.underlying30 rfl) ?_
          clear hT; intro a hT
          refine Sx.st_take hT rfl rfl rfl rfl (Sx.x_min hT rfl rfl rfl) ?_
          clear hT; intro a hT
          refine Sx.st_take hT rfl rfl rfl rfl ((fun w => Sx.x_add w hT rfl rfl rfl (Sx.wrap64 (by omega)))) ?_
          clear hT; intro a hT
          refine Sx.st_take hT rfl rfl rfl rfl (Sx.x_assign hT rfl rfl) ?_
          clear hT; intro a hT
          replace hT := hT.keep [9, 50, 0, 1, 2, 7, 10] rfl
          refine Sx.ser_nil ?_
          refine Sx.block_normal ?_
          refine Sx.then_normal (hK16 _ _ ?_)
          clear hK16
          -- region 9 (law.go:202)
          refine Sx.wp_text [(0, .take), (1, .take), (2, .take)] rfl ?_
          refine Sx.st_take hT rfl rfl rfl rfl (Sx.x_move hT rfl rfl) ?_
          clear hT; intro a hT
          refine Sx.st_take hT rfl rfl rfl rfl ((fun w => Sx.x_add w hT rfl rfl rfl (Sx.wrap64 (by omega)))) ?_
          clear hT; intro a hT
          refine Sx.st_take hT rfl rfl rfl rfl (Sx.x_assign hT rfl rfl) ?_
          clear hT; intro a hT
          replace hT := hT.keep [10, 9, 50, 0, 1, 2, 7] rfl
          refine Sx.ser_nil ?_
          refine Sx.then_normal ?_
          exact ⟨k + 1, ⟨by omega, by omega, X, (hT.keep [0, 1, 2, 7, 9, 10] rfl).conv (by rw [sumD_succ ho, hor.n]; simp; omega)⟩, by omega⟩
        · try simp only [decide_eq_true_eq, decide_eq_false_iff_not, Bool.not_eq_true', Bool.not_eq_false', Bool.not_eq_true, Bool.not_eq_false, Bool.and_eq_true, Bool.or_eq_false_iff, beq_iff_eq, bne_iff_ne, Int.not_lt, Int.not_le, ne_eq] at hc15
          refine wp_exit ?_
          refine Sx.then_exit ?_
          refine Sx.then_exit ?_
          refine Sx.block_exit ?_
          refine Sx.then_normal (hK10 _ _ ?_)
          clear hK10
          refine wp_seq_k fun K17 hK17 => ?_
          refine wp_seq_k fun K18 hK18 => ?_
          -- region 11 (law.go:205)
          refine Sx.wp_text [(0, .take), (1, .take), (2, .take), (3, .take), (4, .take), (5, .take), (6, .take)] rfl ?_
          refine Sx.st_take hT rfl rfl rfl rfl (Sx.x_move hT rfl rfl) ?_
          clear hT; intro a hT
          refine Sx.st_take hT rfl rfl rfl rfl (Sx.x_len_slice hT rfl rfl Try.underlying42 rfl) ?_
          clear hT; intro a hT
          refine Sx.st_take hT rfl rfl rfl rfl ((fun w => Sx.x_gt w hT rfl rfl rfl)) ?_
          clear hT; intro a hT
          refine Sx.st_take hT rfl rfl rfl rfl (Sx.x_move hT rfl rfl) ?_
          clear hT; intro a hT
          -- guard (11, 3)
          refine Sx.Sl.two hT 64 rfl (fun hc19 hT => ?_) (fun hc19 hT => ?_)
          · try simp only [decide_eq_true_eq, decide_eq_false_iff_not, Bool.not_eq_true', Bool.not_eq_false', Bool.not_eq_true, Bool.not_eq_false, Bool.and_eq_true, Bool.or_eq_false_iff, beq_iff_eq, bne_iff_ne, Int.not_lt, Int.not_le, ne_eq] at hc19
            refine Sx.st_skip hT rfl rfl rfl rfl ?_
            clear hT; intro a hT
            refine Sx.st_skip hT rfl rfl rfl rfl ?_
            clear hT; intro a hT
            refine Sx.st_take hT rfl rfl rfl rfl (Sx.x_pick_t hT rfl rfl rfl) ?_
            clear hT; intro a hT
            replace hT := hT.keep [67, 50, 0, 1, 2, 7, 9, 10] rfl
            refine Sx.ser_nil ?_
            refine Sx.then_normal (hK18 _ _ ?_)
            clear hK18
            refine Sx.wp_if hT rfl (fun _ => ?_) (fun h => by cases h)
            refine wp_seq_k fun K20 hK20 => ?_
            -- region 12 (law.go:206)
            refine Sx.wp_text [(0, .run), (1, .take)] rfl ?_
            refine Sx.st_call hT rfl rfl rfl rfl rfl Try.can7 rfl (first_calls _) ?_
            rintro _ w4 ⟨rfl, E⟩
            refine ⟨_, rfl, ?_⟩
            clear hT; intro a hT
            replace X := X.step E
            refine Sx.st_take hT rfl rfl rfl rfl (Sx.x_assign hT rfl rfl) ?_
            clear hT; intro a hT
            replace hT := hT.keep [6, 67, 50, 0, 1, 2, 7, 9, 10] rfl
            refine Sx.ser_nil ?_
            refine Sx.then_normal (hK20 _ _ ?_)
            clear hK20
            refine wp_ret ?_
            refine Sx.then_ret ?_
            refine Sx.done1 (fn := Try.f4) hT rfl (.tmp (hT.get 6 _ rfl)) ?_
            exact ⟨congrArg (fun b => Ending.returned (.bool b)) (by simp), X⟩
          · try simp only [decide_eq_true_eq, decide_eq_false_iff_not, Bool.not_eq_true', Bool.not_eq_false', Bool.not_eq_true, Bool.not_eq_false, Bool.and_eq_true, Bool.or_eq_false_iff, beq_iff_eq, bne_iff_ne, Int.not_lt, Int.not_le, ne_eq] at hc19
            have hfin : sumD ls k = sumD ls 400 := by
              rcases Nat.lt_or_ge k 400 with h9 | h9
              · have : k = ls.length := by omega
                rw [this]; exact (sumD_all (by omega)).symm
              · rw [show k = 400 from by omega]
            refine Sx.st_take hT rfl rfl rfl rfl (Sx.x_move hT rfl rfl) ?_
            clear hT; intro a hT
            refine Sx.st_take hT rfl rfl rfl rfl ((fun w => Sx.x_gt w hT rfl rfl rfl)) ?_
            clear hT; intro a hT
            refine Sx.st_take hT rfl rfl rfl rfl (Sx.x_pick_f hT rfl rfl rfl) ?_
            clear hT; intro a hT
            replace hT := hT.keep [67, 50, 0, 1, 2, 7, 9, 10] rfl
            refine Sx.ser_nil ?_
            refine Sx.then_normal (hK18 _ _ ?_)
            clear hK18
            -- cond 3
            refine Sx.wp_if hT rfl (fun hc21 => ?_) (fun hc21 => ?_)
            · try simp only [decide_eq_true_eq, decide_eq_false_iff_not, Bool.not_eq_true', Bool.not_eq_false', Bool.not_eq_true, Bool.not_eq_false, Bool.and_eq_true, Bool.or_eq_false_iff, beq_iff_eq, bne_iff_ne, Int.not_lt, Int.not_le, ne_eq] at hc21
              refine wp_seq_k fun K22 hK22 => ?_
              -- region 12 (law.go:206)
              refine Sx.wp_text [(0, .run), (1, .take)] rfl ?_
              refine Sx.st_call hT rfl rfl rfl rfl rfl Try.can7 rfl (first_calls _) ?_
              rintro _ w4 ⟨rfl, E⟩
              refine ⟨_, rfl, ?_⟩
              clear hT; intro a hT
              replace X := X.step E
              refine Sx.st_take hT rfl rfl rfl rfl (Sx.x_assign hT rfl rfl) ?_
              clear hT; intro a hT
              replace hT := hT.keep [6, 67, 50, 0, 1, 2, 7, 9, 10] rfl
              refine Sx.ser_nil ?_
              refine Sx.then_normal (hK22 _ _ ?_)
              clear hK22
              refine wp_ret ?_
              refine Sx.then_ret ?_
              refine Sx.done1 (fn := Try.f4) hT rfl (.tmp (hT.get 6 _ rfl)) ?_
              exact ⟨congrArg (fun b => Ending.returned (.bool b)) (by simp), X⟩
            · exfalso
              try simp only [decide_eq_true_eq, decide_eq_false_iff_not, Bool.not_eq_true', Bool.not_eq_false', Bool.not_eq_true, Bool.not_eq_false, Bool.and_eq_true, Bool.or_eq_false_iff, beq_iff_eq, bne_iff_ne, Int.not_lt, Int.not_le, ne_eq] at hc21
              first | omega | simp at hc21
      · try simp only [decide_eq_true_eq, decide_eq_false_iff_not, Bool.not_eq_true', Bool.not_eq_false', Bool.not_eq_true, Bool.not_eq_false, Bool.and_eq_true, Bool.or_eq_false_iff, beq_iff_eq, bne_iff_ne, Int.not_lt, Int.not_le, ne_eq] at hc14
        refine Sx.st_skip hT rfl rfl rfl rfl ?_
        clear hT; intro a hT
        refine Sx.st_skip hT rfl rfl rfl rfl ?_
        clear hT; intro a hT
        refine Sx.st_take hT rfl rfl rfl rfl (Sx.x_pick_f hT rfl rfl rfl) ?_
        clear hT; intro a hT
        replace hT := hT.keep [50, 0, 1, 2, 7, 9, 10] rfl
        refine Sx.ser_nil ?_
        refine Sx.then_normal (hK13 _ _ ?_)
        clear hK13
        refine Sx.wp_if hT rfl (fun h => by cases h) (fun _ => ?_)
        refine wp_exit ?_
        refine Sx.then_exit ?_
        refine Sx.then_exit ?_
        refine Sx.block_exit ?_
        refine Sx.then_normal (hK10 _ _ ?_)
        clear hK10
        refine wp_seq_k fun K23 hK23 => ?_
        refine wp_seq_k fun K24 hK24 => ?_
        -- region 11 (law.go:205)
        refine Sx.wp_text [(0, .take), (1, .take), (2, .take), (3, .take), (4, .take), (5, .take), (6, .take)] rfl ?_
        refine Sx.st_take hT rfl rfl rfl rfl (Sx.x_move hT rfl rfl) ?_
        clear hT; intro a hT
        refine Sx.st_take hT rfl rfl rfl rfl (Sx.x_len_slice hT rfl rfl Try.underlying42 rfl) ?_
        clear hT; intro a hT
        refine Sx.st_take hT rfl rfl rfl rfl ((fun w => Sx.x_gt w hT rfl rfl rfl)) ?_
        clear hT; intro a hT
        refine Sx.st_take hT rfl rfl rfl rfl (Sx.x_move hT rfl rfl) ?_
        clear hT; intro a hT
        -- guard (11, 3)
        refine Sx.Sl.two hT 64 rfl (fun hc25 hT => ?_) (fun hc25 hT => ?_)
        · try simp only [decide_eq_true_eq, decide_eq_false_iff_not, Bool.not_eq_true', Bool.not_eq_false', Bool.not_eq_true, Bool.not_eq_false, Bool.and_eq_true, Bool.or_eq_false_iff, beq_iff_eq, bne_iff_ne, Int.not_lt, Int.not_le, ne_eq] at hc25
          refine Sx.st_skip hT rfl rfl rfl rfl ?_
          clear hT; intro a hT
          refine Sx.st_skip hT rfl rfl rfl rfl ?_
          clear hT; intro a hT
          refine Sx.st_take hT rfl rfl rfl rfl (Sx.x_pick_t hT rfl rfl rfl) ?_
          clear hT; intro a hT
          replace hT := hT.keep [67, 50, 0, 1, 2, 7, 9, 10] rfl
          refine Sx.ser_nil ?_
          refine Sx.then_normal (hK24 _ _ ?_)
          clear hK24
          refine Sx.wp_if hT rfl (fun _ => ?_) (fun h => by cases h)
          refine wp_seq_k fun K26 hK26 => ?_
          -- region 12 (law.go:206)
          refine Sx.wp_text [(0, .run), (1, .take)] rfl ?_
          refine Sx.st_call hT rfl rfl rfl rfl rfl Try.can7 rfl (first_calls _) ?_
          rintro _ w4 ⟨rfl, E⟩
          refine ⟨_, rfl, ?_⟩
          clear hT; intro a hT
          replace X := X.step E
          refine Sx.st_take hT rfl rfl rfl rfl (Sx.x_assign hT rfl rfl) ?_
          clear hT; intro a hT
          replace hT := hT.keep [6, 67, 50, 0, 1, 2, 7, 9, 10] rfl
          refine Sx.ser_nil ?_
          refine Sx.then_normal (hK26 _ _ ?_)
          clear hK26
          refine wp_ret ?_
          refine Sx.then_ret ?_
          refine Sx.done1 (fn := Try.f4) hT rfl (.tmp (hT.get 6 _ rfl)) ?_
          exact ⟨congrArg (fun b => Ending.returned (.bool b)) (by simp), X⟩
        · try simp only [decide_eq_true_eq, decide_eq_false_iff_not, Bool.not_eq_true', Bool.not_eq_false', Bool.not_eq_true, Bool.not_eq_false, Bool.and_eq_true, Bool.or_eq_false_iff, beq_iff_eq, bne_iff_ne, Int.not_lt, Int.not_le, ne_eq] at hc25
          have hfin : sumD ls k = sumD ls 400 := by
            rcases Nat.lt_or_ge k 400 with h9 | h9
            · have : k = ls.length := by omega
              rw [this]; exact (sumD_all (by omega)).symm
            · rw [show k = 400 from by omega]
          refine Sx.st_take hT rfl rfl rfl rfl (Sx.x_move hT rfl rfl) ?_
          clear hT; intro a hT
          refine Sx.st_take hT rfl rfl rfl rfl ((fun w => Sx.x_gt w hT rfl rfl rfl)) ?_
          clear hT; intro a hT
          refine Sx.st_take hT rfl rfl rfl rfl (Sx.x_pick_f hT rfl rfl rfl) ?_
          clear hT; intro a hT
          replace hT := hT.keep [67, 50, 0, 1, 2, 7, 9, 10] rfl
          refine Sx.ser_nil ?_
          refine Sx.then_normal (hK24 _ _ ?_)
          clear hK24
          -- cond 3
          refine Sx.wp_if hT rfl (fun hc27 => ?_) (fun hc27 => ?_)
          · try simp only [decide_eq_true_eq, decide_eq_false_iff_not, Bool.not_eq_true', Bool.not_eq_false', Bool.not_eq_true, Bool.not_eq_false, Bool.and_eq_true, Bool.or_eq_false_iff, beq_iff_eq, bne_iff_ne, Int.not_lt, Int.not_le, ne_eq] at hc27
            refine wp_seq_k fun K28 hK28 => ?_
            -- region 12 (law.go:206)
            refine Sx.wp_text [(0, .run), (1, .take)] rfl ?_
            refine Sx.st_call hT rfl rfl rfl rfl rfl Try.can7 rfl (first_calls _) ?_
            rintro _ w4 ⟨rfl, E⟩
            refine ⟨_, rfl, ?_⟩
            clear hT; intro a hT
            replace X := X.step E
            refine Sx.st_take hT rfl rfl rfl rfl (Sx.x_assign hT rfl rfl) ?_
            clear hT; intro a hT
            replace hT := hT.keep [6, 67, 50, 0, 1, 2, 7, 9, 10] rfl
            refine Sx.ser_nil ?_
            refine Sx.then_normal (hK28 _ _ ?_)
            clear hK28
            refine wp_ret ?_
            refine Sx.then_ret ?_
            refine Sx.done1 (fn := Try.f4) hT rfl (.tmp (hT.get 6 _ rfl)) ?_
            exact ⟨congrArg (fun b => Ending.returned (.bool b)) (by simp), X⟩
          · exfalso
            try simp only [decide_eq_true_eq, decide_eq_false_iff_not, Bool.not_eq_true', Bool.not_eq_false', Bool.not_eq_true, Bool.not_eq_false, Bool.and_eq_true, Bool.or_eq_false_iff, beq_iff_eq, bne_iff_ne, Int.not_lt, Int.not_le, ne_eq] at hc27
            first | omega | simp at hc27

theorem NetOrder_few (ad : Option Addr) (c : Nat) (rs : List RB) (ls : List (List UInt8)) (adT : Option Addr) (cT : Nat) (bs : List Bool) (w : World) (h : Dat w ad rs ls) (hb : Ss w adT bit 1 bs) (hbl : bs.length ≤ 9223372036854775807) (most : Int) (hr : ¬ (most < 1 ∨ 4096 < most)) (hw : ¬ 64 < most) (hf : fewD ls = true) :
    Calls Try.prog 4 #[.int .i64 most, .slice ad rs.length c, .slice adT bs.length cT] w fun e w' => e = .returned (.bool true) ∧ Ext No w w' := by
  obtain ⟨hfew, hsum, hsm9⟩ := fewD_yes hf
  have hl := h.all.length
  refine Sx.calls_into Try.func4 rfl Try.ntmps4 rfl fun a hT => ?_
  replace hT := hT.keep [0, 1, 2] rfl
  have X : Sx.Ext Sx.No w w := Sx.Ext.refl _ _
  refine wp_seq_k fun K1 hK1 => ?_
  -- region 0 (law.go:193)
  refine Sx.wp_text [(0, .take)] rfl ?_
  refine Sx.st_take hT rfl rfl rfl rfl (Sx.x_assign hT rfl rfl) ?_
  clear hT; intro a hT
  replace hT := hT.keep [6, 0, 1, 2] rfl
  refine Sx.ser_nil ?_
  refine Sx.then_normal (hK1 _ _ ?_)
  clear hK1
  refine wp_seq_k fun K2 hK2 => ?_
  refine wp_seq_k fun K3 hK3 => ?_
  -- region 1 (law.go:194)
  refine Sx.wp_text [(0, .run), (1, .take)] rfl ?_
  refine Sx.st_call hT rfl rfl rfl rfl rfl Try.can7 rfl (first_calls _) ?_
  rintro _ w1 ⟨rfl, E⟩
  refine ⟨_, rfl, ?_⟩
  clear hT; intro a hT
  replace X := X.step E
  refine Sx.st_take hT rfl rfl rfl rfl (Sx.x_not hT rfl rfl) ?_
  clear hT; intro a hT
  replace hT := hT.keep [19, 6, 0, 1, 2] rfl
  refine Sx.ser_nil ?_
  refine Sx.then_normal (hK3 _ _ ?_)
  clear hK3
  refine Sx.wp_if hT rfl (fun h => by cases h) (fun _ => ?_)
  refine wp_skip ?_
  refine Sx.then_normal (hK2 _ _ ?_)
  clear hK2
  refine wp_seq_k fun K4 hK4 => ?_
  -- region 3 (law.go:197)
  refine Sx.wp_text [(0, .take), (1, .run), (2, .take), (3, .take), (4, .take), (5, .take), (6, .take)] rfl ?_
  refine Sx.st_take hT rfl rfl rfl rfl (Sx.x_move hT rfl rfl) ?_
  clear hT; intro a hT
  refine Sx.st_call hT rfl rfl rfl rfl rfl Try.can8 rfl (New_yes most _ hr) ?_
  have hz1 := X.size
  rintro _ w2 ⟨p, rfl, hp0, hnet0, E⟩
  refine ⟨_, rfl, ?_⟩
  clear hT; intro a hT
  replace X := X.step E
  obtain ⟨F0, hn, hF0⟩ : ∃ F : Nat → Prop, Net _ p most [] F ∧ ∀ i, F i → w.heap.size ≤ i := ⟨_, hnet0, fun i hi => by unfold Sx.One at hi; omega⟩
  clear hnet0
  refine Sx.st_take hT rfl rfl rfl rfl (Sx.x_move hT rfl rfl) ?_
  clear hT; intro a hT
  refine Sx.st_take hT rfl rfl rfl rfl (Sx.x_extract hT rfl rfl rfl) ?_
  clear hT; intro a hT
  refine Sx.st_take hT rfl rfl rfl rfl (Sx.x_extract hT rfl rfl rfl) ?_
  clear hT; intro a hT
  refine Sx.st_take hT rfl rfl rfl rfl (Sx.x_assign hT rfl rfl) ?_
  clear hT; intro a hT
  refine Sx.st_take hT rfl rfl rfl rfl (Sx.x_assign hT rfl rfl) ?_
  clear hT; intro a hT
  replace hT := hT.keep [8, 7, 19, 6, 0, 1, 2] rfl
  refine Sx.ser_nil ?_
  refine Sx.then_normal (hK4 _ _ ?_)
  clear hK4
  refine wp_seq_k fun K5 hK5 => ?_
  refine wp_seq_k fun K6 hK6 => ?_
  -- region 4 (law.go:198)
  refine Sx.wp_text [(0, .take), (1, .take), (2, .take), (3, .take), (4, .take), (5, .take), (6, .take), (7, .take), (8, .take), (9, .take)] rfl ?_
  refine Sx.st_take hT rfl rfl rfl rfl (Sx.x_move hT rfl rfl) ?_
  clear hT; intro a hT
  refine Sx.st_take hT rfl rfl rfl rfl ((fun w => Sx.x_ne w hT rfl rfl rfl)) ?_
  clear hT; intro a hT
  refine Sx.st_take hT rfl rfl rfl rfl (Sx.x_move hT rfl rfl) ?_
  clear hT; intro a hT
  -- guard (4, 2)
  refine Sx.Sl.two hT 27 rfl (fun hc7 hT => ?_) (fun hc7 hT => ?_)
  · exfalso
    try simp only [decide_eq_true_eq, decide_eq_false_iff_not, Bool.not_eq_true', Bool.not_eq_false', Bool.not_eq_true, Bool.not_eq_false, Bool.and_eq_true, Bool.or_eq_false_iff, beq_iff_eq, bne_iff_ne, Int.not_lt, Int.not_le, ne_eq] at hc7
    simp at hc7
  · try simp only [decide_eq_true_eq, decide_eq_false_iff_not, Bool.not_eq_true', Bool.not_eq_false', Bool.not_eq_true, Bool.not_eq_false, Bool.and_eq_true, Bool.or_eq_false_iff, beq_iff_eq, bne_iff_ne, Int.not_lt, Int.not_le, ne_eq] at hc7
    refine Sx.st_take hT rfl rfl rfl rfl (Sx.x_move hT rfl rfl) ?_
    clear hT; intro a hT
    refine Sx.st_take hT rfl rfl rfl rfl (Sx.x_eqnil_some hT rfl Try.underlying24 rfl rfl) ?_
    clear hT; intro a hT
    refine Sx.st_take hT rfl rfl rfl rfl (Sx.x_pick_f hT rfl rfl rfl) ?_
    clear hT; intro a hT
    refine Sx.st_take hT rfl rfl rfl rfl (Sx.x_move hT rfl rfl) ?_
    clear hT; intro a hT
    refine Sx.st_take hT rfl rfl rfl rfl (Sx.x_move hT rfl rfl) ?_
    clear hT; intro a hT
    refine Sx.st_take hT rfl rfl rfl rfl ((fun w => Sx.x_gt w hT rfl rfl rfl)) ?_
    clear hT; intro a hT
    refine Sx.st_take hT rfl rfl rfl rfl (Sx.x_pick_f hT rfl rfl rfl) ?_
    clear hT; intro a hT
    replace hT := hT.keep [34, 8, 7, 19, 6, 0, 1, 2] rfl
    refine Sx.ser_nil ?_
    refine Sx.then_normal (hK6 _ _ ?_)
    clear hK6
    -- cond 1
    refine Sx.wp_if hT rfl (fun hc8 => ?_) (fun hc8 => ?_)
    · exfalso
      try simp only [decide_eq_true_eq, decide_eq_false_iff_not, Bool.not_eq_true', Bool.not_eq_false', Bool.not_eq_true, Bool.not_eq_false, Bool.and_eq_true, Bool.or_eq_false_iff, beq_iff_eq, bne_iff_ne, Int.not_lt, Int.not_le, ne_eq] at hc8
      first | omega | simp at hc8
    · try simp only [decide_eq_true_eq, decide_eq_false_iff_not, Bool.not_eq_true', Bool.not_eq_false', Bool.not_eq_true, Bool.not_eq_false, Bool.and_eq_true, Bool.or_eq_false_iff, beq_iff_eq, bne_iff_ne, Int.not_lt, Int.not_le, ne_eq] at hc8
      refine wp_skip ?_
      refine Sx.then_normal (hK5 _ _ ?_)
      clear hK5
      refine wp_seq_k fun K9 hK9 => ?_
      -- region 6 (law.go:201)
      refine Sx.wp_text [(0, .take)] rfl ?_
      refine Sx.st_take hT rfl rfl rfl rfl (Sx.x_assign hT rfl rfl) ?_
      clear hT; intro a hT
      replace hT := hT.keep [9, 34, 8, 7, 19, 6, 0, 1, 2] rfl
      refine Sx.ser_nil ?_
      refine Sx.then_normal (hK9 _ _ ?_)
      clear hK9
      refine wp_seq_k fun K10 hK10 => ?_
      refine wp_seq_k fun K11 hK11 => ?_
      -- region 7 (law.go:202)
      refine Sx.wp_text [(0, .take)] rfl ?_
      refine Sx.st_take hT rfl rfl rfl rfl (Sx.x_assign hT rfl rfl) ?_
      clear hT; intro a hT
      replace hT := hT.keep [10, 9, 34, 8, 7, 19, 6, 0, 1, 2] rfl
      refine Sx.ser_nil ?_
      refine Sx.then_normal (hK11 _ _ ?_)
      clear hK11
      refine wp_block ?_
      -- loop 0
      refine Sx.wp_while (G := Nat) (fun k a w3 => k ≤ rs.length ∧ k ≤ 400 ∧ Ext No w w3 ∧ Net w3 p most [] F0 ∧ Sl 156 [(0, .int .i64 most), (1, .slice ad rs.length c), (2, .slice adT bs.length cT), (7, .pointer (some ⟨p, 0, none⟩)), (9, .int .i64 (sumD ls k)), (10, .int .i64 k)] a) (fun k => rs.length - k) 0 ?_ ?_
      · exact ⟨Nat.zero_le _, Nat.zero_le _, X, hn, hT.keep [0, 1, 2, 7, 9, 10] rfl⟩
      clear hT X hn
      intro k a w3 hI
      obtain ⟨hk, hk4, X, hn, hT⟩ := hI
      have hsl := sumD_le ls k
      have hsm := sumD_mono ls hk4
      refine wp_seq_k fun K12 hK12 => ?_
      refine wp_seq_k fun K13 hK13 => ?_
      -- region 8 (law.go:202)
      refine Sx.wp_text [(0, .take), (1, .take), (2, .take), (3, .take), (4, .take), (5, .take), (6, .take), (7, .take)] rfl ?_
      refine Sx.st_take hT rfl rfl rfl rfl (Sx.x_move hT rfl rfl) ?_
      clear hT; intro a hT
      refine Sx.st_take hT rfl rfl rfl rfl (Sx.x_move hT rfl rfl) ?_
      clear hT; intro a hT
      refine Sx.st_take hT rfl rfl rfl rfl (Sx.x_len_slice hT rfl rfl Try.underlying42 rfl) ?_
      clear hT; intro a hT
      refine Sx.st_take hT rfl rfl rfl rfl ((fun w => Sx.x_lt w hT rfl rfl rfl)) ?_
      clear hT; intro a hT
      refine Sx.st_take hT rfl rfl rfl rfl (Sx.x_move hT rfl rfl) ?_
      clear hT; intro a hT
      -- guard (8, 4)
      refine Sx.Sl.two hT 47 rfl (fun hc14 hT => ?_) (fun hc14 hT => ?_)
      · try simp only [decide_eq_true_eq, decide_eq_false_iff_not, Bool.not_eq_true', Bool.not_eq_false', Bool.not_eq_true, Bool.not_eq_false, Bool.and_eq_true, Bool.or_eq_false_iff, beq_iff_eq, bne_iff_ne, Int.not_lt, Int.not_le, ne_eq] at hc14
        refine Sx.st_take hT rfl rfl rfl rfl (Sx.x_move hT rfl rfl) ?_
        clear hT; intro a hT
        refine Sx.st_take hT rfl rfl rfl rfl ((fun w => Sx.x_lt w hT rfl rfl rfl)) ?_
        clear hT; intro a hT
        refine Sx.st_take hT rfl rfl rfl rfl (Sx.x_pick_t hT rfl rfl rfl) ?_
        clear hT; intro a hT
        replace hT := hT.keep [50, 0, 1, 2, 7, 9, 10] rfl
        refine Sx.ser_nil ?_
        refine Sx.then_normal (hK13 _ _ ?_)
        clear hK13
        -- cond 2
        refine Sx.wp_if hT rfl (fun hc15 => ?_) (fun hc15 => ?_)
        · try simp only [decide_eq_true_eq, decide_eq_false_iff_not, Bool.not_eq_true', Bool.not_eq_false', Bool.not_eq_true, Bool.not_eq_false, Bool.and_eq_true, Bool.or_eq_false_iff, beq_iff_eq, bne_iff_ne, Int.not_lt, Int.not_le, ne_eq] at hc15
          obtain ⟨o, ho⟩ : ∃ o, ls[k]? = some o := ⟨_, List.getElem?_eq_getElem (by omega)⟩
          obtain ⟨r, hr9, hor⟩ := h.all.get ho
          refine wp_skip ?_
          refine Sx.then_normal (hK12 _ _ ?_)
          clear hK12
          refine wp_seq_k fun K16 hK16 => ?_
          refine wp_block ?_
          -- region 10 (law.go:203)
          refine Sx.wp_text [(0, .take), (1, .take), (2, .take), (3, .take), (4, .run), (5, .take), (6, .take), (7, .take), (8, .take)] rfl ?_
          refine Sx.st_take hT rfl rfl rfl rfl (Sx.x_move hT rfl rfl) ?_
          clear hT; intro a hT
          refine Sx.st_take hT rfl rfl rfl rfl (Sx.x_move hT rfl rfl) ?_
          clear hT; intro a hT
          refine Sx.st_take hT rfl rfl rfl rfl (Sx.x_move hT rfl rfl) ?_
          clear hT; intro a hT
          refine Sx.st_take hT rfl rfl rfl rfl (Sx.x_index hT rfl Try.underlying42 Try.ti30 (by first | exact (h.ss.sv.ext_no X) | exact (hb.sv.ext_no X) | exact hS.sv) rfl rfl rfl (by omega)) ?_
          clear hT; intro a hT
          refine Sx.st_run hT rfl rfl rfl rfl (Sx.x_load1 hT rfl Try.fl30 rfl (by first | exact (ss_one RB.len (h.ss.ext_no X) hr9 rfl) | exact (ss_one bit_len (hb.ext_no X) htb rfl))) ?_
          clear hT; intro a hT
          refine Sx.st_take hT rfl rfl rfl rfl (Sx.x_len_slice hT rfl rfl Try.underlying30 rfl) ?_
          clear hT; intro a hT
          refine Sx.st_take hT rfl rfl rfl rfl (Sx.x_min hT rfl rfl rfl) ?_
          clear hT; intro a hT
          refine Sx.st_take hT rfl rfl rfl rfl ((fun w => Sx.x_add w hT rfl rfl rfl (Sx.wrap64 (by omega)))) ?_
          clear hT; intro a hT
          refine Sx.st_take hT rfl rfl rfl rfl (Sx.x_assign hT rfl rfl) ?_
          clear hT; intro a hT
          replace hT := hT.keep [9, 50, 0, 1, 2, 7, 10] rfl
          refine Sx.ser_nil ?_
          refine Sx.block_normal ?_
          refine Sx.then_normal (hK16 _ _ ?_)
          clear hK16
          -- region 9 (law.go:202)
          refine Sx.wp_text [(0, .take), (1, .take), (2, .take)] rfl ?_
          refine Sx.st_take hT rfl rfl rfl rfl (Sx.x_move hT rfl rfl) ?_
          clear hT; intro a hT
          refine Sx.st_take hT rfl rfl rfl rfl ((fun w => Sx.x_add w hT rfl rfl rfl (Sx.wrap64 (by omega)))) ?_
          clear hT; intro a hT
          refine Sx.st_take hT rfl rfl rfl rfl (Sx.x_assign hT rfl rfl) ?_
          clear hT; intro a hT
          replace hT := hT.keep [10, 9, 50, 0, 1, 2, 7] rfl
          refine Sx.ser_nil ?_
          refine Sx.then_normal ?_
          exact ⟨k + 1, ⟨by omega, by omega, X, hn, (hT.keep [0, 1, 2, 7, 9, 10] rfl).conv (by rw [sumD_succ ho, hor.n]; simp; omega)⟩, by omega⟩
        · exfalso
          try simp only [decide_eq_true_eq, decide_eq_false_iff_not, Bool.not_eq_true', Bool.not_eq_false', Bool.not_eq_true, Bool.not_eq_false, Bool.and_eq_true, Bool.or_eq_false_iff, beq_iff_eq, bne_iff_ne, Int.not_lt, Int.not_le, ne_eq] at hc15
          first | omega | simp at hc15
      · try simp only [decide_eq_true_eq, decide_eq_false_iff_not, Bool.not_eq_true', Bool.not_eq_false', Bool.not_eq_true, Bool.not_eq_false, Bool.and_eq_true, Bool.or_eq_false_iff, beq_iff_eq, bne_iff_ne, Int.not_lt, Int.not_le, ne_eq] at hc14
        refine Sx.st_skip hT rfl rfl rfl rfl ?_
        clear hT; intro a hT
        refine Sx.st_skip hT rfl rfl rfl rfl ?_
        clear hT; intro a hT
        refine Sx.st_take hT rfl rfl rfl rfl (Sx.x_pick_f hT rfl rfl rfl) ?_
        clear hT; intro a hT
        replace hT := hT.keep [50, 0, 1, 2, 7, 9, 10] rfl
        refine Sx.ser_nil ?_
        refine Sx.then_normal (hK13 _ _ ?_)
        clear hK13
        refine Sx.wp_if hT rfl (fun h => by cases h) (fun _ => ?_)
        refine wp_exit ?_
        refine Sx.then_exit ?_
        refine Sx.then_exit ?_
        refine Sx.block_exit ?_
        refine Sx.then_normal (hK10 _ _ ?_)
        clear hK10
        refine wp_seq_k fun K17 hK17 => ?_
        refine wp_seq_k fun K18 hK18 => ?_
        -- region 11 (law.go:205)
        refine Sx.wp_text [(0, .take), (1, .take), (2, .take), (3, .take), (4, .take), (5, .take), (6, .take)] rfl ?_
        refine Sx.st_take hT rfl rfl rfl rfl (Sx.x_move hT rfl rfl) ?_
        clear hT; intro a hT
        refine Sx.st_take hT rfl rfl rfl rfl (Sx.x_len_slice hT rfl rfl Try.underlying42 rfl) ?_
        clear hT; intro a hT
        refine Sx.st_take hT rfl rfl rfl rfl ((fun w => Sx.x_gt w hT rfl rfl rfl)) ?_
        clear hT; intro a hT
        refine Sx.st_take hT rfl rfl rfl rfl (Sx.x_move hT rfl rfl) ?_
        clear hT; intro a hT
        -- guard (11, 3)
        refine Sx.Sl.two hT 64 rfl (fun hc19 hT => ?_) (fun hc19 hT => ?_)
        · exfalso
          try simp only [decide_eq_true_eq, decide_eq_false_iff_not, Bool.not_eq_true', Bool.not_eq_false', Bool.not_eq_true, Bool.not_eq_false, Bool.and_eq_true, Bool.or_eq_false_iff, beq_iff_eq, bne_iff_ne, Int.not_lt, Int.not_le, ne_eq] at hc19
          first | omega | simp at hc19
        · try simp only [decide_eq_true_eq, decide_eq_false_iff_not, Bool.not_eq_true', Bool.not_eq_false', Bool.not_eq_true, Bool.not_eq_false, Bool.and_eq_true, Bool.or_eq_false_iff, beq_iff_eq, bne_iff_ne, Int.not_lt, Int.not_le, ne_eq] at hc19
          refine Sx.st_take hT rfl rfl rfl rfl (Sx.x_move hT rfl rfl) ?_
          clear hT; intro a hT
          refine Sx.st_take hT rfl rfl rfl rfl ((fun w => Sx.x_gt w hT rfl rfl rfl)) ?_
          clear hT; intro a hT
          refine Sx.st_take hT rfl rfl rfl rfl (Sx.x_pick_f hT rfl rfl rfl) ?_
          clear hT; intro a hT
          replace hT := hT.keep [67, 50, 0, 1, 2, 7, 9, 10] rfl
          refine Sx.ser_nil ?_
          refine Sx.then_normal (hK18 _ _ ?_)
          clear hK18
          -- cond 3
          refine Sx.wp_if hT rfl (fun hc20 => ?_) (fun hc20 => ?_)
          · exfalso
            try simp only [decide_eq_true_eq, decide_eq_false_iff_not, Bool.not_eq_true', Bool.not_eq_false', Bool.not_eq_true, Bool.not_eq_false, Bool.and_eq_true, Bool.or_eq_false_iff, beq_iff_eq, bne_iff_ne, Int.not_lt, Int.not_le, ne_eq] at hc20
            first | omega | simp at hc20
          · try simp only [decide_eq_true_eq, decide_eq_false_iff_not, Bool.not_eq_true', Bool.not_eq_false', Bool.not_eq_true, Bool.not_eq_false, Bool.and_eq_true, Bool.or_eq_false_iff, beq_iff_eq, bne_iff_ne, Int.not_lt, Int.not_le, ne_eq] at hc20
            refine wp_skip ?_
            refine Sx.then_normal (hK17 _ _ ?_)
            clear hK17
            refine wp_seq_k fun K21 hK21 => ?_
            -- region 13 (law.go:208)
            refine Sx.wp_text [(0, .take)] rfl ?_
            refine Sx.st_take hT rfl rfl rfl rfl (Sx.x_assign hT rfl rfl) ?_
            clear hT; intro a hT
            replace hT := hT.keep [11, 67, 50, 0, 1, 2, 7, 9, 10] rfl
            refine Sx.ser_nil ?_
            refine Sx.then_normal (hK21 _ _ ?_)
            clear hK21
            refine wp_seq_k fun K22 hK22 => ?_
            -- region 14 (law.go:209)
            refine Sx.wp_text [(0, .take)] rfl ?_
            refine Sx.st_take hT rfl rfl rfl rfl (Sx.x_assign hT rfl rfl) ?_
            clear hT; intro a hT
            replace hT := hT.keep [12, 11, 67, 50, 0, 1, 2, 7, 9, 10] rfl
            refine Sx.ser_nil ?_
            refine Sx.then_normal (hK22 _ _ ?_)
            clear hK22
            refine wp_seq_k fun K23 hK23 => ?_
            -- region 15 (law.go:210)
            refine Sx.wp_text [(0, .take)] rfl ?_
            refine Sx.st_take hT rfl rfl rfl rfl (Sx.x_assign hT rfl rfl) ?_
            clear hT; intro a hT
            replace hT := hT.keep [13, 12, 11, 67, 50, 0, 1, 2, 7, 9, 10] rfl
            refine Sx.ser_nil ?_
            refine Sx.then_normal (hK23 _ _ ?_)
            clear hK23
            refine wp_seq_k fun K24 hK24 => ?_
            refine wp_seq_k fun K25 hK25 => ?_
            -- region 16 (law.go:211)
            refine Sx.wp_text [(0, .take)] rfl ?_
            refine Sx.st_take hT rfl rfl rfl rfl (Sx.x_assign hT rfl rfl) ?_
            clear hT; intro a hT
            replace hT := hT.keep [14, 13, 12, 11, 67, 50, 0, 1, 2, 7, 9, 10] rfl
            refine Sx.ser_nil ?_
            refine Sx.then_normal (hK25 _ _ ?_)
            clear hK25
            refine wp_block ?_
            -- loop 1
            refine Sx.wp_while (G := OG) (fun g a w4 => g.i ≤ rs.length ∧ Ext No w w4 ∧ Net w4 p most g.ms g.F ∧ (∀ k, g.F k → w.heap.size ≤ k) ∧ Row w4 30 1 g.ad g.sr.length g.c (g.sr.flatMap RB.cells) ∧ (∀ k, Own g.ad k → w.heap.size ≤ k ∧ ¬ g.F k) ∧ All2 (RB.is w) g.sr g.sl ∧ g.j ≤ g.sl.length ∧ g.sl.length ≤ g.i ∧ g.ms.map Mail.data = g.sl.drop g.j ∧ Sl 156 [(0, .int .i64 most), (1, .slice ad rs.length c), (2, .slice adT bs.length cT), (7, .pointer (some ⟨p, 0, none⟩)), (11, .int .i64 (g.j : Int)), (12, .int .i64 (g.sl.length : Int)), (13, .slice g.ad g.sr.length g.c), (14, .int .i64 (g.i : Int))] a) (fun g => rs.length - g.i) ⟨0, 0, [], [], [], F0, none, 0⟩ ?_ ?_
            · exact ⟨Nat.zero_le _, X, hn, hF0, Row.nil _ _ _, fun k hk => by simp [Own] at hk, trivial, Nat.zero_le _, Nat.zero_le _, rfl, hT.keep [0, 1, 2, 7, 11, 12, 13, 14] rfl⟩
            clear hT X hn hF0
            rintro ⟨i, j, sr, sl, ms, F, ad2, c2⟩ a w4 hI
            obtain ⟨hi, X, hn, hF, hS, hSo, hSA, hjl, hli, hmap, hT⟩ := hI
            dsimp only at hi hn hF hS hSo hSA hjl hli hmap hT
            have hml := drop_len hmap
            have hfit := hn.fits
            have hsrl := hSA.length
            refine wp_seq_k fun K26 hK26 => ?_
            refine wp_seq_k fun K27 hK27 => ?_
            -- region 17 (law.go:211)
            refine Sx.wp_text [(0, .take), (1, .take), (2, .take), (3, .take)] rfl ?_
            refine Sx.st_take hT rfl rfl rfl rfl (Sx.x_move hT rfl rfl) ?_
            clear hT; intro a hT
            refine Sx.st_take hT rfl rfl rfl rfl (Sx.x_move hT rfl rfl) ?_
            clear hT; intro a hT
            refine Sx.st_take hT rfl rfl rfl rfl (Sx.x_len_slice hT rfl rfl Try.underlying42 rfl) ?_
            clear hT; intro a hT
            refine Sx.st_take hT rfl rfl rfl rfl ((fun w => Sx.x_lt w hT rfl rfl rfl)) ?_
            clear hT; intro a hT
            replace hT := hT.keep [72, 0, 1, 2, 7, 11, 12, 13, 14] rfl
            refine Sx.ser_nil ?_
            refine Sx.then_normal (hK27 _ _ ?_)
            clear hK27
            -- cond 4
            refine Sx.wp_if hT rfl (fun hc28 => ?_) (fun hc28 => ?_)
            · try simp only [decide_eq_true_eq, decide_eq_false_iff_not, Bool.not_eq_true', Bool.not_eq_false', Bool.not_eq_true, Bool.not_eq_false, Bool.and_eq_true, Bool.or_eq_false_iff, beq_iff_eq, bne_iff_ne, Int.not_lt, Int.not_le, ne_eq] at hc28
              obtain ⟨l, hlk⟩ : ∃ o, ls[i]? = some o := ⟨_, List.getElem?_eq_getElem (by omega)⟩
              obtain ⟨r, hr9, hrl⟩ := h.all.get hlk
              have hll := hsm9 l (List.mem_of_getElem? hlk)
              refine wp_skip ?_
              refine Sx.then_normal (hK26 _ _ ?_)
              clear hK26
              refine wp_seq_k fun K29 hK29 => ?_
              refine wp_block ?_
              refine wp_seq_k fun K30 hK30 => ?_
              refine wp_seq_k fun K31 hK31 => ?_
              -- region 19 (law.go:212)
              refine Sx.wp_text [(0, .take), (1, .take), (2, .take), (3, .take), (4, .take), (5, .take), (6, .take), (7, .take), (8, .run), (9, .take)] rfl ?_
              refine Sx.st_take hT rfl rfl rfl rfl (Sx.x_move hT rfl rfl) ?_
              clear hT; intro a hT
              refine Sx.st_take hT rfl rfl rfl rfl (Sx.x_move hT rfl rfl) ?_
              clear hT; intro a hT
              refine Sx.st_take hT rfl rfl rfl rfl (Sx.x_len_slice hT rfl rfl Try.underlying43 rfl) ?_
              clear hT; intro a hT
              refine Sx.st_take hT rfl rfl rfl rfl ((fun w => Sx.x_lt w hT rfl rfl rfl)) ?_
              clear hT; intro a hT
              refine Sx.st_take hT rfl rfl rfl rfl (Sx.x_move hT rfl rfl) ?_
              clear hT; intro a hT
              -- guard (19, 4)
              refine Sx.Sl.two hT 79 rfl (fun hc32 hT => ?_) (fun hc32 hT => ?_)
              · try simp only [decide_eq_true_eq, decide_eq_false_iff_not, Bool.not_eq_true', Bool.not_eq_false', Bool.not_eq_true, Bool.not_eq_false, Bool.and_eq_true, Bool.or_eq_false_iff, beq_iff_eq, bne_iff_ne, Int.not_lt, Int.not_le, ne_eq] at hc32
                obtain ⟨tb, htb⟩ : ∃ o, bs[i]? = some o := ⟨_, List.getElem?_eq_getElem (by omega)⟩
                refine Sx.st_take hT rfl rfl rfl rfl (Sx.x_move hT rfl rfl) ?_
                clear hT; intro a hT
                refine Sx.st_take hT rfl rfl rfl rfl (Sx.x_move hT rfl rfl) ?_
                clear hT; intro a hT
                refine Sx.st_take hT rfl rfl rfl rfl (Sx.x_index hT rfl Try.underlying43 Try.ti4 (by first | exact (h.ss.sv.ext_no X) | exact (hb.sv.ext_no X) | exact hS.sv) rfl rfl rfl (by omega)) ?_
                clear hT; intro a hT
                refine Sx.st_run hT rfl rfl rfl rfl (Sx.x_load1 hT rfl Try.fl4 rfl (by first | exact (ss_one RB.len (h.ss.ext_no X) hr9 rfl) | exact (ss_one bit_len (hb.ext_no X) htb rfl))) ?_
                clear hT; intro a hT
                refine Sx.st_take hT rfl rfl rfl rfl (Sx.x_pick_t hT rfl rfl rfl) ?_
                clear hT; intro a hT
                replace hT := hT.keep [84, 72, 0, 1, 2, 7, 11, 12, 13, 14] rfl
                refine Sx.ser_nil ?_
                refine Sx.then_normal (hK31 _ _ ?_)
                clear hK31
                -- cond 5
                refine Sx.wp_if hT rfl (fun hc33 => ?_) (fun hc33 => ?_)
                · try simp only [decide_eq_true_eq, decide_eq_false_iff_not, Bool.not_eq_true', Bool.not_eq_false', Bool.not_eq_true, Bool.not_eq_false, Bool.and_eq_true, Bool.or_eq_false_iff, beq_iff_eq, bne_iff_ne, Int.not_lt, Int.not_le, ne_eq] at hc33
                  refine wp_seq_k fun K34 hK34 => ?_
                  by_cases hm0 : ms = []
                  · skip
                    have hm1 : ms.length = 0 := by rw [hm0]; rfl
                    -- region 20 (law.go:213)
                    refine Sx.wp_text [(0, .take), (1, .run), (2, .take), (3, .take), (4, .take), (5, .run), (6, .run), (7, .take)] rfl ?_
                    refine Sx.st_take hT rfl rfl rfl rfl (Sx.x_move hT rfl rfl) ?_
                    clear hT; intro a hT
                    refine Sx.st_call hT rfl rfl rfl rfl rfl Try.can16 rfl (nTake_no hn 0 (by simp [hm0])) ?_
                    rintro _ w5 ⟨rfl, E⟩
                    refine ⟨_, rfl, ?_⟩
                    clear hT; intro a hT
                    replace X := X.step E
                    replace hn := hn.ext_no E
                    replace hS := hS.ext_no E
                    refine Sx.st_take hT rfl rfl rfl rfl (Sx.x_move hT rfl rfl) ?_
                    clear hT; intro a hT
                    refine Sx.st_take hT rfl rfl rfl rfl (Sx.x_extract hT rfl rfl rfl) ?_
                    clear hT; intro a hT
                    refine Sx.st_take hT rfl rfl rfl rfl (Sx.x_extract hT rfl rfl rfl) ?_
                    clear hT; intro a hT
                    refine Sx.st_eff hT rfl rfl rfl rfl (Sx.y_alloc hT rfl Try.ti34 rfl _) ?_
                    clear hT; rintro _ w6 ⟨b1, rfl, N⟩ a hT
                    have hb1 : w.heap.size ≤ b1 := by rw [N.at_]; exact X.size
                    try (have hf_b1 : ∀ k, F k → k < b1 := fun k hk => by have := hn.lt k hk; have := N.at_; omega)
                    have hs_b1 : ∀ k, Own ad2 k → k < b1 := fun k hk => by have := hS.lt k hk; have := N.at_; omega
                    try (have hd_b1 := fun h0 => Nat.lt_of_lt_of_le (hto.bs.lt h0) (Nat.le_of_eq N.at_.symm))
                    try (have hg_b1 : ∀ k, F2 k → k < b1 := fun k hk => by have := hn.lt k hk; have := N.at_; omega)
                    replace X := X.step N.ext
                    replace hn := hn.ext_no N.ext
                    replace hS := hS.ext_no N.ext
                    have B1 := N.blk
                    clear N
                    refine Sx.st_act hT rfl rfl rfl (Sx.y_storeS hT rfl Try.ti34 rfl rfl rfl rfl rfl B1 rfl) ?_
                    rintro w7 ⟨NB1, E, z⟩
                    replace X := X.fresh E (by omega)
                    replace hn := hn.ext E (fun k hk h9 => by unfold Sx.One at h9; have := hf_b1 k hk; omega)
                    replace hS := hS.ext E (fun k hk h9 => by unfold Sx.One at h9; have := hs_b1 k hk; omega)
                    replace B1 := NB1; clear NB1 E
                    refine Sx.st_take hT rfl rfl rfl rfl (Sx.x_assign hT rfl rfl) ?_
                    clear hT; intro a hT
                    replace hT := hT.keep [16, 15, 84, 72, 0, 1, 2, 7, 11, 12, 13, 14] rfl
                    refine Sx.ser_nil ?_
                    refine Sx.then_normal (hK34 _ _ ?_)
                    clear hK34
                    refine wp_seq_k fun K35 hK35 => ?_
                    refine wp_seq_k fun K36 hK36 => ?_
                    -- region 21 (law.go:214)
                    refine Sx.wp_draws (fun u => Sx.Ext Sx.No u) [(0, .take), (1, .take), (2, .take), (3, .take), (4, .take), (5, .take), (6, .take), (7, .take), (8, .take), (9, .held), (10, .take), (11, .take), (12, .take), (13, .held), (14, .run), (15, .take), (16, .take), (17, .take)] (by kernel_rfl) (by kernel_rfl) (fun u E z => ?_)
                    replace X := X.step E
                    replace B1 := B1.ext_no E
                    replace hn := hn.ext_no E
                    replace hS := hS.ext_no E
                    have hH : Sx.Ext Sx.No u u := Sx.Ext.refl _ _
                    have Xu := X
                    have B1u := B1
                    refine Sx.st_take hT rfl rfl rfl rfl (Sx.x_move hT rfl rfl) ?_
                    clear hT; intro a hT
                    refine Sx.st_take hT rfl rfl rfl rfl (Sx.x_move hT rfl rfl) ?_
                    clear hT; intro a hT
                    refine Sx.st_take hT rfl rfl rfl rfl (Sx.x_move hT rfl rfl) ?_
                    clear hT; intro a hT
                    refine Sx.st_take hT rfl rfl rfl rfl ((fun w => Sx.x_lt w hT rfl rfl rfl)) ?_
                    clear hT; intro a hT
                    refine Sx.st_take hT rfl rfl rfl rfl (Sx.x_neb hT rfl Try.underlying4 rfl rfl) ?_
                    clear hT; intro a hT
                    refine Sx.st_take hT rfl rfl rfl rfl (Sx.x_move hT rfl rfl) ?_
                    clear hT; intro a hT
                    -- guard (21, 5)
                    refine Sx.Sl.two hT 95 rfl (fun hc37 hT => ?_) (fun hc37 hT => ?_)
                    · exfalso
                      try simp only [decide_eq_true_eq, decide_eq_false_iff_not, Bool.not_eq_true', Bool.not_eq_false', Bool.not_eq_true, Bool.not_eq_false, Bool.and_eq_true, Bool.or_eq_false_iff, beq_iff_eq, bne_iff_ne, Int.not_lt, Int.not_le, ne_eq] at hc37
                      first | omega | (simp at hc37; omega) | simp at hc37
                    · try simp only [decide_eq_true_eq, decide_eq_false_iff_not, Bool.not_eq_true', Bool.not_eq_false', Bool.not_eq_true, Bool.not_eq_false, Bool.and_eq_true, Bool.or_eq_false_iff, beq_iff_eq, bne_iff_ne, Int.not_lt, Int.not_le, ne_eq] at hc37
                      refine Sx.st_take hT rfl rfl rfl rfl (Sx.x_move hT rfl rfl) ?_
                      clear hT; intro a hT
                      refine Sx.st_take hT rfl rfl rfl rfl (Sx.x_move hT rfl rfl) ?_
                      clear hT; intro a hT
                      refine Sx.st_skip hT rfl rfl rfl rfl ?_
                      clear hT; intro a hT
                      refine Sx.st_heldskip hT rfl rfl rfl rfl hH ?_
                      clear hT; intro a hT
                      refine Sx.st_skip hT rfl rfl rfl rfl ?_
                      clear hT; intro a hT
                      refine Sx.st_skip hT rfl rfl rfl rfl ?_
                      clear hT; intro a hT
                      refine Sx.st_skip hT rfl rfl rfl rfl ?_
                      clear hT; intro a hT
                      refine Sx.st_heldskip hT rfl rfl rfl rfl hH ?_
                      clear hT; intro a hT
                      refine Sx.st_runskip hT rfl rfl rfl rfl ?_
                      clear hT; intro a hT
                      refine Sx.st_skip hT rfl rfl rfl rfl ?_
                      clear hT; intro a hT
                      refine Sx.st_take hT rfl rfl rfl rfl (Sx.x_pick_f hT rfl rfl rfl) ?_
                      clear hT; intro a hT
                      refine Sx.st_take hT rfl rfl rfl rfl (Sx.x_pick_f hT rfl rfl rfl) ?_
                      clear hT; intro a hT
                      replace hT := hT.keep [107, 16, 15, 84, 72, 0, 1, 2, 7, 11, 12, 13, 14] rfl
                      refine Sx.ser_calm ?_
                      refine Sx.then_normal (hK36 _ _ ?_)
                      clear hK36
                      refine Sx.wp_if hT rfl (fun h => by cases h) (fun _ => ?_)
                      refine wp_skip ?_
                      refine Sx.then_normal (hK35 _ _ ?_)
                      clear hK35
                      refine wp_seq_k fun K38 hK38 => ?_
                      -- region 23 (law.go:217)
                      refine Sx.wp_text [(0, .take)] rfl ?_
                      refine Sx.st_take hT rfl rfl rfl rfl (Sx.x_move hT rfl rfl) ?_
                      clear hT; intro a hT
                      replace hT := hT.keep [108, 107, 16, 15, 84, 72, 0, 1, 2, 7, 11, 12, 13, 14] rfl
                      refine Sx.ser_nil ?_
                      refine Sx.then_normal (hK38 _ _ ?_)
                      clear hK38
                      refine Sx.wp_if hT rfl (fun h => by cases h) (fun _ => ?_)
                      refine wp_skip ?_
                      refine Sx.then_normal (hK30 _ _ ?_)
                      clear hK30
                      refine wp_seq_k fun K39 hK39 => ?_
                      by_cases hroom : ((ms).length : Int) < most
                      · skip
                        -- region 25 (law.go:221)
                        refine Sx.wp_text [(0, .take), (1, .take), (2, .take), (3, .take), (4, .take), (5, .take), (6, .take), (7, .run), (8, .run), (9, .take)] rfl ?_
                        refine Sx.st_take hT rfl rfl rfl rfl (Sx.x_move hT rfl rfl) ?_
                        clear hT; intro a hT
                        refine Sx.st_take hT rfl rfl rfl rfl (Sx.x_move hT rfl rfl) ?_
                        clear hT; intro a hT
                        refine Sx.st_take hT rfl rfl rfl rfl (Sx.x_move hT rfl rfl) ?_
                        clear hT; intro a hT
                        refine Sx.st_take hT rfl rfl rfl rfl ((fun w => Sx.x_add w hT rfl rfl rfl (Sx.wrap64 (by omega)))) ?_
                        clear hT; intro a hT
                        refine Sx.st_take hT rfl rfl rfl rfl (Sx.x_move hT rfl rfl) ?_
                        clear hT; intro a hT
                        refine Sx.st_take hT rfl rfl rfl rfl (Sx.x_move hT rfl rfl) ?_
                        clear hT; intro a hT
                        refine Sx.st_take hT rfl rfl rfl rfl (Sx.x_index hT rfl Try.underlying42 Try.ti30 (by first | exact (h.ss.sv.ext_no X) | exact (hb.sv.ext_no X) | exact hS.sv) rfl rfl rfl (by omega)) ?_
                        clear hT; intro a hT
                        refine Sx.st_run hT rfl rfl rfl rfl (Sx.x_load1 hT rfl Try.fl30 rfl (by first | exact (B1).nth rfl | exact (ss_one RB.len (h.ss.ext_no X) hr9 rfl) | exact (ss_one bit_len (hb.ext_no X) htb rfl))) ?_
                        clear hT; intro a hT
                        refine Sx.st_call hT rfl rfl rfl rfl rfl Try.can10 rfl (nSend_ok hn i (i + 1) r.ad r.n r.c l (by omega) (hrl.bs.ext_no X) hrl.n hrl.nil (by have := hrl.n; omega)) ?_
                        have hz1 := X.size
                        have hSl := hS.lt
                        rintro _ w8 ⟨rfl, hn2, E⟩
                        refine ⟨_, rfl, ?_⟩
                        clear hT; intro a hT
                        replace X := X.trans E (fun i hi h9 => absurd hi (by have := hF i h9; omega))
                        replace hS := hS.ext E (fun k hk h9 => (hSo k hk).2 h9)
                        obtain ⟨F2, hn3, hF2, hSo2⟩ : ∃ F2 : Nat → Prop, Net _ p most (ms ++ [⟨i, i + 1, l⟩]) F2 ∧ (∀ k, F2 k → w.heap.size ≤ k) ∧ (∀ k, Own ad2 k → w.heap.size ≤ k ∧ ¬ F2 k) := ⟨_, hn2, fun k hk => hk.elim (hF k) (fun h9 => by omega), fun k hk => ⟨(hSo k hk).1, fun h9 => h9.elim (hSo k hk).2 (fun h8 => by have := hSl k hk; omega)⟩⟩
                        clear hn2 hn E
                        have hn := hn3
                        clear hn3
                        refine Sx.st_take hT rfl rfl rfl rfl (Sx.x_assign hT rfl rfl) ?_
                        clear hT; intro a hT
                        replace hT := hT.keep [17, 108, 107, 16, 15, 84, 72, 0, 1, 2, 7, 11, 12, 13, 14] rfl
                        refine Sx.ser_nil ?_
                        refine Sx.then_normal (hK39 _ _ ?_)
                        clear hK39
                        refine wp_seq_k fun K40 hK40 => ?_
                        refine wp_seq_k fun K41 hK41 => ?_
                        -- region 26 (law.go:222)
                        refine Sx.wp_text [(0, .take), (1, .take), (2, .take), (3, .take), (4, .take), (5, .take), (6, .take), (7, .take), (8, .take), (9, .take), (10, .take), (11, .take), (12, .take), (13, .take), (14, .take), (15, .take)] rfl ?_
                        refine Sx.st_take hT rfl rfl rfl rfl (Sx.x_move hT rfl rfl) ?_
                        clear hT; intro a hT
                        refine Sx.st_take hT rfl rfl rfl rfl ((fun w => Sx.x_eq w hT rfl rfl rfl)) ?_
                        clear hT; intro a hT
                        refine Sx.st_take hT rfl rfl rfl rfl (Sx.x_move hT rfl rfl) ?_
                        clear hT; intro a hT
                        refine Sx.st_take hT rfl rfl rfl rfl (Sx.x_move hT rfl rfl) ?_
                        clear hT; intro a hT
                        refine Sx.st_take hT rfl rfl rfl rfl ((fun w => Sx.x_sub w hT rfl rfl rfl (Sx.wrap64 (by omega)))) ?_
                        clear hT; intro a hT
                        refine Sx.st_take hT rfl rfl rfl rfl (Sx.x_move hT rfl rfl) ?_
                        clear hT; intro a hT
                        refine Sx.st_take hT rfl rfl rfl rfl ((fun w => Sx.x_lt w hT rfl rfl rfl)) ?_
                        clear hT; intro a hT
                        refine Sx.st_take hT rfl rfl rfl rfl (Sx.x_neb hT rfl Try.underlying4 rfl rfl) ?_
                        clear hT; intro a hT
                        refine Sx.st_take hT rfl rfl rfl rfl (Sx.x_move hT rfl rfl) ?_
                        clear hT; intro a hT
                        -- guard (26, 8)
                        refine Sx.Sl.two hT 128 rfl (fun hc42 hT => ?_) (fun hc42 hT => ?_)
                        · exfalso
                          try simp only [decide_eq_true_eq, decide_eq_false_iff_not, Bool.not_eq_true', Bool.not_eq_false', Bool.not_eq_true, Bool.not_eq_false, Bool.and_eq_true, Bool.or_eq_false_iff, beq_iff_eq, bne_iff_ne, Int.not_lt, Int.not_le, ne_eq] at hc42
                          first | omega | (simp at hc42; omega) | simp at hc42
                        · try simp only [decide_eq_true_eq, decide_eq_false_iff_not, Bool.not_eq_true', Bool.not_eq_false', Bool.not_eq_true, Bool.not_eq_false, Bool.and_eq_true, Bool.or_eq_false_iff, beq_iff_eq, bne_iff_ne, Int.not_lt, Int.not_le, ne_eq] at hc42
                          refine Sx.st_take hT rfl rfl rfl rfl (Sx.x_move hT rfl rfl) ?_
                          clear hT; intro a hT
                          refine Sx.st_take hT rfl rfl rfl rfl ((fun w => Sx.x_ne w hT rfl rfl rfl)) ?_
                          clear hT; intro a hT
                          refine Sx.st_take hT rfl rfl rfl rfl (Sx.x_move hT rfl rfl) ?_
                          clear hT; intro a hT
                          -- guard (26, 11)
                          refine Sx.Sl.two hT 131 rfl (fun hc43 hT => ?_) (fun hc43 hT => ?_)
                          · exfalso
                            try simp only [decide_eq_true_eq, decide_eq_false_iff_not, Bool.not_eq_true', Bool.not_eq_false', Bool.not_eq_true, Bool.not_eq_false, Bool.and_eq_true, Bool.or_eq_false_iff, beq_iff_eq, bne_iff_ne, Int.not_lt, Int.not_le, ne_eq] at hc43
                            simp at hc43
                          · try simp only [decide_eq_true_eq, decide_eq_false_iff_not, Bool.not_eq_true', Bool.not_eq_false', Bool.not_eq_true, Bool.not_eq_false, Bool.and_eq_true, Bool.or_eq_false_iff, beq_iff_eq, bne_iff_ne, Int.not_lt, Int.not_le, ne_eq] at hc43
                            refine Sx.st_skip hT rfl rfl rfl rfl ?_
                            clear hT; intro a hT
                            refine Sx.st_skip hT rfl rfl rfl rfl ?_
                            clear hT; intro a hT
                            refine Sx.st_take hT rfl rfl rfl rfl (Sx.x_pick_f hT rfl rfl rfl) ?_
                            clear hT; intro a hT
                            refine Sx.st_take hT rfl rfl rfl rfl (Sx.x_pick_f hT rfl rfl rfl) ?_
                            clear hT; intro a hT
                            replace hT := hT.keep [135, 17, 108, 107, 16, 15, 84, 72, 0, 1, 2, 7, 11, 12, 13, 14] rfl
                            refine Sx.ser_nil ?_
                            refine Sx.then_normal (hK41 _ _ ?_)
                            clear hK41
                            refine Sx.wp_if hT rfl (fun h => by cases h) (fun _ => ?_)
                            refine wp_skip ?_
                            refine Sx.then_normal (hK40 _ _ ?_)
                            clear hK40
                            refine wp_seq_k fun K44 hK44 => ?_
                            -- region 28 (law.go:225)
                            refine Sx.wp_text [(0, .take), (1, .take)] rfl ?_
                            refine Sx.st_take hT rfl rfl rfl rfl (Sx.x_move hT rfl rfl) ?_
                            clear hT; intro a hT
                            refine Sx.st_take hT rfl rfl rfl rfl ((fun w => Sx.x_eq w hT rfl rfl rfl)) ?_
                            clear hT; intro a hT
                            replace hT := hT.keep [137, 135, 17, 108, 107, 16, 15, 84, 72, 0, 1, 2, 7, 11, 12, 13, 14] rfl
                            refine Sx.ser_nil ?_
                            refine Sx.then_normal (hK44 _ _ ?_)
                            clear hK44
                            -- cond 9
                            refine Sx.wp_if hT rfl (fun hc45 => ?_) (fun hc45 => ?_)
                            · try simp only [decide_eq_true_eq, decide_eq_false_iff_not, Bool.not_eq_true', Bool.not_eq_false', Bool.not_eq_true, Bool.not_eq_false, Bool.and_eq_true, Bool.or_eq_false_iff, beq_iff_eq, bne_iff_ne, Int.not_lt, Int.not_le, ne_eq] at hc45
                              refine wp_seq_k fun K46 hK46 => ?_
                              -- region 29 (law.go:226)
                              refine Sx.wp_text [(0, .take), (1, .take), (2, .take), (3, .take), (4, .run), (5, .run), (6, .run), (7, .take)] rfl ?_
                              refine Sx.st_take hT rfl rfl rfl rfl (Sx.x_move hT rfl rfl) ?_
                              clear hT; intro a hT
                              refine Sx.st_take hT rfl rfl rfl rfl (Sx.x_move hT rfl rfl) ?_
                              clear hT; intro a hT
                              refine Sx.st_take hT rfl rfl rfl rfl (Sx.x_move hT rfl rfl) ?_
                              clear hT; intro a hT
                              refine Sx.st_take hT rfl rfl rfl rfl (Sx.x_index hT rfl Try.underlying42 Try.ti30 (by first | exact (h.ss.sv.ext_no X) | exact (hb.sv.ext_no X) | exact hS.sv) rfl rfl rfl (by omega)) ?_
                              clear hT; intro a hT
                              refine Sx.st_run hT rfl rfl rfl rfl (Sx.x_load1 hT rfl Try.fl30 rfl (by first | exact (ss_one RB.len (h.ss.ext_no X) hr9 rfl) | exact (ss_one bit_len (hb.ext_no X) htb rfl))) ?_
                              clear hT; intro a hT
                              refine Sx.st_eff hT rfl rfl rfl rfl (Sx.y_slice1 hT rfl Try.underlying42 Try.ti30 rfl rfl rfl rfl rfl rfl _) ?_
                              clear hT; rintro _ w9 ⟨b2, rfl, N⟩ a hT
                              have hb2 : w.heap.size ≤ b2 := by rw [N.at_]; exact X.size
                              try (have hf_b2 : ∀ k, F k → k < b2 := fun k hk => by have := hn.lt k hk; have := N.at_; omega)
                              have hs_b2 : ∀ k, Own ad2 k → k < b2 := fun k hk => by have := hS.lt k hk; have := N.at_; omega
                              try (have hd_b2 := fun h0 => Nat.lt_of_lt_of_le (hto.bs.lt h0) (Nat.le_of_eq N.at_.symm))
                              try (have hg_b2 : ∀ k, F2 k → k < b2 := fun k hk => by have := hn.lt k hk; have := N.at_; omega)
                              replace X := X.step N.ext
                              replace hn := hn.ext_no N.ext
                              replace hS := hS.ext_no N.ext
                              have B2 := N.blk
                              clear N
                              refine Sx.st_eff hT rfl rfl rfl rfl (Sx.x_append hT rfl rfl Try.underlying42 Try.ti30 rfl (by decide) rfl rfl hS (B2.sv1 rfl) (by simp [Value.oneCell']) (fun h => by cases h) (by unfold maxLen; omega) (by omega)) ?_
                              have hz1 := X.size
                              have hnl := hn.lt
                              clear hT; rintro _ w10 ⟨ad3, c3, rfl, hS2, E, hown, -⟩ a hT
                              replace X := X.trans E (fun i hi h9 => absurd hi (by have := (hSo2 i h9).1; omega))
                              replace hn := hn.ext E (fun k hk h9 => (hSo2 k h9).2 hk)
                              have hSo3 : ∀ k, Own ad3 k → w.heap.size ≤ k ∧ ¬ F2 k := fun k hk => (hown k hk).elim (hSo2 k) (fun h9 => ⟨by omega, fun h8 => by have := hnl k h8; omega⟩)
                              clear hS E hown hSo2 hnl
                              refine Sx.st_take hT rfl rfl rfl rfl (Sx.x_assign hT rfl rfl) ?_
                              clear hT; intro a hT
                              replace hT := hT.keep [13, 137, 135, 17, 108, 107, 16, 15, 84, 72, 0, 1, 2, 7, 11, 12, 14] rfl
                              refine Sx.ser_nil ?_
                              refine Sx.then_normal (hK46 _ _ ?_)
                              clear hK46
                              -- region 30 (law.go:227)
                              refine Sx.wp_text [(0, .take), (1, .take), (2, .take)] rfl ?_
                              refine Sx.st_take hT rfl rfl rfl rfl (Sx.x_move hT rfl rfl) ?_
                              clear hT; intro a hT
                              refine Sx.st_take hT rfl rfl rfl rfl ((fun w => Sx.x_add w hT rfl rfl rfl (Sx.wrap64 (by omega)))) ?_
                              clear hT; intro a hT
                              refine Sx.st_take hT rfl rfl rfl rfl (Sx.x_assign hT rfl rfl) ?_
                              clear hT; intro a hT
                              replace hT := hT.keep [12, 13, 137, 135, 17, 108, 107, 16, 15, 84, 72, 0, 1, 2, 7, 11, 14] rfl
                              refine Sx.ser_nil ?_
                              refine Sx.block_normal ?_
                              refine Sx.then_normal (hK29 _ _ ?_)
                              clear hK29
                              -- region 18 (law.go:211)
                              refine Sx.wp_text [(0, .take), (1, .take), (2, .take)] rfl ?_
                              refine Sx.st_take hT rfl rfl rfl rfl (Sx.x_move hT rfl rfl) ?_
                              clear hT; intro a hT
                              refine Sx.st_take hT rfl rfl rfl rfl ((fun w => Sx.x_add w hT rfl rfl rfl (Sx.wrap64 (by omega)))) ?_
                              clear hT; intro a hT
                              refine Sx.st_take hT rfl rfl rfl rfl (Sx.x_assign hT rfl rfl) ?_
                              clear hT; intro a hT
                              replace hT := hT.keep [14, 12, 13, 137, 135, 17, 108, 107, 16, 15, 84, 72, 0, 1, 2, 7, 11] rfl
                              refine Sx.ser_nil ?_
                              refine Sx.then_normal ?_
                              exact ⟨⟨i + 1, j, sr ++ [r], sl ++ [l], ms ++ [⟨i, i + 1, l⟩], F2, ad3, c3⟩, ⟨by show i + 1 ≤ _; omega, X, hn, hF2, by simpa [RB.cells] using hS2, hSo3, hSA.append (All2.single hrl), by show j ≤ (sl ++ [l]).length; simp; omega, by show (sl ++ [l]).length ≤ i + 1; simp; omega, by show (ms ++ [_]).map _ = (sl ++ [l]).drop j; rw [List.map_append, hmap, List.drop_append_of_le_length (by omega)]; rfl, (hT.keep [0, 1, 2, 7, 11, 12, 13, 14] rfl).conv (by simp)⟩, by show _ - (i + 1) < _ - i; omega⟩
                            · exfalso
                              try simp only [decide_eq_true_eq, decide_eq_false_iff_not, Bool.not_eq_true', Bool.not_eq_false', Bool.not_eq_true, Bool.not_eq_false, Bool.and_eq_true, Bool.or_eq_false_iff, beq_iff_eq, bne_iff_ne, Int.not_lt, Int.not_le, ne_eq] at hc45
                              simp at hc45
                      · skip
                        -- region 25 (law.go:221)
                        refine Sx.wp_text [(0, .take), (1, .take), (2, .take), (3, .take), (4, .take), (5, .take), (6, .take), (7, .run), (8, .run), (9, .take)] rfl ?_
                        refine Sx.st_take hT rfl rfl rfl rfl (Sx.x_move hT rfl rfl) ?_
                        clear hT; intro a hT
                        refine Sx.st_take hT rfl rfl rfl rfl (Sx.x_move hT rfl rfl) ?_
                        clear hT; intro a hT
                        refine Sx.st_take hT rfl rfl rfl rfl (Sx.x_move hT rfl rfl) ?_
                        clear hT; intro a hT
                        refine Sx.st_take hT rfl rfl rfl rfl ((fun w => Sx.x_add w hT rfl rfl rfl (Sx.wrap64 (by omega)))) ?_
                        clear hT; intro a hT
                        refine Sx.st_take hT rfl rfl rfl rfl (Sx.x_move hT rfl rfl) ?_
                        clear hT; intro a hT
                        refine Sx.st_take hT rfl rfl rfl rfl (Sx.x_move hT rfl rfl) ?_
                        clear hT; intro a hT
                        refine Sx.st_take hT rfl rfl rfl rfl (Sx.x_index hT rfl Try.underlying42 Try.ti30 (by first | exact (h.ss.sv.ext_no X) | exact (hb.sv.ext_no X) | exact hS.sv) rfl rfl rfl (by omega)) ?_
                        clear hT; intro a hT
                        refine Sx.st_run hT rfl rfl rfl rfl (Sx.x_load1 hT rfl Try.fl30 rfl (by first | exact (B1).nth rfl | exact (ss_one RB.len (h.ss.ext_no X) hr9 rfl) | exact (ss_one bit_len (hb.ext_no X) htb rfl))) ?_
                        clear hT; intro a hT
                        refine Sx.st_call hT rfl rfl rfl rfl rfl Try.can10 rfl (nSend_full hn i (i + 1) r.ad r.n r.c (by omega)) ?_
                        rintro _ w8 ⟨rfl, E⟩
                        refine ⟨_, rfl, ?_⟩
                        clear hT; intro a hT
                        replace X := X.step E
                        replace B1 := B1.ext_no E
                        replace hn := hn.ext_no E
                        replace hS := hS.ext_no E
                        refine Sx.st_take hT rfl rfl rfl rfl (Sx.x_assign hT rfl rfl) ?_
                        clear hT; intro a hT
                        replace hT := hT.keep [17, 108, 107, 16, 15, 84, 72, 0, 1, 2, 7, 11, 12, 13, 14] rfl
                        refine Sx.ser_nil ?_
                        refine Sx.then_normal (hK39 _ _ ?_)
                        clear hK39
                        refine wp_seq_k fun K47 hK47 => ?_
                        refine wp_seq_k fun K48 hK48 => ?_
                        -- region 26 (law.go:222)
                        refine Sx.wp_text [(0, .take), (1, .take), (2, .take), (3, .take), (4, .take), (5, .take), (6, .take), (7, .take), (8, .take), (9, .take), (10, .take), (11, .take), (12, .take), (13, .take), (14, .take), (15, .take)] rfl ?_
                        refine Sx.st_take hT rfl rfl rfl rfl (Sx.x_move hT rfl rfl) ?_
                        clear hT; intro a hT
                        refine Sx.st_take hT rfl rfl rfl rfl ((fun w => Sx.x_eq w hT rfl rfl rfl)) ?_
                        clear hT; intro a hT
                        refine Sx.st_take hT rfl rfl rfl rfl (Sx.x_move hT rfl rfl) ?_
                        clear hT; intro a hT
                        refine Sx.st_take hT rfl rfl rfl rfl (Sx.x_move hT rfl rfl) ?_
                        clear hT; intro a hT
                        refine Sx.st_take hT rfl rfl rfl rfl ((fun w => Sx.x_sub w hT rfl rfl rfl (Sx.wrap64 (by omega)))) ?_
                        clear hT; intro a hT
                        refine Sx.st_take hT rfl rfl rfl rfl (Sx.x_move hT rfl rfl) ?_
                        clear hT; intro a hT
                        refine Sx.st_take hT rfl rfl rfl rfl ((fun w => Sx.x_lt w hT rfl rfl rfl)) ?_
                        clear hT; intro a hT
                        refine Sx.st_take hT rfl rfl rfl rfl (Sx.x_neb hT rfl Try.underlying4 rfl rfl) ?_
                        clear hT; intro a hT
                        refine Sx.st_take hT rfl rfl rfl rfl (Sx.x_move hT rfl rfl) ?_
                        clear hT; intro a hT
                        -- guard (26, 8)
                        refine Sx.Sl.two hT 128 rfl (fun hc49 hT => ?_) (fun hc49 hT => ?_)
                        · exfalso
                          try simp only [decide_eq_true_eq, decide_eq_false_iff_not, Bool.not_eq_true', Bool.not_eq_false', Bool.not_eq_true, Bool.not_eq_false, Bool.and_eq_true, Bool.or_eq_false_iff, beq_iff_eq, bne_iff_ne, Int.not_lt, Int.not_le, ne_eq] at hc49
                          first | omega | (simp at hc49; omega) | simp at hc49
                        · try simp only [decide_eq_true_eq, decide_eq_false_iff_not, Bool.not_eq_true', Bool.not_eq_false', Bool.not_eq_true, Bool.not_eq_false, Bool.and_eq_true, Bool.or_eq_false_iff, beq_iff_eq, bne_iff_ne, Int.not_lt, Int.not_le, ne_eq] at hc49
                          refine Sx.st_take hT rfl rfl rfl rfl (Sx.x_move hT rfl rfl) ?_
                          clear hT; intro a hT
                          refine Sx.st_take hT rfl rfl rfl rfl ((fun w => Sx.x_ne w hT rfl rfl rfl)) ?_
                          clear hT; intro a hT
                          refine Sx.st_take hT rfl rfl rfl rfl (Sx.x_move hT rfl rfl) ?_
                          clear hT; intro a hT
                          -- guard (26, 11)
                          refine Sx.Sl.two hT 131 rfl (fun hc50 hT => ?_) (fun hc50 hT => ?_)
                          · try simp only [decide_eq_true_eq, decide_eq_false_iff_not, Bool.not_eq_true', Bool.not_eq_false', Bool.not_eq_true, Bool.not_eq_false, Bool.and_eq_true, Bool.or_eq_false_iff, beq_iff_eq, bne_iff_ne, Int.not_lt, Int.not_le, ne_eq] at hc50
                            refine Sx.st_take hT rfl rfl rfl rfl (Sx.x_move hT rfl rfl) ?_
                            clear hT; intro a hT
                            refine Sx.st_take hT rfl rfl rfl rfl ((fun w => Sx.x_ne w hT rfl rfl rfl)) ?_
                            clear hT; intro a hT
                            refine Sx.st_take hT rfl rfl rfl rfl (Sx.x_pick_t hT rfl rfl rfl) ?_
                            clear hT; intro a hT
                            refine Sx.st_take hT rfl rfl rfl rfl (Sx.x_pick_f hT rfl rfl rfl) ?_
                            clear hT; intro a hT
                            replace hT := hT.keep [135, 17, 108, 107, 16, 15, 84, 72, 0, 1, 2, 7, 11, 12, 13, 14] rfl
                            refine Sx.ser_nil ?_
                            refine Sx.then_normal (hK48 _ _ ?_)
                            clear hK48
                            -- cond 8
                            refine Sx.wp_if hT rfl (fun hc51 => ?_) (fun hc51 => ?_)
                            · exfalso
                              try simp only [decide_eq_true_eq, decide_eq_false_iff_not, Bool.not_eq_true', Bool.not_eq_false', Bool.not_eq_true, Bool.not_eq_false, Bool.and_eq_true, Bool.or_eq_false_iff, beq_iff_eq, bne_iff_ne, Int.not_lt, Int.not_le, ne_eq] at hc51
                              first | omega | (simp at hc51; omega) | simp at hc51
                            · try simp only [decide_eq_true_eq, decide_eq_false_iff_not, Bool.not_eq_true', Bool.not_eq_false', Bool.not_eq_true, Bool.not_eq_false, Bool.and_eq_true, Bool.or_eq_false_iff, beq_iff_eq, bne_iff_ne, Int.not_lt, Int.not_le, ne_eq] at hc51
                              refine wp_skip ?_
                              refine Sx.then_normal (hK47 _ _ ?_)
                              clear hK47
                              refine wp_seq_k fun K52 hK52 => ?_
                              -- region 28 (law.go:225)
                              refine Sx.wp_text [(0, .take), (1, .take)] rfl ?_
                              refine Sx.st_take hT rfl rfl rfl rfl (Sx.x_move hT rfl rfl) ?_
                              clear hT; intro a hT
                              refine Sx.st_take hT rfl rfl rfl rfl ((fun w => Sx.x_eq w hT rfl rfl rfl)) ?_
                              clear hT; intro a hT
                              replace hT := hT.keep [137, 135, 17, 108, 107, 16, 15, 84, 72, 0, 1, 2, 7, 11, 12, 13, 14] rfl
                              refine Sx.ser_nil ?_
                              refine Sx.then_normal (hK52 _ _ ?_)
                              clear hK52
                              -- cond 9
                              refine Sx.wp_if hT rfl (fun hc53 => ?_) (fun hc53 => ?_)
                              · exfalso
                                try simp only [decide_eq_true_eq, decide_eq_false_iff_not, Bool.not_eq_true', Bool.not_eq_false', Bool.not_eq_true, Bool.not_eq_false, Bool.and_eq_true, Bool.or_eq_false_iff, beq_iff_eq, bne_iff_ne, Int.not_lt, Int.not_le, ne_eq] at hc53
                                simp at hc53
                              · try simp only [decide_eq_true_eq, decide_eq_false_iff_not, Bool.not_eq_true', Bool.not_eq_false', Bool.not_eq_true, Bool.not_eq_false, Bool.and_eq_true, Bool.or_eq_false_iff, beq_iff_eq, bne_iff_ne, Int.not_lt, Int.not_le, ne_eq] at hc53
                                refine wp_skip ?_
                                refine Sx.block_normal ?_
                                refine Sx.then_normal (hK29 _ _ ?_)
                                clear hK29
                                -- region 18 (law.go:211)
                                refine Sx.wp_text [(0, .take), (1, .take), (2, .take)] rfl ?_
                                refine Sx.st_take hT rfl rfl rfl rfl (Sx.x_move hT rfl rfl) ?_
                                clear hT; intro a hT
                                refine Sx.st_take hT rfl rfl rfl rfl ((fun w => Sx.x_add w hT rfl rfl rfl (Sx.wrap64 (by omega)))) ?_
                                clear hT; intro a hT
                                refine Sx.st_take hT rfl rfl rfl rfl (Sx.x_assign hT rfl rfl) ?_
                                clear hT; intro a hT
                                replace hT := hT.keep [14, 137, 135, 17, 108, 107, 16, 15, 84, 72, 0, 1, 2, 7, 11, 12, 13] rfl
                                refine Sx.ser_nil ?_
                                refine Sx.then_normal ?_
                                exact ⟨⟨i + 1, j, sr, sl, ms, F, ad2, c2⟩, ⟨by show i + 1 ≤ _; omega, X, hn, hF, hS, hSo, hSA, by show j ≤ sl.length; omega, by show sl.length ≤ i + 1; omega, hmap, (hT.keep [0, 1, 2, 7, 11, 12, 13, 14] rfl)⟩, by show _ - (i + 1) < _ - i; omega⟩
                          · exfalso
                            try simp only [decide_eq_true_eq, decide_eq_false_iff_not, Bool.not_eq_true', Bool.not_eq_false', Bool.not_eq_true, Bool.not_eq_false, Bool.and_eq_true, Bool.or_eq_false_iff, beq_iff_eq, bne_iff_ne, Int.not_lt, Int.not_le, ne_eq] at hc50
                            simp at hc50
                  · skip
                    obtain ⟨m, ms1, rfl⟩ := List.exists_cons_of_ne_nil hm0
                    obtain ⟨hslj, hmap9⟩ := first_out hmap
                    obtain ⟨j2, hj2⟩ : ∃ j2, j2 = j + 1 := ⟨_, rfl⟩
                    have hmap2 : ms1.map Mail.data = sl.drop j2 := by rw [hj2]; exact hmap9
                    have hjj := (List.getElem?_eq_some_iff.1 hslj).1
                    obtain ⟨r2, hr2, hr2s⟩ := hSA.get hslj
                    have hml2 := drop_len hmap2
                    -- region 20 (law.go:213)
                    refine Sx.wp_text [(0, .take), (1, .run), (2, .take), (3, .take), (4, .take), (5, .run), (6, .run), (7, .take)] rfl ?_
                    refine Sx.st_take hT rfl rfl rfl rfl (Sx.x_move hT rfl rfl) ?_
                    clear hT; intro a hT
                    refine Sx.st_call hT rfl rfl rfl rfl rfl Try.can16 rfl (nTake_yes hn 0 0 m rfl rfl) ?_
                    have hz1 := X.size
                    rintro _ w5 ⟨ad4, c4, rfl, hto, hn2, E⟩
                    refine ⟨_, rfl, ?_⟩
                    clear hT; intro a hT
                    replace X := X.trans E (fun i hi h9 => absurd hi (by have := hF i h9; omega))
                    replace hS := hS.ext E (fun k hk h9 => (hSo k hk).2 h9)
                    have hn := hn2.cast (show _ = ms1 from rfl)
                    clear hn2 E
                    refine Sx.st_take hT rfl rfl rfl rfl (Sx.x_move hT rfl rfl) ?_
                    clear hT; intro a hT
                    refine Sx.st_take hT rfl rfl rfl rfl (Sx.x_extract hT rfl rfl rfl) ?_
                    clear hT; intro a hT
                    refine Sx.st_take hT rfl rfl rfl rfl (Sx.x_extract hT rfl rfl rfl) ?_
                    clear hT; intro a hT
                    refine Sx.st_eff hT rfl rfl rfl rfl (Sx.y_alloc hT rfl Try.ti34 rfl _) ?_
                    clear hT; rintro _ w6 ⟨b1, rfl, N⟩ a hT
                    have hb1 : w.heap.size ≤ b1 := by rw [N.at_]; exact X.size
                    try (have hf_b1 : ∀ k, F k → k < b1 := fun k hk => by have := hn.lt k hk; have := N.at_; omega)
                    have hs_b1 : ∀ k, Own ad2 k → k < b1 := fun k hk => by have := hS.lt k hk; have := N.at_; omega
                    try (have hd_b1 := fun h0 => Nat.lt_of_lt_of_le (hto.bs.lt h0) (Nat.le_of_eq N.at_.symm))
                    try (have hg_b1 : ∀ k, F2 k → k < b1 := fun k hk => by have := hn.lt k hk; have := N.at_; omega)
                    replace X := X.step N.ext
                    replace hn := hn.ext_no N.ext
                    replace hS := hS.ext_no N.ext
                    replace hto := hto.ext_no N.ext
                    have B1 := N.blk
                    clear N
                    refine Sx.st_act hT rfl rfl rfl (Sx.y_storeS hT rfl Try.ti34 rfl rfl rfl rfl rfl B1 rfl) ?_
                    rintro w7 ⟨NB1, E, z⟩
                    replace X := X.fresh E (by omega)
                    replace hn := hn.ext E (fun k hk h9 => by unfold Sx.One at h9; have := hf_b1 k hk; omega)
                    replace hS := hS.ext E (fun k hk h9 => by unfold Sx.One at h9; have := hs_b1 k hk; omega)
                    replace hto := hto.ext E (fun h0 h9 => by unfold Sx.One at h9; have := hd_b1 h0; omega)
                    replace B1 := NB1; clear NB1 E
                    refine Sx.st_take hT rfl rfl rfl rfl (Sx.x_assign hT rfl rfl) ?_
                    clear hT; intro a hT
                    replace hT := hT.keep [16, 15, 84, 72, 0, 1, 2, 7, 11, 12, 13, 14] rfl
                    refine Sx.ser_nil ?_
                    refine Sx.then_normal (hK34 _ _ ?_)
                    clear hK34
                    refine wp_seq_k fun K54 hK54 => ?_
                    refine wp_seq_k fun K55 hK55 => ?_
                    -- region 21 (law.go:214)
                    refine Sx.wp_draws (fun u => Sx.Ext Sx.No u) [(0, .take), (1, .take), (2, .take), (3, .take), (4, .take), (5, .take), (6, .take), (7, .take), (8, .take), (9, .held), (10, .take), (11, .take), (12, .take), (13, .held), (14, .run), (15, .take), (16, .take), (17, .take)] (by kernel_rfl) (by kernel_rfl) (fun u E z => ?_)
                    replace X := X.step E
                    replace B1 := B1.ext_no E
                    replace hn := hn.ext_no E
                    replace hS := hS.ext_no E
                    replace hto := hto.ext_no E
                    have hH : Sx.Ext Sx.No u u := Sx.Ext.refl _ _
                    have Xu := X
                    have B1u := B1
                    refine Sx.st_take hT rfl rfl rfl rfl (Sx.x_move hT rfl rfl) ?_
                    clear hT; intro a hT
                    refine Sx.st_take hT rfl rfl rfl rfl (Sx.x_move hT rfl rfl) ?_
                    clear hT; intro a hT
                    refine Sx.st_take hT rfl rfl rfl rfl (Sx.x_move hT rfl rfl) ?_
                    clear hT; intro a hT
                    refine Sx.st_take hT rfl rfl rfl rfl ((fun w => Sx.x_lt w hT rfl rfl rfl)) ?_
                    clear hT; intro a hT
                    refine Sx.st_take hT rfl rfl rfl rfl (Sx.x_neb hT rfl Try.underlying4 rfl rfl) ?_
                    clear hT; intro a hT
                    refine Sx.st_take hT rfl rfl rfl rfl (Sx.x_move hT rfl rfl) ?_
                    clear hT; intro a hT
                    -- guard (21, 5)
                    refine Sx.Sl.two hT 95 rfl (fun hc56 hT => ?_) (fun hc56 hT => ?_)
                    · exfalso
                      try simp only [decide_eq_true_eq, decide_eq_false_iff_not, Bool.not_eq_true', Bool.not_eq_false', Bool.not_eq_true, Bool.not_eq_false, Bool.and_eq_true, Bool.or_eq_false_iff, beq_iff_eq, bne_iff_ne, Int.not_lt, Int.not_le, ne_eq] at hc56
                      first | omega | (simp at hc56; omega) | simp at hc56
                    · try simp only [decide_eq_true_eq, decide_eq_false_iff_not, Bool.not_eq_true', Bool.not_eq_false', Bool.not_eq_true, Bool.not_eq_false, Bool.and_eq_true, Bool.or_eq_false_iff, beq_iff_eq, bne_iff_ne, Int.not_lt, Int.not_le, ne_eq] at hc56
                      refine Sx.st_take hT rfl rfl rfl rfl (Sx.x_move hT rfl rfl) ?_
                      clear hT; intro a hT
                      refine Sx.st_take hT rfl rfl rfl rfl (Sx.x_move hT rfl rfl) ?_
                      clear hT; intro a hT
                      refine Sx.st_take hT rfl rfl rfl rfl (Sx.x_fieldAddr hT rfl Try.fa34_2 rfl) ?_
                      clear hT; intro a hT
                      refine Sx.st_held hT rfl rfl rfl rfl hH (fun w' h' => Sx.x_load1 hT rfl Try.fl30 rfl (by first | exact (B1u.ext_no h').nth rfl | exact (ss_one RB.len (h.ss.ext_no (Xu.step h')) hr9 rfl) | exact (ss_one bit_len (hb.ext_no (Xu.step h')) htb rfl))) ?_
                      clear hT; intro a hT
                      refine Sx.st_take hT rfl rfl rfl rfl (Sx.x_move hT rfl rfl) ?_
                      clear hT; intro a hT
                      refine Sx.st_take hT rfl rfl rfl rfl (Sx.x_move hT rfl rfl) ?_
                      clear hT; intro a hT
                      refine Sx.st_take hT rfl rfl rfl rfl (Sx.x_index hT rfl Try.underlying42 Try.ti30 (by first | exact (h.ss.sv.ext_no X) | exact (hb.sv.ext_no X) | exact hS.sv) rfl rfl rfl (by omega)) ?_
                      clear hT; intro a hT
                      refine Sx.st_held hT rfl rfl rfl rfl hH (fun w' h' => Sx.x_load1 hT rfl Try.fl30 rfl (ss_one RB.len ((hS.ss (enc := RB.cells)).ext_no h') hr2 rfl)) ?_
                      clear hT; intro a hT
                      refine Sx.st_call hT rfl rfl rfl rfl rfl Try.can17 rfl (Bytes_is ad4 r2.ad _ _ c4 r2.c m.data _ hto.bs (hr2s.bs.ext_no X) rfl hr2s.n) ?_
                      rintro _ w8 ⟨rfl, E⟩
                      refine ⟨_, rfl, ?_⟩
                      clear hT; intro a hT
                      replace X := X.step E
                      replace B1 := B1.ext_no E
                      replace hn := hn.ext_no E
                      replace hS := hS.ext_no E
                      replace hto := hto.ext_no E
                      refine Sx.st_take hT rfl rfl rfl rfl (Sx.x_not hT rfl rfl) ?_
                      clear hT; intro a hT
                      refine Sx.st_take hT rfl rfl rfl rfl (Sx.x_pick_t hT rfl rfl rfl) ?_
                      clear hT; intro a hT
                      refine Sx.st_take hT rfl rfl rfl rfl (Sx.x_pick_f hT rfl rfl rfl) ?_
                      clear hT; intro a hT
                      replace hT := hT.keep [107, 16, 15, 84, 72, 0, 1, 2, 7, 11, 12, 13, 14] rfl
                      refine Sx.ser_calm ?_
                      refine Sx.then_normal (hK55 _ _ ?_)
                      clear hK55
                      refine Sx.wp_if hT rfl (fun h => by cases h) (fun _ => ?_)
                      refine wp_skip ?_
                      refine Sx.then_normal (hK54 _ _ ?_)
                      clear hK54
                      refine wp_seq_k fun K57 hK57 => ?_
                      -- region 23 (law.go:217)
                      refine Sx.wp_text [(0, .take)] rfl ?_
                      refine Sx.st_take hT rfl rfl rfl rfl (Sx.x_move hT rfl rfl) ?_
                      clear hT; intro a hT
                      replace hT := hT.keep [108, 107, 16, 15, 84, 72, 0, 1, 2, 7, 11, 12, 13, 14] rfl
                      refine Sx.ser_nil ?_
                      refine Sx.then_normal (hK57 _ _ ?_)
                      clear hK57
                      refine Sx.wp_if hT rfl (fun _ => ?_) (fun h => by cases h)
                      -- region 24 (law.go:218)
                      refine Sx.wp_text [(0, .take), (1, .take), (2, .take)] rfl ?_
                      refine Sx.st_take hT rfl rfl rfl rfl (Sx.x_move hT rfl rfl) ?_
                      clear hT; intro a hT
                      refine Sx.st_take hT rfl rfl rfl rfl ((fun w => Sx.x_add (r := ((j2 : Nat) : Int)) w hT rfl rfl rfl (sum64 (by omega) (by omega)))) ?_
                      clear hT; intro a hT
                      refine Sx.st_take hT rfl rfl rfl rfl (Sx.x_assign hT rfl rfl) ?_
                      clear hT; intro a hT
                      replace hT := hT.keep [11, 108, 107, 16, 15, 84, 72, 0, 1, 2, 7, 12, 13, 14] rfl
                      refine Sx.ser_nil ?_
                      refine Sx.then_normal (hK30 _ _ ?_)
                      clear hK30
                      refine wp_seq_k fun K58 hK58 => ?_
                      by_cases hroom : ((ms1).length : Int) < most
                      · skip
                        -- region 25 (law.go:221)
                        refine Sx.wp_text [(0, .take), (1, .take), (2, .take), (3, .take), (4, .take), (5, .take), (6, .take), (7, .run), (8, .run), (9, .take)] rfl ?_
                        refine Sx.st_take hT rfl rfl rfl rfl (Sx.x_move hT rfl rfl) ?_
                        clear hT; intro a hT
                        refine Sx.st_take hT rfl rfl rfl rfl (Sx.x_move hT rfl rfl) ?_
                        clear hT; intro a hT
                        refine Sx.st_take hT rfl rfl rfl rfl (Sx.x_move hT rfl rfl) ?_
                        clear hT; intro a hT
                        refine Sx.st_take hT rfl rfl rfl rfl ((fun w => Sx.x_add w hT rfl rfl rfl (Sx.wrap64 (by omega)))) ?_
                        clear hT; intro a hT
                        refine Sx.st_take hT rfl rfl rfl rfl (Sx.x_move hT rfl rfl) ?_
                        clear hT; intro a hT
                        refine Sx.st_take hT rfl rfl rfl rfl (Sx.x_move hT rfl rfl) ?_
                        clear hT; intro a hT
                        refine Sx.st_take hT rfl rfl rfl rfl (Sx.x_index hT rfl Try.underlying42 Try.ti30 (by first | exact (h.ss.sv.ext_no X) | exact (hb.sv.ext_no X) | exact hS.sv) rfl rfl rfl (by omega)) ?_
                        clear hT; intro a hT
                        refine Sx.st_run hT rfl rfl rfl rfl (Sx.x_load1 hT rfl Try.fl30 rfl (by first | exact (B1).nth rfl | exact (ss_one RB.len (h.ss.ext_no X) hr9 rfl) | exact (ss_one bit_len (hb.ext_no X) htb rfl))) ?_
                        clear hT; intro a hT
                        refine Sx.st_call hT rfl rfl rfl rfl rfl Try.can10 rfl (nSend_ok hn i (i + 1) r.ad r.n r.c l (by omega) (hrl.bs.ext_no X) hrl.n hrl.nil (by have := hrl.n; omega)) ?_
                        have hz1 := X.size
                        have hSl := hS.lt
                        rintro _ w9 ⟨rfl, hn2, E⟩
                        refine ⟨_, rfl, ?_⟩
                        clear hT; intro a hT
                        replace X := X.trans E (fun i hi h9 => absurd hi (by have := hF i h9; omega))
                        replace hS := hS.ext E (fun k hk h9 => (hSo k hk).2 h9)
                        obtain ⟨F2, hn3, hF2, hSo2⟩ : ∃ F2 : Nat → Prop, Net _ p most (ms1 ++ [⟨i, i + 1, l⟩]) F2 ∧ (∀ k, F2 k → w.heap.size ≤ k) ∧ (∀ k, Own ad2 k → w.heap.size ≤ k ∧ ¬ F2 k) := ⟨_, hn2, fun k hk => hk.elim (hF k) (fun h9 => by omega), fun k hk => ⟨(hSo k hk).1, fun h9 => h9.elim (hSo k hk).2 (fun h8 => by have := hSl k hk; omega)⟩⟩
                        clear hn2 hn E
                        have hn := hn3
                        clear hn3
                        refine Sx.st_take hT rfl rfl rfl rfl (Sx.x_assign hT rfl rfl) ?_
                        clear hT; intro a hT
                        replace hT := hT.keep [17, 11, 108, 107, 16, 15, 84, 72, 0, 1, 2, 7, 12, 13, 14] rfl
                        refine Sx.ser_nil ?_
                        refine Sx.then_normal (hK58 _ _ ?_)
                        clear hK58
                        refine wp_seq_k fun K59 hK59 => ?_
                        refine wp_seq_k fun K60 hK60 => ?_
                        -- region 26 (law.go:222)
                        refine Sx.wp_text [(0, .take), (1, .take), (2, .take), (3, .take), (4, .take), (5, .take), (6, .take), (7, .take), (8, .take), (9, .take), (10, .take), (11, .take), (12, .take), (13, .take), (14, .take), (15, .take)] rfl ?_
                        refine Sx.st_take hT rfl rfl rfl rfl (Sx.x_move hT rfl rfl) ?_
                        clear hT; intro a hT
                        refine Sx.st_take hT rfl rfl rfl rfl ((fun w => Sx.x_eq w hT rfl rfl rfl)) ?_
                        clear hT; intro a hT
                        refine Sx.st_take hT rfl rfl rfl rfl (Sx.x_move hT rfl rfl) ?_
                        clear hT; intro a hT
                        refine Sx.st_take hT rfl rfl rfl rfl (Sx.x_move hT rfl rfl) ?_
                        clear hT; intro a hT
                        refine Sx.st_take hT rfl rfl rfl rfl ((fun w => Sx.x_sub w hT rfl rfl rfl (Sx.wrap64 (by omega)))) ?_
                        clear hT; intro a hT
                        refine Sx.st_take hT rfl rfl rfl rfl (Sx.x_move hT rfl rfl) ?_
                        clear hT; intro a hT
                        refine Sx.st_take hT rfl rfl rfl rfl ((fun w => Sx.x_lt w hT rfl rfl rfl)) ?_
                        clear hT; intro a hT
                        refine Sx.st_take hT rfl rfl rfl rfl (Sx.x_neb hT rfl Try.underlying4 rfl rfl) ?_
                        clear hT; intro a hT
                        refine Sx.st_take hT rfl rfl rfl rfl (Sx.x_move hT rfl rfl) ?_
                        clear hT; intro a hT
                        -- guard (26, 8)
                        refine Sx.Sl.two hT 128 rfl (fun hc61 hT => ?_) (fun hc61 hT => ?_)
                        · exfalso
                          try simp only [decide_eq_true_eq, decide_eq_false_iff_not, Bool.not_eq_true', Bool.not_eq_false', Bool.not_eq_true, Bool.not_eq_false, Bool.and_eq_true, Bool.or_eq_false_iff, beq_iff_eq, bne_iff_ne, Int.not_lt, Int.not_le, ne_eq] at hc61
                          first | omega | (simp at hc61; omega) | simp at hc61
                        · try simp only [decide_eq_true_eq, decide_eq_false_iff_not, Bool.not_eq_true', Bool.not_eq_false', Bool.not_eq_true, Bool.not_eq_false, Bool.and_eq_true, Bool.or_eq_false_iff, beq_iff_eq, bne_iff_ne, Int.not_lt, Int.not_le, ne_eq] at hc61
                          refine Sx.st_take hT rfl rfl rfl rfl (Sx.x_move hT rfl rfl) ?_
                          clear hT; intro a hT
                          refine Sx.st_take hT rfl rfl rfl rfl ((fun w => Sx.x_ne w hT rfl rfl rfl)) ?_
                          clear hT; intro a hT
                          refine Sx.st_take hT rfl rfl rfl rfl (Sx.x_move hT rfl rfl) ?_
                          clear hT; intro a hT
                          -- guard (26, 11)
                          refine Sx.Sl.two hT 131 rfl (fun hc62 hT => ?_) (fun hc62 hT => ?_)
                          · exfalso
                            try simp only [decide_eq_true_eq, decide_eq_false_iff_not, Bool.not_eq_true', Bool.not_eq_false', Bool.not_eq_true, Bool.not_eq_false, Bool.and_eq_true, Bool.or_eq_false_iff, beq_iff_eq, bne_iff_ne, Int.not_lt, Int.not_le, ne_eq] at hc62
                            simp at hc62
                          · try simp only [decide_eq_true_eq, decide_eq_false_iff_not, Bool.not_eq_true', Bool.not_eq_false', Bool.not_eq_true, Bool.not_eq_false, Bool.and_eq_true, Bool.or_eq_false_iff, beq_iff_eq, bne_iff_ne, Int.not_lt, Int.not_le, ne_eq] at hc62
                            refine Sx.st_skip hT rfl rfl rfl rfl ?_
                            clear hT; intro a hT
                            refine Sx.st_skip hT rfl rfl rfl rfl ?_
                            clear hT; intro a hT
                            refine Sx.st_take hT rfl rfl rfl rfl (Sx.x_pick_f hT rfl rfl rfl) ?_
                            clear hT; intro a hT
                            refine Sx.st_take hT rfl rfl rfl rfl (Sx.x_pick_f hT rfl rfl rfl) ?_
                            clear hT; intro a hT
                            replace hT := hT.keep [135, 17, 11, 108, 107, 16, 15, 84, 72, 0, 1, 2, 7, 12, 13, 14] rfl
                            refine Sx.ser_nil ?_
                            refine Sx.then_normal (hK60 _ _ ?_)
                            clear hK60
                            refine Sx.wp_if hT rfl (fun h => by cases h) (fun _ => ?_)
                            refine wp_skip ?_
                            refine Sx.then_normal (hK59 _ _ ?_)
                            clear hK59
                            refine wp_seq_k fun K63 hK63 => ?_
                            -- region 28 (law.go:225)
                            refine Sx.wp_text [(0, .take), (1, .take)] rfl ?_
                            refine Sx.st_take hT rfl rfl rfl rfl (Sx.x_move hT rfl rfl) ?_
                            clear hT; intro a hT
                            refine Sx.st_take hT rfl rfl rfl rfl ((fun w => Sx.x_eq w hT rfl rfl rfl)) ?_
                            clear hT; intro a hT
                            replace hT := hT.keep [137, 135, 17, 11, 108, 107, 16, 15, 84, 72, 0, 1, 2, 7, 12, 13, 14] rfl
                            refine Sx.ser_nil ?_
                            refine Sx.then_normal (hK63 _ _ ?_)
                            clear hK63
                            -- cond 9
                            refine Sx.wp_if hT rfl (fun hc64 => ?_) (fun hc64 => ?_)
                            · try simp only [decide_eq_true_eq, decide_eq_false_iff_not, Bool.not_eq_true', Bool.not_eq_false', Bool.not_eq_true, Bool.not_eq_false, Bool.and_eq_true, Bool.or_eq_false_iff, beq_iff_eq, bne_iff_ne, Int.not_lt, Int.not_le, ne_eq] at hc64
                              refine wp_seq_k fun K65 hK65 => ?_
                              -- region 29 (law.go:226)
                              refine Sx.wp_text [(0, .take), (1, .take), (2, .take), (3, .take), (4, .run), (5, .run), (6, .run), (7, .take)] rfl ?_
                              refine Sx.st_take hT rfl rfl rfl rfl (Sx.x_move hT rfl rfl) ?_
                              clear hT; intro a hT
                              refine Sx.st_take hT rfl rfl rfl rfl (Sx.x_move hT rfl rfl) ?_
                              clear hT; intro a hT
                              refine Sx.st_take hT rfl rfl rfl rfl (Sx.x_move hT rfl rfl) ?_
                              clear hT; intro a hT
                              refine Sx.st_take hT rfl rfl rfl rfl (Sx.x_index hT rfl Try.underlying42 Try.ti30 (by first | exact (h.ss.sv.ext_no X) | exact (hb.sv.ext_no X) | exact hS.sv) rfl rfl rfl (by omega)) ?_
                              clear hT; intro a hT
                              refine Sx.st_run hT rfl rfl rfl rfl (Sx.x_load1 hT rfl Try.fl30 rfl (by first | exact (ss_one RB.len (h.ss.ext_no X) hr9 rfl) | exact (ss_one bit_len (hb.ext_no X) htb rfl))) ?_
                              clear hT; intro a hT
                              refine Sx.st_eff hT rfl rfl rfl rfl (Sx.y_slice1 hT rfl Try.underlying42 Try.ti30 rfl rfl rfl rfl rfl rfl _) ?_
                              clear hT; rintro _ w10 ⟨b2, rfl, N⟩ a hT
                              have hb2 : w.heap.size ≤ b2 := by rw [N.at_]; exact X.size
                              try (have hf_b2 : ∀ k, F k → k < b2 := fun k hk => by have := hn.lt k hk; have := N.at_; omega)
                              have hs_b2 : ∀ k, Own ad2 k → k < b2 := fun k hk => by have := hS.lt k hk; have := N.at_; omega
                              try (have hd_b2 := fun h0 => Nat.lt_of_lt_of_le (hto.bs.lt h0) (Nat.le_of_eq N.at_.symm))
                              try (have hg_b2 : ∀ k, F2 k → k < b2 := fun k hk => by have := hn.lt k hk; have := N.at_; omega)
                              replace X := X.step N.ext
                              replace hn := hn.ext_no N.ext
                              replace hS := hS.ext_no N.ext
                              have B2 := N.blk
                              clear N
                              refine Sx.st_eff hT rfl rfl rfl rfl (Sx.x_append hT rfl rfl Try.underlying42 Try.ti30 rfl (by decide) rfl rfl hS (B2.sv1 rfl) (by simp [Value.oneCell']) (fun h => by cases h) (by unfold maxLen; omega) (by omega)) ?_
                              have hz1 := X.size
                              have hnl := hn.lt
                              clear hT; rintro _ w11 ⟨ad3, c3, rfl, hS2, E, hown, -⟩ a hT
                              replace X := X.trans E (fun i hi h9 => absurd hi (by have := (hSo2 i h9).1; omega))
                              replace hn := hn.ext E (fun k hk h9 => (hSo2 k h9).2 hk)
                              have hSo3 : ∀ k, Own ad3 k → w.heap.size ≤ k ∧ ¬ F2 k := fun k hk => (hown k hk).elim (hSo2 k) (fun h9 => ⟨by omega, fun h8 => by have := hnl k h8; omega⟩)
                              clear hS E hown hSo2 hnl
                              refine Sx.st_take hT rfl rfl rfl rfl (Sx.x_assign hT rfl rfl) ?_
                              clear hT; intro a hT
                              replace hT := hT.keep [13, 137, 135, 17, 11, 108, 107, 16, 15, 84, 72, 0, 1, 2, 7, 12, 14] rfl
                              refine Sx.ser_nil ?_
                              refine Sx.then_normal (hK65 _ _ ?_)
                              clear hK65
                              -- region 30 (law.go:227)
                              refine Sx.wp_text [(0, .take), (1, .take), (2, .take)] rfl ?_
                              refine Sx.st_take hT rfl rfl rfl rfl (Sx.x_move hT rfl rfl) ?_
                              clear hT; intro a hT
                              refine Sx.st_take hT rfl rfl rfl rfl ((fun w => Sx.x_add w hT rfl rfl rfl (Sx.wrap64 (by omega)))) ?_
                              clear hT; intro a hT
                              refine Sx.st_take hT rfl rfl rfl rfl (Sx.x_assign hT rfl rfl) ?_
                              clear hT; intro a hT
                              replace hT := hT.keep [12, 13, 137, 135, 17, 11, 108, 107, 16, 15, 84, 72, 0, 1, 2, 7, 14] rfl
                              refine Sx.ser_nil ?_
                              refine Sx.block_normal ?_
                              refine Sx.then_normal (hK29 _ _ ?_)
                              clear hK29
                              -- region 18 (law.go:211)
                              refine Sx.wp_text [(0, .take), (1, .take), (2, .take)] rfl ?_
                              refine Sx.st_take hT rfl rfl rfl rfl (Sx.x_move hT rfl rfl) ?_
                              clear hT; intro a hT
                              refine Sx.st_take hT rfl rfl rfl rfl ((fun w => Sx.x_add w hT rfl rfl rfl (Sx.wrap64 (by omega)))) ?_
                              clear hT; intro a hT
                              refine Sx.st_take hT rfl rfl rfl rfl (Sx.x_assign hT rfl rfl) ?_
                              clear hT; intro a hT
                              replace hT := hT.keep [14, 12, 13, 137, 135, 17, 11, 108, 107, 16, 15, 84, 72, 0, 1, 2, 7] rfl
                              refine Sx.ser_nil ?_
                              refine Sx.then_normal ?_
                              exact ⟨⟨i + 1, j2, sr ++ [r], sl ++ [l], ms1 ++ [⟨i, i + 1, l⟩], F2, ad3, c3⟩, ⟨by show i + 1 ≤ _; omega, X, hn, hF2, by simpa [RB.cells] using hS2, hSo3, hSA.append (All2.single hrl), by show j2 ≤ (sl ++ [l]).length; simp; omega, by show (sl ++ [l]).length ≤ i + 1; simp; omega, by show (ms1 ++ [_]).map _ = (sl ++ [l]).drop j2; rw [List.map_append, hmap2, List.drop_append_of_le_length (by omega)]; rfl, (hT.keep [0, 1, 2, 7, 11, 12, 13, 14] rfl).conv (by simp)⟩, by show _ - (i + 1) < _ - i; omega⟩
                            · exfalso
                              try simp only [decide_eq_true_eq, decide_eq_false_iff_not, Bool.not_eq_true', Bool.not_eq_false', Bool.not_eq_true, Bool.not_eq_false, Bool.and_eq_true, Bool.or_eq_false_iff, beq_iff_eq, bne_iff_ne, Int.not_lt, Int.not_le, ne_eq] at hc64
                              simp at hc64
                      · skip
                        -- region 25 (law.go:221)
                        refine Sx.wp_text [(0, .take), (1, .take), (2, .take), (3, .take), (4, .take), (5, .take), (6, .take), (7, .run), (8, .run), (9, .take)] rfl ?_
                        refine Sx.st_take hT rfl rfl rfl rfl (Sx.x_move hT rfl rfl) ?_
                        clear hT; intro a hT
                        refine Sx.st_take hT rfl rfl rfl rfl (Sx.x_move hT rfl rfl) ?_
                        clear hT; intro a hT
                        refine Sx.st_take hT rfl rfl rfl rfl (Sx.x_move hT rfl rfl) ?_
                        clear hT; intro a hT
                        refine Sx.st_take hT rfl rfl rfl rfl ((fun w => Sx.x_add w hT rfl rfl rfl (Sx.wrap64 (by omega)))) ?_
                        clear hT; intro a hT
                        refine Sx.st_take hT rfl rfl rfl rfl (Sx.x_move hT rfl rfl) ?_
                        clear hT; intro a hT
                        refine Sx.st_take hT rfl rfl rfl rfl (Sx.x_move hT rfl rfl) ?_
                        clear hT; intro a hT
                        refine Sx.st_take hT rfl rfl rfl rfl (Sx.x_index hT rfl Try.underlying42 Try.ti30 (by first | exact (h.ss.sv.ext_no X) | exact (hb.sv.ext_no X) | exact hS.sv) rfl rfl rfl (by omega)) ?_
                        clear hT; intro a hT
                        refine Sx.st_run hT rfl rfl rfl rfl (Sx.x_load1 hT rfl Try.fl30 rfl (by first | exact (B1).nth rfl | exact (ss_one RB.len (h.ss.ext_no X) hr9 rfl) | exact (ss_one bit_len (hb.ext_no X) htb rfl))) ?_
                        clear hT; intro a hT
                        refine Sx.st_call hT rfl rfl rfl rfl rfl Try.can10 rfl (nSend_full hn i (i + 1) r.ad r.n r.c (by omega)) ?_
                        rintro _ w9 ⟨rfl, E⟩
                        refine ⟨_, rfl, ?_⟩
                        clear hT; intro a hT
                        replace X := X.step E
                        replace B1 := B1.ext_no E
                        replace hn := hn.ext_no E
                        replace hS := hS.ext_no E
                        replace hto := hto.ext_no E
                        refine Sx.st_take hT rfl rfl rfl rfl (Sx.x_assign hT rfl rfl) ?_
                        clear hT; intro a hT
                        replace hT := hT.keep [17, 11, 108, 107, 16, 15, 84, 72, 0, 1, 2, 7, 12, 13, 14] rfl
                        refine Sx.ser_nil ?_
                        refine Sx.then_normal (hK58 _ _ ?_)
                        clear hK58
                        refine wp_seq_k fun K66 hK66 => ?_
                        refine wp_seq_k fun K67 hK67 => ?_
                        -- region 26 (law.go:222)
                        refine Sx.wp_text [(0, .take), (1, .take), (2, .take), (3, .take), (4, .take), (5, .take), (6, .take), (7, .take), (8, .take), (9, .take), (10, .take), (11, .take), (12, .take), (13, .take), (14, .take), (15, .take)] rfl ?_
                        refine Sx.st_take hT rfl rfl rfl rfl (Sx.x_move hT rfl rfl) ?_
                        clear hT; intro a hT
                        refine Sx.st_take hT rfl rfl rfl rfl ((fun w => Sx.x_eq w hT rfl rfl rfl)) ?_
                        clear hT; intro a hT
                        refine Sx.st_take hT rfl rfl rfl rfl (Sx.x_move hT rfl rfl) ?_
                        clear hT; intro a hT
                        refine Sx.st_take hT rfl rfl rfl rfl (Sx.x_move hT rfl rfl) ?_
                        clear hT; intro a hT
                        refine Sx.st_take hT rfl rfl rfl rfl ((fun w => Sx.x_sub w hT rfl rfl rfl (Sx.wrap64 (by omega)))) ?_
                        clear hT; intro a hT
                        refine Sx.st_take hT rfl rfl rfl rfl (Sx.x_move hT rfl rfl) ?_
                        clear hT; intro a hT
                        refine Sx.st_take hT rfl rfl rfl rfl ((fun w => Sx.x_lt w hT rfl rfl rfl)) ?_
                        clear hT; intro a hT
                        refine Sx.st_take hT rfl rfl rfl rfl (Sx.x_neb hT rfl Try.underlying4 rfl rfl) ?_
                        clear hT; intro a hT
                        refine Sx.st_take hT rfl rfl rfl rfl (Sx.x_move hT rfl rfl) ?_
                        clear hT; intro a hT
                        -- guard (26, 8)
                        refine Sx.Sl.two hT 128 rfl (fun hc68 hT => ?_) (fun hc68 hT => ?_)
                        · exfalso
                          try simp only [decide_eq_true_eq, decide_eq_false_iff_not, Bool.not_eq_true', Bool.not_eq_false', Bool.not_eq_true, Bool.not_eq_false, Bool.and_eq_true, Bool.or_eq_false_iff, beq_iff_eq, bne_iff_ne, Int.not_lt, Int.not_le, ne_eq] at hc68
                          first | omega | (simp at hc68; omega) | simp at hc68
                        · try simp only [decide_eq_true_eq, decide_eq_false_iff_not, Bool.not_eq_true', Bool.not_eq_false', Bool.not_eq_true, Bool.not_eq_false, Bool.and_eq_true, Bool.or_eq_false_iff, beq_iff_eq, bne_iff_ne, Int.not_lt, Int.not_le, ne_eq] at hc68
                          refine Sx.st_take hT rfl rfl rfl rfl (Sx.x_move hT rfl rfl) ?_
                          clear hT; intro a hT
                          refine Sx.st_take hT rfl rfl rfl rfl ((fun w => Sx.x_ne w hT rfl rfl rfl)) ?_
                          clear hT; intro a hT
                          refine Sx.st_take hT rfl rfl rfl rfl (Sx.x_move hT rfl rfl) ?_
                          clear hT; intro a hT
                          -- guard (26, 11)
                          refine Sx.Sl.two hT 131 rfl (fun hc69 hT => ?_) (fun hc69 hT => ?_)
                          · try simp only [decide_eq_true_eq, decide_eq_false_iff_not, Bool.not_eq_true', Bool.not_eq_false', Bool.not_eq_true, Bool.not_eq_false, Bool.and_eq_true, Bool.or_eq_false_iff, beq_iff_eq, bne_iff_ne, Int.not_lt, Int.not_le, ne_eq] at hc69
                            refine Sx.st_take hT rfl rfl rfl rfl (Sx.x_move hT rfl rfl) ?_
                            clear hT; intro a hT
                            refine Sx.st_take hT rfl rfl rfl rfl ((fun w => Sx.x_ne w hT rfl rfl rfl)) ?_
                            clear hT; intro a hT
                            refine Sx.st_take hT rfl rfl rfl rfl (Sx.x_pick_t hT rfl rfl rfl) ?_
                            clear hT; intro a hT
                            refine Sx.st_take hT rfl rfl rfl rfl (Sx.x_pick_f hT rfl rfl rfl) ?_
                            clear hT; intro a hT
                            replace hT := hT.keep [135, 17, 11, 108, 107, 16, 15, 84, 72, 0, 1, 2, 7, 12, 13, 14] rfl
                            refine Sx.ser_nil ?_
                            refine Sx.then_normal (hK67 _ _ ?_)
                            clear hK67
                            -- cond 8
                            refine Sx.wp_if hT rfl (fun hc70 => ?_) (fun hc70 => ?_)
                            · exfalso
                              try simp only [decide_eq_true_eq, decide_eq_false_iff_not, Bool.not_eq_true', Bool.not_eq_false', Bool.not_eq_true, Bool.not_eq_false, Bool.and_eq_true, Bool.or_eq_false_iff, beq_iff_eq, bne_iff_ne, Int.not_lt, Int.not_le, ne_eq] at hc70
                              first | omega | (simp at hc70; omega) | simp at hc70
                            · try simp only [decide_eq_true_eq, decide_eq_false_iff_not, Bool.not_eq_true', Bool.not_eq_false', Bool.not_eq_true, Bool.not_eq_false, Bool.and_eq_true, Bool.or_eq_false_iff, beq_iff_eq, bne_iff_ne, Int.not_lt, Int.not_le, ne_eq] at hc70
                              refine wp_skip ?_
                              refine Sx.then_normal (hK66 _ _ ?_)
                              clear hK66
                              refine wp_seq_k fun K71 hK71 => ?_
                              -- region 28 (law.go:225)
                              refine Sx.wp_text [(0, .take), (1, .take)] rfl ?_
                              refine Sx.st_take hT rfl rfl rfl rfl (Sx.x_move hT rfl rfl) ?_
                              clear hT; intro a hT
                              refine Sx.st_take hT rfl rfl rfl rfl ((fun w => Sx.x_eq w hT rfl rfl rfl)) ?_
                              clear hT; intro a hT
                              replace hT := hT.keep [137, 135, 17, 11, 108, 107, 16, 15, 84, 72, 0, 1, 2, 7, 12, 13, 14] rfl
                              refine Sx.ser_nil ?_
                              refine Sx.then_normal (hK71 _ _ ?_)
                              clear hK71
                              -- cond 9
                              refine Sx.wp_if hT rfl (fun hc72 => ?_) (fun hc72 => ?_)
                              · exfalso
                                try simp only [decide_eq_true_eq, decide_eq_false_iff_not, Bool.not_eq_true', Bool.not_eq_false', Bool.not_eq_true, Bool.not_eq_false, Bool.and_eq_true, Bool.or_eq_false_iff, beq_iff_eq, bne_iff_ne, Int.not_lt, Int.not_le, ne_eq] at hc72
                                simp at hc72
                              · try simp only [decide_eq_true_eq, decide_eq_false_iff_not, Bool.not_eq_true', Bool.not_eq_false', Bool.not_eq_true, Bool.not_eq_false, Bool.and_eq_true, Bool.or_eq_false_iff, beq_iff_eq, bne_iff_ne, Int.not_lt, Int.not_le, ne_eq] at hc72
                                refine wp_skip ?_
                                refine Sx.block_normal ?_
                                refine Sx.then_normal (hK29 _ _ ?_)
                                clear hK29
                                -- region 18 (law.go:211)
                                refine Sx.wp_text [(0, .take), (1, .take), (2, .take)] rfl ?_
                                refine Sx.st_take hT rfl rfl rfl rfl (Sx.x_move hT rfl rfl) ?_
                                clear hT; intro a hT
                                refine Sx.st_take hT rfl rfl rfl rfl ((fun w => Sx.x_add w hT rfl rfl rfl (Sx.wrap64 (by omega)))) ?_
                                clear hT; intro a hT
                                refine Sx.st_take hT rfl rfl rfl rfl (Sx.x_assign hT rfl rfl) ?_
                                clear hT; intro a hT
                                replace hT := hT.keep [14, 137, 135, 17, 11, 108, 107, 16, 15, 84, 72, 0, 1, 2, 7, 12, 13] rfl
                                refine Sx.ser_nil ?_
                                refine Sx.then_normal ?_
                                exact ⟨⟨i + 1, j2, sr, sl, ms1, F, ad2, c2⟩, ⟨by show i + 1 ≤ _; omega, X, hn, hF, hS, hSo, hSA, by show j2 ≤ sl.length; omega, by show sl.length ≤ i + 1; omega, hmap2, (hT.keep [0, 1, 2, 7, 11, 12, 13, 14] rfl)⟩, by show _ - (i + 1) < _ - i; omega⟩
                          · exfalso
                            try simp only [decide_eq_true_eq, decide_eq_false_iff_not, Bool.not_eq_true', Bool.not_eq_false', Bool.not_eq_true, Bool.not_eq_false, Bool.and_eq_true, Bool.or_eq_false_iff, beq_iff_eq, bne_iff_ne, Int.not_lt, Int.not_le, ne_eq] at hc69
                            simp at hc69
                · try simp only [decide_eq_true_eq, decide_eq_false_iff_not, Bool.not_eq_true', Bool.not_eq_false', Bool.not_eq_true, Bool.not_eq_false, Bool.and_eq_true, Bool.or_eq_false_iff, beq_iff_eq, bne_iff_ne, Int.not_lt, Int.not_le, ne_eq] at hc33
                  refine wp_skip ?_
                  refine Sx.then_normal (hK30 _ _ ?_)
                  clear hK30
                  refine wp_seq_k fun K73 hK73 => ?_
                  by_cases hroom : ((ms).length : Int) < most
                  · skip
                    -- region 25 (law.go:221)
                    refine Sx.wp_text [(0, .take), (1, .take), (2, .take), (3, .take), (4, .take), (5, .take), (6, .take), (7, .run), (8, .run), (9, .take)] rfl ?_
                    refine Sx.st_take hT rfl rfl rfl rfl (Sx.x_move hT rfl rfl) ?_
                    clear hT; intro a hT
                    refine Sx.st_take hT rfl rfl rfl rfl (Sx.x_move hT rfl rfl) ?_
                    clear hT; intro a hT
                    refine Sx.st_take hT rfl rfl rfl rfl (Sx.x_move hT rfl rfl) ?_
                    clear hT; intro a hT
                    refine Sx.st_take hT rfl rfl rfl rfl ((fun w => Sx.x_add w hT rfl rfl rfl (Sx.wrap64 (by omega)))) ?_
                    clear hT; intro a hT
                    refine Sx.st_take hT rfl rfl rfl rfl (Sx.x_move hT rfl rfl) ?_
                    clear hT; intro a hT
                    refine Sx.st_take hT rfl rfl rfl rfl (Sx.x_move hT rfl rfl) ?_
                    clear hT; intro a hT
                    refine Sx.st_take hT rfl rfl rfl rfl (Sx.x_index hT rfl Try.underlying42 Try.ti30 (by first | exact (h.ss.sv.ext_no X) | exact (hb.sv.ext_no X) | exact hS.sv) rfl rfl rfl (by omega)) ?_
                    clear hT; intro a hT
                    refine Sx.st_run hT rfl rfl rfl rfl (Sx.x_load1 hT rfl Try.fl30 rfl (by first | exact (ss_one RB.len (h.ss.ext_no X) hr9 rfl) | exact (ss_one bit_len (hb.ext_no X) htb rfl))) ?_
                    clear hT; intro a hT
                    refine Sx.st_call hT rfl rfl rfl rfl rfl Try.can10 rfl (nSend_ok hn i (i + 1) r.ad r.n r.c l (by omega) (hrl.bs.ext_no X) hrl.n hrl.nil (by have := hrl.n; omega)) ?_
                    have hz1 := X.size
                    have hSl := hS.lt
                    rintro _ w5 ⟨rfl, hn2, E⟩
                    refine ⟨_, rfl, ?_⟩
                    clear hT; intro a hT
                    replace X := X.trans E (fun i hi h9 => absurd hi (by have := hF i h9; omega))
                    replace hS := hS.ext E (fun k hk h9 => (hSo k hk).2 h9)
                    obtain ⟨F2, hn3, hF2, hSo2⟩ : ∃ F2 : Nat → Prop, Net _ p most (ms ++ [⟨i, i + 1, l⟩]) F2 ∧ (∀ k, F2 k → w.heap.size ≤ k) ∧ (∀ k, Own ad2 k → w.heap.size ≤ k ∧ ¬ F2 k) := ⟨_, hn2, fun k hk => hk.elim (hF k) (fun h9 => by omega), fun k hk => ⟨(hSo k hk).1, fun h9 => h9.elim (hSo k hk).2 (fun h8 => by have := hSl k hk; omega)⟩⟩
                    clear hn2 hn E
                    have hn := hn3
                    clear hn3
                    refine Sx.st_take hT rfl rfl rfl rfl (Sx.x_assign hT rfl rfl) ?_
                    clear hT; intro a hT
                    replace hT := hT.keep [17, 84, 72, 0, 1, 2, 7, 11, 12, 13, 14] rfl
                    refine Sx.ser_nil ?_
                    refine Sx.then_normal (hK73 _ _ ?_)
                    clear hK73
                    refine wp_seq_k fun K74 hK74 => ?_
                    refine wp_seq_k fun K75 hK75 => ?_
                    -- region 26 (law.go:222)
                    refine Sx.wp_text [(0, .take), (1, .take), (2, .take), (3, .take), (4, .take), (5, .take), (6, .take), (7, .take), (8, .take), (9, .take), (10, .take), (11, .take), (12, .take), (13, .take), (14, .take), (15, .take)] rfl ?_
                    refine Sx.st_take hT rfl rfl rfl rfl (Sx.x_move hT rfl rfl) ?_
                    clear hT; intro a hT
                    refine Sx.st_take hT rfl rfl rfl rfl ((fun w => Sx.x_eq w hT rfl rfl rfl)) ?_
                    clear hT; intro a hT
                    refine Sx.st_take hT rfl rfl rfl rfl (Sx.x_move hT rfl rfl) ?_
                    clear hT; intro a hT
                    refine Sx.st_take hT rfl rfl rfl rfl (Sx.x_move hT rfl rfl) ?_
                    clear hT; intro a hT
                    refine Sx.st_take hT rfl rfl rfl rfl ((fun w => Sx.x_sub w hT rfl rfl rfl (Sx.wrap64 (by omega)))) ?_
                    clear hT; intro a hT
                    refine Sx.st_take hT rfl rfl rfl rfl (Sx.x_move hT rfl rfl) ?_
                    clear hT; intro a hT
                    refine Sx.st_take hT rfl rfl rfl rfl ((fun w => Sx.x_lt w hT rfl rfl rfl)) ?_
                    clear hT; intro a hT
                    refine Sx.st_take hT rfl rfl rfl rfl (Sx.x_neb hT rfl Try.underlying4 rfl rfl) ?_
                    clear hT; intro a hT
                    refine Sx.st_take hT rfl rfl rfl rfl (Sx.x_move hT rfl rfl) ?_
                    clear hT; intro a hT
                    -- guard (26, 8)
                    refine Sx.Sl.two hT 128 rfl (fun hc76 hT => ?_) (fun hc76 hT => ?_)
                    · exfalso
                      try simp only [decide_eq_true_eq, decide_eq_false_iff_not, Bool.not_eq_true', Bool.not_eq_false', Bool.not_eq_true, Bool.not_eq_false, Bool.and_eq_true, Bool.or_eq_false_iff, beq_iff_eq, bne_iff_ne, Int.not_lt, Int.not_le, ne_eq] at hc76
                      first | omega | (simp at hc76; omega) | simp at hc76
                    · try simp only [decide_eq_true_eq, decide_eq_false_iff_not, Bool.not_eq_true', Bool.not_eq_false', Bool.not_eq_true, Bool.not_eq_false, Bool.and_eq_true, Bool.or_eq_false_iff, beq_iff_eq, bne_iff_ne, Int.not_lt, Int.not_le, ne_eq] at hc76
                      refine Sx.st_take hT rfl rfl rfl rfl (Sx.x_move hT rfl rfl) ?_
                      clear hT; intro a hT
                      refine Sx.st_take hT rfl rfl rfl rfl ((fun w => Sx.x_ne w hT rfl rfl rfl)) ?_
                      clear hT; intro a hT
                      refine Sx.st_take hT rfl rfl rfl rfl (Sx.x_move hT rfl rfl) ?_
                      clear hT; intro a hT
                      -- guard (26, 11)
                      refine Sx.Sl.two hT 131 rfl (fun hc77 hT => ?_) (fun hc77 hT => ?_)
                      · exfalso
                        try simp only [decide_eq_true_eq, decide_eq_false_iff_not, Bool.not_eq_true', Bool.not_eq_false', Bool.not_eq_true, Bool.not_eq_false, Bool.and_eq_true, Bool.or_eq_false_iff, beq_iff_eq, bne_iff_ne, Int.not_lt, Int.not_le, ne_eq] at hc77
                        simp at hc77
                      · try simp only [decide_eq_true_eq, decide_eq_false_iff_not, Bool.not_eq_true', Bool.not_eq_false', Bool.not_eq_true, Bool.not_eq_false, Bool.and_eq_true, Bool.or_eq_false_iff, beq_iff_eq, bne_iff_ne, Int.not_lt, Int.not_le, ne_eq] at hc77
                        refine Sx.st_skip hT rfl rfl rfl rfl ?_
                        clear hT; intro a hT
                        refine Sx.st_skip hT rfl rfl rfl rfl ?_
                        clear hT; intro a hT
                        refine Sx.st_take hT rfl rfl rfl rfl (Sx.x_pick_f hT rfl rfl rfl) ?_
                        clear hT; intro a hT
                        refine Sx.st_take hT rfl rfl rfl rfl (Sx.x_pick_f hT rfl rfl rfl) ?_
                        clear hT; intro a hT
                        replace hT := hT.keep [135, 17, 84, 72, 0, 1, 2, 7, 11, 12, 13, 14] rfl
                        refine Sx.ser_nil ?_
                        refine Sx.then_normal (hK75 _ _ ?_)
                        clear hK75
                        refine Sx.wp_if hT rfl (fun h => by cases h) (fun _ => ?_)
                        refine wp_skip ?_
                        refine Sx.then_normal (hK74 _ _ ?_)
                        clear hK74
                        refine wp_seq_k fun K78 hK78 => ?_
                        -- region 28 (law.go:225)
                        refine Sx.wp_text [(0, .take), (1, .take)] rfl ?_
                        refine Sx.st_take hT rfl rfl rfl rfl (Sx.x_move hT rfl rfl) ?_
                        clear hT; intro a hT
                        refine Sx.st_take hT rfl rfl rfl rfl ((fun w => Sx.x_eq w hT rfl rfl rfl)) ?_
                        clear hT; intro a hT
                        replace hT := hT.keep [137, 135, 17, 84, 72, 0, 1, 2, 7, 11, 12, 13, 14] rfl
                        refine Sx.ser_nil ?_
                        refine Sx.then_normal (hK78 _ _ ?_)
                        clear hK78
                        -- cond 9
                        refine Sx.wp_if hT rfl (fun hc79 => ?_) (fun hc79 => ?_)
                        · try simp only [decide_eq_true_eq, decide_eq_false_iff_not, Bool.not_eq_true', Bool.not_eq_false', Bool.not_eq_true, Bool.not_eq_false, Bool.and_eq_true, Bool.or_eq_false_iff, beq_iff_eq, bne_iff_ne, Int.not_lt, Int.not_le, ne_eq] at hc79
                          refine wp_seq_k fun K80 hK80 => ?_
                          -- region 29 (law.go:226)
                          refine Sx.wp_text [(0, .take), (1, .take), (2, .take), (3, .take), (4, .run), (5, .run), (6, .run), (7, .take)] rfl ?_
                          refine Sx.st_take hT rfl rfl rfl rfl (Sx.x_move hT rfl rfl) ?_
                          clear hT; intro a hT
                          refine Sx.st_take hT rfl rfl rfl rfl (Sx.x_move hT rfl rfl) ?_
                          clear hT; intro a hT
                          refine Sx.st_take hT rfl rfl rfl rfl (Sx.x_move hT rfl rfl) ?_
                          clear hT; intro a hT
                          refine Sx.st_take hT rfl rfl rfl rfl (Sx.x_index hT rfl Try.underlying42 Try.ti30 (by first | exact (h.ss.sv.ext_no X) | exact (hb.sv.ext_no X) | exact hS.sv) rfl rfl rfl (by omega)) ?_
                          clear hT; intro a hT
                          refine Sx.st_run hT rfl rfl rfl rfl (Sx.x_load1 hT rfl Try.fl30 rfl (by first | exact (ss_one RB.len (h.ss.ext_no X) hr9 rfl) | exact (ss_one bit_len (hb.ext_no X) htb rfl))) ?_
                          clear hT; intro a hT
                          refine Sx.st_eff hT rfl rfl rfl rfl (Sx.y_slice1 hT rfl Try.underlying42 Try.ti30 rfl rfl rfl rfl rfl rfl _) ?_
                          clear hT; rintro _ w6 ⟨b1, rfl, N⟩ a hT
                          have hb1 : w.heap.size ≤ b1 := by rw [N.at_]; exact X.size
                          try (have hf_b1 : ∀ k, F k → k < b1 := fun k hk => by have := hn.lt k hk; have := N.at_; omega)
                          have hs_b1 : ∀ k, Own ad2 k → k < b1 := fun k hk => by have := hS.lt k hk; have := N.at_; omega
                          try (have hd_b1 := fun h0 => Nat.lt_of_lt_of_le (hto.bs.lt h0) (Nat.le_of_eq N.at_.symm))
                          try (have hg_b1 : ∀ k, F2 k → k < b1 := fun k hk => by have := hn.lt k hk; have := N.at_; omega)
                          replace X := X.step N.ext
                          replace hn := hn.ext_no N.ext
                          replace hS := hS.ext_no N.ext
                          have B1 := N.blk
                          clear N
                          refine Sx.st_eff hT rfl rfl rfl rfl (Sx.x_append hT rfl rfl Try.underlying42 Try.ti30 rfl (by decide) rfl rfl hS (B1.sv1 rfl) (by simp [Value.oneCell']) (fun h => by cases h) (by unfold maxLen; omega) (by omega)) ?_
                          have hz1 := X.size
                          have hnl := hn.lt
                          clear hT; rintro _ w7 ⟨ad3, c3, rfl, hS2, E, hown, -⟩ a hT
                          replace X := X.trans E (fun i hi h9 => absurd hi (by have := (hSo2 i h9).1; omega))
                          replace hn := hn.ext E (fun k hk h9 => (hSo2 k h9).2 hk)
                          have hSo3 : ∀ k, Own ad3 k → w.heap.size ≤ k ∧ ¬ F2 k := fun k hk => (hown k hk).elim (hSo2 k) (fun h9 => ⟨by omega, fun h8 => by have := hnl k h8; omega⟩)
                          clear hS E hown hSo2 hnl
                          refine Sx.st_take hT rfl rfl rfl rfl (Sx.x_assign hT rfl rfl) ?_
                          clear hT; intro a hT
                          replace hT := hT.keep [13, 137, 135, 17, 84, 72, 0, 1, 2, 7, 11, 12, 14] rfl
                          refine Sx.ser_nil ?_
                          refine Sx.then_normal (hK80 _ _ ?_)
                          clear hK80
                          -- region 30 (law.go:227)
                          refine Sx.wp_text [(0, .take), (1, .take), (2, .take)] rfl ?_
                          refine Sx.st_take hT rfl rfl rfl rfl (Sx.x_move hT rfl rfl) ?_
                          clear hT; intro a hT
                          refine Sx.st_take hT rfl rfl rfl rfl ((fun w => Sx.x_add w hT rfl rfl rfl (Sx.wrap64 (by omega)))) ?_
                          clear hT; intro a hT
                          refine Sx.st_take hT rfl rfl rfl rfl (Sx.x_assign hT rfl rfl) ?_
                          clear hT; intro a hT
                          replace hT := hT.keep [12, 13, 137, 135, 17, 84, 72, 0, 1, 2, 7, 11, 14] rfl
                          refine Sx.ser_nil ?_
                          refine Sx.block_normal ?_
                          refine Sx.then_normal (hK29 _ _ ?_)
                          clear hK29
                          -- region 18 (law.go:211)
                          refine Sx.wp_text [(0, .take), (1, .take), (2, .take)] rfl ?_
                          refine Sx.st_take hT rfl rfl rfl rfl (Sx.x_move hT rfl rfl) ?_
                          clear hT; intro a hT
                          refine Sx.st_take hT rfl rfl rfl rfl ((fun w => Sx.x_add w hT rfl rfl rfl (Sx.wrap64 (by omega)))) ?_
                          clear hT; intro a hT
                          refine Sx.st_take hT rfl rfl rfl rfl (Sx.x_assign hT rfl rfl) ?_
                          clear hT; intro a hT
                          replace hT := hT.keep [14, 12, 13, 137, 135, 17, 84, 72, 0, 1, 2, 7, 11] rfl
                          refine Sx.ser_nil ?_
                          refine Sx.then_normal ?_
                          exact ⟨⟨i + 1, j, sr ++ [r], sl ++ [l], ms ++ [⟨i, i + 1, l⟩], F2, ad3, c3⟩, ⟨by show i + 1 ≤ _; omega, X, hn, hF2, by simpa [RB.cells] using hS2, hSo3, hSA.append (All2.single hrl), by show j ≤ (sl ++ [l]).length; simp; omega, by show (sl ++ [l]).length ≤ i + 1; simp; omega, by show (ms ++ [_]).map _ = (sl ++ [l]).drop j; rw [List.map_append, hmap, List.drop_append_of_le_length (by omega)]; rfl, (hT.keep [0, 1, 2, 7, 11, 12, 13, 14] rfl).conv (by simp)⟩, by show _ - (i + 1) < _ - i; omega⟩
                        · exfalso
                          try simp only [decide_eq_true_eq, decide_eq_false_iff_not, Bool.not_eq_true', Bool.not_eq_false', Bool.not_eq_true, Bool.not_eq_false, Bool.and_eq_true, Bool.or_eq_false_iff, beq_iff_eq, bne_iff_ne, Int.not_lt, Int.not_le, ne_eq] at hc79
                          simp at hc79
                  · skip
                    -- region 25 (law.go:221)
                    refine Sx.wp_text [(0, .take), (1, .take), (2, .take), (3, .take), (4, .take), (5, .take), (6, .take), (7, .run), (8, .run), (9, .take)] rfl ?_
                    refine Sx.st_take hT rfl rfl rfl rfl (Sx.x_move hT rfl rfl) ?_
                    clear hT; intro a hT
                    refine Sx.st_take hT rfl rfl rfl rfl (Sx.x_move hT rfl rfl) ?_
                    clear hT; intro a hT
                    refine Sx.st_take hT rfl rfl rfl rfl (Sx.x_move hT rfl rfl) ?_
                    clear hT; intro a hT
                    refine Sx.st_take hT rfl rfl rfl rfl ((fun w => Sx.x_add w hT rfl rfl rfl (Sx.wrap64 (by omega)))) ?_
                    clear hT; intro a hT
                    refine Sx.st_take hT rfl rfl rfl rfl (Sx.x_move hT rfl rfl) ?_
                    clear hT; intro a hT
                    refine Sx.st_take hT rfl rfl rfl rfl (Sx.x_move hT rfl rfl) ?_
                    clear hT; intro a hT
                    refine Sx.st_take hT rfl rfl rfl rfl (Sx.x_index hT rfl Try.underlying42 Try.ti30 (by first | exact (h.ss.sv.ext_no X) | exact (hb.sv.ext_no X) | exact hS.sv) rfl rfl rfl (by omega)) ?_
                    clear hT; intro a hT
                    refine Sx.st_run hT rfl rfl rfl rfl (Sx.x_load1 hT rfl Try.fl30 rfl (by first | exact (ss_one RB.len (h.ss.ext_no X) hr9 rfl) | exact (ss_one bit_len (hb.ext_no X) htb rfl))) ?_
                    clear hT; intro a hT
                    refine Sx.st_call hT rfl rfl rfl rfl rfl Try.can10 rfl (nSend_full hn i (i + 1) r.ad r.n r.c (by omega)) ?_
                    rintro _ w5 ⟨rfl, E⟩
                    refine ⟨_, rfl, ?_⟩
                    clear hT; intro a hT
                    replace X := X.step E
                    replace hn := hn.ext_no E
                    replace hS := hS.ext_no E
                    refine Sx.st_take hT rfl rfl rfl rfl (Sx.x_assign hT rfl rfl) ?_
                    clear hT; intro a hT
                    replace hT := hT.keep [17, 84, 72, 0, 1, 2, 7, 11, 12, 13, 14] rfl
                    refine Sx.ser_nil ?_
                    refine Sx.then_normal (hK73 _ _ ?_)
                    clear hK73
                    refine wp_seq_k fun K81 hK81 => ?_
                    refine wp_seq_k fun K82 hK82 => ?_
                    -- region 26 (law.go:222)
                    refine Sx.wp_text [(0, .take), (1, .take), (2, .take), (3, .take), (4, .take), (5, .take), (6, .take), (7, .take), (8, .take), (9, .take), (10, .take), (11, .take), (12, .take), (13, .take), (14, .take), (15, .take)] rfl ?_
                    refine Sx.st_take hT rfl rfl rfl rfl (Sx.x_move hT rfl rfl) ?_
                    clear hT; intro a hT
                    refine Sx.st_take hT rfl rfl rfl rfl ((fun w => Sx.x_eq w hT rfl rfl rfl)) ?_
                    clear hT; intro a hT
                    refine Sx.st_take hT rfl rfl rfl rfl (Sx.x_move hT rfl rfl) ?_
                    clear hT; intro a hT
                    refine Sx.st_take hT rfl rfl rfl rfl (Sx.x_move hT rfl rfl) ?_
                    clear hT; intro a hT
                    refine Sx.st_take hT rfl rfl rfl rfl ((fun w => Sx.x_sub w hT rfl rfl rfl (Sx.wrap64 (by omega)))) ?_
                    clear hT; intro a hT
                    refine Sx.st_take hT rfl rfl rfl rfl (Sx.x_move hT rfl rfl) ?_
                    clear hT; intro a hT
                    refine Sx.st_take hT rfl rfl rfl rfl ((fun w => Sx.x_lt w hT rfl rfl rfl)) ?_
                    clear hT; intro a hT
                    refine Sx.st_take hT rfl rfl rfl rfl (Sx.x_neb hT rfl Try.underlying4 rfl rfl) ?_
                    clear hT; intro a hT
                    refine Sx.st_take hT rfl rfl rfl rfl (Sx.x_move hT rfl rfl) ?_
                    clear hT; intro a hT
                    -- guard (26, 8)
                    refine Sx.Sl.two hT 128 rfl (fun hc83 hT => ?_) (fun hc83 hT => ?_)
                    · exfalso
                      try simp only [decide_eq_true_eq, decide_eq_false_iff_not, Bool.not_eq_true', Bool.not_eq_false', Bool.not_eq_true, Bool.not_eq_false, Bool.and_eq_true, Bool.or_eq_false_iff, beq_iff_eq, bne_iff_ne, Int.not_lt, Int.not_le, ne_eq] at hc83
                      first | omega | (simp at hc83; omega) | simp at hc83
                    · try simp only [decide_eq_true_eq, decide_eq_false_iff_not, Bool.not_eq_true', Bool.not_eq_false', Bool.not_eq_true, Bool.not_eq_false, Bool.and_eq_true, Bool.or_eq_false_iff, beq_iff_eq, bne_iff_ne, Int.not_lt, Int.not_le, ne_eq] at hc83
                      refine Sx.st_take hT rfl rfl rfl rfl (Sx.x_move hT rfl rfl) ?_
                      clear hT; intro a hT
                      refine Sx.st_take hT rfl rfl rfl rfl ((fun w => Sx.x_ne w hT rfl rfl rfl)) ?_
                      clear hT; intro a hT
                      refine Sx.st_take hT rfl rfl rfl rfl (Sx.x_move hT rfl rfl) ?_
                      clear hT; intro a hT
                      -- guard (26, 11)
                      refine Sx.Sl.two hT 131 rfl (fun hc84 hT => ?_) (fun hc84 hT => ?_)
                      · try simp only [decide_eq_true_eq, decide_eq_false_iff_not, Bool.not_eq_true', Bool.not_eq_false', Bool.not_eq_true, Bool.not_eq_false, Bool.and_eq_true, Bool.or_eq_false_iff, beq_iff_eq, bne_iff_ne, Int.not_lt, Int.not_le, ne_eq] at hc84
                        refine Sx.st_take hT rfl rfl rfl rfl (Sx.x_move hT rfl rfl) ?_
                        clear hT; intro a hT
                        refine Sx.st_take hT rfl rfl rfl rfl ((fun w => Sx.x_ne w hT rfl rfl rfl)) ?_
                        clear hT; intro a hT
                        refine Sx.st_take hT rfl rfl rfl rfl (Sx.x_pick_t hT rfl rfl rfl) ?_
                        clear hT; intro a hT
                        refine Sx.st_take hT rfl rfl rfl rfl (Sx.x_pick_f hT rfl rfl rfl) ?_
                        clear hT; intro a hT
                        replace hT := hT.keep [135, 17, 84, 72, 0, 1, 2, 7, 11, 12, 13, 14] rfl
                        refine Sx.ser_nil ?_
                        refine Sx.then_normal (hK82 _ _ ?_)
                        clear hK82
                        -- cond 8
                        refine Sx.wp_if hT rfl (fun hc85 => ?_) (fun hc85 => ?_)
                        · exfalso
                          try simp only [decide_eq_true_eq, decide_eq_false_iff_not, Bool.not_eq_true', Bool.not_eq_false', Bool.not_eq_true, Bool.not_eq_false, Bool.and_eq_true, Bool.or_eq_false_iff, beq_iff_eq, bne_iff_ne, Int.not_lt, Int.not_le, ne_eq] at hc85
                          first | omega | (simp at hc85; omega) | simp at hc85
                        · try simp only [decide_eq_true_eq, decide_eq_false_iff_not, Bool.not_eq_true', Bool.not_eq_false', Bool.not_eq_true, Bool.not_eq_false, Bool.and_eq_true, Bool.or_eq_false_iff, beq_iff_eq, bne_iff_ne, Int.not_lt, Int.not_le, ne_eq] at hc85
                          refine wp_skip ?_
                          refine Sx.then_normal (hK81 _ _ ?_)
                          clear hK81
                          refine wp_seq_k fun K86 hK86 => ?_
                          -- region 28 (law.go:225)
                          refine Sx.wp_text [(0, .take), (1, .take)] rfl ?_
                          refine Sx.st_take hT rfl rfl rfl rfl (Sx.x_move hT rfl rfl) ?_
                          clear hT; intro a hT
                          refine Sx.st_take hT rfl rfl rfl rfl ((fun w => Sx.x_eq w hT rfl rfl rfl)) ?_
                          clear hT; intro a hT
                          replace hT := hT.keep [137, 135, 17, 84, 72, 0, 1, 2, 7, 11, 12, 13, 14] rfl
                          refine Sx.ser_nil ?_
                          refine Sx.then_normal (hK86 _ _ ?_)
                          clear hK86
                          -- cond 9
                          refine Sx.wp_if hT rfl (fun hc87 => ?_) (fun hc87 => ?_)
                          · exfalso
                            try simp only [decide_eq_true_eq, decide_eq_false_iff_not, Bool.not_eq_true', Bool.not_eq_false', Bool.not_eq_true, Bool.not_eq_false, Bool.and_eq_true, Bool.or_eq_false_iff, beq_iff_eq, bne_iff_ne, Int.not_lt, Int.not_le, ne_eq] at hc87
                            simp at hc87
                          · try simp only [decide_eq_true_eq, decide_eq_false_iff_not, Bool.not_eq_true', Bool.not_eq_false', Bool.not_eq_true, Bool.not_eq_false, Bool.and_eq_true, Bool.or_eq_false_iff, beq_iff_eq, bne_iff_ne, Int.not_lt, Int.not_le, ne_eq] at hc87
                            refine wp_skip ?_
                            refine Sx.block_normal ?_
                            refine Sx.then_normal (hK29 _ _ ?_)
                            clear hK29
                            -- region 18 (law.go:211)
                            refine Sx.wp_text [(0, .take), (1, .take), (2, .take)] rfl ?_
                            refine Sx.st_take hT rfl rfl rfl rfl (Sx.x_move hT rfl rfl) ?_
                            clear hT; intro a hT
                            refine Sx.st_take hT rfl rfl rfl rfl ((fun w => Sx.x_add w hT rfl rfl rfl (Sx.wrap64 (by omega)))) ?_
                            clear hT; intro a hT
                            refine Sx.st_take hT rfl rfl rfl rfl (Sx.x_assign hT rfl rfl) ?_
                            clear hT; intro a hT
                            replace hT := hT.keep [14, 137, 135, 17, 84, 72, 0, 1, 2, 7, 11, 12, 13] rfl
                            refine Sx.ser_nil ?_
                            refine Sx.then_normal ?_
                            exact ⟨⟨i + 1, j, sr, sl, ms, F, ad2, c2⟩, ⟨by show i + 1 ≤ _; omega, X, hn, hF, hS, hSo, hSA, by show j ≤ sl.length; omega, by show sl.length ≤ i + 1; omega, hmap, (hT.keep [0, 1, 2, 7, 11, 12, 13, 14] rfl)⟩, by show _ - (i + 1) < _ - i; omega⟩
                      · exfalso
                        try simp only [decide_eq_true_eq, decide_eq_false_iff_not, Bool.not_eq_true', Bool.not_eq_false', Bool.not_eq_true, Bool.not_eq_false, Bool.and_eq_true, Bool.or_eq_false_iff, beq_iff_eq, bne_iff_ne, Int.not_lt, Int.not_le, ne_eq] at hc84
                        simp at hc84
              · try simp only [decide_eq_true_eq, decide_eq_false_iff_not, Bool.not_eq_true', Bool.not_eq_false', Bool.not_eq_true, Bool.not_eq_false, Bool.and_eq_true, Bool.or_eq_false_iff, beq_iff_eq, bne_iff_ne, Int.not_lt, Int.not_le, ne_eq] at hc32
                refine Sx.st_skip hT rfl rfl rfl rfl ?_
                clear hT; intro a hT
                refine Sx.st_skip hT rfl rfl rfl rfl ?_
                clear hT; intro a hT
                refine Sx.st_skip hT rfl rfl rfl rfl ?_
                clear hT; intro a hT
                refine Sx.st_runskip hT rfl rfl rfl rfl ?_
                clear hT; intro a hT
                refine Sx.st_take hT rfl rfl rfl rfl (Sx.x_pick_f hT rfl rfl rfl) ?_
                clear hT; intro a hT
                replace hT := hT.keep [84, 72, 0, 1, 2, 7, 11, 12, 13, 14] rfl
                refine Sx.ser_nil ?_
                refine Sx.then_normal (hK31 _ _ ?_)
                clear hK31
                refine Sx.wp_if hT rfl (fun h => by cases h) (fun _ => ?_)
                refine wp_skip ?_
                refine Sx.then_normal (hK30 _ _ ?_)
                clear hK30
                refine wp_seq_k fun K88 hK88 => ?_
                by_cases hroom : ((ms).length : Int) < most
                · skip
                  -- region 25 (law.go:221)
                  refine Sx.wp_text [(0, .take), (1, .take), (2, .take), (3, .take), (4, .take), (5, .take), (6, .take), (7, .run), (8, .run), (9, .take)] rfl ?_
                  refine Sx.st_take hT rfl rfl rfl rfl (Sx.x_move hT rfl rfl) ?_
                  clear hT; intro a hT
                  refine Sx.st_take hT rfl rfl rfl rfl (Sx.x_move hT rfl rfl) ?_
                  clear hT; intro a hT
                  refine Sx.st_take hT rfl rfl rfl rfl (Sx.x_move hT rfl rfl) ?_
                  clear hT; intro a hT
                  refine Sx.st_take hT rfl rfl rfl rfl ((fun w => Sx.x_add w hT rfl rfl rfl (Sx.wrap64 (by omega)))) ?_
                  clear hT; intro a hT
                  refine Sx.st_take hT rfl rfl rfl rfl (Sx.x_move hT rfl rfl) ?_
                  clear hT; intro a hT
                  refine Sx.st_take hT rfl rfl rfl rfl (Sx.x_move hT rfl rfl) ?_
                  clear hT; intro a hT
                  refine Sx.st_take hT rfl rfl rfl rfl (Sx.x_index hT rfl Try.underlying42 Try.ti30 (by first | exact (h.ss.sv.ext_no X) | exact (hb.sv.ext_no X) | exact hS.sv) rfl rfl rfl (by omega)) ?_
                  clear hT; intro a hT
                  refine Sx.st_run hT rfl rfl rfl rfl (Sx.x_load1 hT rfl Try.fl30 rfl (by first | exact (ss_one RB.len (h.ss.ext_no X) hr9 rfl) | exact (ss_one bit_len (hb.ext_no X) htb rfl))) ?_
                  clear hT; intro a hT
                  refine Sx.st_call hT rfl rfl rfl rfl rfl Try.can10 rfl (nSend_ok hn i (i + 1) r.ad r.n r.c l (by omega) (hrl.bs.ext_no X) hrl.n hrl.nil (by have := hrl.n; omega)) ?_
                  have hz1 := X.size
                  have hSl := hS.lt
                  rintro _ w5 ⟨rfl, hn2, E⟩
                  refine ⟨_, rfl, ?_⟩
                  clear hT; intro a hT
                  replace X := X.trans E (fun i hi h9 => absurd hi (by have := hF i h9; omega))
                  replace hS := hS.ext E (fun k hk h9 => (hSo k hk).2 h9)
                  obtain ⟨F2, hn3, hF2, hSo2⟩ : ∃ F2 : Nat → Prop, Net _ p most (ms ++ [⟨i, i + 1, l⟩]) F2 ∧ (∀ k, F2 k → w.heap.size ≤ k) ∧ (∀ k, Own ad2 k → w.heap.size ≤ k ∧ ¬ F2 k) := ⟨_, hn2, fun k hk => hk.elim (hF k) (fun h9 => by omega), fun k hk => ⟨(hSo k hk).1, fun h9 => h9.elim (hSo k hk).2 (fun h8 => by have := hSl k hk; omega)⟩⟩
                  clear hn2 hn E
                  have hn := hn3
                  clear hn3
                  refine Sx.st_take hT rfl rfl rfl rfl (Sx.x_assign hT rfl rfl) ?_
                  clear hT; intro a hT
                  replace hT := hT.keep [17, 84, 72, 0, 1, 2, 7, 11, 12, 13, 14] rfl
                  refine Sx.ser_nil ?_
                  refine Sx.then_normal (hK88 _ _ ?_)
                  clear hK88
                  refine wp_seq_k fun K89 hK89 => ?_
                  refine wp_seq_k fun K90 hK90 => ?_
                  -- region 26 (law.go:222)
                  refine Sx.wp_text [(0, .take), (1, .take), (2, .take), (3, .take), (4, .take), (5, .take), (6, .take), (7, .take), (8, .take), (9, .take), (10, .take), (11, .take), (12, .take), (13, .take), (14, .take), (15, .take)] rfl ?_
                  refine Sx.st_take hT rfl rfl rfl rfl (Sx.x_move hT rfl rfl) ?_
                  clear hT; intro a hT
                  refine Sx.st_take hT rfl rfl rfl rfl ((fun w => Sx.x_eq w hT rfl rfl rfl)) ?_
                  clear hT; intro a hT
                  refine Sx.st_take hT rfl rfl rfl rfl (Sx.x_move hT rfl rfl) ?_
                  clear hT; intro a hT
                  refine Sx.st_take hT rfl rfl rfl rfl (Sx.x_move hT rfl rfl) ?_
                  clear hT; intro a hT
                  refine Sx.st_take hT rfl rfl rfl rfl ((fun w => Sx.x_sub w hT rfl rfl rfl (Sx.wrap64 (by omega)))) ?_
                  clear hT; intro a hT
                  refine Sx.st_take hT rfl rfl rfl rfl (Sx.x_move hT rfl rfl) ?_
                  clear hT; intro a hT
                  refine Sx.st_take hT rfl rfl rfl rfl ((fun w => Sx.x_lt w hT rfl rfl rfl)) ?_
                  clear hT; intro a hT
                  refine Sx.st_take hT rfl rfl rfl rfl (Sx.x_neb hT rfl Try.underlying4 rfl rfl) ?_
                  clear hT; intro a hT
                  refine Sx.st_take hT rfl rfl rfl rfl (Sx.x_move hT rfl rfl) ?_
                  clear hT; intro a hT
                  -- guard (26, 8)
                  refine Sx.Sl.two hT 128 rfl (fun hc91 hT => ?_) (fun hc91 hT => ?_)
                  · exfalso
                    try simp only [decide_eq_true_eq, decide_eq_false_iff_not, Bool.not_eq_true', Bool.not_eq_false', Bool.not_eq_true, Bool.not_eq_false, Bool.and_eq_true, Bool.or_eq_false_iff, beq_iff_eq, bne_iff_ne, Int.not_lt, Int.not_le, ne_eq] at hc91
                    first | omega | (simp at hc91; omega) | simp at hc91
                  · try simp only [decide_eq_true_eq, decide_eq_false_iff_not, Bool.not_eq_true', Bool.not_eq_false', Bool.not_eq_true, Bool.not_eq_false, Bool.and_eq_true, Bool.or_eq_false_iff, beq_iff_eq, bne_iff_ne, Int.not_lt, Int.not_le, ne_eq] at hc91
                    refine Sx.st_take hT rfl rfl rfl rfl (Sx.x_move hT rfl rfl) ?_
                    clear hT; intro a hT
                    refine Sx.st_take hT rfl rfl rfl rfl ((fun w => Sx.x_ne w hT rfl rfl rfl)) ?_
                    clear hT; intro a hT
                    refine Sx.st_take hT rfl rfl rfl rfl (Sx.x_move hT rfl rfl) ?_
                    clear hT; intro a hT
                    -- guard (26, 11)
                    refine Sx.Sl.two hT 131 rfl (fun hc92 hT => ?_) (fun hc92 hT => ?_)
                    · exfalso
                      try simp only [decide_eq_true_eq, decide_eq_false_iff_not, Bool.not_eq_true', Bool.not_eq_false', Bool.not_eq_true, Bool.not_eq_false, Bool.and_eq_true, Bool.or_eq_false_iff, beq_iff_eq, bne_iff_ne, Int.not_lt, Int.not_le, ne_eq] at hc92
                      simp at hc92
                    · try simp only [decide_eq_true_eq, decide_eq_false_iff_not, Bool.not_eq_true', Bool.not_eq_false', Bool.not_eq_true, Bool.not_eq_false, Bool.and_eq_true, Bool.or_eq_false_iff, beq_iff_eq, bne_iff_ne, Int.not_lt, Int.not_le, ne_eq] at hc92
                      refine Sx.st_skip hT rfl rfl rfl rfl ?_
                      clear hT; intro a hT
                      refine Sx.st_skip hT rfl rfl rfl rfl ?_
                      clear hT; intro a hT
                      refine Sx.st_take hT rfl rfl rfl rfl (Sx.x_pick_f hT rfl rfl rfl) ?_
                      clear hT; intro a hT
                      refine Sx.st_take hT rfl rfl rfl rfl (Sx.x_pick_f hT rfl rfl rfl) ?_
                      clear hT; intro a hT
                      replace hT := hT.keep [135, 17, 84, 72, 0, 1, 2, 7, 11, 12, 13, 14] rfl
                      refine Sx.ser_nil ?_
                      refine Sx.then_normal (hK90 _ _ ?_)
                      clear hK90
                      refine Sx.wp_if hT rfl (fun h => by cases h) (fun _ => ?_)
                      refine wp_skip ?_
                      refine Sx.then_normal (hK89 _ _ ?_)
                      clear hK89
                      refine wp_seq_k fun K93 hK93 => ?_
                      -- region 28 (law.go:225)
                      refine Sx.wp_text [(0, .take), (1, .take)] rfl ?_
                      refine Sx.st_take hT rfl rfl rfl rfl (Sx.x_move hT rfl rfl) ?_
                      clear hT; intro a hT
                      refine Sx.st_take hT rfl rfl rfl rfl ((fun w => Sx.x_eq w hT rfl rfl rfl)) ?_
                      clear hT; intro a hT
                      replace hT := hT.keep [137, 135, 17, 84, 72, 0, 1, 2, 7, 11, 12, 13, 14] rfl
                      refine Sx.ser_nil ?_
                      refine Sx.then_normal (hK93 _ _ ?_)
                      clear hK93
                      -- cond 9
                      refine Sx.wp_if hT rfl (fun hc94 => ?_) (fun hc94 => ?_)
                      · try simp only [decide_eq_true_eq, decide_eq_false_iff_not, Bool.not_eq_true', Bool.not_eq_false', Bool.not_eq_true, Bool.not_eq_false, Bool.and_eq_true, Bool.or_eq_false_iff, beq_iff_eq, bne_iff_ne, Int.not_lt, Int.not_le, ne_eq] at hc94
                        refine wp_seq_k fun K95 hK95 => ?_
                        -- region 29 (law.go:226)
                        refine Sx.wp_text [(0, .take), (1, .take), (2, .take), (3, .take), (4, .run), (5, .run), (6, .run), (7, .take)] rfl ?_
                        refine Sx.st_take hT rfl rfl rfl rfl (Sx.x_move hT rfl rfl) ?_
                        clear hT; intro a hT
                        refine Sx.st_take hT rfl rfl rfl rfl (Sx.x_move hT rfl rfl) ?_
                        clear hT; intro a hT
                        refine Sx.st_take hT rfl rfl rfl rfl (Sx.x_move hT rfl rfl) ?_
                        clear hT; intro a hT
                        refine Sx.st_take hT rfl rfl rfl rfl (Sx.x_index hT rfl Try.underlying42 Try.ti30 (by first | exact (h.ss.sv.ext_no X) | exact (hb.sv.ext_no X) | exact hS.sv) rfl rfl rfl (by omega)) ?_
                        clear hT; intro a hT
                        refine Sx.st_run hT rfl rfl rfl rfl (Sx.x_load1 hT rfl Try.fl30 rfl (by first | exact (ss_one RB.len (h.ss.ext_no X) hr9 rfl) | exact (ss_one bit_len (hb.ext_no X) htb rfl))) ?_
                        clear hT; intro a hT
                        refine Sx.st_eff hT rfl rfl rfl rfl (Sx.y_slice1 hT rfl Try.underlying42 Try.ti30 rfl rfl rfl rfl rfl rfl _) ?_
                        clear hT; rintro _ w6 ⟨b1, rfl, N⟩ a hT
                        have hb1 : w.heap.size ≤ b1 := by rw [N.at_]; exact X.size
                        try (have hf_b1 : ∀ k, F k → k < b1 := fun k hk => by have := hn.lt k hk; have := N.at_; omega)
                        have hs_b1 : ∀ k, Own ad2 k → k < b1 := fun k hk => by have := hS.lt k hk; have := N.at_; omega
                        try (have hd_b1 := fun h0 => Nat.lt_of_lt_of_le (hto.bs.lt h0) (Nat.le_of_eq N.at_.symm))
                        try (have hg_b1 : ∀ k, F2 k → k < b1 := fun k hk => by have := hn.lt k hk; have := N.at_; omega)
                        replace X := X.step N.ext
                        replace hn := hn.ext_no N.ext
                        replace hS := hS.ext_no N.ext
                        have B1 := N.blk
                        clear N
                        refine Sx.st_eff hT rfl rfl rfl rfl (Sx.x_append hT rfl rfl Try.underlying42 Try.ti30 rfl (by decide) rfl rfl hS (B1.sv1 rfl) (by simp [Value.oneCell']) (fun h => by cases h) (by unfold maxLen; omega) (by omega)) ?_
                        have hz1 := X.size
                        have hnl := hn.lt
                        clear hT; rintro _ w7 ⟨ad3, c3, rfl, hS2, E, hown, -⟩ a hT
                        replace X := X.trans E (fun i hi h9 => absurd hi (by have := (hSo2 i h9).1; omega))
                        replace hn := hn.ext E (fun k hk h9 => (hSo2 k h9).2 hk)
                        have hSo3 : ∀ k, Own ad3 k → w.heap.size ≤ k ∧ ¬ F2 k := fun k hk => (hown k hk).elim (hSo2 k) (fun h9 => ⟨by omega, fun h8 => by have := hnl k h8; omega⟩)
                        clear hS E hown hSo2 hnl
                        refine Sx.st_take hT rfl rfl rfl rfl (Sx.x_assign hT rfl rfl) ?_
                        clear hT; intro a hT
                        replace hT := hT.keep [13, 137, 135, 17, 84, 72, 0, 1, 2, 7, 11, 12, 14] rfl
                        refine Sx.ser_nil ?_
                        refine Sx.then_normal (hK95 _ _ ?_)
                        clear hK95
                        -- region 30 (law.go:227)
                        refine Sx.wp_text [(0, .take), (1, .take), (2, .take)] rfl ?_
                        refine Sx.st_take hT rfl rfl rfl rfl (Sx.x_move hT rfl rfl) ?_
                        clear hT; intro a hT
                        refine Sx.st_take hT rfl rfl rfl rfl ((fun w => Sx.x_add w hT rfl rfl rfl (Sx.wrap64 (by omega)))) ?_
                        clear hT; intro a hT
                        refine Sx.st_take hT rfl rfl rfl rfl (Sx.x_assign hT rfl rfl) ?_
                        clear hT; intro a hT
                        replace hT := hT.keep [12, 13, 137, 135, 17, 84, 72, 0, 1, 2, 7, 11, 14] rfl
                        refine Sx.ser_nil ?_
                        refine Sx.block_normal ?_
                        refine Sx.then_normal (hK29 _ _ ?_)
                        clear hK29
                        -- region 18 (law.go:211)
                        refine Sx.wp_text [(0, .take), (1, .take), (2, .take)] rfl ?_
                        refine Sx.st_take hT rfl rfl rfl rfl (Sx.x_move hT rfl rfl) ?_
                        clear hT; intro a hT
                        refine Sx.st_take hT rfl rfl rfl rfl ((fun w => Sx.x_add w hT rfl rfl rfl (Sx.wrap64 (by omega)))) ?_
                        clear hT; intro a hT
                        refine Sx.st_take hT rfl rfl rfl rfl (Sx.x_assign hT rfl rfl) ?_
                        clear hT; intro a hT
                        replace hT := hT.keep [14, 12, 13, 137, 135, 17, 84, 72, 0, 1, 2, 7, 11] rfl
                        refine Sx.ser_nil ?_
                        refine Sx.then_normal ?_
                        exact ⟨⟨i + 1, j, sr ++ [r], sl ++ [l], ms ++ [⟨i, i + 1, l⟩], F2, ad3, c3⟩, ⟨by show i + 1 ≤ _; omega, X, hn, hF2, by simpa [RB.cells] using hS2, hSo3, hSA.append (All2.single hrl), by show j ≤ (sl ++ [l]).length; simp; omega, by show (sl ++ [l]).length ≤ i + 1; simp; omega, by show (ms ++ [_]).map _ = (sl ++ [l]).drop j; rw [List.map_append, hmap, List.drop_append_of_le_length (by omega)]; rfl, (hT.keep [0, 1, 2, 7, 11, 12, 13, 14] rfl).conv (by simp)⟩, by show _ - (i + 1) < _ - i; omega⟩
                      · exfalso
                        try simp only [decide_eq_true_eq, decide_eq_false_iff_not, Bool.not_eq_true', Bool.not_eq_false', Bool.not_eq_true, Bool.not_eq_false, Bool.and_eq_true, Bool.or_eq_false_iff, beq_iff_eq, bne_iff_ne, Int.not_lt, Int.not_le, ne_eq] at hc94
                        simp at hc94
                · skip
                  -- region 25 (law.go:221)
                  refine Sx.wp_text [(0, .take), (1, .take), (2, .take), (3, .take), (4, .take), (5, .take), (6, .take), (7, .run), (8, .run), (9, .take)] rfl ?_
                  refine Sx.st_take hT rfl rfl rfl rfl (Sx.x_move hT rfl rfl) ?_
                  clear hT; intro a hT
                  refine Sx.st_take hT rfl rfl rfl rfl (Sx.x_move hT rfl rfl) ?_
                  clear hT; intro a hT
                  refine Sx.st_take hT rfl rfl rfl rfl (Sx.x_move hT rfl rfl) ?_
                  clear hT; intro a hT
                  refine Sx.st_take hT rfl rfl rfl rfl ((fun w => Sx.x_add w hT rfl rfl rfl (Sx.wrap64 (by omega)))) ?_
                  clear hT; intro a hT
                  refine Sx.st_take hT rfl rfl rfl rfl (Sx.x_move hT rfl rfl) ?_
                  clear hT; intro a hT
                  refine Sx.st_take hT rfl rfl rfl rfl (Sx.x_move hT rfl rfl) ?_
                  clear hT; intro a hT
                  refine Sx.st_take hT rfl rfl rfl rfl (Sx.x_index hT rfl Try.underlying42 Try.ti30 (by first | exact (h.ss.sv.ext_no X) | exact (hb.sv.ext_no X) | exact hS.sv) rfl rfl rfl (by omega)) ?_
                  clear hT; intro a hT
                  refine Sx.st_run hT rfl rfl rfl rfl (Sx.x_load1 hT rfl Try.fl30 rfl (by first | exact (ss_one RB.len (h.ss.ext_no X) hr9 rfl) | exact (ss_one bit_len (hb.ext_no X) htb rfl))) ?_
                  clear hT; intro a hT
                  refine Sx.st_call hT rfl rfl rfl rfl rfl Try.can10 rfl (nSend_full hn i (i + 1) r.ad r.n r.c (by omega)) ?_
                  rintro _ w5 ⟨rfl, E⟩
                  refine ⟨_, rfl, ?_⟩
                  clear hT; intro a hT
                  replace X := X.step E
                  replace hn := hn.ext_no E
                  replace hS := hS.ext_no E
                  refine Sx.st_take hT rfl rfl rfl rfl (Sx.x_assign hT rfl rfl) ?_
                  clear hT; intro a hT
                  replace hT := hT.keep [17, 84, 72, 0, 1, 2, 7, 11, 12, 13, 14] rfl
                  refine Sx.ser_nil ?_
                  refine Sx.then_normal (hK88 _ _ ?_)
                  clear hK88
                  refine wp_seq_k fun K96 hK96 => ?_
                  refine wp_seq_k fun K97 hK97 => ?_
                  -- region 26 (law.go:222)
                  refine Sx.wp_text [(0, .take), (1, .take), (2, .take), (3, .take), (4, .take), (5, .take), (6, .take), (7, .take), (8, .take), (9, .take), (10, .take), (11, .take), (12, .take), (13, .take), (14, .take), (15, .take)] rfl ?_
                  refine Sx.st_take hT rfl rfl rfl rfl (Sx.x_move hT rfl rfl) ?_
                  clear hT; intro a hT
                  refine Sx.st_take hT rfl rfl rfl rfl ((fun w => Sx.x_eq w hT rfl rfl rfl)) ?_
                  clear hT; intro a hT
                  refine Sx.st_take hT rfl rfl rfl rfl (Sx.x_move hT rfl rfl) ?_
                  clear hT; intro a hT
                  refine Sx.st_take hT rfl rfl rfl rfl (Sx.x_move hT rfl rfl) ?_
                  clear hT; intro a hT
                  refine Sx.st_take hT rfl rfl rfl rfl ((fun w => Sx.x_sub w hT rfl rfl rfl (Sx.wrap64 (by omega)))) ?_
                  clear hT; intro a hT
                  refine Sx.st_take hT rfl rfl rfl rfl (Sx.x_move hT rfl rfl) ?_
                  clear hT; intro a hT
                  refine Sx.st_take hT rfl rfl rfl rfl ((fun w => Sx.x_lt w hT rfl rfl rfl)) ?_
                  clear hT; intro a hT
                  refine Sx.st_take hT rfl rfl rfl rfl (Sx.x_neb hT rfl Try.underlying4 rfl rfl) ?_
                  clear hT; intro a hT
                  refine Sx.st_take hT rfl rfl rfl rfl (Sx.x_move hT rfl rfl) ?_
                  clear hT; intro a hT
                  -- guard (26, 8)
                  refine Sx.Sl.two hT 128 rfl (fun hc98 hT => ?_) (fun hc98 hT => ?_)
                  · exfalso
                    try simp only [decide_eq_true_eq, decide_eq_false_iff_not, Bool.not_eq_true', Bool.not_eq_false', Bool.not_eq_true, Bool.not_eq_false, Bool.and_eq_true, Bool.or_eq_false_iff, beq_iff_eq, bne_iff_ne, Int.not_lt, Int.not_le, ne_eq] at hc98
                    first | omega | (simp at hc98; omega) | simp at hc98
                  · try simp only [decide_eq_true_eq, decide_eq_false_iff_not, Bool.not_eq_true', Bool.not_eq_false', Bool.not_eq_true, Bool.not_eq_false, Bool.and_eq_true, Bool.or_eq_false_iff, beq_iff_eq, bne_iff_ne, Int.not_lt, Int.not_le, ne_eq] at hc98
                    refine Sx.st_take hT rfl rfl rfl rfl (Sx.x_move hT rfl rfl) ?_
                    clear hT; intro a hT
                    refine Sx.st_take hT rfl rfl rfl rfl ((fun w => Sx.x_ne w hT rfl rfl rfl)) ?_
                    clear hT; intro a hT
                    refine Sx.st_take hT rfl rfl rfl rfl (Sx.x_move hT rfl rfl) ?_
                    clear hT; intro a hT
                    -- guard (26, 11)
                    refine Sx.Sl.two hT 131 rfl (fun hc99 hT => ?_) (fun hc99 hT => ?_)
                    · try simp only [decide_eq_true_eq, decide_eq_false_iff_not, Bool.not_eq_true', Bool.not_eq_false', Bool.not_eq_true, Bool.not_eq_false, Bool.and_eq_true, Bool.or_eq_false_iff, beq_iff_eq, bne_iff_ne, Int.not_lt, Int.not_le, ne_eq] at hc99
                      refine Sx.st_take hT rfl rfl rfl rfl (Sx.x_move hT rfl rfl) ?_
                      clear hT; intro a hT
                      refine Sx.st_take hT rfl rfl rfl rfl ((fun w => Sx.x_ne w hT rfl rfl rfl)) ?_
                      clear hT; intro a hT
                      refine Sx.st_take hT rfl rfl rfl rfl (Sx.x_pick_t hT rfl rfl rfl) ?_
                      clear hT; intro a hT
                      refine Sx.st_take hT rfl rfl rfl rfl (Sx.x_pick_f hT rfl rfl rfl) ?_
                      clear hT; intro a hT
                      replace hT := hT.keep [135, 17, 84, 72, 0, 1, 2, 7, 11, 12, 13, 14] rfl
                      refine Sx.ser_nil ?_
                      refine Sx.then_normal (hK97 _ _ ?_)
                      clear hK97
                      -- cond 8
                      refine Sx.wp_if hT rfl (fun hc100 => ?_) (fun hc100 => ?_)
                      · exfalso
                        try simp only [decide_eq_true_eq, decide_eq_false_iff_not, Bool.not_eq_true', Bool.not_eq_false', Bool.not_eq_true, Bool.not_eq_false, Bool.and_eq_true, Bool.or_eq_false_iff, beq_iff_eq, bne_iff_ne, Int.not_lt, Int.not_le, ne_eq] at hc100
                        first | omega | (simp at hc100; omega) | simp at hc100
                      · try simp only [decide_eq_true_eq, decide_eq_false_iff_not, Bool.not_eq_true', Bool.not_eq_false', Bool.not_eq_true, Bool.not_eq_false, Bool.and_eq_true, Bool.or_eq_false_iff, beq_iff_eq, bne_iff_ne, Int.not_lt, Int.not_le, ne_eq] at hc100
                        refine wp_skip ?_
                        refine Sx.then_normal (hK96 _ _ ?_)
                        clear hK96
                        refine wp_seq_k fun K101 hK101 => ?_
                        -- region 28 (law.go:225)
                        refine Sx.wp_text [(0, .take), (1, .take)] rfl ?_
                        refine Sx.st_take hT rfl rfl rfl rfl (Sx.x_move hT rfl rfl) ?_
                        clear hT; intro a hT
                        refine Sx.st_take hT rfl rfl rfl rfl ((fun w => Sx.x_eq w hT rfl rfl rfl)) ?_
                        clear hT; intro a hT
                        replace hT := hT.keep [137, 135, 17, 84, 72, 0, 1, 2, 7, 11, 12, 13, 14] rfl
                        refine Sx.ser_nil ?_
                        refine Sx.then_normal (hK101 _ _ ?_)
                        clear hK101
                        -- cond 9
                        refine Sx.wp_if hT rfl (fun hc102 => ?_) (fun hc102 => ?_)
                        · exfalso
                          try simp only [decide_eq_true_eq, decide_eq_false_iff_not, Bool.not_eq_true', Bool.not_eq_false', Bool.not_eq_true, Bool.not_eq_false, Bool.and_eq_true, Bool.or_eq_false_iff, beq_iff_eq, bne_iff_ne, Int.not_lt, Int.not_le, ne_eq] at hc102
                          simp at hc102
                        · try simp only [decide_eq_true_eq, decide_eq_false_iff_not, Bool.not_eq_true', Bool.not_eq_false', Bool.not_eq_true, Bool.not_eq_false, Bool.and_eq_true, Bool.or_eq_false_iff, beq_iff_eq, bne_iff_ne, Int.not_lt, Int.not_le, ne_eq] at hc102
                          refine wp_skip ?_
                          refine Sx.block_normal ?_
                          refine Sx.then_normal (hK29 _ _ ?_)
                          clear hK29
                          -- region 18 (law.go:211)
                          refine Sx.wp_text [(0, .take), (1, .take), (2, .take)] rfl ?_
                          refine Sx.st_take hT rfl rfl rfl rfl (Sx.x_move hT rfl rfl) ?_
                          clear hT; intro a hT
                          refine Sx.st_take hT rfl rfl rfl rfl ((fun w => Sx.x_add w hT rfl rfl rfl (Sx.wrap64 (by omega)))) ?_
                          clear hT; intro a hT
                          refine Sx.st_take hT rfl rfl rfl rfl (Sx.x_assign hT rfl rfl) ?_
                          clear hT; intro a hT
                          replace hT := hT.keep [14, 137, 135, 17, 84, 72, 0, 1, 2, 7, 11, 12, 13] rfl
                          refine Sx.ser_nil ?_
                          refine Sx.then_normal ?_
                          exact ⟨⟨i + 1, j, sr, sl, ms, F, ad2, c2⟩, ⟨by show i + 1 ≤ _; omega, X, hn, hF, hS, hSo, hSA, by show j ≤ sl.length; omega, by show sl.length ≤ i + 1; omega, hmap, (hT.keep [0, 1, 2, 7, 11, 12, 13, 14] rfl)⟩, by show _ - (i + 1) < _ - i; omega⟩
                    · exfalso
                      try simp only [decide_eq_true_eq, decide_eq_false_iff_not, Bool.not_eq_true', Bool.not_eq_false', Bool.not_eq_true, Bool.not_eq_false, Bool.and_eq_true, Bool.or_eq_false_iff, beq_iff_eq, bne_iff_ne, Int.not_lt, Int.not_le, ne_eq] at hc99
                      simp at hc99
            · try simp only [decide_eq_true_eq, decide_eq_false_iff_not, Bool.not_eq_true', Bool.not_eq_false', Bool.not_eq_true, Bool.not_eq_false, Bool.and_eq_true, Bool.or_eq_false_iff, beq_iff_eq, bne_iff_ne, Int.not_lt, Int.not_le, ne_eq] at hc28
              refine wp_exit ?_
              refine Sx.then_exit ?_
              refine Sx.then_exit ?_
              refine Sx.block_exit ?_
              refine Sx.then_normal (hK24 _ _ ?_)
              clear hK24
              refine wp_seq_k fun K103 hK103 => ?_
              -- region 31 (law.go:230)
              refine Sx.wp_text [(0, .run), (1, .take), (2, .take), (3, .run), (4, .take), (5, .take), (6, .take), (7, .take), (8, .take), (9, .take)] rfl ?_
              refine Sx.st_call hT rfl rfl rfl rfl rfl Try.can7 rfl (first_calls _) ?_
              rintro _ w5 ⟨rfl, E⟩
              refine ⟨_, rfl, ?_⟩
              clear hT; intro a hT
              replace X := X.step E
              replace hn := hn.ext_no E
              replace hS := hS.ext_no E
              refine Sx.st_take hT rfl rfl rfl rfl (Sx.x_move hT rfl rfl) ?_
              clear hT; intro a hT
              refine Sx.st_take hT rfl rfl rfl rfl (Sx.x_move hT rfl rfl) ?_
              clear hT; intro a hT
              refine Sx.st_call hT rfl rfl rfl rfl rfl Try.can13 rfl (nLen_calls hn) ?_
              rintro _ w6 ⟨rfl, E⟩
              refine ⟨_, rfl, ?_⟩
              clear hT; intro a hT
              replace X := X.step E
              replace hn := hn.ext_no E
              replace hS := hS.ext_no E
              refine Sx.st_take hT rfl rfl rfl rfl (Sx.x_move hT rfl rfl) ?_
              clear hT; intro a hT
              refine Sx.st_take hT rfl rfl rfl rfl (Sx.x_move hT rfl rfl) ?_
              clear hT; intro a hT
              refine Sx.st_take hT rfl rfl rfl rfl ((fun w => Sx.x_sub w hT rfl rfl rfl (Sx.wrap64 (by omega)))) ?_
              clear hT; intro a hT
              refine Sx.st_take hT rfl rfl rfl rfl ((fun w => Sx.x_eq w hT rfl rfl rfl)) ?_
              clear hT; intro a hT
              refine Sx.st_take hT rfl rfl rfl rfl (Sx.x_pick_t hT rfl rfl rfl) ?_
              clear hT; intro a hT
              refine Sx.st_take hT rfl rfl rfl rfl (Sx.x_assign hT rfl rfl) ?_
              clear hT; intro a hT
              replace hT := hT.keep [6, 72, 0, 1, 2, 7, 11, 12, 13, 14] rfl
              refine Sx.ser_nil ?_
              refine Sx.then_normal (hK103 _ _ ?_)
              clear hK103
              refine wp_ret ?_
              refine Sx.done1 (fn := Try.f4) hT rfl (.tmp (hT.get 6 _ rfl)) ?_
              exact ⟨congrArg (fun b => Ending.returned (.bool b)) (by simp; omega), X⟩

end Go.Proofs.Ytgcelppbbjokeaa
