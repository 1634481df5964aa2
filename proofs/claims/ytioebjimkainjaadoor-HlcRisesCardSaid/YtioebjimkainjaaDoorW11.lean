/- Walks: HlcRises. -/
import Derived.Test.YtioebjimkainjaaDoorW6
import Derived.Test.YtioebjimkainjaaDoorP1
set_option linter.unusedSimpArgs false
set_option linter.unusedVariables false
namespace Go.Proofs.YtioebjimkainjaaDoor
open Sx
theorem Tryd.ti4 : Sx.TI Tryd.prog 4 (.bool false) 1 1 := .mk' (by kernel_rfl)
theorem Tryd.ti33 : Sx.TI Tryd.prog 33 (.pointer none) 1 8 := .mk' (by kernel_rfl)
theorem Tryd.fl4 : Sx.Flat Tryd.prog 4 := ⟨_, Tryd.underlying4, trivial⟩
theorem Tryd.fl33 : Sx.Flat Tryd.prog 33 := ⟨_, Tryd.underlying33, trivial⟩
theorem Tryd.fv23_1 : Sx.FV Tryd.prog 23 1 1 3 := ⟨_, _, Tryd.underlying23, rfl, rfl, rfl⟩
theorem Tryd.can5 : Sx.Can Tryd.prog 5 := ⟨_, Tryd.func5, by kernel_rfl, rfl⟩
theorem lexlt_cmp {x y : Stamp} (h : lexlt x y) (n : Int) : cmp ⟨x.wall, x.logical, n⟩ y < 0 := by
  unfold lexlt at h
  unfold cmp order
  dsimp only
  (repeat' split) <;> omega
theorem flat_snoc (l : List Stamp) (s : Stamp) : l.flatMap stc ++ [.int .i64 s.wall, .int .i64 s.logical, .int .i64 s.node] = (l ++ [s]).flatMap stc := by simp [stc]
theorem len_snoc (l : List Stamp) (s : Stamp) : l.length + 1 = (l ++ [s]).length := by simp
theorem RI.start {a b x y z : Int} (ha : 1 ≤ a ∧ a ≤ 63) (hb : 1 ≤ b ∧ b ≤ 63) (hm : may ⟨x, y, z⟩ = true) : RI a b ⟨x, y, a⟩ ⟨x, y, b⟩ ⟨x, y, z⟩ ⟨x, y, z⟩ x [] := by
  have h := mayI hm
  dsimp only at h
  refine ⟨mayM ?_, mayM ?_, rfl, rfl, ?_, ?_, ?_, ?_, fun t ht => by cases ht⟩ <;> (try unfold lexle) <;> dsimp only <;> omega

theorem Rises_no1 (n1 n2 x y z : Int) (adp : Option Addr) (cp : Nat) (phys : List Int) (adw : Option Addr) (cw : Nat) (which : List Bool) (adh : Option Addr) (ch : Nat) (hears : List Bool) (w : World) (hsp : Ss w adp icell 1 phys) (hsw : Ss w adw bcell 1 which) (hsh : Ss w adh bcell 1 hears) (hlp : phys.length ≤ 9223372036854775807) (hlw : which.length ≤ 9223372036854775807) (hlh : hears.length ≤ 9223372036854775807) (h1 : ¬ (1 ≤ n1 ∧ n1 ≤ 63 ∧ may ⟨x, y, z⟩ = true)) : Calls Tryd.prog 5 #[.int .i64 n1, .int .i64 n2, .agg #[.int .i64 x, .int .i64 y, .int .i64 z], .slice adp phys.length cp, .slice adw which.length cw, .slice adh hears.length ch] w fun e w' => e = .returned (.bool true) ∧ Ext No w w' := by
  have Rp : Ro w No _ := Ro.of fun w' x => hsp.ext_no x
  have Rw : Ro w No _ := Ro.of fun w' x => hsw.ext_no x
  have Rh : Ro w No _ := Ro.of fun w' x => hsh.ext_no x
  refine Sx.calls_into Tryd.func5 rfl Tryd.ntmps5 rfl fun a hT => ?_
  replace hT := hT.keep [0, 1, 2, 3, 4, 5] rfl
  have H : Sx.Hp w (Sx.No) w [] := Sx.Hp.start _ _
  refine wp_seq_k fun K1 hK1 => ?_
  -- region 0 (law.go:85)
  refine Sx.wp_text [(0, .run), (1, .take)] rfl ?_
  refine Sx.st_eff hT rfl rfl rfl rfl (Sx.y_box hT rfl rfl rfl _) ?_
  clear hT; rintro _ w1 ⟨b1, rfl, N⟩ a hT
  replace H := H.new N; clear N
  refine Sx.st_take hT rfl rfl rfl rfl (Sx.x_assign hT rfl rfl) ?_
  clear hT; intro a hT
  replace hT := hT.keep [12, 8, 0, 1, 2, 3, 4, 5] rfl
  refine Sx.ser_nil ?_
  refine Sx.then_normal (hK1 _ _ ?_)
  clear hK1
  refine wp_seq_k fun K2 hK2 => ?_
  refine wp_seq_k fun K3 hK3 => ?_
  -- region 1 (law.go:86)
  refine Sx.wp_text [(0, .run), (1, .take)] rfl ?_
  refine Sx.st_call hT rfl rfl rfl rfl rfl Tryd.can10 rfl (first_calls _) ?_
  rintro _ w2 ⟨rfl, E⟩
  refine ⟨_, rfl, ?_⟩
  clear hT; intro a hT
  replace H := H.pure E; clear E
  refine Sx.st_take hT rfl rfl rfl rfl (Sx.x_not hT rfl rfl) ?_
  clear hT; intro a hT
  replace hT := hT.keep [28, 12, 8, 0, 1, 2, 3, 4, 5] rfl
  refine Sx.ser_nil ?_
  refine Sx.then_normal (hK3 _ _ ?_)
  clear hK3
  refine Sx.wp_if hT rfl (fun h => by cases h) (fun _ => ?_)
  refine wp_skip ?_
  refine Sx.then_normal (hK2 _ _ ?_)
  clear hK2
  refine wp_seq_k fun K4 hK4 => ?_
  -- region 3 (law.go:89)
  refine Sx.wp_text [(0, .take), (1, .run), (2, .run), (3, .take), (4, .take), (5, .take), (6, .take), (7, .take)] rfl ?_
  refine Sx.st_take hT rfl rfl rfl rfl (Sx.x_move hT rfl rfl) ?_
  clear hT; intro a hT
  refine Sx.st_run hT rfl rfl rfl rfl (Sx.y_loadS hT rfl Tryd.underlying23 Tryd.ti23 rfl ((H.blk 0 rfl).seg (k := 3) rfl) (by rfl)) ?_
  clear hT; intro a hT
  refine Sx.st_call hT rfl rfl rfl rfl rfl Tryd.can21 rfl (New_no n1 x y z _ h1) ?_
  rintro _ w3 ⟨rfl, E⟩
  refine ⟨_, rfl, ?_⟩
  clear hT; intro a hT
  replace H := H.pure E; clear E
  refine Sx.st_take hT rfl rfl rfl rfl (Sx.x_move hT rfl rfl) ?_
  clear hT; intro a hT
  refine Sx.st_take hT rfl rfl rfl rfl (Sx.x_extractL hT rfl rfl rfl) ?_
  clear hT; intro a hT
  refine Sx.st_take hT rfl rfl rfl rfl (Sx.x_extractL hT rfl rfl rfl) ?_
  clear hT; intro a hT
  refine Sx.st_take hT rfl rfl rfl rfl (Sx.x_assign hT rfl rfl) ?_
  clear hT; intro a hT
  refine Sx.st_take hT rfl rfl rfl rfl (Sx.x_assign hT rfl rfl) ?_
  clear hT; intro a hT
  replace hT := hT.keep [14, 13, 28, 12, 8, 0, 1, 2, 3, 4, 5] rfl
  refine Sx.ser_nil ?_
  refine Sx.then_normal (hK4 _ _ ?_)
  clear hK4
  refine wp_seq_k fun K5 hK5 => ?_
  by_cases h2 : (1 ≤ n2 ∧ n2 ≤ 63 ∧ may ⟨x, y, z⟩ = true)
  · skip
    -- region 4 (law.go:90)
    refine Sx.wp_text [(0, .take), (1, .run), (2, .run), (3, .take), (4, .take), (5, .take), (6, .take), (7, .take)] rfl ?_
    refine Sx.st_take hT rfl rfl rfl rfl (Sx.x_move hT rfl rfl) ?_
    clear hT; intro a hT
    refine Sx.st_run hT rfl rfl rfl rfl (Sx.y_loadS hT rfl Tryd.underlying23 Tryd.ti23 rfl ((H.blk 0 rfl).seg (k := 3) rfl) (by rfl)) ?_
    clear hT; intro a hT
    refine Sx.st_call hT rfl rfl rfl rfl rfl Tryd.can21 rfl (New_yes n2 x y z _ h2.1 h2.2.1 h2.2.2) ?_
    rintro _ w4 ⟨pd, rfl, K⟩
    refine ⟨_, rfl, ?_⟩
    clear hT; intro a hT
    replace H := H.more K rfl; clear K
    refine Sx.st_take hT rfl rfl rfl rfl (Sx.x_move hT rfl rfl) ?_
    clear hT; intro a hT
    refine Sx.st_take hT rfl rfl rfl rfl (Sx.x_extractL hT rfl rfl rfl) ?_
    clear hT; intro a hT
    refine Sx.st_take hT rfl rfl rfl rfl (Sx.x_extractL hT rfl rfl rfl) ?_
    clear hT; intro a hT
    refine Sx.st_take hT rfl rfl rfl rfl (Sx.x_assign hT rfl rfl) ?_
    clear hT; intro a hT
    refine Sx.st_take hT rfl rfl rfl rfl (Sx.x_assign hT rfl rfl) ?_
    clear hT; intro a hT
    replace hT := hT.keep [16, 15, 14, 13, 28, 12, 8, 0, 1, 2, 3, 4, 5] rfl
    refine Sx.ser_nil ?_
    refine Sx.then_normal (hK5 _ _ ?_)
    clear hK5
    refine wp_seq_k fun K6 hK6 => ?_
    refine wp_seq_k fun K7 hK7 => ?_
    -- region 5 (law.go:91)
    refine Sx.wp_text [(0, .take), (1, .take), (2, .take), (3, .take), (4, .take), (5, .take), (6, .take), (7, .take), (8, .take), (9, .take), (10, .take), (11, .take), (12, .take), (13, .take), (14, .take), (15, .take), (16, .take), (17, .take), (18, .take)] rfl ?_
    refine Sx.st_take hT rfl rfl rfl rfl (Sx.x_move hT rfl rfl) ?_
    clear hT; intro a hT
    refine Sx.st_take hT rfl rfl rfl rfl ((fun w => Sx.x_ne w hT rfl rfl rfl)) ?_
    clear hT; intro a hT
    refine Sx.st_take hT rfl rfl rfl rfl (Sx.x_move hT rfl rfl) ?_
    clear hT; intro a hT
    -- guard (5, 2)
    refine Sx.Sl.two hT 43 rfl (fun hc8 hT => ?_) (fun hc8 hT => ?_)
    · try simp only [decide_eq_true_eq, decide_eq_false_iff_not, Bool.not_eq_true', Bool.not_eq_false', Bool.not_eq_true, Bool.not_eq_false, Bool.and_eq_true, Bool.or_eq_false_iff, beq_iff_eq, bne_iff_ne, Int.not_lt, Int.not_le, ne_eq] at hc8
      refine Sx.st_skip hT rfl rfl rfl rfl ?_
      clear hT; intro a hT
      refine Sx.st_skip hT rfl rfl rfl rfl ?_
      clear hT; intro a hT
      refine Sx.st_take hT rfl rfl rfl rfl (Sx.x_pick_t hT rfl rfl rfl) ?_
      clear hT; intro a hT
      refine Sx.st_take hT rfl rfl rfl rfl (Sx.x_move hT rfl rfl) ?_
      clear hT; intro a hT
      refine Sx.st_skip hT rfl rfl rfl rfl ?_
      clear hT; intro a hT
      refine Sx.st_skip hT rfl rfl rfl rfl ?_
      clear hT; intro a hT
      refine Sx.st_take hT rfl rfl rfl rfl (Sx.x_pick_t hT rfl rfl rfl) ?_
      clear hT; intro a hT
      refine Sx.st_take hT rfl rfl rfl rfl (Sx.x_move hT rfl rfl) ?_
      clear hT; intro a hT
      refine Sx.st_skip hT rfl rfl rfl rfl ?_
      clear hT; intro a hT
      refine Sx.st_skip hT rfl rfl rfl rfl ?_
      clear hT; intro a hT
      refine Sx.st_take hT rfl rfl rfl rfl (Sx.x_pick_t hT rfl rfl rfl) ?_
      clear hT; intro a hT
      refine Sx.st_take hT rfl rfl rfl rfl (Sx.x_move hT rfl rfl) ?_
      clear hT; intro a hT
      refine Sx.st_skip hT rfl rfl rfl rfl ?_
      clear hT; intro a hT
      refine Sx.st_skip hT rfl rfl rfl rfl ?_
      clear hT; intro a hT
      refine Sx.st_skip hT rfl rfl rfl rfl ?_
      clear hT; intro a hT
      refine Sx.st_take hT rfl rfl rfl rfl (Sx.x_pick_t hT rfl rfl rfl) ?_
      clear hT; intro a hT
      replace hT := hT.keep [59, 16, 15, 14, 13, 28, 12, 8, 0, 1, 2, 3, 4, 5] rfl
      refine Sx.ser_nil ?_
      refine Sx.then_normal (hK7 _ _ ?_)
      clear hK7
      refine Sx.wp_if hT rfl (fun _ => ?_) (fun h => by cases h)
      refine wp_seq_k fun K9 hK9 => ?_
      -- region 6 (law.go:92)
      refine Sx.wp_text [(0, .run), (1, .take)] rfl ?_
      refine Sx.st_call hT rfl rfl rfl rfl rfl Tryd.can10 rfl (first_calls _) ?_
      rintro _ w5 ⟨rfl, E⟩
      refine ⟨_, rfl, ?_⟩
      clear hT; intro a hT
      replace H := H.pure E; clear E
      refine Sx.st_take hT rfl rfl rfl rfl (Sx.x_assign hT rfl rfl) ?_
      clear hT; intro a hT
      replace hT := hT.keep [12, 59, 16, 15, 14, 13, 28, 8, 0, 1, 2, 3, 4, 5] rfl
      refine Sx.ser_nil ?_
      refine Sx.then_normal (hK9 _ _ ?_)
      clear hK9
      refine wp_ret ?_
      refine Sx.then_ret ?_
      refine Sx.done1 (fn := Tryd.f5) hT rfl (.tmp (hT.get 12 _ rfl)) ?_
      first | exact ⟨rfl, H.ext⟩ | exact ⟨ret_b (by simp), H.ext⟩
    · exfalso
      try simp only [decide_eq_true_eq, decide_eq_false_iff_not, Bool.not_eq_true', Bool.not_eq_false', Bool.not_eq_true, Bool.not_eq_false, Bool.and_eq_true, Bool.or_eq_false_iff, beq_iff_eq, bne_iff_ne, Int.not_lt, Int.not_le, ne_eq] at hc8
      (split at hc8 <;> omega)
  · skip
    -- region 4 (law.go:90)
    refine Sx.wp_text [(0, .take), (1, .run), (2, .run), (3, .take), (4, .take), (5, .take), (6, .take), (7, .take)] rfl ?_
    refine Sx.st_take hT rfl rfl rfl rfl (Sx.x_move hT rfl rfl) ?_
    clear hT; intro a hT
    refine Sx.st_run hT rfl rfl rfl rfl (Sx.y_loadS hT rfl Tryd.underlying23 Tryd.ti23 rfl ((H.blk 0 rfl).seg (k := 3) rfl) (by rfl)) ?_
    clear hT; intro a hT
    refine Sx.st_call hT rfl rfl rfl rfl rfl Tryd.can21 rfl (New_no n2 x y z _ h2) ?_
    rintro _ w6 ⟨rfl, E⟩
    refine ⟨_, rfl, ?_⟩
    clear hT; intro a hT
    replace H := H.pure E; clear E
    refine Sx.st_take hT rfl rfl rfl rfl (Sx.x_move hT rfl rfl) ?_
    clear hT; intro a hT
    refine Sx.st_take hT rfl rfl rfl rfl (Sx.x_extractL hT rfl rfl rfl) ?_
    clear hT; intro a hT
    refine Sx.st_take hT rfl rfl rfl rfl (Sx.x_extractL hT rfl rfl rfl) ?_
    clear hT; intro a hT
    refine Sx.st_take hT rfl rfl rfl rfl (Sx.x_assign hT rfl rfl) ?_
    clear hT; intro a hT
    refine Sx.st_take hT rfl rfl rfl rfl (Sx.x_assign hT rfl rfl) ?_
    clear hT; intro a hT
    replace hT := hT.keep [16, 15, 14, 13, 28, 12, 8, 0, 1, 2, 3, 4, 5] rfl
    refine Sx.ser_nil ?_
    refine Sx.then_normal (hK5 _ _ ?_)
    clear hK5
    refine wp_seq_k fun K10 hK10 => ?_
    refine wp_seq_k fun K11 hK11 => ?_
    -- region 5 (law.go:91)
    refine Sx.wp_text [(0, .take), (1, .take), (2, .take), (3, .take), (4, .take), (5, .take), (6, .take), (7, .take), (8, .take), (9, .take), (10, .take), (11, .take), (12, .take), (13, .take), (14, .take), (15, .take), (16, .take), (17, .take), (18, .take)] rfl ?_
    refine Sx.st_take hT rfl rfl rfl rfl (Sx.x_move hT rfl rfl) ?_
    clear hT; intro a hT
    refine Sx.st_take hT rfl rfl rfl rfl ((fun w => Sx.x_ne w hT rfl rfl rfl)) ?_
    clear hT; intro a hT
    refine Sx.st_take hT rfl rfl rfl rfl (Sx.x_move hT rfl rfl) ?_
    clear hT; intro a hT
    -- guard (5, 2)
    refine Sx.Sl.two hT 43 rfl (fun hc12 hT => ?_) (fun hc12 hT => ?_)
    · try simp only [decide_eq_true_eq, decide_eq_false_iff_not, Bool.not_eq_true', Bool.not_eq_false', Bool.not_eq_true, Bool.not_eq_false, Bool.and_eq_true, Bool.or_eq_false_iff, beq_iff_eq, bne_iff_ne, Int.not_lt, Int.not_le, ne_eq] at hc12
      refine Sx.st_skip hT rfl rfl rfl rfl ?_
      clear hT; intro a hT
      refine Sx.st_skip hT rfl rfl rfl rfl ?_
      clear hT; intro a hT
      refine Sx.st_take hT rfl rfl rfl rfl (Sx.x_pick_t hT rfl rfl rfl) ?_
      clear hT; intro a hT
      refine Sx.st_take hT rfl rfl rfl rfl (Sx.x_move hT rfl rfl) ?_
      clear hT; intro a hT
      refine Sx.st_skip hT rfl rfl rfl rfl ?_
      clear hT; intro a hT
      refine Sx.st_skip hT rfl rfl rfl rfl ?_
      clear hT; intro a hT
      refine Sx.st_take hT rfl rfl rfl rfl (Sx.x_pick_t hT rfl rfl rfl) ?_
      clear hT; intro a hT
      refine Sx.st_take hT rfl rfl rfl rfl (Sx.x_move hT rfl rfl) ?_
      clear hT; intro a hT
      refine Sx.st_skip hT rfl rfl rfl rfl ?_
      clear hT; intro a hT
      refine Sx.st_skip hT rfl rfl rfl rfl ?_
      clear hT; intro a hT
      refine Sx.st_take hT rfl rfl rfl rfl (Sx.x_pick_t hT rfl rfl rfl) ?_
      clear hT; intro a hT
      refine Sx.st_take hT rfl rfl rfl rfl (Sx.x_move hT rfl rfl) ?_
      clear hT; intro a hT
      refine Sx.st_skip hT rfl rfl rfl rfl ?_
      clear hT; intro a hT
      refine Sx.st_skip hT rfl rfl rfl rfl ?_
      clear hT; intro a hT
      refine Sx.st_skip hT rfl rfl rfl rfl ?_
      clear hT; intro a hT
      refine Sx.st_take hT rfl rfl rfl rfl (Sx.x_pick_t hT rfl rfl rfl) ?_
      clear hT; intro a hT
      replace hT := hT.keep [59, 16, 15, 14, 13, 28, 12, 8, 0, 1, 2, 3, 4, 5] rfl
      refine Sx.ser_nil ?_
      refine Sx.then_normal (hK11 _ _ ?_)
      clear hK11
      refine Sx.wp_if hT rfl (fun _ => ?_) (fun h => by cases h)
      refine wp_seq_k fun K13 hK13 => ?_
      -- region 6 (law.go:92)
      refine Sx.wp_text [(0, .run), (1, .take)] rfl ?_
      refine Sx.st_call hT rfl rfl rfl rfl rfl Tryd.can10 rfl (first_calls _) ?_
      rintro _ w7 ⟨rfl, E⟩
      refine ⟨_, rfl, ?_⟩
      clear hT; intro a hT
      replace H := H.pure E; clear E
      refine Sx.st_take hT rfl rfl rfl rfl (Sx.x_assign hT rfl rfl) ?_
      clear hT; intro a hT
      replace hT := hT.keep [12, 59, 16, 15, 14, 13, 28, 8, 0, 1, 2, 3, 4, 5] rfl
      refine Sx.ser_nil ?_
      refine Sx.then_normal (hK13 _ _ ?_)
      clear hK13
      refine wp_ret ?_
      refine Sx.then_ret ?_
      refine Sx.done1 (fn := Tryd.f5) hT rfl (.tmp (hT.get 12 _ rfl)) ?_
      first | exact ⟨rfl, H.ext⟩ | exact ⟨ret_b (by simp), H.ext⟩
    · exfalso
      try simp only [decide_eq_true_eq, decide_eq_false_iff_not, Bool.not_eq_true', Bool.not_eq_false', Bool.not_eq_true, Bool.not_eq_false, Bool.and_eq_true, Bool.or_eq_false_iff, beq_iff_eq, bne_iff_ne, Int.not_lt, Int.not_le, ne_eq] at hc12
      (split at hc12 <;> omega)

theorem Rises_no2 (n1 n2 x y z : Int) (adp : Option Addr) (cp : Nat) (phys : List Int) (adw : Option Addr) (cw : Nat) (which : List Bool) (adh : Option Addr) (ch : Nat) (hears : List Bool) (w : World) (hsp : Ss w adp icell 1 phys) (hsw : Ss w adw bcell 1 which) (hsh : Ss w adh bcell 1 hears) (hlp : phys.length ≤ 9223372036854775807) (hlw : which.length ≤ 9223372036854775807) (hlh : hears.length ≤ 9223372036854775807) (h1 : (1 ≤ n1 ∧ n1 ≤ 63 ∧ may ⟨x, y, z⟩ = true)) (h2 : ¬ (1 ≤ n2 ∧ n2 ≤ 63 ∧ may ⟨x, y, z⟩ = true)) : Calls Tryd.prog 5 #[.int .i64 n1, .int .i64 n2, .agg #[.int .i64 x, .int .i64 y, .int .i64 z], .slice adp phys.length cp, .slice adw which.length cw, .slice adh hears.length ch] w fun e w' => e = .returned (.bool true) ∧ Ext No w w' := by
  have Rp : Ro w No _ := Ro.of fun w' x => hsp.ext_no x
  have Rw : Ro w No _ := Ro.of fun w' x => hsw.ext_no x
  have Rh : Ro w No _ := Ro.of fun w' x => hsh.ext_no x
  refine Sx.calls_into Tryd.func5 rfl Tryd.ntmps5 rfl fun a hT => ?_
  replace hT := hT.keep [0, 1, 2, 3, 4, 5] rfl
  have H : Sx.Hp w (Sx.No) w [] := Sx.Hp.start _ _
  refine wp_seq_k fun K1 hK1 => ?_
  -- region 0 (law.go:85)
  refine Sx.wp_text [(0, .run), (1, .take)] rfl ?_
  refine Sx.st_eff hT rfl rfl rfl rfl (Sx.y_box hT rfl rfl rfl _) ?_
  clear hT; rintro _ w1 ⟨b1, rfl, N⟩ a hT
  replace H := H.new N; clear N
  refine Sx.st_take hT rfl rfl rfl rfl (Sx.x_assign hT rfl rfl) ?_
  clear hT; intro a hT
  replace hT := hT.keep [12, 8, 0, 1, 2, 3, 4, 5] rfl
  refine Sx.ser_nil ?_
  refine Sx.then_normal (hK1 _ _ ?_)
  clear hK1
  refine wp_seq_k fun K2 hK2 => ?_
  refine wp_seq_k fun K3 hK3 => ?_
  -- region 1 (law.go:86)
  refine Sx.wp_text [(0, .run), (1, .take)] rfl ?_
  refine Sx.st_call hT rfl rfl rfl rfl rfl Tryd.can10 rfl (first_calls _) ?_
  rintro _ w2 ⟨rfl, E⟩
  refine ⟨_, rfl, ?_⟩
  clear hT; intro a hT
  replace H := H.pure E; clear E
  refine Sx.st_take hT rfl rfl rfl rfl (Sx.x_not hT rfl rfl) ?_
  clear hT; intro a hT
  replace hT := hT.keep [28, 12, 8, 0, 1, 2, 3, 4, 5] rfl
  refine Sx.ser_nil ?_
  refine Sx.then_normal (hK3 _ _ ?_)
  clear hK3
  refine Sx.wp_if hT rfl (fun h => by cases h) (fun _ => ?_)
  refine wp_skip ?_
  refine Sx.then_normal (hK2 _ _ ?_)
  clear hK2
  refine wp_seq_k fun K4 hK4 => ?_
  -- region 3 (law.go:89)
  refine Sx.wp_text [(0, .take), (1, .run), (2, .run), (3, .take), (4, .take), (5, .take), (6, .take), (7, .take)] rfl ?_
  refine Sx.st_take hT rfl rfl rfl rfl (Sx.x_move hT rfl rfl) ?_
  clear hT; intro a hT
  refine Sx.st_run hT rfl rfl rfl rfl (Sx.y_loadS hT rfl Tryd.underlying23 Tryd.ti23 rfl ((H.blk 0 rfl).seg (k := 3) rfl) (by rfl)) ?_
  clear hT; intro a hT
  refine Sx.st_call hT rfl rfl rfl rfl rfl Tryd.can21 rfl (New_yes n1 x y z _ h1.1 h1.2.1 h1.2.2) ?_
  rintro _ w3 ⟨pc, rfl, K⟩
  refine ⟨_, rfl, ?_⟩
  clear hT; intro a hT
  replace H := H.more K rfl; clear K
  refine Sx.st_take hT rfl rfl rfl rfl (Sx.x_move hT rfl rfl) ?_
  clear hT; intro a hT
  refine Sx.st_take hT rfl rfl rfl rfl (Sx.x_extractL hT rfl rfl rfl) ?_
  clear hT; intro a hT
  refine Sx.st_take hT rfl rfl rfl rfl (Sx.x_extractL hT rfl rfl rfl) ?_
  clear hT; intro a hT
  refine Sx.st_take hT rfl rfl rfl rfl (Sx.x_assign hT rfl rfl) ?_
  clear hT; intro a hT
  refine Sx.st_take hT rfl rfl rfl rfl (Sx.x_assign hT rfl rfl) ?_
  clear hT; intro a hT
  replace hT := hT.keep [14, 13, 28, 12, 8, 0, 1, 2, 3, 4, 5] rfl
  refine Sx.ser_nil ?_
  refine Sx.then_normal (hK4 _ _ ?_)
  clear hK4
  refine wp_seq_k fun K5 hK5 => ?_
  -- region 4 (law.go:90)
  refine Sx.wp_text [(0, .take), (1, .run), (2, .run), (3, .take), (4, .take), (5, .take), (6, .take), (7, .take)] rfl ?_
  refine Sx.st_take hT rfl rfl rfl rfl (Sx.x_move hT rfl rfl) ?_
  clear hT; intro a hT
  refine Sx.st_run hT rfl rfl rfl rfl (Sx.y_loadS hT rfl Tryd.underlying23 Tryd.ti23 rfl ((H.blk 1 rfl).seg (k := 3) rfl) (by rfl)) ?_
  clear hT; intro a hT
  refine Sx.st_call hT rfl rfl rfl rfl rfl Tryd.can21 rfl (New_no n2 x y z _ h2) ?_
  rintro _ w4 ⟨rfl, E⟩
  refine ⟨_, rfl, ?_⟩
  clear hT; intro a hT
  replace H := H.pure E; clear E
  refine Sx.st_take hT rfl rfl rfl rfl (Sx.x_move hT rfl rfl) ?_
  clear hT; intro a hT
  refine Sx.st_take hT rfl rfl rfl rfl (Sx.x_extractL hT rfl rfl rfl) ?_
  clear hT; intro a hT
  refine Sx.st_take hT rfl rfl rfl rfl (Sx.x_extractL hT rfl rfl rfl) ?_
  clear hT; intro a hT
  refine Sx.st_take hT rfl rfl rfl rfl (Sx.x_assign hT rfl rfl) ?_
  clear hT; intro a hT
  refine Sx.st_take hT rfl rfl rfl rfl (Sx.x_assign hT rfl rfl) ?_
  clear hT; intro a hT
  replace hT := hT.keep [16, 15, 14, 13, 28, 12, 8, 0, 1, 2, 3, 4, 5] rfl
  refine Sx.ser_nil ?_
  refine Sx.then_normal (hK5 _ _ ?_)
  clear hK5
  refine wp_seq_k fun K6 hK6 => ?_
  refine wp_seq_k fun K7 hK7 => ?_
  -- region 5 (law.go:91)
  refine Sx.wp_text [(0, .take), (1, .take), (2, .take), (3, .take), (4, .take), (5, .take), (6, .take), (7, .take), (8, .take), (9, .take), (10, .take), (11, .take), (12, .take), (13, .take), (14, .take), (15, .take), (16, .take), (17, .take), (18, .take)] rfl ?_
  refine Sx.st_take hT rfl rfl rfl rfl (Sx.x_move hT rfl rfl) ?_
  clear hT; intro a hT
  refine Sx.st_take hT rfl rfl rfl rfl ((fun w => Sx.x_ne w hT rfl rfl rfl)) ?_
  clear hT; intro a hT
  refine Sx.st_take hT rfl rfl rfl rfl (Sx.x_move hT rfl rfl) ?_
  clear hT; intro a hT
  -- guard (5, 2)
  refine Sx.Sl.two hT 43 rfl (fun hc8 hT => ?_) (fun hc8 hT => ?_)
  · exfalso
    try simp only [decide_eq_true_eq, decide_eq_false_iff_not, Bool.not_eq_true', Bool.not_eq_false', Bool.not_eq_true, Bool.not_eq_false, Bool.and_eq_true, Bool.or_eq_false_iff, beq_iff_eq, bne_iff_ne, Int.not_lt, Int.not_le, ne_eq] at hc8
    first | (simp at hc8; done) | omega | (simp at hc8; omega) | (simp_all; done)
  · try simp only [decide_eq_true_eq, decide_eq_false_iff_not, Bool.not_eq_true', Bool.not_eq_false', Bool.not_eq_true, Bool.not_eq_false, Bool.and_eq_true, Bool.or_eq_false_iff, beq_iff_eq, bne_iff_ne, Int.not_lt, Int.not_le, ne_eq] at hc8
    refine Sx.st_take hT rfl rfl rfl rfl (Sx.x_move hT rfl rfl) ?_
    clear hT; intro a hT
    refine Sx.st_take hT rfl rfl rfl rfl ((fun w => Sx.x_ne w hT rfl rfl rfl)) ?_
    clear hT; intro a hT
    refine Sx.st_take hT rfl rfl rfl rfl (Sx.x_pick_f hT rfl rfl rfl) ?_
    clear hT; intro a hT
    refine Sx.st_take hT rfl rfl rfl rfl (Sx.x_move hT rfl rfl) ?_
    clear hT; intro a hT
    -- guard (5, 6)
    refine Sx.Sl.two hT 47 rfl (fun hc9 hT => ?_) (fun hc9 hT => ?_)
    · try simp only [decide_eq_true_eq, decide_eq_false_iff_not, Bool.not_eq_true', Bool.not_eq_false', Bool.not_eq_true, Bool.not_eq_false, Bool.and_eq_true, Bool.or_eq_false_iff, beq_iff_eq, bne_iff_ne, Int.not_lt, Int.not_le, ne_eq] at hc9
      refine Sx.st_skip hT rfl rfl rfl rfl ?_
      clear hT; intro a hT
      refine Sx.st_skip hT rfl rfl rfl rfl ?_
      clear hT; intro a hT
      refine Sx.st_take hT rfl rfl rfl rfl (Sx.x_pick_t hT rfl rfl rfl) ?_
      clear hT; intro a hT
      refine Sx.st_take hT rfl rfl rfl rfl (Sx.x_move hT rfl rfl) ?_
      clear hT; intro a hT
      refine Sx.st_skip hT rfl rfl rfl rfl ?_
      clear hT; intro a hT
      refine Sx.st_skip hT rfl rfl rfl rfl ?_
      clear hT; intro a hT
      refine Sx.st_take hT rfl rfl rfl rfl (Sx.x_pick_t hT rfl rfl rfl) ?_
      clear hT; intro a hT
      refine Sx.st_take hT rfl rfl rfl rfl (Sx.x_move hT rfl rfl) ?_
      clear hT; intro a hT
      refine Sx.st_skip hT rfl rfl rfl rfl ?_
      clear hT; intro a hT
      refine Sx.st_skip hT rfl rfl rfl rfl ?_
      clear hT; intro a hT
      refine Sx.st_skip hT rfl rfl rfl rfl ?_
      clear hT; intro a hT
      refine Sx.st_take hT rfl rfl rfl rfl (Sx.x_pick_t hT rfl rfl rfl) ?_
      clear hT; intro a hT
      replace hT := hT.keep [59, 16, 15, 14, 13, 28, 12, 8, 0, 1, 2, 3, 4, 5] rfl
      refine Sx.ser_nil ?_
      refine Sx.then_normal (hK7 _ _ ?_)
      clear hK7
      refine Sx.wp_if hT rfl (fun _ => ?_) (fun h => by cases h)
      refine wp_seq_k fun K10 hK10 => ?_
      -- region 6 (law.go:92)
      refine Sx.wp_text [(0, .run), (1, .take)] rfl ?_
      refine Sx.st_call hT rfl rfl rfl rfl rfl Tryd.can10 rfl (first_calls _) ?_
      rintro _ w5 ⟨rfl, E⟩
      refine ⟨_, rfl, ?_⟩
      clear hT; intro a hT
      replace H := H.pure E; clear E
      refine Sx.st_take hT rfl rfl rfl rfl (Sx.x_assign hT rfl rfl) ?_
      clear hT; intro a hT
      replace hT := hT.keep [12, 59, 16, 15, 14, 13, 28, 8, 0, 1, 2, 3, 4, 5] rfl
      refine Sx.ser_nil ?_
      refine Sx.then_normal (hK10 _ _ ?_)
      clear hK10
      refine wp_ret ?_
      refine Sx.then_ret ?_
      refine Sx.done1 (fn := Tryd.f5) hT rfl (.tmp (hT.get 12 _ rfl)) ?_
      first | exact ⟨rfl, H.ext⟩ | exact ⟨ret_b (by simp), H.ext⟩
    · exfalso
      try simp only [decide_eq_true_eq, decide_eq_false_iff_not, Bool.not_eq_true', Bool.not_eq_false', Bool.not_eq_true, Bool.not_eq_false, Bool.and_eq_true, Bool.or_eq_false_iff, beq_iff_eq, bne_iff_ne, Int.not_lt, Int.not_le, ne_eq] at hc9
      (split at hc9 <;> omega)

theorem Rises_same (n1 n2 x y z : Int) (adp : Option Addr) (cp : Nat) (phys : List Int) (adw : Option Addr) (cw : Nat) (which : List Bool) (adh : Option Addr) (ch : Nat) (hears : List Bool) (w : World) (hsp : Ss w adp icell 1 phys) (hsw : Ss w adw bcell 1 which) (hsh : Ss w adh bcell 1 hears) (hlp : phys.length ≤ 9223372036854775807) (hlw : which.length ≤ 9223372036854775807) (hlh : hears.length ≤ 9223372036854775807) (h1 : (1 ≤ n1 ∧ n1 ≤ 63 ∧ may ⟨x, y, z⟩ = true)) (h2 : (1 ≤ n2 ∧ n2 ≤ 63 ∧ may ⟨x, y, z⟩ = true)) (hab : n1 = n2) : Calls Tryd.prog 5 #[.int .i64 n1, .int .i64 n2, .agg #[.int .i64 x, .int .i64 y, .int .i64 z], .slice adp phys.length cp, .slice adw which.length cw, .slice adh hears.length ch] w fun e w' => e = .returned (.bool true) ∧ Ext No w w' := by
  have Rp : Ro w No _ := Ro.of fun w' x => hsp.ext_no x
  have Rw : Ro w No _ := Ro.of fun w' x => hsw.ext_no x
  have Rh : Ro w No _ := Ro.of fun w' x => hsh.ext_no x
  refine Sx.calls_into Tryd.func5 rfl Tryd.ntmps5 rfl fun a hT => ?_
  replace hT := hT.keep [0, 1, 2, 3, 4, 5] rfl
  have H : Sx.Hp w (Sx.No) w [] := Sx.Hp.start _ _
  refine wp_seq_k fun K1 hK1 => ?_
  -- region 0 (law.go:85)
  refine Sx.wp_text [(0, .run), (1, .take)] rfl ?_
  refine Sx.st_eff hT rfl rfl rfl rfl (Sx.y_box hT rfl rfl rfl _) ?_
  clear hT; rintro _ w1 ⟨b1, rfl, N⟩ a hT
  replace H := H.new N; clear N
  refine Sx.st_take hT rfl rfl rfl rfl (Sx.x_assign hT rfl rfl) ?_
  clear hT; intro a hT
  replace hT := hT.keep [12, 8, 0, 1, 2, 3, 4, 5] rfl
  refine Sx.ser_nil ?_
  refine Sx.then_normal (hK1 _ _ ?_)
  clear hK1
  refine wp_seq_k fun K2 hK2 => ?_
  refine wp_seq_k fun K3 hK3 => ?_
  -- region 1 (law.go:86)
  refine Sx.wp_text [(0, .run), (1, .take)] rfl ?_
  refine Sx.st_call hT rfl rfl rfl rfl rfl Tryd.can10 rfl (first_calls _) ?_
  rintro _ w2 ⟨rfl, E⟩
  refine ⟨_, rfl, ?_⟩
  clear hT; intro a hT
  replace H := H.pure E; clear E
  refine Sx.st_take hT rfl rfl rfl rfl (Sx.x_not hT rfl rfl) ?_
  clear hT; intro a hT
  replace hT := hT.keep [28, 12, 8, 0, 1, 2, 3, 4, 5] rfl
  refine Sx.ser_nil ?_
  refine Sx.then_normal (hK3 _ _ ?_)
  clear hK3
  refine Sx.wp_if hT rfl (fun h => by cases h) (fun _ => ?_)
  refine wp_skip ?_
  refine Sx.then_normal (hK2 _ _ ?_)
  clear hK2
  refine wp_seq_k fun K4 hK4 => ?_
  -- region 3 (law.go:89)
  refine Sx.wp_text [(0, .take), (1, .run), (2, .run), (3, .take), (4, .take), (5, .take), (6, .take), (7, .take)] rfl ?_
  refine Sx.st_take hT rfl rfl rfl rfl (Sx.x_move hT rfl rfl) ?_
  clear hT; intro a hT
  refine Sx.st_run hT rfl rfl rfl rfl (Sx.y_loadS hT rfl Tryd.underlying23 Tryd.ti23 rfl ((H.blk 0 rfl).seg (k := 3) rfl) (by rfl)) ?_
  clear hT; intro a hT
  refine Sx.st_call hT rfl rfl rfl rfl rfl Tryd.can21 rfl (New_yes n1 x y z _ h1.1 h1.2.1 h1.2.2) ?_
  rintro _ w3 ⟨pc, rfl, K⟩
  refine ⟨_, rfl, ?_⟩
  clear hT; intro a hT
  replace H := H.more K rfl; clear K
  refine Sx.st_take hT rfl rfl rfl rfl (Sx.x_move hT rfl rfl) ?_
  clear hT; intro a hT
  refine Sx.st_take hT rfl rfl rfl rfl (Sx.x_extractL hT rfl rfl rfl) ?_
  clear hT; intro a hT
  refine Sx.st_take hT rfl rfl rfl rfl (Sx.x_extractL hT rfl rfl rfl) ?_
  clear hT; intro a hT
  refine Sx.st_take hT rfl rfl rfl rfl (Sx.x_assign hT rfl rfl) ?_
  clear hT; intro a hT
  refine Sx.st_take hT rfl rfl rfl rfl (Sx.x_assign hT rfl rfl) ?_
  clear hT; intro a hT
  replace hT := hT.keep [14, 13, 28, 12, 8, 0, 1, 2, 3, 4, 5] rfl
  refine Sx.ser_nil ?_
  refine Sx.then_normal (hK4 _ _ ?_)
  clear hK4
  refine wp_seq_k fun K5 hK5 => ?_
  -- region 4 (law.go:90)
  refine Sx.wp_text [(0, .take), (1, .run), (2, .run), (3, .take), (4, .take), (5, .take), (6, .take), (7, .take)] rfl ?_
  refine Sx.st_take hT rfl rfl rfl rfl (Sx.x_move hT rfl rfl) ?_
  clear hT; intro a hT
  refine Sx.st_run hT rfl rfl rfl rfl (Sx.y_loadS hT rfl Tryd.underlying23 Tryd.ti23 rfl ((H.blk 1 rfl).seg (k := 3) rfl) (by rfl)) ?_
  clear hT; intro a hT
  refine Sx.st_call hT rfl rfl rfl rfl rfl Tryd.can21 rfl (New_yes n2 x y z _ h2.1 h2.2.1 h2.2.2) ?_
  rintro _ w4 ⟨pd, rfl, K⟩
  refine ⟨_, rfl, ?_⟩
  clear hT; intro a hT
  replace H := H.more K rfl; clear K
  refine Sx.st_take hT rfl rfl rfl rfl (Sx.x_move hT rfl rfl) ?_
  clear hT; intro a hT
  refine Sx.st_take hT rfl rfl rfl rfl (Sx.x_extractL hT rfl rfl rfl) ?_
  clear hT; intro a hT
  refine Sx.st_take hT rfl rfl rfl rfl (Sx.x_extractL hT rfl rfl rfl) ?_
  clear hT; intro a hT
  refine Sx.st_take hT rfl rfl rfl rfl (Sx.x_assign hT rfl rfl) ?_
  clear hT; intro a hT
  refine Sx.st_take hT rfl rfl rfl rfl (Sx.x_assign hT rfl rfl) ?_
  clear hT; intro a hT
  replace hT := hT.keep [16, 15, 14, 13, 28, 12, 8, 0, 1, 2, 3, 4, 5] rfl
  refine Sx.ser_nil ?_
  refine Sx.then_normal (hK5 _ _ ?_)
  clear hK5
  refine wp_seq_k fun K6 hK6 => ?_
  refine wp_seq_k fun K7 hK7 => ?_
  -- region 5 (law.go:91)
  refine Sx.wp_text [(0, .take), (1, .take), (2, .take), (3, .take), (4, .take), (5, .take), (6, .take), (7, .take), (8, .take), (9, .take), (10, .take), (11, .take), (12, .take), (13, .take), (14, .take), (15, .take), (16, .take), (17, .take), (18, .take)] rfl ?_
  refine Sx.st_take hT rfl rfl rfl rfl (Sx.x_move hT rfl rfl) ?_
  clear hT; intro a hT
  refine Sx.st_take hT rfl rfl rfl rfl ((fun w => Sx.x_ne w hT rfl rfl rfl)) ?_
  clear hT; intro a hT
  refine Sx.st_take hT rfl rfl rfl rfl (Sx.x_move hT rfl rfl) ?_
  clear hT; intro a hT
  -- guard (5, 2)
  refine Sx.Sl.two hT 43 rfl (fun hc8 hT => ?_) (fun hc8 hT => ?_)
  · exfalso
    try simp only [decide_eq_true_eq, decide_eq_false_iff_not, Bool.not_eq_true', Bool.not_eq_false', Bool.not_eq_true, Bool.not_eq_false, Bool.and_eq_true, Bool.or_eq_false_iff, beq_iff_eq, bne_iff_ne, Int.not_lt, Int.not_le, ne_eq] at hc8
    first | (simp at hc8; done) | omega | (simp at hc8; omega) | (simp_all; done)
  · try simp only [decide_eq_true_eq, decide_eq_false_iff_not, Bool.not_eq_true', Bool.not_eq_false', Bool.not_eq_true, Bool.not_eq_false, Bool.and_eq_true, Bool.or_eq_false_iff, beq_iff_eq, bne_iff_ne, Int.not_lt, Int.not_le, ne_eq] at hc8
    refine Sx.st_take hT rfl rfl rfl rfl (Sx.x_move hT rfl rfl) ?_
    clear hT; intro a hT
    refine Sx.st_take hT rfl rfl rfl rfl ((fun w => Sx.x_ne w hT rfl rfl rfl)) ?_
    clear hT; intro a hT
    refine Sx.st_take hT rfl rfl rfl rfl (Sx.x_pick_f hT rfl rfl rfl) ?_
    clear hT; intro a hT
    refine Sx.st_take hT rfl rfl rfl rfl (Sx.x_move hT rfl rfl) ?_
    clear hT; intro a hT
    -- guard (5, 6)
    refine Sx.Sl.two hT 47 rfl (fun hc9 hT => ?_) (fun hc9 hT => ?_)
    · exfalso
      try simp only [decide_eq_true_eq, decide_eq_false_iff_not, Bool.not_eq_true', Bool.not_eq_false', Bool.not_eq_true, Bool.not_eq_false, Bool.and_eq_true, Bool.or_eq_false_iff, beq_iff_eq, bne_iff_ne, Int.not_lt, Int.not_le, ne_eq] at hc9
      first | (simp at hc9; done) | omega | (simp at hc9; omega) | (simp_all; done)
    · try simp only [decide_eq_true_eq, decide_eq_false_iff_not, Bool.not_eq_true', Bool.not_eq_false', Bool.not_eq_true, Bool.not_eq_false, Bool.and_eq_true, Bool.or_eq_false_iff, beq_iff_eq, bne_iff_ne, Int.not_lt, Int.not_le, ne_eq] at hc9
      refine Sx.st_take hT rfl rfl rfl rfl (Sx.x_move hT rfl rfl) ?_
      clear hT; intro a hT
      refine Sx.st_take hT rfl rfl rfl rfl (Sx.x_eqnil_some hT rfl Tryd.underlying33 rfl rfl) ?_
      clear hT; intro a hT
      refine Sx.st_take hT rfl rfl rfl rfl (Sx.x_pick_f hT rfl rfl rfl) ?_
      clear hT; intro a hT
      refine Sx.st_take hT rfl rfl rfl rfl (Sx.x_move hT rfl rfl) ?_
      clear hT; intro a hT
      refine Sx.st_take hT rfl rfl rfl rfl (Sx.x_move hT rfl rfl) ?_
      clear hT; intro a hT
      refine Sx.st_take hT rfl rfl rfl rfl (Sx.x_eqnil_some hT rfl Tryd.underlying33 rfl rfl) ?_
      clear hT; intro a hT
      refine Sx.st_take hT rfl rfl rfl rfl (Sx.x_pick_f hT rfl rfl rfl) ?_
      clear hT; intro a hT
      refine Sx.st_take hT rfl rfl rfl rfl (Sx.x_move hT rfl rfl) ?_
      clear hT; intro a hT
      refine Sx.st_take hT rfl rfl rfl rfl (Sx.x_move hT rfl rfl) ?_
      clear hT; intro a hT
      refine Sx.st_take hT rfl rfl rfl rfl (Sx.x_move hT rfl rfl) ?_
      clear hT; intro a hT
      refine Sx.st_take hT rfl rfl rfl rfl ((fun w => Sx.x_eq w hT rfl rfl rfl)) ?_
      clear hT; intro a hT
      refine Sx.st_take hT rfl rfl rfl rfl (Sx.x_pick_f hT rfl rfl rfl) ?_
      clear hT; intro a hT
      replace hT := hT.keep [59, 16, 15, 14, 13, 28, 12, 8, 0, 1, 2, 3, 4, 5] rfl
      refine Sx.ser_nil ?_
      refine Sx.then_normal (hK7 _ _ ?_)
      clear hK7
      -- cond 1
      refine Sx.wp_if hT rfl (fun hc10 => ?_) (fun hc10 => ?_)
      · try simp only [decide_eq_true_eq, decide_eq_false_iff_not, Bool.not_eq_true', Bool.not_eq_false', Bool.not_eq_true, Bool.not_eq_false, Bool.and_eq_true, Bool.or_eq_false_iff, beq_iff_eq, bne_iff_ne, Int.not_lt, Int.not_le, ne_eq] at hc10
        refine wp_seq_k fun K11 hK11 => ?_
        -- region 6 (law.go:92)
        refine Sx.wp_text [(0, .run), (1, .take)] rfl ?_
        refine Sx.st_call hT rfl rfl rfl rfl rfl Tryd.can10 rfl (first_calls _) ?_
        rintro _ w5 ⟨rfl, E⟩
        refine ⟨_, rfl, ?_⟩
        clear hT; intro a hT
        replace H := H.pure E; clear E
        refine Sx.st_take hT rfl rfl rfl rfl (Sx.x_assign hT rfl rfl) ?_
        clear hT; intro a hT
        replace hT := hT.keep [12, 59, 16, 15, 14, 13, 28, 8, 0, 1, 2, 3, 4, 5] rfl
        refine Sx.ser_nil ?_
        refine Sx.then_normal (hK11 _ _ ?_)
        clear hK11
        refine wp_ret ?_
        refine Sx.then_ret ?_
        refine Sx.done1 (fn := Tryd.f5) hT rfl (.tmp (hT.get 12 _ rfl)) ?_
        first | exact ⟨rfl, H.ext⟩ | exact ⟨ret_b (by simp), H.ext⟩
      · exfalso
        try simp only [decide_eq_true_eq, decide_eq_false_iff_not, Bool.not_eq_true', Bool.not_eq_false', Bool.not_eq_true, Bool.not_eq_false, Bool.and_eq_true, Bool.or_eq_false_iff, beq_iff_eq, bne_iff_ne, Int.not_lt, Int.not_le, ne_eq] at hc10
        first | (simp at hc10; done) | omega | (simp at hc10; omega) | (simp_all; done)

set_option maxHeartbeats 1600000 in
theorem Rises_yes (n1 n2 x y z : Int) (adp : Option Addr) (cp : Nat) (phys : List Int) (adw : Option Addr) (cw : Nat) (which : List Bool) (adh : Option Addr) (ch : Nat) (hears : List Bool) (w : World) (hsp : Ss w adp icell 1 phys) (hsw : Ss w adw bcell 1 which) (hsh : Ss w adh bcell 1 hears) (hlp : phys.length ≤ 9223372036854775807) (hlw : which.length ≤ 9223372036854775807) (hlh : hears.length ≤ 9223372036854775807) (h1 : (1 ≤ n1 ∧ n1 ≤ 63 ∧ may ⟨x, y, z⟩ = true)) (h2 : (1 ≤ n2 ∧ n2 ≤ 63 ∧ may ⟨x, y, z⟩ = true)) (hab : ¬ n1 = n2) : Calls Tryd.prog 5 #[.int .i64 n1, .int .i64 n2, .agg #[.int .i64 x, .int .i64 y, .int .i64 z], .slice adp phys.length cp, .slice adw which.length cw, .slice adh hears.length ch] w fun e w' => e = .returned (.bool true) ∧ Ext No w w' := by
  have Rp : Ro w No _ := Ro.of fun w' x => hsp.ext_no x
  have Rw : Ro w No _ := Ro.of fun w' x => hsw.ext_no x
  have Rh : Ro w No _ := Ro.of fun w' x => hsh.ext_no x
  refine Sx.calls_into Tryd.func5 rfl Tryd.ntmps5 rfl fun a hT => ?_
  replace hT := hT.keep [0, 1, 2, 3, 4, 5] rfl
  have H : Sx.Hp w (Sx.No) w [] := Sx.Hp.start _ _
  refine wp_seq_k fun K1 hK1 => ?_
  -- region 0 (law.go:85)
  refine Sx.wp_text [(0, .run), (1, .take)] rfl ?_
  refine Sx.st_eff hT rfl rfl rfl rfl (Sx.y_box hT rfl rfl rfl _) ?_
  clear hT; rintro _ w1 ⟨b1, rfl, N⟩ a hT
  replace H := H.new N; clear N
  refine Sx.st_take hT rfl rfl rfl rfl (Sx.x_assign hT rfl rfl) ?_
  clear hT; intro a hT
  replace hT := hT.keep [12, 8, 0, 1, 2, 3, 4, 5] rfl
  refine Sx.ser_nil ?_
  refine Sx.then_normal (hK1 _ _ ?_)
  clear hK1
  refine wp_seq_k fun K2 hK2 => ?_
  refine wp_seq_k fun K3 hK3 => ?_
  -- region 1 (law.go:86)
  refine Sx.wp_text [(0, .run), (1, .take)] rfl ?_
  refine Sx.st_call hT rfl rfl rfl rfl rfl Tryd.can10 rfl (first_calls _) ?_
  rintro _ w2 ⟨rfl, E⟩
  refine ⟨_, rfl, ?_⟩
  clear hT; intro a hT
  replace H := H.pure E; clear E
  refine Sx.st_take hT rfl rfl rfl rfl (Sx.x_not hT rfl rfl) ?_
  clear hT; intro a hT
  replace hT := hT.keep [28, 12, 8, 0, 1, 2, 3, 4, 5] rfl
  refine Sx.ser_nil ?_
  refine Sx.then_normal (hK3 _ _ ?_)
  clear hK3
  refine Sx.wp_if hT rfl (fun h => by cases h) (fun _ => ?_)
  refine wp_skip ?_
  refine Sx.then_normal (hK2 _ _ ?_)
  clear hK2
  refine wp_seq_k fun K4 hK4 => ?_
  -- region 3 (law.go:89)
  refine Sx.wp_text [(0, .take), (1, .run), (2, .run), (3, .take), (4, .take), (5, .take), (6, .take), (7, .take)] rfl ?_
  refine Sx.st_take hT rfl rfl rfl rfl (Sx.x_move hT rfl rfl) ?_
  clear hT; intro a hT
  refine Sx.st_run hT rfl rfl rfl rfl (Sx.y_loadS hT rfl Tryd.underlying23 Tryd.ti23 rfl ((H.blk 0 rfl).seg (k := 3) rfl) (by rfl)) ?_
  clear hT; intro a hT
  refine Sx.st_call hT rfl rfl rfl rfl rfl Tryd.can21 rfl (New_yes n1 x y z _ h1.1 h1.2.1 h1.2.2) ?_
  rintro _ w3 ⟨pc, rfl, K⟩
  refine ⟨_, rfl, ?_⟩
  clear hT; intro a hT
  replace H := H.more K rfl; clear K
  refine Sx.st_take hT rfl rfl rfl rfl (Sx.x_move hT rfl rfl) ?_
  clear hT; intro a hT
  refine Sx.st_take hT rfl rfl rfl rfl (Sx.x_extractL hT rfl rfl rfl) ?_
  clear hT; intro a hT
  refine Sx.st_take hT rfl rfl rfl rfl (Sx.x_extractL hT rfl rfl rfl) ?_
  clear hT; intro a hT
  refine Sx.st_take hT rfl rfl rfl rfl (Sx.x_assign hT rfl rfl) ?_
  clear hT; intro a hT
  refine Sx.st_take hT rfl rfl rfl rfl (Sx.x_assign hT rfl rfl) ?_
  clear hT; intro a hT
  replace hT := hT.keep [14, 13, 28, 12, 8, 0, 1, 2, 3, 4, 5] rfl
  refine Sx.ser_nil ?_
  refine Sx.then_normal (hK4 _ _ ?_)
  clear hK4
  refine wp_seq_k fun K5 hK5 => ?_
  -- region 4 (law.go:90)
  refine Sx.wp_text [(0, .take), (1, .run), (2, .run), (3, .take), (4, .take), (5, .take), (6, .take), (7, .take)] rfl ?_
  refine Sx.st_take hT rfl rfl rfl rfl (Sx.x_move hT rfl rfl) ?_
  clear hT; intro a hT
  refine Sx.st_run hT rfl rfl rfl rfl (Sx.y_loadS hT rfl Tryd.underlying23 Tryd.ti23 rfl ((H.blk 1 rfl).seg (k := 3) rfl) (by rfl)) ?_
  clear hT; intro a hT
  refine Sx.st_call hT rfl rfl rfl rfl rfl Tryd.can21 rfl (New_yes n2 x y z _ h2.1 h2.2.1 h2.2.2) ?_
  rintro _ w4 ⟨pd, rfl, K⟩
  refine ⟨_, rfl, ?_⟩
  clear hT; intro a hT
  replace H := H.more K rfl; clear K
  refine Sx.st_take hT rfl rfl rfl rfl (Sx.x_move hT rfl rfl) ?_
  clear hT; intro a hT
  refine Sx.st_take hT rfl rfl rfl rfl (Sx.x_extractL hT rfl rfl rfl) ?_
  clear hT; intro a hT
  refine Sx.st_take hT rfl rfl rfl rfl (Sx.x_extractL hT rfl rfl rfl) ?_
  clear hT; intro a hT
  refine Sx.st_take hT rfl rfl rfl rfl (Sx.x_assign hT rfl rfl) ?_
  clear hT; intro a hT
  refine Sx.st_take hT rfl rfl rfl rfl (Sx.x_assign hT rfl rfl) ?_
  clear hT; intro a hT
  replace hT := hT.keep [16, 15, 14, 13, 28, 12, 8, 0, 1, 2, 3, 4, 5] rfl
  refine Sx.ser_nil ?_
  refine Sx.then_normal (hK5 _ _ ?_)
  clear hK5
  refine wp_seq_k fun K6 hK6 => ?_
  refine wp_seq_k fun K7 hK7 => ?_
  -- region 5 (law.go:91)
  refine Sx.wp_text [(0, .take), (1, .take), (2, .take), (3, .take), (4, .take), (5, .take), (6, .take), (7, .take), (8, .take), (9, .take), (10, .take), (11, .take), (12, .take), (13, .take), (14, .take), (15, .take), (16, .take), (17, .take), (18, .take)] rfl ?_
  refine Sx.st_take hT rfl rfl rfl rfl (Sx.x_move hT rfl rfl) ?_
  clear hT; intro a hT
  refine Sx.st_take hT rfl rfl rfl rfl ((fun w => Sx.x_ne w hT rfl rfl rfl)) ?_
  clear hT; intro a hT
  refine Sx.st_take hT rfl rfl rfl rfl (Sx.x_move hT rfl rfl) ?_
  clear hT; intro a hT
  -- guard (5, 2)
  refine Sx.Sl.two hT 43 rfl (fun hc8 hT => ?_) (fun hc8 hT => ?_)
  · exfalso
    try simp only [decide_eq_true_eq, decide_eq_false_iff_not, Bool.not_eq_true', Bool.not_eq_false', Bool.not_eq_true, Bool.not_eq_false, Bool.and_eq_true, Bool.or_eq_false_iff, beq_iff_eq, bne_iff_ne, Int.not_lt, Int.not_le, ne_eq] at hc8
    first | (simp at hc8; done) | omega | (simp at hc8; omega) | (simp_all; done)
  · try simp only [decide_eq_true_eq, decide_eq_false_iff_not, Bool.not_eq_true', Bool.not_eq_false', Bool.not_eq_true, Bool.not_eq_false, Bool.and_eq_true, Bool.or_eq_false_iff, beq_iff_eq, bne_iff_ne, Int.not_lt, Int.not_le, ne_eq] at hc8
    refine Sx.st_take hT rfl rfl rfl rfl (Sx.x_move hT rfl rfl) ?_
    clear hT; intro a hT
    refine Sx.st_take hT rfl rfl rfl rfl ((fun w => Sx.x_ne w hT rfl rfl rfl)) ?_
    clear hT; intro a hT
    refine Sx.st_take hT rfl rfl rfl rfl (Sx.x_pick_f hT rfl rfl rfl) ?_
    clear hT; intro a hT
    refine Sx.st_take hT rfl rfl rfl rfl (Sx.x_move hT rfl rfl) ?_
    clear hT; intro a hT
    -- guard (5, 6)
    refine Sx.Sl.two hT 47 rfl (fun hc9 hT => ?_) (fun hc9 hT => ?_)
    · exfalso
      try simp only [decide_eq_true_eq, decide_eq_false_iff_not, Bool.not_eq_true', Bool.not_eq_false', Bool.not_eq_true, Bool.not_eq_false, Bool.and_eq_true, Bool.or_eq_false_iff, beq_iff_eq, bne_iff_ne, Int.not_lt, Int.not_le, ne_eq] at hc9
      first | (simp at hc9; done) | omega | (simp at hc9; omega) | (simp_all; done)
    · try simp only [decide_eq_true_eq, decide_eq_false_iff_not, Bool.not_eq_true', Bool.not_eq_false', Bool.not_eq_true, Bool.not_eq_false, Bool.and_eq_true, Bool.or_eq_false_iff, beq_iff_eq, bne_iff_ne, Int.not_lt, Int.not_le, ne_eq] at hc9
      refine Sx.st_take hT rfl rfl rfl rfl (Sx.x_move hT rfl rfl) ?_
      clear hT; intro a hT
      refine Sx.st_take hT rfl rfl rfl rfl (Sx.x_eqnil_some hT rfl Tryd.underlying33 rfl rfl) ?_
      clear hT; intro a hT
      refine Sx.st_take hT rfl rfl rfl rfl (Sx.x_pick_f hT rfl rfl rfl) ?_
      clear hT; intro a hT
      refine Sx.st_take hT rfl rfl rfl rfl (Sx.x_move hT rfl rfl) ?_
      clear hT; intro a hT
      refine Sx.st_take hT rfl rfl rfl rfl (Sx.x_move hT rfl rfl) ?_
      clear hT; intro a hT
      refine Sx.st_take hT rfl rfl rfl rfl (Sx.x_eqnil_some hT rfl Tryd.underlying33 rfl rfl) ?_
      clear hT; intro a hT
      refine Sx.st_take hT rfl rfl rfl rfl (Sx.x_pick_f hT rfl rfl rfl) ?_
      clear hT; intro a hT
      refine Sx.st_take hT rfl rfl rfl rfl (Sx.x_move hT rfl rfl) ?_
      clear hT; intro a hT
      refine Sx.st_take hT rfl rfl rfl rfl (Sx.x_move hT rfl rfl) ?_
      clear hT; intro a hT
      refine Sx.st_take hT rfl rfl rfl rfl (Sx.x_move hT rfl rfl) ?_
      clear hT; intro a hT
      refine Sx.st_take hT rfl rfl rfl rfl ((fun w => Sx.x_eq w hT rfl rfl rfl)) ?_
      clear hT; intro a hT
      refine Sx.st_take hT rfl rfl rfl rfl (Sx.x_pick_f hT rfl rfl rfl) ?_
      clear hT; intro a hT
      replace hT := hT.keep [59, 16, 15, 14, 13, 28, 12, 8, 0, 1, 2, 3, 4, 5] rfl
      refine Sx.ser_nil ?_
      refine Sx.then_normal (hK7 _ _ ?_)
      clear hK7
      -- cond 1
      refine Sx.wp_if hT rfl (fun hc10 => ?_) (fun hc10 => ?_)
      · exfalso
        try simp only [decide_eq_true_eq, decide_eq_false_iff_not, Bool.not_eq_true', Bool.not_eq_false', Bool.not_eq_true, Bool.not_eq_false, Bool.and_eq_true, Bool.or_eq_false_iff, beq_iff_eq, bne_iff_ne, Int.not_lt, Int.not_le, ne_eq] at hc10
        exact hab hc10
      · try simp only [decide_eq_true_eq, decide_eq_false_iff_not, Bool.not_eq_true', Bool.not_eq_false', Bool.not_eq_true, Bool.not_eq_false, Bool.and_eq_true, Bool.or_eq_false_iff, beq_iff_eq, bne_iff_ne, Int.not_lt, Int.not_le, ne_eq] at hc10
        refine wp_skip ?_
        refine Sx.then_normal (hK6 _ _ ?_)
        clear hK6
        refine wp_seq_k fun K11 hK11 => ?_
        -- region 7 (law.go:94)
        refine Sx.wp_text [(0, .take), (1, .take), (2, .run), (3, .take)] rfl ?_
        refine Sx.st_take hT rfl rfl rfl rfl (Sx.x_move hT rfl rfl) ?_
        clear hT; intro a hT
        refine Sx.st_take hT rfl rfl rfl rfl (Sx.x_move hT rfl rfl) ?_
        clear hT; intro a hT
        refine Sx.st_eff hT rfl rfl rfl rfl (Sx.x_bldS hT rfl Tryd.underlying51 Tryd.ti33 rfl rfl rfl rfl rfl rfl rfl _) ?_
        clear hT; rintro _ w5 ⟨b2, rfl, N⟩ a hT
        replace H := H.new N; clear N
        refine Sx.st_take hT rfl rfl rfl rfl (Sx.x_assign hT rfl rfl) ?_
        clear hT; intro a hT
        replace hT := hT.keep [17, 59, 16, 15, 14, 13, 28, 12, 8, 0, 1, 2, 3, 4, 5] rfl
        refine Sx.ser_nil ?_
        refine Sx.then_normal (hK11 _ _ ?_)
        clear hK11
        refine wp_seq_k fun K12 hK12 => ?_
        -- region 8 (law.go:95)
        refine Sx.wp_text [(0, .run), (1, .run), (2, .run), (3, .take)] rfl ?_
        refine Sx.st_run hT rfl rfl rfl rfl (Sx.y_loadS hT rfl Tryd.underlying23 Tryd.ti23 rfl ((H.blk 3 rfl).seg (k := 3) rfl) (by rfl)) ?_
        clear hT; intro a hT
        refine Sx.st_run hT rfl rfl rfl rfl (Sx.y_loadS hT rfl Tryd.underlying23 Tryd.ti23 rfl ((H.blk 3 rfl).seg (k := 3) rfl) (by rfl)) ?_
        clear hT; intro a hT
        refine Sx.st_eff hT rfl rfl rfl rfl (Sx.x_bldS hT rfl Tryd.underlying52 Tryd.ti23 rfl rfl rfl rfl rfl rfl rfl _) ?_
        clear hT; rintro _ w6 ⟨b3, rfl, N⟩ a hT
        replace H := H.new N; clear N
        refine Sx.st_take hT rfl rfl rfl rfl (Sx.x_assign hT rfl rfl) ?_
        clear hT; intro a hT
        replace hT := hT.keep [18, 17, 59, 16, 15, 14, 13, 28, 12, 8, 0, 1, 2, 3, 4, 5] rfl
        refine Sx.ser_nil ?_
        refine Sx.then_normal (hK12 _ _ ?_)
        clear hK12
        refine wp_seq_k fun K13 hK13 => ?_
        -- region 9 (law.go:96)
        refine Sx.wp_text [(0, .take), (1, .run), (2, .take)] rfl ?_
        refine Sx.st_take hT rfl rfl rfl rfl (Sx.x_fieldAddr hT rfl Tryd.fa23_0 rfl) ?_
        clear hT; intro a hT
        refine Sx.st_run hT rfl rfl rfl rfl (Sx.x_load1 hT rfl Tryd.fl3 rfl ((H.blk 4 rfl).nth rfl)) ?_
        clear hT; intro a hT
        refine Sx.st_take hT rfl rfl rfl rfl (Sx.x_assign hT rfl rfl) ?_
        clear hT; intro a hT
        replace hT := hT.keep [19, 18, 17, 59, 16, 15, 14, 13, 28, 12, 8, 0, 1, 2, 3, 4, 5] rfl
        refine Sx.ser_nil ?_
        refine Sx.then_normal (hK13 _ _ ?_)
        clear hK13
        refine wp_seq_k fun K14 hK14 => ?_
        -- region 10 (law.go:97)
        refine Sx.wp_text [(0, .take)] rfl ?_
        refine Sx.st_take hT rfl rfl rfl rfl (Sx.x_assign hT rfl rfl) ?_
        clear hT; intro a hT
        replace hT := hT.keep [20, 19, 18, 17, 59, 16, 15, 14, 13, 28, 12, 8, 0, 1, 2, 3, 4, 5] rfl
        refine Sx.ser_nil ?_
        refine Sx.then_normal (hK14 _ _ ?_)
        clear hK14
        refine wp_seq_k fun K15 hK15 => ?_
        refine wp_seq_k fun K16 hK16 => ?_
        -- region 11 (law.go:98)
        refine Sx.wp_text [(0, .take)] rfl ?_
        refine Sx.st_take hT rfl rfl rfl rfl (Sx.x_assign hT rfl rfl) ?_
        clear hT; intro a hT
        replace hT := hT.keep [21, 20, 19, 18, 17, 59, 16, 15, 14, 13, 28, 12, 8, 0, 1, 2, 3, 4, 5] rfl
        refine Sx.ser_nil ?_
        refine Sx.then_normal (hK16 _ _ ?_)
        clear hK16
        refine wp_block ?_
        replace H := H.nilR 23 3
        -- loop 0
        refine Sx.wp_loopH (G := RG) (fun ⟨i, u0, u1, l0, l1, ws, told, ad, c⟩ => [(21, .int .i64 (i : Int)), (19, .int .i64 ws), (20, .slice ad told.length c)]) (fun ⟨i, u0, u1, l0, l1, ws, told, ad, c⟩ => [cB pc [.int .i64 u0.wall, .int .i64 u0.logical, .int .i64 u0.node] 60, cB pd [.int .i64 u1.wall, .int .i64 u1.logical, .int .i64 u1.node] 60, cB b3 [.int .i64 l0.wall, .int .i64 l0.logical, .int .i64 l0.node, .int .i64 l1.wall, .int .i64 l1.logical, .int .i64 l1.node] 23, cR 23 3 ad told.length c (told.flatMap stc)]) (fun ⟨i, u0, u1, l0, l1, ws, told, ad, c⟩ => i ≤ phys.length ∧ i ≤ 400 ∧ RI n1 n2 u0 u1 l0 l1 ws told ∧ told.length ≤ i) (fun ⟨i, u0, u1, l0, l1, ws, told, ad, c⟩ => phys.length - i) ⟨0, ⟨x, y, n1⟩, ⟨x, y, n2⟩, ⟨x, y, z⟩, ⟨x, y, z⟩, x, [], none, 0⟩ (hT.keep [21, 19, 20, 18, 17, 59, 16, 15, 14, 13, 28, 8, 0, 1, 2, 3, 4, 5] rfl) (H.keep [4, 3, 1, 0, 2, 5] rfl rfl) (⟨Nat.zero_le _, Nat.zero_le _, RI.start ⟨h1.1, h1.2.1⟩ ⟨h2.1, h2.2.1⟩ h1.2.2, Nat.zero_le _⟩) ?_
        clear hT H
        rintro ⟨i, u0, u1, l0, l1, ws, told, ad, c⟩ a w7 hJ hT H
        replace hT := hT.keep [21, 19, 20, 18, 17, 59, 16, 15, 14, 13, 28, 8, 0, 1, 2, 3, 4, 5] rfl
        replace H := H.keep [0, 1, 2, 3, 4, 5] rfl rfl
        obtain ⟨hi1, hi2, hri, htl⟩ := hJ
        refine wp_seq_k fun K17 hK17 => ?_
        refine wp_seq_k fun K18 hK18 => ?_
        -- region 12 (law.go:98)
        refine Sx.wp_text [(0, .take), (1, .take), (2, .take), (3, .take), (4, .take), (5, .take), (6, .take), (7, .take)] rfl ?_
        refine Sx.st_take hT rfl rfl rfl rfl (Sx.x_move hT rfl rfl) ?_
        clear hT; intro a hT
        refine Sx.st_take hT rfl rfl rfl rfl (Sx.x_move hT rfl rfl) ?_
        clear hT; intro a hT
        refine Sx.st_take hT rfl rfl rfl rfl (Sx.x_len_slice hT rfl rfl Tryd.underlying49 rfl) ?_
        clear hT; intro a hT
        refine Sx.st_take hT rfl rfl rfl rfl ((fun w => Sx.x_lt w hT rfl rfl rfl)) ?_
        clear hT; intro a hT
        refine Sx.st_take hT rfl rfl rfl rfl (Sx.x_move hT rfl rfl) ?_
        clear hT; intro a hT
        -- guard (12, 4)
        refine Sx.Sl.two hT 73 rfl (fun hc19 hT => ?_) (fun hc19 hT => ?_)
        · try simp only [decide_eq_true_eq, decide_eq_false_iff_not, Bool.not_eq_true', Bool.not_eq_false', Bool.not_eq_true, Bool.not_eq_false, Bool.and_eq_true, Bool.or_eq_false_iff, beq_iff_eq, bne_iff_ne, Int.not_lt, Int.not_le, ne_eq] at hc19
          obtain ⟨ph, hph⟩ : ∃ o, phys[i]? = some o := ⟨_, List.getElem?_eq_getElem (by omega)⟩
          refine Sx.st_take hT rfl rfl rfl rfl (Sx.x_move hT rfl rfl) ?_
          clear hT; intro a hT
          refine Sx.st_take hT rfl rfl rfl rfl ((fun w => Sx.x_lt w hT rfl rfl rfl)) ?_
          clear hT; intro a hT
          refine Sx.st_take hT rfl rfl rfl rfl (Sx.x_pick_t hT rfl rfl rfl) ?_
          clear hT; intro a hT
          replace hT := hT.keep [76, 21, 19, 20, 18, 17, 59, 16, 15, 14, 13, 28, 8, 0, 1, 2, 3, 4, 5] rfl
          refine Sx.ser_nil ?_
          refine Sx.then_normal (hK18 _ _ ?_)
          clear hK18
          -- cond 2
          refine Sx.wp_if hT rfl (fun hc20 => ?_) (fun hc20 => ?_)
          · try simp only [decide_eq_true_eq, decide_eq_false_iff_not, Bool.not_eq_true', Bool.not_eq_false', Bool.not_eq_true, Bool.not_eq_false, Bool.and_eq_true, Bool.or_eq_false_iff, beq_iff_eq, bne_iff_ne, Int.not_lt, Int.not_le, ne_eq] at hc20
            refine wp_skip ?_
            refine Sx.then_normal (hK17 _ _ ?_)
            clear hK17
            refine wp_seq_k fun K21 hK21 => ?_
            refine wp_block ?_
            refine wp_seq_k fun K22 hK22 => ?_
            -- region 14 (law.go:99)
            refine Sx.wp_text [(0, .take)] rfl ?_
            refine Sx.st_take hT rfl rfl rfl rfl (Sx.x_assign hT rfl rfl) ?_
            clear hT; intro a hT
            replace hT := hT.keep [22, 76, 21, 19, 20, 18, 17, 59, 16, 15, 14, 13, 28, 8, 0, 1, 2, 3, 4, 5] rfl
            refine Sx.ser_nil ?_
            refine Sx.then_normal (hK22 _ _ ?_)
            clear hK22
            refine wp_seq_k fun K23 hK23 => ?_
            refine Sx.wp_join (G := Nat) (fun k => [(22, .int .i64 (k : Int))]) (fun k => []) (fun k => k = 0 ∨ k = 1) (hT.keep [76, 21, 19, 20, 18, 17, 59, 16, 15, 14, 13, 28, 8, 0, 1, 2, 3, 4, 5] rfl) (H.keep [0, 1, 2, 3, 4, 5] rfl rfl) hK23 ?_ ?_
            · clear hT H hK23
              rintro k a w8 hJ hT H
              replace hT := hT.keep [22, 76, 21, 19, 20, 18, 17, 59, 16, 15, 14, 13, 28, 8, 0, 1, 2, 3, 4, 5] rfl
              replace H := H.keep [0, 1, 2, 3, 4, 5] rfl rfl
              rcases hJ with rfl | rfl
              · skip
                refine wp_seq_k fun K24 hK24 => ?_
                refine Sx.wp_join (G := Stamp × Stamp) (fun ⟨me, lm⟩ => []) (fun ⟨me, lm⟩ => [cB pc [.int .i64 me.wall, .int .i64 me.logical, .int .i64 me.node] 60, cB b3 [.int .i64 lm.wall, .int .i64 lm.logical, .int .i64 lm.node, .int .i64 l1.wall, .int .i64 l1.logical, .int .i64 l1.node] 23]) (fun ⟨me, lm⟩ => RI n1 n2 me u1 lm l1 ws told) (hT.keep [22, 76, 21, 19, 20, 18, 17, 59, 16, 15, 14, 13, 28, 8, 0, 1, 2, 3, 4, 5] rfl) (H.keep [1, 3, 4, 5] rfl rfl) hK24 ?_ ?_
                · clear hT H hK24
                  rintro ⟨me, lm⟩ a w9 hJ hT H
                  replace hT := hT.keep [22, 76, 21, 19, 20, 18, 17, 59, 16, 15, 14, 13, 28, 8, 0, 1, 2, 3, 4, 5] rfl
                  replace H := H.keep [0, 1, 2, 3, 4, 5] rfl rfl
                  have hr := hJ
                  refine wp_seq_k fun K25 hK25 => ?_
                  refine Sx.wp_join (G := Nat) (fun b9 => [(24, .pointer (some ⟨b9, 0, none⟩)), (25, .int .i64 (peek me ph).2)]) (fun b9 => [cB pc [.int .i64 (now me ph).wall, .int .i64 (now me ph).logical, .int .i64 (now me ph).node] 60, cB b9 [.int .i64 (peek me ph).1.wall, .int .i64 (peek me ph).1.logical, .int .i64 (peek me ph).1.node] 23]) (fun b9 => True) (hT.keep [22, 76, 21, 19, 20, 18, 17, 59, 16, 15, 14, 13, 28, 8, 0, 1, 2, 3, 4, 5] rfl) (H.keep [1, 2, 3, 4, 5] rfl rfl) hK25 ?_ ?_
                  · clear hT H hK25
                    rintro b9 a w10 hJ hT H
                    replace hT := hT.keep [24, 25, 22, 76, 21, 19, 20, 18, 17, 59, 16, 15, 14, 13, 28, 8, 0, 1, 2, 3, 4, 5] rfl
                    replace H := H.keep [0, 1, 2, 3, 4, 5, 6] rfl rfl
                    clear hJ
                    refine wp_seq_k fun K26 hK26 => ?_
                    refine wp_seq_k fun K27 hK27 => ?_
                    -- region 24 (law.go:113)
                    refine Sx.wp_text [(0, .take), (1, .take)] rfl ?_
                    refine Sx.st_take hT rfl rfl rfl rfl (Sx.x_move hT rfl rfl) ?_
                    clear hT; intro a hT
                    refine Sx.st_take hT rfl rfl rfl rfl ((fun w => Sx.x_ne w hT rfl rfl rfl)) ?_
                    clear hT; intro a hT
                    replace hT := hT.keep [135, 24, 25, 22, 76, 21, 19, 20, 18, 17, 59, 16, 15, 14, 13, 28, 8, 0, 1, 2, 3, 4, 5] rfl
                    refine Sx.ser_nil ?_
                    refine Sx.then_normal (hK27 _ _ ?_)
                    clear hK27
                    -- cond 7
                    refine Sx.wp_if hT rfl (fun hc28 => ?_) (fun hc28 => ?_)
                    · try simp only [decide_eq_true_eq, decide_eq_false_iff_not, Bool.not_eq_true', Bool.not_eq_false', Bool.not_eq_true, Bool.not_eq_false, Bool.and_eq_true, Bool.or_eq_false_iff, beq_iff_eq, bne_iff_ne, Int.not_lt, Int.not_le, ne_eq] at hc28
                      have hp := hc28
                      rw [now_not _ _ hp] at H
                      have hpe := peek_err hp
                      refine wp_seq_k fun K29 hK29 => ?_
                      refine wp_seq_k fun K30 hK30 => ?_
                      -- region 25 (law.go:114)
                      refine Sx.wp_text [(0, .take), (1, .take), (2, .take), (3, .run), (4, .take), (5, .take), (6, .take), (7, .take), (8, .take), (9, .run), (10, .run), (11, .take), (12, .take), (13, .take)] rfl ?_
                      refine Sx.st_take hT rfl rfl rfl rfl (Sx.x_move hT rfl rfl) ?_
                      clear hT; intro a hT
                      refine Sx.st_take hT rfl rfl rfl rfl (Sx.x_move hT rfl rfl) ?_
                      clear hT; intro a hT
                      refine Sx.st_take hT rfl rfl rfl rfl (Sx.x_index hT rfl Tryd.underlying49 Tryd.ti3 (by first | exact (Rp.at H.ext).sv | exact (Rw.at H.ext).sv | exact (Rh.at H.ext).sv) rfl rfl rfl (by omega)) ?_
                      clear hT; intro a hT
                      refine Sx.st_run hT rfl rfl rfl rfl (Sx.x_load1 hT rfl Tryd.fl3 rfl (by first | exact ((H.blk 0 rfl).nth rfl) | exact ((H.blk 1 rfl).nth rfl) | exact ((H.blk 2 rfl).nth rfl) | exact ((H.blk 3 rfl).nth rfl) | exact ((H.blk 5 rfl).nth rfl) | exact ((H.blk 6 rfl).nth rfl) | exact ((Rp.at H.ext).cell (j := 0) icell_len hph rfl) | exact ((Rw.at H.ext).cell (j := 0) bcell_len hbw rfl) | exact ((Rh.at H.ext).cell (j := 0) bcell_len hbh rfl))) ?_
                      clear hT; intro a hT
                      refine Sx.st_take hT rfl rfl rfl rfl ((fun w => Sx.x_le w hT rfl rfl rfl)) ?_
                      clear hT; intro a hT
                      refine Sx.st_take hT rfl rfl rfl rfl (Sx.x_move hT rfl rfl) ?_
                      clear hT; intro a hT
                      -- guard (25, 5)
                      refine Sx.Sl.two hT 141 rfl (fun hc31 hT => ?_) (fun hc31 hT => ?_)
                      · try simp only [decide_eq_true_eq, decide_eq_false_iff_not, Bool.not_eq_true', Bool.not_eq_false', Bool.not_eq_true, Bool.not_eq_false, Bool.and_eq_true, Bool.or_eq_false_iff, beq_iff_eq, bne_iff_ne, Int.not_lt, Int.not_le, ne_eq] at hc31
                        refine Sx.st_take hT rfl rfl rfl rfl (Sx.x_move hT rfl rfl) ?_
                        clear hT; intro a hT
                        refine Sx.st_take hT rfl rfl rfl rfl (Sx.x_move hT rfl rfl) ?_
                        clear hT; intro a hT
                        refine Sx.st_take hT rfl rfl rfl rfl (Sx.x_index (k := 0) hT rfl Tryd.underlying51 Tryd.ti33 ((H.blk 5 rfl).svn rfl) rfl rfl rfl (by omega)) ?_
                        clear hT; intro a hT
                        refine Sx.st_run hT rfl rfl rfl rfl (Sx.x_load1 hT rfl Tryd.fl33 rfl ((H.blk 5 rfl).nth rfl)) ?_
                        clear hT; intro a hT
                        refine Sx.st_call hT rfl rfl rfl rfl rfl Tryd.can29 rfl (Last_calls (H.blk 0 rfl)) ?_
                        rintro _ w11 ⟨rfl, E⟩
                        refine ⟨_, rfl, ?_⟩
                        clear hT; intro a hT
                        replace H := H.pure E; clear E
                        refine Sx.st_take hT rfl rfl rfl rfl (Sx.x_field1L hT rfl Tryd.fv23_1 Tryd.fl3 rfl rfl) ?_
                        clear hT; intro a hT
                        refine Sx.st_take hT rfl rfl rfl rfl ((fun w => Sx.x_lt w hT rfl rfl rfl)) ?_
                        clear hT; intro a hT
                        refine Sx.st_take hT rfl rfl rfl rfl (Sx.x_pick_t hT rfl rfl rfl) ?_
                        clear hT; intro a hT
                        replace hT := hT.keep [149, 135, 24, 25, 22, 76, 21, 19, 20, 18, 17, 59, 16, 15, 14, 13, 28, 8, 0, 1, 2, 3, 4, 5] rfl
                        refine Sx.ser_nil ?_
                        refine Sx.then_normal (hK30 _ _ ?_)
                        clear hK30
                        -- cond 8
                        refine Sx.wp_if hT rfl (fun hc32 => ?_) (fun hc32 => ?_)
                        · exfalso
                          try simp only [decide_eq_true_eq, decide_eq_false_iff_not, Bool.not_eq_true', Bool.not_eq_false', Bool.not_eq_true, Bool.not_eq_false, Bool.and_eq_true, Bool.or_eq_false_iff, beq_iff_eq, bne_iff_ne, Int.not_lt, Int.not_le, ne_eq] at hc32
                          omega
                        · try simp only [decide_eq_true_eq, decide_eq_false_iff_not, Bool.not_eq_true', Bool.not_eq_false', Bool.not_eq_true, Bool.not_eq_false, Bool.and_eq_true, Bool.or_eq_false_iff, beq_iff_eq, bne_iff_ne, Int.not_lt, Int.not_le, ne_eq] at hc32
                          refine wp_skip ?_
                          refine Sx.then_normal (hK29 _ _ ?_)
                          clear hK29
                          refine wp_exit ?_
                          refine Sx.then_exit ?_
                          refine Sx.block_exit ?_
                          refine Sx.then_normal (hK21 _ _ ?_)
                          clear hK21
                          -- region 13 (law.go:98)
                          refine Sx.wp_text [(0, .take), (1, .take), (2, .take)] rfl ?_
                          refine Sx.st_take hT rfl rfl rfl rfl (Sx.x_move hT rfl rfl) ?_
                          clear hT; intro a hT
                          refine Sx.st_take hT rfl rfl rfl rfl ((fun w => Sx.x_add w hT rfl rfl rfl (Sx.wrap64 (by omega)))) ?_
                          clear hT; intro a hT
                          refine Sx.st_take hT rfl rfl rfl rfl (Sx.x_assign hT rfl rfl) ?_
                          clear hT; intro a hT
                          replace hT := hT.keep [21, 149, 135, 24, 25, 22, 76, 19, 20, 18, 17, 59, 16, 15, 14, 13, 28, 8, 0, 1, 2, 3, 4, 5] rfl
                          refine Sx.ser_nil ?_
                          refine Sx.then_normal ?_
                          skip
                          exact ⟨⟨i + 1, me, u1, lm, l1, ws, told, ad, c⟩, ⟨by show i + 1 ≤ _; omega, by show i + 1 ≤ _; omega, hr, by show told.length ≤ i + 1; omega⟩, (hT.keep [21, 19, 20, 18, 17, 59, 16, 15, 14, 13, 28, 8, 0, 1, 2, 3, 4, 5] rfl), (H.keep [0, 3, 2, 4, 5, 6] rfl rfl), by show _ - (i + 1) < _ - i; omega⟩
                      · try simp only [decide_eq_true_eq, decide_eq_false_iff_not, Bool.not_eq_true', Bool.not_eq_false', Bool.not_eq_true, Bool.not_eq_false, Bool.and_eq_true, Bool.or_eq_false_iff, beq_iff_eq, bne_iff_ne, Int.not_lt, Int.not_le, ne_eq] at hc31
                        refine Sx.st_skip hT rfl rfl rfl rfl ?_
                        clear hT; intro a hT
                        refine Sx.st_skip hT rfl rfl rfl rfl ?_
                        clear hT; intro a hT
                        refine Sx.st_skip hT rfl rfl rfl rfl ?_
                        clear hT; intro a hT
                        refine Sx.st_runskip hT rfl rfl rfl rfl ?_
                        clear hT; intro a hT
                        refine Sx.st_runskip hT rfl rfl rfl rfl ?_
                        clear hT; intro a hT
                        refine Sx.st_skip hT rfl rfl rfl rfl ?_
                        clear hT; intro a hT
                        refine Sx.st_skip hT rfl rfl rfl rfl ?_
                        clear hT; intro a hT
                        refine Sx.st_take hT rfl rfl rfl rfl (Sx.x_pick_f hT rfl rfl rfl) ?_
                        clear hT; intro a hT
                        replace hT := hT.keep [149, 135, 24, 25, 22, 76, 21, 19, 20, 18, 17, 59, 16, 15, 14, 13, 28, 8, 0, 1, 2, 3, 4, 5] rfl
                        refine Sx.ser_nil ?_
                        refine Sx.then_normal (hK30 _ _ ?_)
                        clear hK30
                        refine Sx.wp_if hT rfl (fun h => by cases h) (fun _ => ?_)
                        refine wp_skip ?_
                        refine Sx.then_normal (hK29 _ _ ?_)
                        clear hK29
                        refine wp_exit ?_
                        refine Sx.then_exit ?_
                        refine Sx.block_exit ?_
                        refine Sx.then_normal (hK21 _ _ ?_)
                        clear hK21
                        -- region 13 (law.go:98)
                        refine Sx.wp_text [(0, .take), (1, .take), (2, .take)] rfl ?_
                        refine Sx.st_take hT rfl rfl rfl rfl (Sx.x_move hT rfl rfl) ?_
                        clear hT; intro a hT
                        refine Sx.st_take hT rfl rfl rfl rfl ((fun w => Sx.x_add w hT rfl rfl rfl (Sx.wrap64 (by omega)))) ?_
                        clear hT; intro a hT
                        refine Sx.st_take hT rfl rfl rfl rfl (Sx.x_assign hT rfl rfl) ?_
                        clear hT; intro a hT
                        replace hT := hT.keep [21, 149, 135, 24, 25, 22, 76, 19, 20, 18, 17, 59, 16, 15, 14, 13, 28, 8, 0, 1, 2, 3, 4, 5] rfl
                        refine Sx.ser_nil ?_
                        refine Sx.then_normal ?_
                        skip
                        exact ⟨⟨i + 1, me, u1, lm, l1, ws, told, ad, c⟩, ⟨by show i + 1 ≤ _; omega, by show i + 1 ≤ _; omega, hr, by show told.length ≤ i + 1; omega⟩, (hT.keep [21, 19, 20, 18, 17, 59, 16, 15, 14, 13, 28, 8, 0, 1, 2, 3, 4, 5] rfl), (H.keep [0, 3, 2, 4, 5, 6] rfl rfl), by show _ - (i + 1) < _ - i; omega⟩
                    · try simp only [decide_eq_true_eq, decide_eq_false_iff_not, Bool.not_eq_true', Bool.not_eq_false', Bool.not_eq_true, Bool.not_eq_false, Bool.and_eq_true, Bool.or_eq_false_iff, beq_iff_eq, bne_iff_ne, Int.not_lt, Int.not_le, ne_eq] at hc28
                      have hp := hc28
                      rw [now_ok _ _ hp] at H
                      obtain ⟨hr2, t1, t2, t3, t4, t5, t6⟩ := hr.tell hab hp
                      refine wp_skip ?_
                      refine Sx.then_normal (hK26 _ _ ?_)
                      clear hK26
                      refine wp_seq_k fun K33 hK33 => ?_
                      -- region 27 (law.go:119)
                      refine Sx.wp_text [(0, .take), (1, .take), (2, .take), (3, .take), (4, .run), (5, .take), (6, .take)] rfl ?_
                      refine Sx.st_take hT rfl rfl rfl rfl (Sx.x_move hT rfl rfl) ?_
                      clear hT; intro a hT
                      refine Sx.st_take hT rfl rfl rfl rfl (Sx.x_move hT rfl rfl) ?_
                      clear hT; intro a hT
                      refine Sx.st_take hT rfl rfl rfl rfl (Sx.x_move hT rfl rfl) ?_
                      clear hT; intro a hT
                      refine Sx.st_take hT rfl rfl rfl rfl (Sx.x_index hT rfl Tryd.underlying49 Tryd.ti3 (by first | exact (Rp.at H.ext).sv | exact (Rw.at H.ext).sv | exact (Rh.at H.ext).sv) rfl rfl rfl (by omega)) ?_
                      clear hT; intro a hT
                      refine Sx.st_run hT rfl rfl rfl rfl (Sx.x_load1 hT rfl Tryd.fl3 rfl (by first | exact ((H.blk 0 rfl).nth rfl) | exact ((H.blk 1 rfl).nth rfl) | exact ((H.blk 2 rfl).nth rfl) | exact ((H.blk 3 rfl).nth rfl) | exact ((H.blk 5 rfl).nth rfl) | exact ((H.blk 6 rfl).nth rfl) | exact ((Rp.at H.ext).cell (j := 0) icell_len hph rfl) | exact ((Rw.at H.ext).cell (j := 0) bcell_len hbw rfl) | exact ((Rh.at H.ext).cell (j := 0) bcell_len hbh rfl))) ?_
                      clear hT; intro a hT
                      refine Sx.st_take hT rfl rfl rfl rfl (Sx.x_max hT rfl rfl rfl) ?_
                      clear hT; intro a hT
                      refine Sx.st_take hT rfl rfl rfl rfl (Sx.x_assign hT rfl rfl) ?_
                      clear hT; intro a hT
                      replace hT := hT.keep [19, 135, 24, 25, 22, 76, 21, 20, 18, 17, 59, 16, 15, 14, 13, 28, 8, 0, 1, 2, 3, 4, 5] rfl
                      refine Sx.ser_nil ?_
                      refine Sx.then_normal (hK33 _ _ ?_)
                      clear hK33
                      refine wp_seq_k fun K34 hK34 => ?_
                      refine wp_seq_k fun K35 hK35 => ?_
                      -- region 28 (law.go:120)
                      refine Sx.wp_draws (fun u => Sx.Ext (Sx.No) u) [(0, .held), (1, .keep), (2, .take), (3, .take), (4, .take), (5, .held), (6, .take), (7, .take), (9, .take), (8, .keep), (10, .take), (11, .keep), (12, .take), (13, .take), (14, .take), (15, .take), (16, .held), (17, .take), (18, .take), (19, .take), (20, .take), (21, .take), (22, .held), (23, .take), (24, .take), (25, .take), (26, .held), (27, .take), (28, .take)] (by kernel_rfl) (by kernel_rfl) (fun u E _ => ?_)
                      replace H := H.pure E; clear E
                      have hH : Sx.Ext (Sx.No) u u := Sx.Ext.refl _ _
                      have Hu := H
                      refine Sx.st_held hT rfl rfl rfl rfl hH (fun w' h' => Sx.y_loadS hT rfl Tryd.underlying23 Tryd.ti23 rfl ((Hu.heldB 1 rfl h' Sx.off_No).seg (k := 3) rfl) (by rfl)) ?_
                      clear hT; intro a hT
                      refine Sx.st_callkeep hT rfl rfl rfl rfl rfl Tryd.can13 rfl (May_calls _ _ _ _) ?_
                      rintro _ w12 ⟨rfl, E⟩
                      refine ⟨_, rfl, hH.step E, ?_⟩
                      replace hH := hH.step E
                      clear hT; intro a hT
                      replace H := H.pure E; clear E
                      refine Sx.st_take hT rfl rfl rfl rfl (Sx.x_not hT rfl rfl) ?_
                      clear hT; intro a hT
                      refine Sx.st_take hT rfl rfl rfl rfl (Sx.x_move hT rfl rfl) ?_
                      clear hT; intro a hT
                      -- guard (28, 3)
                      refine Sx.Sl.two hT 159 rfl (fun hc36 hT => ?_) (fun hc36 hT => ?_)
                      · exfalso
                        try simp only [decide_eq_true_eq, decide_eq_false_iff_not, Bool.not_eq_true', Bool.not_eq_false', Bool.not_eq_true, Bool.not_eq_false, Bool.and_eq_true, Bool.or_eq_false_iff, beq_iff_eq, bne_iff_ne, Int.not_lt, Int.not_le, ne_eq] at hc36
                        exact Bool.noConfusion (t1.symm.trans hc36)
                      · try simp only [decide_eq_true_eq, decide_eq_false_iff_not, Bool.not_eq_true', Bool.not_eq_false', Bool.not_eq_true, Bool.not_eq_false, Bool.and_eq_true, Bool.or_eq_false_iff, beq_iff_eq, bne_iff_ne, Int.not_lt, Int.not_le, ne_eq] at hc36
                        refine Sx.st_take hT rfl rfl rfl rfl (Sx.x_fieldAddr hT rfl Tryd.fa23_2 rfl) ?_
                        clear hT; intro a hT
                        refine Sx.st_held hT rfl rfl rfl rfl hH (fun w' h' => Sx.x_load1 hT rfl Tryd.fl3 rfl ((Hu.heldB 1 rfl h' Sx.off_No).nth rfl)) ?_
                        clear hT; intro a hT
                        refine Sx.st_take hT rfl rfl rfl rfl (Sx.x_move hT rfl rfl) ?_
                        clear hT; intro a hT
                        refine Sx.st_take hT rfl rfl rfl rfl (Sx.x_move hT rfl rfl) ?_
                        clear hT; intro a hT
                        refine Sx.st_take hT rfl rfl rfl rfl (Sx.x_move hT rfl rfl) ?_
                        clear hT; intro a hT
                        refine Sx.st_effkeep hT rfl rfl rfl rfl (Sx.x_bldS hT rfl Tryd.underlying49 Tryd.ti3 rfl rfl rfl rfl rfl rfl rfl _) ?_
                        rintro _ w13 ⟨b4, rfl, N⟩
                        refine ⟨hH.step N.ext, ?_⟩
                        replace hH := hH.step N.ext
                        clear hT; intro a hT
                        replace H := H.new N; clear N
                        refine Sx.st_take hT rfl rfl rfl rfl (Sx.x_index (k := 0) hT rfl Tryd.underlying49 Tryd.ti3 ((H.blk 0 rfl).svn rfl) rfl rfl rfl (by omega)) ?_
                        clear hT; intro a hT
                        refine Sx.st_keep hT rfl rfl rfl rfl (Sx.x_load1 hT rfl Tryd.fl3 rfl ((H.blk 0 rfl).nth rfl)) hH ?_
                        clear hT; intro a hT
                        refine Sx.st_take hT rfl rfl rfl rfl ((fun w => Sx.x_ne w hT rfl rfl rfl)) ?_
                        clear hT; intro a hT
                        refine Sx.st_take hT rfl rfl rfl rfl (Sx.x_pick_f hT rfl rfl rfl) ?_
                        clear hT; intro a hT
                        refine Sx.st_take hT rfl rfl rfl rfl (Sx.x_move hT rfl rfl) ?_
                        clear hT; intro a hT
                        -- guard (28, 14)
                        refine Sx.Sl.two hT 170 rfl (fun hc37 hT => ?_) (fun hc37 hT => ?_)
                        · exfalso
                          try simp only [decide_eq_true_eq, decide_eq_false_iff_not, Bool.not_eq_true', Bool.not_eq_false', Bool.not_eq_true, Bool.not_eq_false, Bool.and_eq_true, Bool.or_eq_false_iff, beq_iff_eq, bne_iff_ne, Int.not_lt, Int.not_le, ne_eq] at hc37
                          exact hc37 t2
                        · try simp only [decide_eq_true_eq, decide_eq_false_iff_not, Bool.not_eq_true', Bool.not_eq_false', Bool.not_eq_true, Bool.not_eq_false, Bool.and_eq_true, Bool.or_eq_false_iff, beq_iff_eq, bne_iff_ne, Int.not_lt, Int.not_le, ne_eq] at hc37
                          refine Sx.st_take hT rfl rfl rfl rfl (Sx.x_fieldAddr hT rfl Tryd.fa23_0 rfl) ?_
                          clear hT; intro a hT
                          refine Sx.st_held hT rfl rfl rfl rfl hH (fun w' h' => Sx.x_load1 hT rfl Tryd.fl3 rfl ((Hu.heldB 1 rfl h' Sx.off_No).nth rfl)) ?_
                          clear hT; intro a hT
                          refine Sx.st_take hT rfl rfl rfl rfl (Sx.x_move hT rfl rfl) ?_
                          clear hT; intro a hT
                          refine Sx.st_take hT rfl rfl rfl rfl ((fun w => Sx.x_gt w hT rfl rfl rfl)) ?_
                          clear hT; intro a hT
                          refine Sx.st_take hT rfl rfl rfl rfl (Sx.x_pick_f hT rfl rfl rfl) ?_
                          clear hT; intro a hT
                          refine Sx.st_take hT rfl rfl rfl rfl (Sx.x_move hT rfl rfl) ?_
                          clear hT; intro a hT
                          -- guard (28, 20)
                          refine Sx.Sl.two hT 176 rfl (fun hc38 hT => ?_) (fun hc38 hT => ?_)
                          · exfalso
                            try simp only [decide_eq_true_eq, decide_eq_false_iff_not, Bool.not_eq_true', Bool.not_eq_false', Bool.not_eq_true, Bool.not_eq_false, Bool.and_eq_true, Bool.or_eq_false_iff, beq_iff_eq, bne_iff_ne, Int.not_lt, Int.not_le, ne_eq] at hc38
                            omega
                          · try simp only [decide_eq_true_eq, decide_eq_false_iff_not, Bool.not_eq_true', Bool.not_eq_false', Bool.not_eq_true, Bool.not_eq_false, Bool.and_eq_true, Bool.or_eq_false_iff, beq_iff_eq, bne_iff_ne, Int.not_lt, Int.not_le, ne_eq] at hc38
                            refine Sx.st_take hT rfl rfl rfl rfl (Sx.x_fieldAddr hT rfl Tryd.fa23_0 rfl) ?_
                            clear hT; intro a hT
                            refine Sx.st_held hT rfl rfl rfl rfl hH (fun w' h' => Sx.x_load1 hT rfl Tryd.fl3 rfl ((Hu.heldB 1 rfl h' Sx.off_No).nth rfl)) ?_
                            clear hT; intro a hT
                            refine Sx.st_take hT rfl rfl rfl rfl (Sx.x_move hT rfl rfl) ?_
                            clear hT; intro a hT
                            refine Sx.st_take hT rfl rfl rfl rfl (Sx.x_move hT rfl rfl) ?_
                            clear hT; intro a hT
                            refine Sx.st_take hT rfl rfl rfl rfl (Sx.x_index hT rfl Tryd.underlying49 Tryd.ti3 (by first | exact (Rp.at H.ext).sv | exact (Rw.at H.ext).sv | exact (Rh.at H.ext).sv) rfl rfl rfl (by omega)) ?_
                            clear hT; intro a hT
                            refine Sx.st_held hT rfl rfl rfl rfl hH (fun w' h' => Sx.x_load1 hT rfl Tryd.fl3 rfl (by first | exact ((Hu.heldB 0 rfl h' Sx.off_No).nth rfl) | exact ((Hu.heldB 1 rfl h' Sx.off_No).nth rfl) | exact ((Hu.heldB 2 rfl h' Sx.off_No).nth rfl) | exact ((Hu.heldB 3 rfl h' Sx.off_No).nth rfl) | exact ((Hu.heldB 5 rfl h' Sx.off_No).nth rfl) | exact ((Hu.heldB 6 rfl h' Sx.off_No).nth rfl) | exact ((Rp.at (Hu.ext.step h')).cell (j := 0) icell_len hph rfl) | exact ((Rw.at (Hu.ext.step h')).cell (j := 0) bcell_len hbw rfl) | exact ((Rh.at (Hu.ext.step h')).cell (j := 0) bcell_len hbh rfl))) ?_
                            clear hT; intro a hT
                            refine Sx.st_take hT rfl rfl rfl rfl ((fun w => Sx.x_lt w hT rfl rfl rfl)) ?_
                            clear hT; intro a hT
                            refine Sx.st_take hT rfl rfl rfl rfl (Sx.x_pick_f hT rfl rfl rfl) ?_
                            clear hT; intro a hT
                            replace hT := hT.keep [184, 19, 135, 24, 25, 22, 76, 21, 20, 18, 17, 59, 16, 15, 14, 13, 28, 8, 0, 1, 2, 3, 4, 5] rfl
                            clear Hu hH
                            refine Sx.ser_calm ?_
                            refine Sx.then_normal (hK35 _ _ ?_)
                            clear hK35
                            -- cond 9
                            refine Sx.wp_if hT rfl (fun hc39 => ?_) (fun hc39 => ?_)
                            · exfalso
                              try simp only [decide_eq_true_eq, decide_eq_false_iff_not, Bool.not_eq_true', Bool.not_eq_false', Bool.not_eq_true, Bool.not_eq_false, Bool.and_eq_true, Bool.or_eq_false_iff, beq_iff_eq, bne_iff_ne, Int.not_lt, Int.not_le, ne_eq] at hc39
                              omega
                            · try simp only [decide_eq_true_eq, decide_eq_false_iff_not, Bool.not_eq_true', Bool.not_eq_false', Bool.not_eq_true, Bool.not_eq_false, Bool.and_eq_true, Bool.or_eq_false_iff, beq_iff_eq, bne_iff_ne, Int.not_lt, Int.not_le, ne_eq] at hc39
                              refine wp_skip ?_
                              refine Sx.then_normal (hK34 _ _ ?_)
                              clear hK34
                              refine wp_seq_k fun K40 hK40 => ?_
                              refine wp_seq_k fun K41 hK41 => ?_
                              -- region 30 (law.go:123)
                              refine Sx.wp_draws (fun u => Sx.Ext (Sx.No) u) [(0, .take), (1, .take), (2, .take), (3, .take), (4, .held), (5, .take), (6, .take), (7, .take), (8, .take), (9, .held), (10, .take), (11, .held), (12, .keep), (13, .take), (14, .take), (15, .take), (16, .take), (17, .take), (18, .take), (19, .held), (20, .take), (21, .held), (22, .take), (23, .take), (24, .take), (25, .take), (26, .take), (27, .take), (28, .held), (29, .take), (30, .held), (31, .take), (32, .take), (33, .take), (34, .take)] (by kernel_rfl) (by kernel_rfl) (fun u E _ => ?_)
                              replace H := H.pure E; clear E
                              have hH : Sx.Ext (Sx.No) u u := Sx.Ext.refl _ _
                              have Hu := H
                              refine Sx.st_take hT rfl rfl rfl rfl (Sx.x_move hT rfl rfl) ?_
                              clear hT; intro a hT
                              refine Sx.st_take hT rfl rfl rfl rfl (Sx.x_move hT rfl rfl) ?_
                              clear hT; intro a hT
                              refine Sx.st_take hT rfl rfl rfl rfl (Sx.x_index (k := 0) hT rfl Tryd.underlying52 Tryd.ti23 ((H.blk 3 rfl).svn rfl) rfl rfl rfl (by omega)) ?_
                              clear hT; intro a hT
                              refine Sx.st_take hT rfl rfl rfl rfl (Sx.x_fieldAddr hT rfl Tryd.fa23_0 rfl) ?_
                              clear hT; intro a hT
                              refine Sx.st_held hT rfl rfl rfl rfl hH (fun w' h' => Sx.x_load1 hT rfl Tryd.fl3 rfl ((Hu.heldB 3 rfl h' Sx.off_No).nth rfl)) ?_
                              clear hT; intro a hT
                              refine Sx.st_take hT rfl rfl rfl rfl (Sx.x_move hT rfl rfl) ?_
                              clear hT; intro a hT
                              refine Sx.st_take hT rfl rfl rfl rfl (Sx.x_move hT rfl rfl) ?_
                              clear hT; intro a hT
                              refine Sx.st_take hT rfl rfl rfl rfl (Sx.x_index (k := 0) hT rfl Tryd.underlying52 Tryd.ti23 ((H.blk 3 rfl).svn rfl) rfl rfl rfl (by omega)) ?_
                              clear hT; intro a hT
                              refine Sx.st_take hT rfl rfl rfl rfl (Sx.x_fieldAddr hT rfl Tryd.fa23_1 rfl) ?_
                              clear hT; intro a hT
                              refine Sx.st_held hT rfl rfl rfl rfl hH (fun w' h' => Sx.x_load1 hT rfl Tryd.fl3 rfl ((Hu.heldB 3 rfl h' Sx.off_No).nth rfl)) ?_
                              clear hT; intro a hT
                              refine Sx.st_take hT rfl rfl rfl rfl (Sx.x_bld hT rfl Tryd.bld23 rfl rfl) ?_
                              clear hT; intro a hT
                              refine Sx.st_held hT rfl rfl rfl rfl hH (fun w' h' => Sx.y_loadS hT rfl Tryd.underlying23 Tryd.ti23 rfl ((Hu.heldB 2 rfl h' Sx.off_No).seg (k := 3) rfl) (by rfl)) ?_
                              clear hT; intro a hT
                              refine Sx.st_callkeep hT rfl rfl rfl rfl rfl Tryd.can30 rfl (Less_calls _ _ _ _ _ _ _) ?_
                              rintro _ w14 ⟨rfl, E⟩
                              refine ⟨_, rfl, hH.step E, ?_⟩
                              replace hH := hH.step E
                              clear hT; intro a hT
                              replace H := H.pure E; clear E
                              refine Sx.st_take hT rfl rfl rfl rfl (Sx.x_not hT rfl rfl) ?_
                              clear hT; intro a hT
                              refine Sx.st_take hT rfl rfl rfl rfl (Sx.x_move hT rfl rfl) ?_
                              clear hT; intro a hT
                              -- guard (30, 14)
                              refine Sx.Sl.two hT 199 rfl (fun hc42 hT => ?_) (fun hc42 hT => ?_)
                              · exfalso
                                try simp only [decide_eq_true_eq, decide_eq_false_iff_not, Bool.not_eq_true', Bool.not_eq_false', Bool.not_eq_true, Bool.not_eq_false, Bool.and_eq_true, Bool.or_eq_false_iff, beq_iff_eq, bne_iff_ne, Int.not_lt, Int.not_le, ne_eq] at hc42
                                exact absurd (lexlt_cmp t5 63) (Int.not_lt.2 hc42)
                              · try simp only [decide_eq_true_eq, decide_eq_false_iff_not, Bool.not_eq_true', Bool.not_eq_false', Bool.not_eq_true, Bool.not_eq_false, Bool.and_eq_true, Bool.or_eq_false_iff, beq_iff_eq, bne_iff_ne, Int.not_lt, Int.not_le, ne_eq] at hc42
                                refine Sx.st_skip hT rfl rfl rfl rfl ?_
                                clear hT; intro a hT
                                refine Sx.st_skip hT rfl rfl rfl rfl ?_
                                clear hT; intro a hT
                                refine Sx.st_skip hT rfl rfl rfl rfl ?_
                                clear hT; intro a hT
                                refine Sx.st_skip hT rfl rfl rfl rfl ?_
                                clear hT; intro a hT
                                refine Sx.st_heldskip hT rfl rfl rfl rfl hH ?_
                                clear hT; intro a hT
                                refine Sx.st_skip hT rfl rfl rfl rfl ?_
                                clear hT; intro a hT
                                refine Sx.st_heldskip hT rfl rfl rfl rfl hH ?_
                                clear hT; intro a hT
                                refine Sx.st_skip hT rfl rfl rfl rfl ?_
                                clear hT; intro a hT
                                refine Sx.st_skip hT rfl rfl rfl rfl ?_
                                clear hT; intro a hT
                                refine Sx.st_skip hT rfl rfl rfl rfl ?_
                                clear hT; intro a hT
                                refine Sx.st_skip hT rfl rfl rfl rfl ?_
                                clear hT; intro a hT
                                refine Sx.st_skip hT rfl rfl rfl rfl ?_
                                clear hT; intro a hT
                                refine Sx.st_skip hT rfl rfl rfl rfl ?_
                                clear hT; intro a hT
                                refine Sx.st_heldskip hT rfl rfl rfl rfl hH ?_
                                clear hT; intro a hT
                                refine Sx.st_skip hT rfl rfl rfl rfl ?_
                                clear hT; intro a hT
                                refine Sx.st_heldskip hT rfl rfl rfl rfl hH ?_
                                clear hT; intro a hT
                                refine Sx.st_skip hT rfl rfl rfl rfl ?_
                                clear hT; intro a hT
                                refine Sx.st_skip hT rfl rfl rfl rfl ?_
                                clear hT; intro a hT
                                refine Sx.st_skip hT rfl rfl rfl rfl ?_
                                clear hT; intro a hT
                                refine Sx.st_take hT rfl rfl rfl rfl (Sx.x_pick_f hT rfl rfl rfl) ?_
                                clear hT; intro a hT
                                replace hT := hT.keep [219, 184, 19, 135, 24, 25, 22, 76, 21, 20, 18, 17, 59, 16, 15, 14, 13, 28, 8, 0, 1, 2, 3, 4, 5] rfl
                                clear Hu hH
                                refine Sx.ser_calm ?_
                                refine Sx.then_normal (hK41 _ _ ?_)
                                clear hK41
                                refine Sx.wp_if hT rfl (fun h => by cases h) (fun _ => ?_)
                                refine wp_skip ?_
                                refine Sx.then_normal (hK40 _ _ ?_)
                                clear hK40
                                refine wp_seq_k fun K43 hK43 => ?_
                                -- region 32 (law.go:126)
                                refine Sx.wp_text [(0, .take), (1, .take), (2, .run), (3, .take), (4, .run)] rfl ?_
                                refine Sx.st_take hT rfl rfl rfl rfl (Sx.x_move hT rfl rfl) ?_
                                clear hT; intro a hT
                                refine Sx.st_take hT rfl rfl rfl rfl (Sx.x_move hT rfl rfl) ?_
                                clear hT; intro a hT
                                refine Sx.st_run hT rfl rfl rfl rfl (Sx.y_loadS hT rfl Tryd.underlying23 Tryd.ti23 rfl ((H.blk 2 rfl).seg (k := 3) rfl) (by rfl)) ?_
                                clear hT; intro a hT
                                refine Sx.st_take hT rfl rfl rfl rfl (Sx.x_index (k := 0) hT rfl Tryd.underlying52 Tryd.ti23 ((H.blk 3 rfl).svn rfl) rfl rfl rfl (by omega)) ?_
                                clear hT; intro a hT
                                refine Sx.st_act hT rfl rfl rfl (Sx.y_storeS hT rfl Tryd.ti23 rfl rfl rfl rfl rfl (H.blk 3 rfl) rfl) ?_
                                rintro w15 ⟨hb, E, _⟩
                                replace H := H.setB 3 rfl hb E rfl; clear hb E
                                replace hT := hT.keep [219, 184, 19, 135, 24, 25, 22, 76, 21, 20, 18, 17, 59, 16, 15, 14, 13, 28, 8, 0, 1, 2, 3, 4, 5] rfl
                                refine Sx.ser_nil ?_
                                refine Sx.then_normal (hK43 _ _ ?_)
                                clear hK43
                                refine wp_seq_k fun K44 hK44 => ?_
                                refine wp_seq_k fun K45 hK45 => ?_
                                -- region 33 (law.go:127)
                                refine Sx.wp_text [(0, .take)] rfl ?_
                                refine Sx.st_take hT rfl rfl rfl rfl (Sx.x_assign hT rfl rfl) ?_
                                clear hT; intro a hT
                                replace hT := hT.keep [26, 219, 184, 19, 135, 24, 25, 22, 76, 21, 20, 18, 17, 59, 16, 15, 14, 13, 28, 8, 0, 1, 2, 3, 4, 5] rfl
                                refine Sx.ser_nil ?_
                                refine Sx.then_normal (hK45 _ _ ?_)
                                clear hK45
                                refine wp_block ?_
                                -- loop 1
                                refine Sx.wp_loopH (G := Nat) (fun m => [(26, .int .i64 (m : Int))]) (fun m => []) (fun m => m ≤ told.length) (fun m => told.length - m) 0 (hT.keep [26, 219, 184, 19, 135, 24, 25, 22, 76, 21, 20, 18, 17, 59, 16, 15, 14, 13, 28, 8, 0, 1, 2, 3, 4, 5] rfl) (H.keep [0, 1, 2, 3, 4, 5, 6, 7] rfl rfl) (Nat.zero_le _) ?_
                                clear hT H
                                rintro m a w16 hJ hT H
                                replace hT := hT.keep [26, 219, 184, 19, 135, 24, 25, 22, 76, 21, 20, 18, 17, 59, 16, 15, 14, 13, 28, 8, 0, 1, 2, 3, 4, 5] rfl
                                replace H := H.keep [0, 1, 2, 3, 4, 5, 6, 7] rfl rfl
                                have hm : m ≤ told.length := hJ
                                refine wp_seq_k fun K46 hK46 => ?_
                                refine wp_seq_k fun K47 hK47 => ?_
                                -- region 34 (law.go:127)
                                refine Sx.wp_text [(0, .take), (1, .take), (2, .take), (3, .take)] rfl ?_
                                refine Sx.st_take hT rfl rfl rfl rfl (Sx.x_move hT rfl rfl) ?_
                                clear hT; intro a hT
                                refine Sx.st_take hT rfl rfl rfl rfl (Sx.x_move hT rfl rfl) ?_
                                clear hT; intro a hT
                                refine Sx.st_take hT rfl rfl rfl rfl (Sx.x_len_slice hT rfl rfl Tryd.underlying52 rfl) ?_
                                clear hT; intro a hT
                                refine Sx.st_take hT rfl rfl rfl rfl ((fun w => Sx.x_lt w hT rfl rfl rfl)) ?_
                                clear hT; intro a hT
                                replace hT := hT.keep [227, 26, 219, 184, 19, 135, 24, 25, 22, 76, 21, 20, 18, 17, 59, 16, 15, 14, 13, 28, 8, 0, 1, 2, 3, 4, 5] rfl
                                refine Sx.ser_nil ?_
                                refine Sx.then_normal (hK47 _ _ ?_)
                                clear hK47
                                -- cond 11
                                refine Sx.wp_if hT rfl (fun hc48 => ?_) (fun hc48 => ?_)
                                · try simp only [decide_eq_true_eq, decide_eq_false_iff_not, Bool.not_eq_true', Bool.not_eq_false', Bool.not_eq_true, Bool.not_eq_false, Bool.and_eq_true, Bool.or_eq_false_iff, beq_iff_eq, bne_iff_ne, Int.not_lt, Int.not_le, ne_eq] at hc48
                                  obtain ⟨tt, ht⟩ : ∃ o, told[m]? = some o := ⟨_, List.getElem?_eq_getElem (by omega)⟩
                                  refine wp_skip ?_
                                  refine Sx.then_normal (hK46 _ _ ?_)
                                  clear hK46
                                  refine wp_seq_k fun K49 hK49 => ?_
                                  refine wp_block ?_
                                  refine wp_seq_k fun K50 hK50 => ?_
                                  -- region 36 (law.go:128)
                                  refine Sx.wp_draws (fun u => Sx.Ext (Sx.No) u) [(0, .take), (1, .take), (2, .take), (3, .held), (4, .held), (5, .take)] (by kernel_rfl) (by kernel_rfl) (fun u E _ => ?_)
                                  replace H := H.pure E; clear E
                                  have hH : Sx.Ext (Sx.No) u u := Sx.Ext.refl _ _
                                  have Hu := H
                                  refine Sx.st_take hT rfl rfl rfl rfl (Sx.x_move hT rfl rfl) ?_
                                  clear hT; intro a hT
                                  refine Sx.st_take hT rfl rfl rfl rfl (Sx.x_move hT rfl rfl) ?_
                                  clear hT; intro a hT
                                  refine Sx.st_take hT rfl rfl rfl rfl (Sx.x_index hT rfl Tryd.underlying52 Tryd.ti23 (H.row 5 rfl).sv rfl rfl rfl (by omega)) ?_
                                  clear hT; intro a hT
                                  refine Sx.st_held hT rfl rfl rfl rfl hH (fun w' h' => Sx.y_loadS hT rfl Tryd.underlying23 Tryd.ti23 rfl (((Row.ss (enc := stc) (xs := told) (Hu.heldR 5 rfl h' Sx.off_No)).cs stc_len ht).seg (i := 0) (k := 3) rfl) (by rfl)) ?_
                                  clear hT; intro a hT
                                  refine Sx.st_held hT rfl rfl rfl rfl hH (fun w' h' => Sx.y_loadS hT rfl Tryd.underlying23 Tryd.ti23 rfl ((Hu.heldB 2 rfl h' Sx.off_No).seg (k := 3) rfl) (by rfl)) ?_
                                  clear hT; intro a hT
                                  refine Sx.st_take hT rfl rfl rfl rfl (Sx.x_eqS hT rfl (by kernel_rfl) (Tryd.eq23 _ _ _ _ _ _) rfl rfl rfl) ?_
                                  clear hT; intro a hT
                                  replace hT := hT.keep [235, 227, 26, 219, 184, 19, 135, 24, 25, 22, 76, 21, 20, 18, 17, 59, 16, 15, 14, 13, 28, 8, 0, 1, 2, 3, 4, 5] rfl
                                  clear Hu hH
                                  refine Sx.ser_calm ?_
                                  refine Sx.then_normal (hK50 _ _ ?_)
                                  clear hK50
                                  -- cond 12
                                  refine Sx.wp_if hT rfl (fun hc51 => ?_) (fun hc51 => ?_)
                                  · exfalso
                                    try simp only [decide_eq_true_eq, decide_eq_false_iff_not, Bool.not_eq_true', Bool.not_eq_false', Bool.not_eq_true, Bool.not_eq_false, Bool.and_eq_true, Bool.or_eq_false_iff, beq_iff_eq, bne_iff_ne, Int.not_lt, Int.not_le, ne_eq] at hc51
                                    exact t6 _ (List.mem_of_getElem? ht) hc51
                                  · try simp only [decide_eq_true_eq, decide_eq_false_iff_not, Bool.not_eq_true', Bool.not_eq_false', Bool.not_eq_true, Bool.not_eq_false, Bool.and_eq_true, Bool.or_eq_false_iff, beq_iff_eq, bne_iff_ne, Int.not_lt, Int.not_le, ne_eq] at hc51
                                    refine wp_skip ?_
                                    refine Sx.block_normal ?_
                                    refine Sx.then_normal (hK49 _ _ ?_)
                                    clear hK49
                                    -- region 35 (law.go:127)
                                    refine Sx.wp_text [(0, .take), (1, .take), (2, .take)] rfl ?_
                                    refine Sx.st_take hT rfl rfl rfl rfl (Sx.x_move hT rfl rfl) ?_
                                    clear hT; intro a hT
                                    refine Sx.st_take hT rfl rfl rfl rfl ((fun w => Sx.x_add w hT rfl rfl rfl (Sx.wrap64 (by omega)))) ?_
                                    clear hT; intro a hT
                                    refine Sx.st_take hT rfl rfl rfl rfl (Sx.x_assign hT rfl rfl) ?_
                                    clear hT; intro a hT
                                    replace hT := hT.keep [26, 235, 227, 219, 184, 19, 135, 24, 25, 22, 76, 21, 20, 18, 17, 59, 16, 15, 14, 13, 28, 8, 0, 1, 2, 3, 4, 5] rfl
                                    refine Sx.ser_nil ?_
                                    refine Sx.then_normal ?_
                                    exact ⟨m + 1, (by omega), (hT.keep [26, 219, 184, 19, 135, 24, 25, 22, 76, 21, 20, 18, 17, 59, 16, 15, 14, 13, 28, 8, 0, 1, 2, 3, 4, 5] rfl), (H.keep [0, 1, 2, 3, 4, 5, 6, 7] rfl rfl), by omega⟩
                                · try simp only [decide_eq_true_eq, decide_eq_false_iff_not, Bool.not_eq_true', Bool.not_eq_false', Bool.not_eq_true, Bool.not_eq_false, Bool.and_eq_true, Bool.or_eq_false_iff, beq_iff_eq, bne_iff_ne, Int.not_lt, Int.not_le, ne_eq] at hc48
                                  refine wp_exit ?_
                                  refine Sx.then_exit ?_
                                  refine Sx.then_exit ?_
                                  refine Sx.block_exit ?_
                                  refine Sx.then_normal (hK44 _ _ ?_)
                                  clear hK44
                                  -- region 38 (law.go:132)
                                  refine Sx.wp_text [(0, .take), (1, .run), (2, .run), (3, .run), (4, .take)] rfl ?_
                                  refine Sx.st_take hT rfl rfl rfl rfl (Sx.x_move hT rfl rfl) ?_
                                  clear hT; intro a hT
                                  refine Sx.st_run hT rfl rfl rfl rfl (Sx.y_loadS hT rfl Tryd.underlying23 Tryd.ti23 rfl ((H.blk 2 rfl).seg (k := 3) rfl) (by rfl)) ?_
                                  clear hT; intro a hT
                                  refine Sx.st_eff hT rfl rfl rfl rfl (Sx.y_slice1 hT rfl Tryd.underlying52 Tryd.ti23 rfl rfl rfl rfl rfl rfl _) ?_
                                  clear hT; rintro _ w17 ⟨b5, rfl, N⟩ a hT
                                  replace H := H.new N; clear N
                                  refine Sx.st_eff hT rfl rfl rfl rfl (Sx.x_append hT rfl rfl Tryd.underlying52 Tryd.ti23 rfl (by decide) rfl rfl (H.row 6 rfl) ((H.blk 0 rfl).sv1 rfl) (by simp [Value.oneCell']) (fun h => by cases h) (by unfold maxLen; omega) (by omega)) ?_
                                  rintro _ w18 ⟨ad18, c18, rfl, hr, E, hown, -⟩
                                  clear hT; intro a hT
                                  replace H := H.setR 6 rfl hr E hown rfl; clear hr E hown
                                  refine Sx.st_take hT rfl rfl rfl rfl (Sx.x_assign hT rfl rfl) ?_
                                  clear hT; intro a hT
                                  replace hT := hT.keep [20, 227, 26, 219, 184, 19, 135, 24, 25, 22, 76, 21, 18, 17, 59, 16, 15, 14, 13, 28, 8, 0, 1, 2, 3, 4, 5] rfl
                                  refine Sx.ser_nil ?_
                                  refine Sx.block_normal ?_
                                  refine Sx.then_normal (hK21 _ _ ?_)
                                  clear hK21
                                  -- region 13 (law.go:98)
                                  refine Sx.wp_text [(0, .take), (1, .take), (2, .take)] rfl ?_
                                  refine Sx.st_take hT rfl rfl rfl rfl (Sx.x_move hT rfl rfl) ?_
                                  clear hT; intro a hT
                                  refine Sx.st_take hT rfl rfl rfl rfl ((fun w => Sx.x_add w hT rfl rfl rfl (Sx.wrap64 (by omega)))) ?_
                                  clear hT; intro a hT
                                  refine Sx.st_take hT rfl rfl rfl rfl (Sx.x_assign hT rfl rfl) ?_
                                  clear hT; intro a hT
                                  replace hT := hT.keep [21, 20, 227, 26, 219, 184, 19, 135, 24, 25, 22, 76, 18, 17, 59, 16, 15, 14, 13, 28, 8, 0, 1, 2, 3, 4, 5] rfl
                                  refine Sx.ser_nil ?_
                                  refine Sx.then_normal ?_
                                  rw [len_snoc told (peek me ph).1] at hT H
                                  rw [flat_snoc told (peek me ph).1] at H
                                  exact ⟨⟨i + 1, (peek me ph).1, u1, (peek me ph).1, l1, max ws ph, told ++ [(peek me ph).1], ad18, c18⟩, ⟨by show i + 1 ≤ _; omega, by show i + 1 ≤ _; omega, hr2, by show (told ++ [_]).length ≤ i + 1; rw [List.length_append, List.length_singleton]; omega⟩, (hT.keep [21, 19, 20, 18, 17, 59, 16, 15, 14, 13, 28, 8, 0, 1, 2, 3, 4, 5] rfl), (H.keep [2, 5, 4, 6, 7, 8] rfl rfl), by show _ - (i + 1) < _ - i; omega⟩
                  · clear hK25; intro hJK25
                    -- region 23 (law.go:112)
                    have hg := (mayI hr.m0).2.2.1
                    have hbd9 := mayI hr.m0
                    refine Sx.wp_drawsF (fun u => Sx.Ext (Sx.No) u) [(0, .take), (1, .take), (2, .take), (3, .held), (4, .take), (5, .take), (6, .take), (7, .held)] 8 .run [(9, .take), (10, .take), (11, .take), (12, .keep), (13, .run), (14, .take)] 12 .keep [(8, .run), (9, .take), (10, .take), (11, .take), (13, .run), (14, .take)] (by kernel_rfl) (by kernel_rfl) (fun u E _ => ?_)
                    replace H := H.pure E; clear E
                    have hH : Sx.Ext (Sx.No) u u := Sx.Ext.refl _ _
                    have Hu := H
                    refine Sx.st_take hT rfl rfl rfl rfl (Sx.x_move hT rfl rfl) ?_
                    clear hT; intro a hT
                    refine Sx.st_take hT rfl rfl rfl rfl (Sx.x_move hT rfl rfl) ?_
                    clear hT; intro a hT
                    refine Sx.st_take hT rfl rfl rfl rfl (Sx.x_index (k := 0) hT rfl Tryd.underlying51 Tryd.ti33 ((H.blk 4 rfl).svn rfl) rfl rfl rfl (by omega)) ?_
                    clear hT; intro a hT
                    refine Sx.st_held hT rfl rfl rfl rfl hH (fun w' h' => Sx.x_load1 hT rfl Tryd.fl33 rfl ((Hu.heldB 4 rfl h' Sx.off_No).nth rfl)) ?_
                    clear hT; intro a hT
                    refine Sx.st_take hT rfl rfl rfl rfl (Sx.x_move hT rfl rfl) ?_
                    clear hT; intro a hT
                    refine Sx.st_take hT rfl rfl rfl rfl (Sx.x_move hT rfl rfl) ?_
                    clear hT; intro a hT
                    refine Sx.st_take hT rfl rfl rfl rfl (Sx.x_index hT rfl Tryd.underlying49 Tryd.ti3 (by first | exact (Rp.at H.ext).sv | exact (Rw.at H.ext).sv | exact (Rh.at H.ext).sv) rfl rfl rfl (by omega)) ?_
                    clear hT; intro a hT
                    refine Sx.st_held hT rfl rfl rfl rfl hH (fun w' h' => Sx.x_load1 hT rfl Tryd.fl3 rfl (by first | exact ((Hu.heldB 0 rfl h' Sx.off_No).nth rfl) | exact ((Hu.heldB 1 rfl h' Sx.off_No).nth rfl) | exact ((Hu.heldB 2 rfl h' Sx.off_No).nth rfl) | exact ((Hu.heldB 4 rfl h' Sx.off_No).nth rfl) | exact ((Hu.heldB 5 rfl h' Sx.off_No).nth rfl) | exact ((Rp.at (Hu.ext.step h')).cell (j := 0) icell_len hph rfl) | exact ((Rw.at (Hu.ext.step h')).cell (j := 0) bcell_len hbw rfl) | exact ((Rh.at (Hu.ext.step h')).cell (j := 0) bcell_len hbh rfl))) ?_
                    clear hT; intro a hT
                    refine Sx.ser_fork ?_ ?_
                    · skip
                      refine Sx.st_call hT rfl rfl rfl rfl rfl Tryd.can23 rfl (Now_calls (H.pre [0] rfl rfl) hg _) ?_
                      rintro _ w19 ⟨rfl, K⟩
                      refine ⟨_, rfl, ?_⟩
                      clear hT; intro a hT
                      replace H := H.back [0] [1, 2, 3, 4, 5] rfl rfl rfl K rfl; clear K
                      refine Sx.st_take hT rfl rfl rfl rfl (Sx.x_move hT rfl rfl) ?_
                      clear hT; intro a hT
                      refine Sx.st_take hT rfl rfl rfl rfl (Sx.x_extractL hT rfl rfl rfl) ?_
                      clear hT; intro a hT
                      refine Sx.st_take hT rfl rfl rfl rfl (Sx.x_extractL hT rfl rfl rfl) ?_
                      clear hT; intro a hT
                      refine Sx.st_effkeepif hT rfl rfl rfl rfl (Sx.y_alloc hT rfl Tryd.ti23 rfl _) ?_
                      rintro _ w20 ⟨b6, rfl, N⟩
                      refine ⟨fun h9 => h9.step N.ext, ?_⟩
                      clear hT; intro a hT
                      replace H := H.new N; clear N
                      refine Sx.st_act hT rfl rfl rfl (Sx.y_storeS hT rfl Tryd.ti23 rfl rfl rfl rfl rfl (H.blk 0 rfl) rfl) ?_
                      rintro w21 ⟨hb, E, _⟩
                      replace H := H.setB 0 rfl hb E rfl; clear hb E
                      refine Sx.st_take hT rfl rfl rfl rfl (Sx.x_assign hT rfl rfl) ?_
                      clear hT; intro a hT
                      replace hT := hT.keep [25, 24, 22, 76, 21, 19, 20, 18, 17, 59, 16, 15, 14, 13, 28, 8, 0, 1, 2, 3, 4, 5] rfl
                      clear Hu hH
                      refine Sx.ser_calm ?_
                      exact Sx.then_normal (hJK25 _ _ _ trivial (hT.keep [24, 25, 22, 76, 21, 19, 20, 18, 17, 59, 16, 15, 14, 13, 28, 8, 0, 1, 2, 3, 4, 5] rfl) (H.keep [1, 0, 2, 3, 4, 5, 6] rfl rfl))
                    · skip
                      refine Sx.st_effkeep hT rfl rfl rfl rfl (Sx.y_alloc hT rfl Tryd.ti23 rfl _) ?_
                      rintro _ w22 ⟨b7, rfl, N⟩
                      refine ⟨hH.step N.ext, ?_⟩
                      replace hH := hH.step N.ext
                      clear hT; intro a hT
                      replace H := H.new N; clear N
                      refine Sx.st_call hT rfl rfl rfl rfl rfl Tryd.can23 rfl (Now_calls (H.pre [1] rfl rfl) hg _) ?_
                      rintro _ w23 ⟨rfl, K⟩
                      refine ⟨_, rfl, ?_⟩
                      clear hT; intro a hT
                      replace H := H.back [1] [0, 2, 3, 4, 5, 6] rfl rfl rfl K rfl; clear K
                      refine Sx.st_take hT rfl rfl rfl rfl (Sx.x_move hT rfl rfl) ?_
                      clear hT; intro a hT
                      refine Sx.st_take hT rfl rfl rfl rfl (Sx.x_extractL hT rfl rfl rfl) ?_
                      clear hT; intro a hT
                      refine Sx.st_take hT rfl rfl rfl rfl (Sx.x_extractL hT rfl rfl rfl) ?_
                      clear hT; intro a hT
                      refine Sx.st_act hT rfl rfl rfl (Sx.y_storeS hT rfl Tryd.ti23 rfl rfl rfl rfl rfl (H.blk 1 rfl) rfl) ?_
                      rintro w24 ⟨hb, E, _⟩
                      replace H := H.setB 1 rfl hb E rfl; clear hb E
                      refine Sx.st_take hT rfl rfl rfl rfl (Sx.x_assign hT rfl rfl) ?_
                      clear hT; intro a hT
                      replace hT := hT.keep [25, 24, 22, 76, 21, 19, 20, 18, 17, 59, 16, 15, 14, 13, 28, 8, 0, 1, 2, 3, 4, 5] rfl
                      clear Hu hH
                      refine Sx.ser_calm ?_
                      exact Sx.then_normal (hJK25 _ _ _ trivial (hT.keep [24, 25, 22, 76, 21, 19, 20, 18, 17, 59, 16, 15, 14, 13, 28, 8, 0, 1, 2, 3, 4, 5] rfl) (H.keep [0, 1, 2, 3, 4, 5, 6] rfl rfl))
                · clear hK24; intro hJK24
                  refine wp_seq_k fun K52 hK52 => ?_
                  -- region 17 (law.go:103)
                  refine Sx.wp_text [(0, .take), (1, .take), (2, .take), (3, .take), (4, .take), (5, .take), (6, .take), (7, .take), (8, .run), (9, .take)] rfl ?_
                  refine Sx.st_take hT rfl rfl rfl rfl (Sx.x_move hT rfl rfl) ?_
                  clear hT; intro a hT
                  refine Sx.st_take hT rfl rfl rfl rfl (Sx.x_move hT rfl rfl) ?_
                  clear hT; intro a hT
                  refine Sx.st_take hT rfl rfl rfl rfl (Sx.x_len_slice hT rfl rfl Tryd.underlying50 rfl) ?_
                  clear hT; intro a hT
                  refine Sx.st_take hT rfl rfl rfl rfl ((fun w => Sx.x_lt w hT rfl rfl rfl)) ?_
                  clear hT; intro a hT
                  refine Sx.st_take hT rfl rfl rfl rfl (Sx.x_move hT rfl rfl) ?_
                  clear hT; intro a hT
                  -- guard (17, 4)
                  refine Sx.Sl.two hT 93 rfl (fun hc53 hT => ?_) (fun hc53 hT => ?_)
                  · try simp only [decide_eq_true_eq, decide_eq_false_iff_not, Bool.not_eq_true', Bool.not_eq_false', Bool.not_eq_true, Bool.not_eq_false, Bool.and_eq_true, Bool.or_eq_false_iff, beq_iff_eq, bne_iff_ne, Int.not_lt, Int.not_le, ne_eq] at hc53
                    obtain ⟨bh, hbh⟩ : ∃ o, hears[i]? = some o := ⟨_, List.getElem?_eq_getElem (by omega)⟩
                    refine Sx.st_take hT rfl rfl rfl rfl (Sx.x_move hT rfl rfl) ?_
                    clear hT; intro a hT
                    refine Sx.st_take hT rfl rfl rfl rfl (Sx.x_move hT rfl rfl) ?_
                    clear hT; intro a hT
                    refine Sx.st_take hT rfl rfl rfl rfl (Sx.x_index hT rfl Tryd.underlying50 Tryd.ti4 (by first | exact (Rp.at H.ext).sv | exact (Rw.at H.ext).sv | exact (Rh.at H.ext).sv) rfl rfl rfl (by omega)) ?_
                    clear hT; intro a hT
                    refine Sx.st_run hT rfl rfl rfl rfl (Sx.x_load1 hT rfl Tryd.fl4 rfl (by first | exact ((H.blk 0 rfl).nth rfl) | exact ((H.blk 1 rfl).nth rfl) | exact ((H.blk 2 rfl).nth rfl) | exact ((H.blk 4 rfl).nth rfl) | exact ((H.blk 5 rfl).nth rfl) | exact ((Rp.at H.ext).cell (j := 0) icell_len hph rfl) | exact ((Rw.at H.ext).cell (j := 0) bcell_len hbw rfl) | exact ((Rh.at H.ext).cell (j := 0) bcell_len hbh rfl))) ?_
                    clear hT; intro a hT
                    refine Sx.st_take hT rfl rfl rfl rfl (Sx.x_pick_t hT rfl rfl rfl) ?_
                    clear hT; intro a hT
                    replace hT := hT.keep [98, 22, 76, 21, 19, 20, 18, 17, 59, 16, 15, 14, 13, 28, 8, 0, 1, 2, 3, 4, 5] rfl
                    refine Sx.ser_nil ?_
                    refine Sx.then_normal (hK52 _ _ ?_)
                    clear hK52
                    -- cond 4
                    refine Sx.wp_if hT rfl (fun hc54 => ?_) (fun hc54 => ?_)
                    · try simp only [decide_eq_true_eq, decide_eq_false_iff_not, Bool.not_eq_true', Bool.not_eq_false', Bool.not_eq_true, Bool.not_eq_false, Bool.and_eq_true, Bool.or_eq_false_iff, beq_iff_eq, bne_iff_ne, Int.not_lt, Int.not_le, ne_eq] at hc54
                      refine wp_seq_k fun K55 hK55 => ?_
                      -- region 18 (law.go:104)
                      refine Sx.wp_text [(0, .take), (1, .take), (2, .take), (3, .take), (4, .run), (5, .run), (6, .run), (7, .run)] rfl ?_
                      refine Sx.st_take hT rfl rfl rfl rfl (Sx.x_move hT rfl rfl) ?_
                      clear hT; intro a hT
                      refine Sx.st_take hT rfl rfl rfl rfl (Sx.x_move hT rfl rfl) ?_
                      clear hT; intro a hT
                      refine Sx.st_take hT rfl rfl rfl rfl ((fun w => Sx.x_sub w hT rfl rfl rfl (Sx.wrap64 (by omega)))) ?_
                      clear hT; intro a hT
                      refine Sx.st_take hT rfl rfl rfl rfl (Sx.x_index (k := 1) hT rfl Tryd.underlying51 Tryd.ti33 ((H.blk 4 rfl).svn rfl) rfl rfl rfl (by omega)) ?_
                      clear hT; intro a hT
                      refine Sx.st_run hT rfl rfl rfl rfl (Sx.x_load1 hT rfl Tryd.fl33 rfl ((H.blk 4 rfl).nth rfl)) ?_
                      clear hT; intro a hT
                      refine Sx.st_call hT rfl rfl rfl rfl rfl Tryd.can29 rfl (Last_calls (H.blk 1 rfl)) ?_
                      rintro _ w25 ⟨rfl, E⟩
                      refine ⟨_, rfl, ?_⟩
                      clear hT; intro a hT
                      replace H := H.pure E; clear E
                      refine Sx.st_eff hT rfl rfl rfl rfl (Sx.y_alloc hT rfl Tryd.ti23 rfl _) ?_
                      clear hT; rintro _ w26 ⟨b8, rfl, N⟩ a hT
                      replace H := H.new N; clear N
                      refine Sx.st_act hT rfl rfl rfl (Sx.y_storeS hT rfl Tryd.ti23 rfl rfl rfl rfl rfl (H.blk 0 rfl) rfl) ?_
                      rintro w27 ⟨hb, E, _⟩
                      replace H := H.setB 0 rfl hb E rfl; clear hb E
                      replace hT := hT.keep [23, 98, 22, 76, 21, 19, 20, 18, 17, 59, 16, 15, 14, 13, 28, 8, 0, 1, 2, 3, 4, 5] rfl
                      refine Sx.ser_nil ?_
                      refine Sx.then_normal (hK55 _ _ ?_)
                      clear hK55
                      refine wp_seq_k fun K56 hK56 => ?_
                      refine wp_seq_k fun K57 hK57 => ?_
                      -- region 19 (law.go:105)
                      refine Sx.wp_draws (fun u => Sx.Ext (Sx.No) u) [(0, .take), (1, .take), (2, .take), (3, .held), (4, .held), (5, .run), (6, .take)] (by kernel_rfl) (by kernel_rfl) (fun u E _ => ?_)
                      replace H := H.pure E; clear E
                      have hH : Sx.Ext (Sx.No) u u := Sx.Ext.refl _ _
                      have Hu := H
                      refine Sx.st_take hT rfl rfl rfl rfl (Sx.x_move hT rfl rfl) ?_
                      clear hT; intro a hT
                      refine Sx.st_take hT rfl rfl rfl rfl (Sx.x_move hT rfl rfl) ?_
                      clear hT; intro a hT
                      refine Sx.st_take hT rfl rfl rfl rfl (Sx.x_index (k := 0) hT rfl Tryd.underlying51 Tryd.ti33 ((H.blk 5 rfl).svn rfl) rfl rfl rfl (by omega)) ?_
                      clear hT; intro a hT
                      refine Sx.st_held hT rfl rfl rfl rfl hH (fun w' h' => Sx.x_load1 hT rfl Tryd.fl33 rfl ((Hu.heldB 5 rfl h' Sx.off_No).nth rfl)) ?_
                      clear hT; intro a hT
                      refine Sx.st_held hT rfl rfl rfl rfl hH (fun w' h' => Sx.y_loadS hT rfl Tryd.underlying23 Tryd.ti23 rfl ((Hu.heldB 0 rfl h' Sx.off_No).seg (k := 3) rfl) (by rfl)) ?_
                      clear hT; intro a hT
                      refine Sx.st_call hT rfl rfl rfl rfl rfl Tryd.can27 rfl (Obs_calls (H.pre [1] rfl rfl) _ _ _) ?_
                      rintro _ w28 ⟨rfl, K⟩
                      refine ⟨_, rfl, ?_⟩
                      clear hT; intro a hT
                      replace H := H.back [1] [0, 2, 3, 4, 5, 6] rfl rfl rfl K rfl; clear K
                      refine Sx.st_take hT rfl rfl rfl rfl ((fun w => Sx.x_ne w hT rfl rfl rfl)) ?_
                      clear hT; intro a hT
                      replace hT := hT.keep [111, 23, 98, 22, 76, 21, 19, 20, 18, 17, 59, 16, 15, 14, 13, 28, 8, 0, 1, 2, 3, 4, 5] rfl
                      clear Hu hH
                      refine Sx.ser_calm ?_
                      refine Sx.then_normal (hK57 _ _ ?_)
                      clear hK57
                      -- cond 5
                      refine Sx.wp_if hT rfl (fun hc58 => ?_) (fun hc58 => ?_)
                      · exfalso
                        try simp only [decide_eq_true_eq, decide_eq_false_iff_not, Bool.not_eq_true', Bool.not_eq_false', Bool.not_eq_true, Bool.not_eq_false, Bool.and_eq_true, Bool.or_eq_false_iff, beq_iff_eq, bne_iff_ne, Int.not_lt, Int.not_le, ne_eq] at hc58
                        first | exact hc58 (if_pos hri.m1) | exact hc58 (if_pos hri.m0)
                      · try simp only [decide_eq_true_eq, decide_eq_false_iff_not, Bool.not_eq_true', Bool.not_eq_false', Bool.not_eq_true, Bool.not_eq_false, Bool.and_eq_true, Bool.or_eq_false_iff, beq_iff_eq, bne_iff_ne, Int.not_lt, Int.not_le, ne_eq] at hc58
                        refine wp_skip ?_
                        refine Sx.then_normal (hK56 _ _ ?_)
                        clear hK56
                        refine wp_seq_k fun K59 hK59 => ?_
                        -- region 21 (law.go:108)
                        rw [show (⟨u1.wall, u1.logical, u1.node⟩ : Stamp) = u1 from rfl] at H
                        refine Sx.wp_draws (fun u => Sx.Ext (Sx.No) u) [(0, .take), (1, .take), (2, .take), (3, .held), (4, .held), (5, .run)] (by kernel_rfl) (by kernel_rfl) (fun u E _ => ?_)
                        replace H := H.pure E; clear E
                        have hH : Sx.Ext (Sx.No) u u := Sx.Ext.refl _ _
                        have Hu := H
                        refine Sx.st_take hT rfl rfl rfl rfl (Sx.x_move hT rfl rfl) ?_
                        clear hT; intro a hT
                        refine Sx.st_take hT rfl rfl rfl rfl (Sx.x_move hT rfl rfl) ?_
                        clear hT; intro a hT
                        refine Sx.st_take hT rfl rfl rfl rfl (Sx.x_index (k := 0) hT rfl Tryd.underlying52 Tryd.ti23 ((H.blk 3 rfl).svn rfl) rfl rfl rfl (by omega)) ?_
                        clear hT; intro a hT
                        refine Sx.st_held hT rfl rfl rfl rfl hH (fun w' h' => Sx.y_loadS hT rfl Tryd.underlying23 Tryd.ti23 rfl ((Hu.heldB 3 rfl h' Sx.off_No).seg (k := 3) rfl) (by rfl)) ?_
                        clear hT; intro a hT
                        refine Sx.st_held hT rfl rfl rfl rfl hH (fun w' h' => Sx.y_loadS hT rfl Tryd.underlying23 Tryd.ti23 rfl ((Hu.heldB 1 rfl h' Sx.off_No).seg (k := 3) rfl) (by rfl)) ?_
                        clear hT; intro a hT
                        refine Sx.st_call hT rfl rfl rfl rfl rfl Tryd.can30 rfl (Less_calls _ _ _ _ _ _ _) ?_
                        rintro _ w29 ⟨rfl, E⟩
                        refine ⟨_, rfl, ?_⟩
                        clear hT; intro a hT
                        replace H := H.pure E; clear E
                        replace hT := hT.keep [117, 111, 23, 98, 22, 76, 21, 19, 20, 18, 17, 59, 16, 15, 14, 13, 28, 8, 0, 1, 2, 3, 4, 5] rfl
                        clear Hu hH
                        refine Sx.ser_calm ?_
                        refine Sx.then_normal (hK59 _ _ ?_)
                        clear hK59
                        -- cond 6
                        refine Sx.wp_if hT rfl (fun hc60 => ?_) (fun hc60 => ?_)
                        · try simp only [decide_eq_true_eq, decide_eq_false_iff_not, Bool.not_eq_true', Bool.not_eq_false', Bool.not_eq_true, Bool.not_eq_false, Bool.and_eq_true, Bool.or_eq_false_iff, beq_iff_eq, bne_iff_ne, Int.not_lt, Int.not_le, ne_eq] at hc60
                          -- region 22 (law.go:109)
                          refine Sx.wp_text [(0, .take), (1, .take), (2, .run), (3, .take), (4, .run)] rfl ?_
                          refine Sx.st_take hT rfl rfl rfl rfl (Sx.x_move hT rfl rfl) ?_
                          clear hT; intro a hT
                          refine Sx.st_take hT rfl rfl rfl rfl (Sx.x_move hT rfl rfl) ?_
                          clear hT; intro a hT
                          refine Sx.st_run hT rfl rfl rfl rfl (Sx.y_loadS hT rfl Tryd.underlying23 Tryd.ti23 rfl ((H.blk 1 rfl).seg (k := 3) rfl) (by rfl)) ?_
                          clear hT; intro a hT
                          refine Sx.st_take hT rfl rfl rfl rfl (Sx.x_index (k := 0) hT rfl Tryd.underlying52 Tryd.ti23 ((H.blk 3 rfl).svn rfl) rfl rfl rfl (by omega)) ?_
                          clear hT; intro a hT
                          refine Sx.st_act hT rfl rfl rfl (Sx.y_storeS hT rfl Tryd.ti23 rfl rfl rfl rfl rfl (H.blk 3 rfl) rfl) ?_
                          rintro w30 ⟨hb, E, _⟩
                          replace H := H.setB 3 rfl hb E rfl; clear hb E
                          replace hT := hT.keep [117, 111, 23, 98, 22, 76, 21, 19, 20, 18, 17, 59, 16, 15, 14, 13, 28, 8, 0, 1, 2, 3, 4, 5] rfl
                          refine Sx.ser_nil ?_
                          exact Sx.then_normal (hJK24 ((obs u0 u1), u1) _ _ hri.hear_set (hT.keep [22, 76, 21, 19, 20, 18, 17, 59, 16, 15, 14, 13, 28, 8, 0, 1, 2, 3, 4, 5] rfl) (H.keep [0, 3, 2, 4, 5, 6] rfl rfl))
                        · try simp only [decide_eq_true_eq, decide_eq_false_iff_not, Bool.not_eq_true', Bool.not_eq_false', Bool.not_eq_true, Bool.not_eq_false, Bool.and_eq_true, Bool.or_eq_false_iff, beq_iff_eq, bne_iff_ne, Int.not_lt, Int.not_le, ne_eq] at hc60
                          refine wp_skip ?_
                          exact Sx.then_normal (hJK24 ((obs u0 u1), l0) _ _ hri.hear_keep (hT.keep [22, 76, 21, 19, 20, 18, 17, 59, 16, 15, 14, 13, 28, 8, 0, 1, 2, 3, 4, 5] rfl) (H.keep [0, 3, 2, 4, 5, 6] rfl rfl))
                    · try simp only [decide_eq_true_eq, decide_eq_false_iff_not, Bool.not_eq_true', Bool.not_eq_false', Bool.not_eq_true, Bool.not_eq_false, Bool.and_eq_true, Bool.or_eq_false_iff, beq_iff_eq, bne_iff_ne, Int.not_lt, Int.not_le, ne_eq] at hc54
                      refine wp_skip ?_
                      exact Sx.then_normal (hJK24 (u0, l0) _ _ hri (hT.keep [22, 76, 21, 19, 20, 18, 17, 59, 16, 15, 14, 13, 28, 8, 0, 1, 2, 3, 4, 5] rfl) (H.keep [0, 2, 1, 3, 4, 5] rfl rfl))
                  · try simp only [decide_eq_true_eq, decide_eq_false_iff_not, Bool.not_eq_true', Bool.not_eq_false', Bool.not_eq_true, Bool.not_eq_false, Bool.and_eq_true, Bool.or_eq_false_iff, beq_iff_eq, bne_iff_ne, Int.not_lt, Int.not_le, ne_eq] at hc53
                    refine Sx.st_skip hT rfl rfl rfl rfl ?_
                    clear hT; intro a hT
                    refine Sx.st_skip hT rfl rfl rfl rfl ?_
                    clear hT; intro a hT
                    refine Sx.st_skip hT rfl rfl rfl rfl ?_
                    clear hT; intro a hT
                    refine Sx.st_runskip hT rfl rfl rfl rfl ?_
                    clear hT; intro a hT
                    refine Sx.st_take hT rfl rfl rfl rfl (Sx.x_pick_f hT rfl rfl rfl) ?_
                    clear hT; intro a hT
                    replace hT := hT.keep [98, 22, 76, 21, 19, 20, 18, 17, 59, 16, 15, 14, 13, 28, 8, 0, 1, 2, 3, 4, 5] rfl
                    refine Sx.ser_nil ?_
                    refine Sx.then_normal (hK52 _ _ ?_)
                    clear hK52
                    refine Sx.wp_if hT rfl (fun h => by cases h) (fun _ => ?_)
                    refine wp_skip ?_
                    exact Sx.then_normal (hJK24 (u0, l0) _ _ hri (hT.keep [22, 76, 21, 19, 20, 18, 17, 59, 16, 15, 14, 13, 28, 8, 0, 1, 2, 3, 4, 5] rfl) (H.keep [0, 2, 1, 3, 4, 5] rfl rfl))
              · skip
                refine wp_seq_k fun K61 hK61 => ?_
                refine Sx.wp_join (G := Stamp × Stamp) (fun ⟨me, lm⟩ => []) (fun ⟨me, lm⟩ => [cB pd [.int .i64 me.wall, .int .i64 me.logical, .int .i64 me.node] 60, cB b3 [.int .i64 l0.wall, .int .i64 l0.logical, .int .i64 l0.node, .int .i64 lm.wall, .int .i64 lm.logical, .int .i64 lm.node] 23]) (fun ⟨me, lm⟩ => RI n2 n1 me u0 lm l0 ws told) (hT.keep [22, 76, 21, 19, 20, 18, 17, 59, 16, 15, 14, 13, 28, 8, 0, 1, 2, 3, 4, 5] rfl) (H.keep [0, 3, 4, 5] rfl rfl) hK61 ?_ ?_
                · clear hT H hK61
                  rintro ⟨me, lm⟩ a w31 hJ hT H
                  replace hT := hT.keep [22, 76, 21, 19, 20, 18, 17, 59, 16, 15, 14, 13, 28, 8, 0, 1, 2, 3, 4, 5] rfl
                  replace H := H.keep [0, 1, 2, 3, 4, 5] rfl rfl
                  have hr := hJ
                  refine wp_seq_k fun K62 hK62 => ?_
                  refine Sx.wp_join (G := Nat) (fun b9 => [(24, .pointer (some ⟨b9, 0, none⟩)), (25, .int .i64 (peek me ph).2)]) (fun b9 => [cB pd [.int .i64 (now me ph).wall, .int .i64 (now me ph).logical, .int .i64 (now me ph).node] 60, cB b9 [.int .i64 (peek me ph).1.wall, .int .i64 (peek me ph).1.logical, .int .i64 (peek me ph).1.node] 23]) (fun b9 => True) (hT.keep [22, 76, 21, 19, 20, 18, 17, 59, 16, 15, 14, 13, 28, 8, 0, 1, 2, 3, 4, 5] rfl) (H.keep [1, 2, 3, 4, 5] rfl rfl) hK62 ?_ ?_
                  · clear hT H hK62
                    rintro b9 a w32 hJ hT H
                    replace hT := hT.keep [24, 25, 22, 76, 21, 19, 20, 18, 17, 59, 16, 15, 14, 13, 28, 8, 0, 1, 2, 3, 4, 5] rfl
                    replace H := H.keep [0, 1, 2, 3, 4, 5, 6] rfl rfl
                    clear hJ
                    refine wp_seq_k fun K63 hK63 => ?_
                    refine wp_seq_k fun K64 hK64 => ?_
                    -- region 24 (law.go:113)
                    refine Sx.wp_text [(0, .take), (1, .take)] rfl ?_
                    refine Sx.st_take hT rfl rfl rfl rfl (Sx.x_move hT rfl rfl) ?_
                    clear hT; intro a hT
                    refine Sx.st_take hT rfl rfl rfl rfl ((fun w => Sx.x_ne w hT rfl rfl rfl)) ?_
                    clear hT; intro a hT
                    replace hT := hT.keep [135, 24, 25, 22, 76, 21, 19, 20, 18, 17, 59, 16, 15, 14, 13, 28, 8, 0, 1, 2, 3, 4, 5] rfl
                    refine Sx.ser_nil ?_
                    refine Sx.then_normal (hK64 _ _ ?_)
                    clear hK64
                    -- cond 7
                    refine Sx.wp_if hT rfl (fun hc65 => ?_) (fun hc65 => ?_)
                    · try simp only [decide_eq_true_eq, decide_eq_false_iff_not, Bool.not_eq_true', Bool.not_eq_false', Bool.not_eq_true, Bool.not_eq_false, Bool.and_eq_true, Bool.or_eq_false_iff, beq_iff_eq, bne_iff_ne, Int.not_lt, Int.not_le, ne_eq] at hc65
                      have hp := hc65
                      rw [now_not _ _ hp] at H
                      have hpe := peek_err hp
                      refine wp_seq_k fun K66 hK66 => ?_
                      refine wp_seq_k fun K67 hK67 => ?_
                      -- region 25 (law.go:114)
                      refine Sx.wp_text [(0, .take), (1, .take), (2, .take), (3, .run), (4, .take), (5, .take), (6, .take), (7, .take), (8, .take), (9, .run), (10, .run), (11, .take), (12, .take), (13, .take)] rfl ?_
                      refine Sx.st_take hT rfl rfl rfl rfl (Sx.x_move hT rfl rfl) ?_
                      clear hT; intro a hT
                      refine Sx.st_take hT rfl rfl rfl rfl (Sx.x_move hT rfl rfl) ?_
                      clear hT; intro a hT
                      refine Sx.st_take hT rfl rfl rfl rfl (Sx.x_index hT rfl Tryd.underlying49 Tryd.ti3 (by first | exact (Rp.at H.ext).sv | exact (Rw.at H.ext).sv | exact (Rh.at H.ext).sv) rfl rfl rfl (by omega)) ?_
                      clear hT; intro a hT
                      refine Sx.st_run hT rfl rfl rfl rfl (Sx.x_load1 hT rfl Tryd.fl3 rfl (by first | exact ((H.blk 0 rfl).nth rfl) | exact ((H.blk 1 rfl).nth rfl) | exact ((H.blk 2 rfl).nth rfl) | exact ((H.blk 3 rfl).nth rfl) | exact ((H.blk 5 rfl).nth rfl) | exact ((H.blk 6 rfl).nth rfl) | exact ((Rp.at H.ext).cell (j := 0) icell_len hph rfl) | exact ((Rw.at H.ext).cell (j := 0) bcell_len hbw rfl) | exact ((Rh.at H.ext).cell (j := 0) bcell_len hbh rfl))) ?_
                      clear hT; intro a hT
                      refine Sx.st_take hT rfl rfl rfl rfl ((fun w => Sx.x_le w hT rfl rfl rfl)) ?_
                      clear hT; intro a hT
                      refine Sx.st_take hT rfl rfl rfl rfl (Sx.x_move hT rfl rfl) ?_
                      clear hT; intro a hT
                      -- guard (25, 5)
                      refine Sx.Sl.two hT 141 rfl (fun hc68 hT => ?_) (fun hc68 hT => ?_)
                      · try simp only [decide_eq_true_eq, decide_eq_false_iff_not, Bool.not_eq_true', Bool.not_eq_false', Bool.not_eq_true, Bool.not_eq_false, Bool.and_eq_true, Bool.or_eq_false_iff, beq_iff_eq, bne_iff_ne, Int.not_lt, Int.not_le, ne_eq] at hc68
                        refine Sx.st_take hT rfl rfl rfl rfl (Sx.x_move hT rfl rfl) ?_
                        clear hT; intro a hT
                        refine Sx.st_take hT rfl rfl rfl rfl (Sx.x_move hT rfl rfl) ?_
                        clear hT; intro a hT
                        refine Sx.st_take hT rfl rfl rfl rfl (Sx.x_index (k := 1) hT rfl Tryd.underlying51 Tryd.ti33 ((H.blk 5 rfl).svn rfl) rfl rfl rfl (by omega)) ?_
                        clear hT; intro a hT
                        refine Sx.st_run hT rfl rfl rfl rfl (Sx.x_load1 hT rfl Tryd.fl33 rfl ((H.blk 5 rfl).nth rfl)) ?_
                        clear hT; intro a hT
                        refine Sx.st_call hT rfl rfl rfl rfl rfl Tryd.can29 rfl (Last_calls (H.blk 0 rfl)) ?_
                        rintro _ w33 ⟨rfl, E⟩
                        refine ⟨_, rfl, ?_⟩
                        clear hT; intro a hT
                        replace H := H.pure E; clear E
                        refine Sx.st_take hT rfl rfl rfl rfl (Sx.x_field1L hT rfl Tryd.fv23_1 Tryd.fl3 rfl rfl) ?_
                        clear hT; intro a hT
                        refine Sx.st_take hT rfl rfl rfl rfl ((fun w => Sx.x_lt w hT rfl rfl rfl)) ?_
                        clear hT; intro a hT
                        refine Sx.st_take hT rfl rfl rfl rfl (Sx.x_pick_t hT rfl rfl rfl) ?_
                        clear hT; intro a hT
                        replace hT := hT.keep [149, 135, 24, 25, 22, 76, 21, 19, 20, 18, 17, 59, 16, 15, 14, 13, 28, 8, 0, 1, 2, 3, 4, 5] rfl
                        refine Sx.ser_nil ?_
                        refine Sx.then_normal (hK67 _ _ ?_)
                        clear hK67
                        -- cond 8
                        refine Sx.wp_if hT rfl (fun hc69 => ?_) (fun hc69 => ?_)
                        · exfalso
                          try simp only [decide_eq_true_eq, decide_eq_false_iff_not, Bool.not_eq_true', Bool.not_eq_false', Bool.not_eq_true, Bool.not_eq_false, Bool.and_eq_true, Bool.or_eq_false_iff, beq_iff_eq, bne_iff_ne, Int.not_lt, Int.not_le, ne_eq] at hc69
                          omega
                        · try simp only [decide_eq_true_eq, decide_eq_false_iff_not, Bool.not_eq_true', Bool.not_eq_false', Bool.not_eq_true, Bool.not_eq_false, Bool.and_eq_true, Bool.or_eq_false_iff, beq_iff_eq, bne_iff_ne, Int.not_lt, Int.not_le, ne_eq] at hc69
                          refine wp_skip ?_
                          refine Sx.then_normal (hK66 _ _ ?_)
                          clear hK66
                          refine wp_exit ?_
                          refine Sx.then_exit ?_
                          refine Sx.block_exit ?_
                          refine Sx.then_normal (hK21 _ _ ?_)
                          clear hK21
                          -- region 13 (law.go:98)
                          refine Sx.wp_text [(0, .take), (1, .take), (2, .take)] rfl ?_
                          refine Sx.st_take hT rfl rfl rfl rfl (Sx.x_move hT rfl rfl) ?_
                          clear hT; intro a hT
                          refine Sx.st_take hT rfl rfl rfl rfl ((fun w => Sx.x_add w hT rfl rfl rfl (Sx.wrap64 (by omega)))) ?_
                          clear hT; intro a hT
                          refine Sx.st_take hT rfl rfl rfl rfl (Sx.x_assign hT rfl rfl) ?_
                          clear hT; intro a hT
                          replace hT := hT.keep [21, 149, 135, 24, 25, 22, 76, 19, 20, 18, 17, 59, 16, 15, 14, 13, 28, 8, 0, 1, 2, 3, 4, 5] rfl
                          refine Sx.ser_nil ?_
                          refine Sx.then_normal ?_
                          skip
                          exact ⟨⟨i + 1, u0, me, l0, lm, ws, told, ad, c⟩, ⟨by show i + 1 ≤ _; omega, by show i + 1 ≤ _; omega, hr.swap, by show told.length ≤ i + 1; omega⟩, (hT.keep [21, 19, 20, 18, 17, 59, 16, 15, 14, 13, 28, 8, 0, 1, 2, 3, 4, 5] rfl), (H.keep [3, 0, 2, 4, 5, 6] rfl rfl), by show _ - (i + 1) < _ - i; omega⟩
                      · try simp only [decide_eq_true_eq, decide_eq_false_iff_not, Bool.not_eq_true', Bool.not_eq_false', Bool.not_eq_true, Bool.not_eq_false, Bool.and_eq_true, Bool.or_eq_false_iff, beq_iff_eq, bne_iff_ne, Int.not_lt, Int.not_le, ne_eq] at hc68
                        refine Sx.st_skip hT rfl rfl rfl rfl ?_
                        clear hT; intro a hT
                        refine Sx.st_skip hT rfl rfl rfl rfl ?_
                        clear hT; intro a hT
                        refine Sx.st_skip hT rfl rfl rfl rfl ?_
                        clear hT; intro a hT
                        refine Sx.st_runskip hT rfl rfl rfl rfl ?_
                        clear hT; intro a hT
                        refine Sx.st_runskip hT rfl rfl rfl rfl ?_
                        clear hT; intro a hT
                        refine Sx.st_skip hT rfl rfl rfl rfl ?_
                        clear hT; intro a hT
                        refine Sx.st_skip hT rfl rfl rfl rfl ?_
                        clear hT; intro a hT
                        refine Sx.st_take hT rfl rfl rfl rfl (Sx.x_pick_f hT rfl rfl rfl) ?_
                        clear hT; intro a hT
                        replace hT := hT.keep [149, 135, 24, 25, 22, 76, 21, 19, 20, 18, 17, 59, 16, 15, 14, 13, 28, 8, 0, 1, 2, 3, 4, 5] rfl
                        refine Sx.ser_nil ?_
                        refine Sx.then_normal (hK67 _ _ ?_)
                        clear hK67
                        refine Sx.wp_if hT rfl (fun h => by cases h) (fun _ => ?_)
                        refine wp_skip ?_
                        refine Sx.then_normal (hK66 _ _ ?_)
                        clear hK66
                        refine wp_exit ?_
                        refine Sx.then_exit ?_
                        refine Sx.block_exit ?_
                        refine Sx.then_normal (hK21 _ _ ?_)
                        clear hK21
                        -- region 13 (law.go:98)
                        refine Sx.wp_text [(0, .take), (1, .take), (2, .take)] rfl ?_
                        refine Sx.st_take hT rfl rfl rfl rfl (Sx.x_move hT rfl rfl) ?_
                        clear hT; intro a hT
                        refine Sx.st_take hT rfl rfl rfl rfl ((fun w => Sx.x_add w hT rfl rfl rfl (Sx.wrap64 (by omega)))) ?_
                        clear hT; intro a hT
                        refine Sx.st_take hT rfl rfl rfl rfl (Sx.x_assign hT rfl rfl) ?_
                        clear hT; intro a hT
                        replace hT := hT.keep [21, 149, 135, 24, 25, 22, 76, 19, 20, 18, 17, 59, 16, 15, 14, 13, 28, 8, 0, 1, 2, 3, 4, 5] rfl
                        refine Sx.ser_nil ?_
                        refine Sx.then_normal ?_
                        skip
                        exact ⟨⟨i + 1, u0, me, l0, lm, ws, told, ad, c⟩, ⟨by show i + 1 ≤ _; omega, by show i + 1 ≤ _; omega, hr.swap, by show told.length ≤ i + 1; omega⟩, (hT.keep [21, 19, 20, 18, 17, 59, 16, 15, 14, 13, 28, 8, 0, 1, 2, 3, 4, 5] rfl), (H.keep [3, 0, 2, 4, 5, 6] rfl rfl), by show _ - (i + 1) < _ - i; omega⟩
                    · try simp only [decide_eq_true_eq, decide_eq_false_iff_not, Bool.not_eq_true', Bool.not_eq_false', Bool.not_eq_true, Bool.not_eq_false, Bool.and_eq_true, Bool.or_eq_false_iff, beq_iff_eq, bne_iff_ne, Int.not_lt, Int.not_le, ne_eq] at hc65
                      have hp := hc65
                      rw [now_ok _ _ hp] at H
                      obtain ⟨hr2, t1, t2, t3, t4, t5, t6⟩ := hr.tell (fun h9 => hab h9.symm) hp
                      refine wp_skip ?_
                      refine Sx.then_normal (hK63 _ _ ?_)
                      clear hK63
                      refine wp_seq_k fun K70 hK70 => ?_
                      -- region 27 (law.go:119)
                      refine Sx.wp_text [(0, .take), (1, .take), (2, .take), (3, .take), (4, .run), (5, .take), (6, .take)] rfl ?_
                      refine Sx.st_take hT rfl rfl rfl rfl (Sx.x_move hT rfl rfl) ?_
                      clear hT; intro a hT
                      refine Sx.st_take hT rfl rfl rfl rfl (Sx.x_move hT rfl rfl) ?_
                      clear hT; intro a hT
                      refine Sx.st_take hT rfl rfl rfl rfl (Sx.x_move hT rfl rfl) ?_
                      clear hT; intro a hT
                      refine Sx.st_take hT rfl rfl rfl rfl (Sx.x_index hT rfl Tryd.underlying49 Tryd.ti3 (by first | exact (Rp.at H.ext).sv | exact (Rw.at H.ext).sv | exact (Rh.at H.ext).sv) rfl rfl rfl (by omega)) ?_
                      clear hT; intro a hT
                      refine Sx.st_run hT rfl rfl rfl rfl (Sx.x_load1 hT rfl Tryd.fl3 rfl (by first | exact ((H.blk 0 rfl).nth rfl) | exact ((H.blk 1 rfl).nth rfl) | exact ((H.blk 2 rfl).nth rfl) | exact ((H.blk 3 rfl).nth rfl) | exact ((H.blk 5 rfl).nth rfl) | exact ((H.blk 6 rfl).nth rfl) | exact ((Rp.at H.ext).cell (j := 0) icell_len hph rfl) | exact ((Rw.at H.ext).cell (j := 0) bcell_len hbw rfl) | exact ((Rh.at H.ext).cell (j := 0) bcell_len hbh rfl))) ?_
                      clear hT; intro a hT
                      refine Sx.st_take hT rfl rfl rfl rfl (Sx.x_max hT rfl rfl rfl) ?_
                      clear hT; intro a hT
                      refine Sx.st_take hT rfl rfl rfl rfl (Sx.x_assign hT rfl rfl) ?_
                      clear hT; intro a hT
                      replace hT := hT.keep [19, 135, 24, 25, 22, 76, 21, 20, 18, 17, 59, 16, 15, 14, 13, 28, 8, 0, 1, 2, 3, 4, 5] rfl
                      refine Sx.ser_nil ?_
                      refine Sx.then_normal (hK70 _ _ ?_)
                      clear hK70
                      refine wp_seq_k fun K71 hK71 => ?_
                      refine wp_seq_k fun K72 hK72 => ?_
                      -- region 28 (law.go:120)
                      refine Sx.wp_draws (fun u => Sx.Ext (Sx.No) u) [(0, .held), (1, .keep), (2, .take), (3, .take), (4, .take), (5, .held), (6, .take), (7, .take), (9, .take), (8, .keep), (10, .take), (11, .keep), (12, .take), (13, .take), (14, .take), (15, .take), (16, .held), (17, .take), (18, .take), (19, .take), (20, .take), (21, .take), (22, .held), (23, .take), (24, .take), (25, .take), (26, .held), (27, .take), (28, .take)] (by kernel_rfl) (by kernel_rfl) (fun u E _ => ?_)
                      replace H := H.pure E; clear E
                      have hH : Sx.Ext (Sx.No) u u := Sx.Ext.refl _ _
                      have Hu := H
                      refine Sx.st_held hT rfl rfl rfl rfl hH (fun w' h' => Sx.y_loadS hT rfl Tryd.underlying23 Tryd.ti23 rfl ((Hu.heldB 1 rfl h' Sx.off_No).seg (k := 3) rfl) (by rfl)) ?_
                      clear hT; intro a hT
                      refine Sx.st_callkeep hT rfl rfl rfl rfl rfl Tryd.can13 rfl (May_calls _ _ _ _) ?_
                      rintro _ w34 ⟨rfl, E⟩
                      refine ⟨_, rfl, hH.step E, ?_⟩
                      replace hH := hH.step E
                      clear hT; intro a hT
                      replace H := H.pure E; clear E
                      refine Sx.st_take hT rfl rfl rfl rfl (Sx.x_not hT rfl rfl) ?_
                      clear hT; intro a hT
                      refine Sx.st_take hT rfl rfl rfl rfl (Sx.x_move hT rfl rfl) ?_
                      clear hT; intro a hT
                      -- guard (28, 3)
                      refine Sx.Sl.two hT 159 rfl (fun hc73 hT => ?_) (fun hc73 hT => ?_)
                      · exfalso
                        try simp only [decide_eq_true_eq, decide_eq_false_iff_not, Bool.not_eq_true', Bool.not_eq_false', Bool.not_eq_true, Bool.not_eq_false, Bool.and_eq_true, Bool.or_eq_false_iff, beq_iff_eq, bne_iff_ne, Int.not_lt, Int.not_le, ne_eq] at hc73
                        exact Bool.noConfusion (t1.symm.trans hc73)
                      · try simp only [decide_eq_true_eq, decide_eq_false_iff_not, Bool.not_eq_true', Bool.not_eq_false', Bool.not_eq_true, Bool.not_eq_false, Bool.and_eq_true, Bool.or_eq_false_iff, beq_iff_eq, bne_iff_ne, Int.not_lt, Int.not_le, ne_eq] at hc73
                        refine Sx.st_take hT rfl rfl rfl rfl (Sx.x_fieldAddr hT rfl Tryd.fa23_2 rfl) ?_
                        clear hT; intro a hT
                        refine Sx.st_held hT rfl rfl rfl rfl hH (fun w' h' => Sx.x_load1 hT rfl Tryd.fl3 rfl ((Hu.heldB 1 rfl h' Sx.off_No).nth rfl)) ?_
                        clear hT; intro a hT
                        refine Sx.st_take hT rfl rfl rfl rfl (Sx.x_move hT rfl rfl) ?_
                        clear hT; intro a hT
                        refine Sx.st_take hT rfl rfl rfl rfl (Sx.x_move hT rfl rfl) ?_
                        clear hT; intro a hT
                        refine Sx.st_take hT rfl rfl rfl rfl (Sx.x_move hT rfl rfl) ?_
                        clear hT; intro a hT
                        refine Sx.st_effkeep hT rfl rfl rfl rfl (Sx.x_bldS hT rfl Tryd.underlying49 Tryd.ti3 rfl rfl rfl rfl rfl rfl rfl _) ?_
                        rintro _ w35 ⟨b9, rfl, N⟩
                        refine ⟨hH.step N.ext, ?_⟩
                        replace hH := hH.step N.ext
                        clear hT; intro a hT
                        replace H := H.new N; clear N
                        refine Sx.st_take hT rfl rfl rfl rfl (Sx.x_index (k := 1) hT rfl Tryd.underlying49 Tryd.ti3 ((H.blk 0 rfl).svn rfl) rfl rfl rfl (by omega)) ?_
                        clear hT; intro a hT
                        refine Sx.st_keep hT rfl rfl rfl rfl (Sx.x_load1 hT rfl Tryd.fl3 rfl ((H.blk 0 rfl).nth rfl)) hH ?_
                        clear hT; intro a hT
                        refine Sx.st_take hT rfl rfl rfl rfl ((fun w => Sx.x_ne w hT rfl rfl rfl)) ?_
                        clear hT; intro a hT
                        refine Sx.st_take hT rfl rfl rfl rfl (Sx.x_pick_f hT rfl rfl rfl) ?_
                        clear hT; intro a hT
                        refine Sx.st_take hT rfl rfl rfl rfl (Sx.x_move hT rfl rfl) ?_
                        clear hT; intro a hT
                        -- guard (28, 14)
                        refine Sx.Sl.two hT 170 rfl (fun hc74 hT => ?_) (fun hc74 hT => ?_)
                        · exfalso
                          try simp only [decide_eq_true_eq, decide_eq_false_iff_not, Bool.not_eq_true', Bool.not_eq_false', Bool.not_eq_true, Bool.not_eq_false, Bool.and_eq_true, Bool.or_eq_false_iff, beq_iff_eq, bne_iff_ne, Int.not_lt, Int.not_le, ne_eq] at hc74
                          exact hc74 t2
                        · try simp only [decide_eq_true_eq, decide_eq_false_iff_not, Bool.not_eq_true', Bool.not_eq_false', Bool.not_eq_true, Bool.not_eq_false, Bool.and_eq_true, Bool.or_eq_false_iff, beq_iff_eq, bne_iff_ne, Int.not_lt, Int.not_le, ne_eq] at hc74
                          refine Sx.st_take hT rfl rfl rfl rfl (Sx.x_fieldAddr hT rfl Tryd.fa23_0 rfl) ?_
                          clear hT; intro a hT
                          refine Sx.st_held hT rfl rfl rfl rfl hH (fun w' h' => Sx.x_load1 hT rfl Tryd.fl3 rfl ((Hu.heldB 1 rfl h' Sx.off_No).nth rfl)) ?_
                          clear hT; intro a hT
                          refine Sx.st_take hT rfl rfl rfl rfl (Sx.x_move hT rfl rfl) ?_
                          clear hT; intro a hT
                          refine Sx.st_take hT rfl rfl rfl rfl ((fun w => Sx.x_gt w hT rfl rfl rfl)) ?_
                          clear hT; intro a hT
                          refine Sx.st_take hT rfl rfl rfl rfl (Sx.x_pick_f hT rfl rfl rfl) ?_
                          clear hT; intro a hT
                          refine Sx.st_take hT rfl rfl rfl rfl (Sx.x_move hT rfl rfl) ?_
                          clear hT; intro a hT
                          -- guard (28, 20)
                          refine Sx.Sl.two hT 176 rfl (fun hc75 hT => ?_) (fun hc75 hT => ?_)
                          · exfalso
                            try simp only [decide_eq_true_eq, decide_eq_false_iff_not, Bool.not_eq_true', Bool.not_eq_false', Bool.not_eq_true, Bool.not_eq_false, Bool.and_eq_true, Bool.or_eq_false_iff, beq_iff_eq, bne_iff_ne, Int.not_lt, Int.not_le, ne_eq] at hc75
                            omega
                          · try simp only [decide_eq_true_eq, decide_eq_false_iff_not, Bool.not_eq_true', Bool.not_eq_false', Bool.not_eq_true, Bool.not_eq_false, Bool.and_eq_true, Bool.or_eq_false_iff, beq_iff_eq, bne_iff_ne, Int.not_lt, Int.not_le, ne_eq] at hc75
                            refine Sx.st_take hT rfl rfl rfl rfl (Sx.x_fieldAddr hT rfl Tryd.fa23_0 rfl) ?_
                            clear hT; intro a hT
                            refine Sx.st_held hT rfl rfl rfl rfl hH (fun w' h' => Sx.x_load1 hT rfl Tryd.fl3 rfl ((Hu.heldB 1 rfl h' Sx.off_No).nth rfl)) ?_
                            clear hT; intro a hT
                            refine Sx.st_take hT rfl rfl rfl rfl (Sx.x_move hT rfl rfl) ?_
                            clear hT; intro a hT
                            refine Sx.st_take hT rfl rfl rfl rfl (Sx.x_move hT rfl rfl) ?_
                            clear hT; intro a hT
                            refine Sx.st_take hT rfl rfl rfl rfl (Sx.x_index hT rfl Tryd.underlying49 Tryd.ti3 (by first | exact (Rp.at H.ext).sv | exact (Rw.at H.ext).sv | exact (Rh.at H.ext).sv) rfl rfl rfl (by omega)) ?_
                            clear hT; intro a hT
                            refine Sx.st_held hT rfl rfl rfl rfl hH (fun w' h' => Sx.x_load1 hT rfl Tryd.fl3 rfl (by first | exact ((Hu.heldB 0 rfl h' Sx.off_No).nth rfl) | exact ((Hu.heldB 1 rfl h' Sx.off_No).nth rfl) | exact ((Hu.heldB 2 rfl h' Sx.off_No).nth rfl) | exact ((Hu.heldB 3 rfl h' Sx.off_No).nth rfl) | exact ((Hu.heldB 5 rfl h' Sx.off_No).nth rfl) | exact ((Hu.heldB 6 rfl h' Sx.off_No).nth rfl) | exact ((Rp.at (Hu.ext.step h')).cell (j := 0) icell_len hph rfl) | exact ((Rw.at (Hu.ext.step h')).cell (j := 0) bcell_len hbw rfl) | exact ((Rh.at (Hu.ext.step h')).cell (j := 0) bcell_len hbh rfl))) ?_
                            clear hT; intro a hT
                            refine Sx.st_take hT rfl rfl rfl rfl ((fun w => Sx.x_lt w hT rfl rfl rfl)) ?_
                            clear hT; intro a hT
                            refine Sx.st_take hT rfl rfl rfl rfl (Sx.x_pick_f hT rfl rfl rfl) ?_
                            clear hT; intro a hT
                            replace hT := hT.keep [184, 19, 135, 24, 25, 22, 76, 21, 20, 18, 17, 59, 16, 15, 14, 13, 28, 8, 0, 1, 2, 3, 4, 5] rfl
                            clear Hu hH
                            refine Sx.ser_calm ?_
                            refine Sx.then_normal (hK72 _ _ ?_)
                            clear hK72
                            -- cond 9
                            refine Sx.wp_if hT rfl (fun hc76 => ?_) (fun hc76 => ?_)
                            · exfalso
                              try simp only [decide_eq_true_eq, decide_eq_false_iff_not, Bool.not_eq_true', Bool.not_eq_false', Bool.not_eq_true, Bool.not_eq_false, Bool.and_eq_true, Bool.or_eq_false_iff, beq_iff_eq, bne_iff_ne, Int.not_lt, Int.not_le, ne_eq] at hc76
                              omega
                            · try simp only [decide_eq_true_eq, decide_eq_false_iff_not, Bool.not_eq_true', Bool.not_eq_false', Bool.not_eq_true, Bool.not_eq_false, Bool.and_eq_true, Bool.or_eq_false_iff, beq_iff_eq, bne_iff_ne, Int.not_lt, Int.not_le, ne_eq] at hc76
                              refine wp_skip ?_
                              refine Sx.then_normal (hK71 _ _ ?_)
                              clear hK71
                              refine wp_seq_k fun K77 hK77 => ?_
                              refine wp_seq_k fun K78 hK78 => ?_
                              -- region 30 (law.go:123)
                              refine Sx.wp_draws (fun u => Sx.Ext (Sx.No) u) [(0, .take), (1, .take), (2, .take), (3, .take), (4, .held), (5, .take), (6, .take), (7, .take), (8, .take), (9, .held), (10, .take), (11, .held), (12, .keep), (13, .take), (14, .take), (15, .take), (16, .take), (17, .take), (18, .take), (19, .held), (20, .take), (21, .held), (22, .take), (23, .take), (24, .take), (25, .take), (26, .take), (27, .take), (28, .held), (29, .take), (30, .held), (31, .take), (32, .take), (33, .take), (34, .take)] (by kernel_rfl) (by kernel_rfl) (fun u E _ => ?_)
                              replace H := H.pure E; clear E
                              have hH : Sx.Ext (Sx.No) u u := Sx.Ext.refl _ _
                              have Hu := H
                              refine Sx.st_take hT rfl rfl rfl rfl (Sx.x_move hT rfl rfl) ?_
                              clear hT; intro a hT
                              refine Sx.st_take hT rfl rfl rfl rfl (Sx.x_move hT rfl rfl) ?_
                              clear hT; intro a hT
                              refine Sx.st_take hT rfl rfl rfl rfl (Sx.x_index (k := 1) hT rfl Tryd.underlying52 Tryd.ti23 ((H.blk 3 rfl).svn rfl) rfl rfl rfl (by omega)) ?_
                              clear hT; intro a hT
                              refine Sx.st_take hT rfl rfl rfl rfl (Sx.x_fieldAddr hT rfl Tryd.fa23_0 rfl) ?_
                              clear hT; intro a hT
                              refine Sx.st_held hT rfl rfl rfl rfl hH (fun w' h' => Sx.x_load1 hT rfl Tryd.fl3 rfl ((Hu.heldB 3 rfl h' Sx.off_No).nth rfl)) ?_
                              clear hT; intro a hT
                              refine Sx.st_take hT rfl rfl rfl rfl (Sx.x_move hT rfl rfl) ?_
                              clear hT; intro a hT
                              refine Sx.st_take hT rfl rfl rfl rfl (Sx.x_move hT rfl rfl) ?_
                              clear hT; intro a hT
                              refine Sx.st_take hT rfl rfl rfl rfl (Sx.x_index (k := 1) hT rfl Tryd.underlying52 Tryd.ti23 ((H.blk 3 rfl).svn rfl) rfl rfl rfl (by omega)) ?_
                              clear hT; intro a hT
                              refine Sx.st_take hT rfl rfl rfl rfl (Sx.x_fieldAddr hT rfl Tryd.fa23_1 rfl) ?_
                              clear hT; intro a hT
                              refine Sx.st_held hT rfl rfl rfl rfl hH (fun w' h' => Sx.x_load1 hT rfl Tryd.fl3 rfl ((Hu.heldB 3 rfl h' Sx.off_No).nth rfl)) ?_
                              clear hT; intro a hT
                              refine Sx.st_take hT rfl rfl rfl rfl (Sx.x_bld hT rfl Tryd.bld23 rfl rfl) ?_
                              clear hT; intro a hT
                              refine Sx.st_held hT rfl rfl rfl rfl hH (fun w' h' => Sx.y_loadS hT rfl Tryd.underlying23 Tryd.ti23 rfl ((Hu.heldB 2 rfl h' Sx.off_No).seg (k := 3) rfl) (by rfl)) ?_
                              clear hT; intro a hT
                              refine Sx.st_callkeep hT rfl rfl rfl rfl rfl Tryd.can30 rfl (Less_calls _ _ _ _ _ _ _) ?_
                              rintro _ w36 ⟨rfl, E⟩
                              refine ⟨_, rfl, hH.step E, ?_⟩
                              replace hH := hH.step E
                              clear hT; intro a hT
                              replace H := H.pure E; clear E
                              refine Sx.st_take hT rfl rfl rfl rfl (Sx.x_not hT rfl rfl) ?_
                              clear hT; intro a hT
                              refine Sx.st_take hT rfl rfl rfl rfl (Sx.x_move hT rfl rfl) ?_
                              clear hT; intro a hT
                              -- guard (30, 14)
                              refine Sx.Sl.two hT 199 rfl (fun hc79 hT => ?_) (fun hc79 hT => ?_)
                              · exfalso
                                try simp only [decide_eq_true_eq, decide_eq_false_iff_not, Bool.not_eq_true', Bool.not_eq_false', Bool.not_eq_true, Bool.not_eq_false, Bool.and_eq_true, Bool.or_eq_false_iff, beq_iff_eq, bne_iff_ne, Int.not_lt, Int.not_le, ne_eq] at hc79
                                exact absurd (lexlt_cmp t5 63) (Int.not_lt.2 hc79)
                              · try simp only [decide_eq_true_eq, decide_eq_false_iff_not, Bool.not_eq_true', Bool.not_eq_false', Bool.not_eq_true, Bool.not_eq_false, Bool.and_eq_true, Bool.or_eq_false_iff, beq_iff_eq, bne_iff_ne, Int.not_lt, Int.not_le, ne_eq] at hc79
                                refine Sx.st_skip hT rfl rfl rfl rfl ?_
                                clear hT; intro a hT
                                refine Sx.st_skip hT rfl rfl rfl rfl ?_
                                clear hT; intro a hT
                                refine Sx.st_skip hT rfl rfl rfl rfl ?_
                                clear hT; intro a hT
                                refine Sx.st_skip hT rfl rfl rfl rfl ?_
                                clear hT; intro a hT
                                refine Sx.st_heldskip hT rfl rfl rfl rfl hH ?_
                                clear hT; intro a hT
                                refine Sx.st_skip hT rfl rfl rfl rfl ?_
                                clear hT; intro a hT
                                refine Sx.st_heldskip hT rfl rfl rfl rfl hH ?_
                                clear hT; intro a hT
                                refine Sx.st_skip hT rfl rfl rfl rfl ?_
                                clear hT; intro a hT
                                refine Sx.st_skip hT rfl rfl rfl rfl ?_
                                clear hT; intro a hT
                                refine Sx.st_skip hT rfl rfl rfl rfl ?_
                                clear hT; intro a hT
                                refine Sx.st_skip hT rfl rfl rfl rfl ?_
                                clear hT; intro a hT
                                refine Sx.st_skip hT rfl rfl rfl rfl ?_
                                clear hT; intro a hT
                                refine Sx.st_skip hT rfl rfl rfl rfl ?_
                                clear hT; intro a hT
                                refine Sx.st_heldskip hT rfl rfl rfl rfl hH ?_
                                clear hT; intro a hT
                                refine Sx.st_skip hT rfl rfl rfl rfl ?_
                                clear hT; intro a hT
                                refine Sx.st_heldskip hT rfl rfl rfl rfl hH ?_
                                clear hT; intro a hT
                                refine Sx.st_skip hT rfl rfl rfl rfl ?_
                                clear hT; intro a hT
                                refine Sx.st_skip hT rfl rfl rfl rfl ?_
                                clear hT; intro a hT
                                refine Sx.st_skip hT rfl rfl rfl rfl ?_
                                clear hT; intro a hT
                                refine Sx.st_take hT rfl rfl rfl rfl (Sx.x_pick_f hT rfl rfl rfl) ?_
                                clear hT; intro a hT
                                replace hT := hT.keep [219, 184, 19, 135, 24, 25, 22, 76, 21, 20, 18, 17, 59, 16, 15, 14, 13, 28, 8, 0, 1, 2, 3, 4, 5] rfl
                                clear Hu hH
                                refine Sx.ser_calm ?_
                                refine Sx.then_normal (hK78 _ _ ?_)
                                clear hK78
                                refine Sx.wp_if hT rfl (fun h => by cases h) (fun _ => ?_)
                                refine wp_skip ?_
                                refine Sx.then_normal (hK77 _ _ ?_)
                                clear hK77
                                refine wp_seq_k fun K80 hK80 => ?_
                                -- region 32 (law.go:126)
                                refine Sx.wp_text [(0, .take), (1, .take), (2, .run), (3, .take), (4, .run)] rfl ?_
                                refine Sx.st_take hT rfl rfl rfl rfl (Sx.x_move hT rfl rfl) ?_
                                clear hT; intro a hT
                                refine Sx.st_take hT rfl rfl rfl rfl (Sx.x_move hT rfl rfl) ?_
                                clear hT; intro a hT
                                refine Sx.st_run hT rfl rfl rfl rfl (Sx.y_loadS hT rfl Tryd.underlying23 Tryd.ti23 rfl ((H.blk 2 rfl).seg (k := 3) rfl) (by rfl)) ?_
                                clear hT; intro a hT
                                refine Sx.st_take hT rfl rfl rfl rfl (Sx.x_index (k := 1) hT rfl Tryd.underlying52 Tryd.ti23 ((H.blk 3 rfl).svn rfl) rfl rfl rfl (by omega)) ?_
                                clear hT; intro a hT
                                refine Sx.st_act hT rfl rfl rfl (Sx.y_storeS hT rfl Tryd.ti23 rfl rfl rfl rfl rfl (H.blk 3 rfl) rfl) ?_
                                rintro w37 ⟨hb, E, _⟩
                                replace H := H.setB 3 rfl hb E rfl; clear hb E
                                replace hT := hT.keep [219, 184, 19, 135, 24, 25, 22, 76, 21, 20, 18, 17, 59, 16, 15, 14, 13, 28, 8, 0, 1, 2, 3, 4, 5] rfl
                                refine Sx.ser_nil ?_
                                refine Sx.then_normal (hK80 _ _ ?_)
                                clear hK80
                                refine wp_seq_k fun K81 hK81 => ?_
                                refine wp_seq_k fun K82 hK82 => ?_
                                -- region 33 (law.go:127)
                                refine Sx.wp_text [(0, .take)] rfl ?_
                                refine Sx.st_take hT rfl rfl rfl rfl (Sx.x_assign hT rfl rfl) ?_
                                clear hT; intro a hT
                                replace hT := hT.keep [26, 219, 184, 19, 135, 24, 25, 22, 76, 21, 20, 18, 17, 59, 16, 15, 14, 13, 28, 8, 0, 1, 2, 3, 4, 5] rfl
                                refine Sx.ser_nil ?_
                                refine Sx.then_normal (hK82 _ _ ?_)
                                clear hK82
                                refine wp_block ?_
                                -- loop 1
                                refine Sx.wp_loopH (G := Nat) (fun m => [(26, .int .i64 (m : Int))]) (fun m => []) (fun m => m ≤ told.length) (fun m => told.length - m) 0 (hT.keep [26, 219, 184, 19, 135, 24, 25, 22, 76, 21, 20, 18, 17, 59, 16, 15, 14, 13, 28, 8, 0, 1, 2, 3, 4, 5] rfl) (H.keep [0, 1, 2, 3, 4, 5, 6, 7] rfl rfl) (Nat.zero_le _) ?_
                                clear hT H
                                rintro m a w38 hJ hT H
                                replace hT := hT.keep [26, 219, 184, 19, 135, 24, 25, 22, 76, 21, 20, 18, 17, 59, 16, 15, 14, 13, 28, 8, 0, 1, 2, 3, 4, 5] rfl
                                replace H := H.keep [0, 1, 2, 3, 4, 5, 6, 7] rfl rfl
                                have hm : m ≤ told.length := hJ
                                refine wp_seq_k fun K83 hK83 => ?_
                                refine wp_seq_k fun K84 hK84 => ?_
                                -- region 34 (law.go:127)
                                refine Sx.wp_text [(0, .take), (1, .take), (2, .take), (3, .take)] rfl ?_
                                refine Sx.st_take hT rfl rfl rfl rfl (Sx.x_move hT rfl rfl) ?_
                                clear hT; intro a hT
                                refine Sx.st_take hT rfl rfl rfl rfl (Sx.x_move hT rfl rfl) ?_
                                clear hT; intro a hT
                                refine Sx.st_take hT rfl rfl rfl rfl (Sx.x_len_slice hT rfl rfl Tryd.underlying52 rfl) ?_
                                clear hT; intro a hT
                                refine Sx.st_take hT rfl rfl rfl rfl ((fun w => Sx.x_lt w hT rfl rfl rfl)) ?_
                                clear hT; intro a hT
                                replace hT := hT.keep [227, 26, 219, 184, 19, 135, 24, 25, 22, 76, 21, 20, 18, 17, 59, 16, 15, 14, 13, 28, 8, 0, 1, 2, 3, 4, 5] rfl
                                refine Sx.ser_nil ?_
                                refine Sx.then_normal (hK84 _ _ ?_)
                                clear hK84
                                -- cond 11
                                refine Sx.wp_if hT rfl (fun hc85 => ?_) (fun hc85 => ?_)
                                · try simp only [decide_eq_true_eq, decide_eq_false_iff_not, Bool.not_eq_true', Bool.not_eq_false', Bool.not_eq_true, Bool.not_eq_false, Bool.and_eq_true, Bool.or_eq_false_iff, beq_iff_eq, bne_iff_ne, Int.not_lt, Int.not_le, ne_eq] at hc85
                                  obtain ⟨tt, ht⟩ : ∃ o, told[m]? = some o := ⟨_, List.getElem?_eq_getElem (by omega)⟩
                                  refine wp_skip ?_
                                  refine Sx.then_normal (hK83 _ _ ?_)
                                  clear hK83
                                  refine wp_seq_k fun K86 hK86 => ?_
                                  refine wp_block ?_
                                  refine wp_seq_k fun K87 hK87 => ?_
                                  -- region 36 (law.go:128)
                                  refine Sx.wp_draws (fun u => Sx.Ext (Sx.No) u) [(0, .take), (1, .take), (2, .take), (3, .held), (4, .held), (5, .take)] (by kernel_rfl) (by kernel_rfl) (fun u E _ => ?_)
                                  replace H := H.pure E; clear E
                                  have hH : Sx.Ext (Sx.No) u u := Sx.Ext.refl _ _
                                  have Hu := H
                                  refine Sx.st_take hT rfl rfl rfl rfl (Sx.x_move hT rfl rfl) ?_
                                  clear hT; intro a hT
                                  refine Sx.st_take hT rfl rfl rfl rfl (Sx.x_move hT rfl rfl) ?_
                                  clear hT; intro a hT
                                  refine Sx.st_take hT rfl rfl rfl rfl (Sx.x_index hT rfl Tryd.underlying52 Tryd.ti23 (H.row 5 rfl).sv rfl rfl rfl (by omega)) ?_
                                  clear hT; intro a hT
                                  refine Sx.st_held hT rfl rfl rfl rfl hH (fun w' h' => Sx.y_loadS hT rfl Tryd.underlying23 Tryd.ti23 rfl (((Row.ss (enc := stc) (xs := told) (Hu.heldR 5 rfl h' Sx.off_No)).cs stc_len ht).seg (i := 0) (k := 3) rfl) (by rfl)) ?_
                                  clear hT; intro a hT
                                  refine Sx.st_held hT rfl rfl rfl rfl hH (fun w' h' => Sx.y_loadS hT rfl Tryd.underlying23 Tryd.ti23 rfl ((Hu.heldB 2 rfl h' Sx.off_No).seg (k := 3) rfl) (by rfl)) ?_
                                  clear hT; intro a hT
                                  refine Sx.st_take hT rfl rfl rfl rfl (Sx.x_eqS hT rfl (by kernel_rfl) (Tryd.eq23 _ _ _ _ _ _) rfl rfl rfl) ?_
                                  clear hT; intro a hT
                                  replace hT := hT.keep [235, 227, 26, 219, 184, 19, 135, 24, 25, 22, 76, 21, 20, 18, 17, 59, 16, 15, 14, 13, 28, 8, 0, 1, 2, 3, 4, 5] rfl
                                  clear Hu hH
                                  refine Sx.ser_calm ?_
                                  refine Sx.then_normal (hK87 _ _ ?_)
                                  clear hK87
                                  -- cond 12
                                  refine Sx.wp_if hT rfl (fun hc88 => ?_) (fun hc88 => ?_)
                                  · exfalso
                                    try simp only [decide_eq_true_eq, decide_eq_false_iff_not, Bool.not_eq_true', Bool.not_eq_false', Bool.not_eq_true, Bool.not_eq_false, Bool.and_eq_true, Bool.or_eq_false_iff, beq_iff_eq, bne_iff_ne, Int.not_lt, Int.not_le, ne_eq] at hc88
                                    exact t6 _ (List.mem_of_getElem? ht) hc88
                                  · try simp only [decide_eq_true_eq, decide_eq_false_iff_not, Bool.not_eq_true', Bool.not_eq_false', Bool.not_eq_true, Bool.not_eq_false, Bool.and_eq_true, Bool.or_eq_false_iff, beq_iff_eq, bne_iff_ne, Int.not_lt, Int.not_le, ne_eq] at hc88
                                    refine wp_skip ?_
                                    refine Sx.block_normal ?_
                                    refine Sx.then_normal (hK86 _ _ ?_)
                                    clear hK86
                                    -- region 35 (law.go:127)
                                    refine Sx.wp_text [(0, .take), (1, .take), (2, .take)] rfl ?_
                                    refine Sx.st_take hT rfl rfl rfl rfl (Sx.x_move hT rfl rfl) ?_
                                    clear hT; intro a hT
                                    refine Sx.st_take hT rfl rfl rfl rfl ((fun w => Sx.x_add w hT rfl rfl rfl (Sx.wrap64 (by omega)))) ?_
                                    clear hT; intro a hT
                                    refine Sx.st_take hT rfl rfl rfl rfl (Sx.x_assign hT rfl rfl) ?_
                                    clear hT; intro a hT
                                    replace hT := hT.keep [26, 235, 227, 219, 184, 19, 135, 24, 25, 22, 76, 21, 20, 18, 17, 59, 16, 15, 14, 13, 28, 8, 0, 1, 2, 3, 4, 5] rfl
                                    refine Sx.ser_nil ?_
                                    refine Sx.then_normal ?_
                                    exact ⟨m + 1, (by omega), (hT.keep [26, 219, 184, 19, 135, 24, 25, 22, 76, 21, 20, 18, 17, 59, 16, 15, 14, 13, 28, 8, 0, 1, 2, 3, 4, 5] rfl), (H.keep [0, 1, 2, 3, 4, 5, 6, 7] rfl rfl), by omega⟩
                                · try simp only [decide_eq_true_eq, decide_eq_false_iff_not, Bool.not_eq_true', Bool.not_eq_false', Bool.not_eq_true, Bool.not_eq_false, Bool.and_eq_true, Bool.or_eq_false_iff, beq_iff_eq, bne_iff_ne, Int.not_lt, Int.not_le, ne_eq] at hc85
                                  refine wp_exit ?_
                                  refine Sx.then_exit ?_
                                  refine Sx.then_exit ?_
                                  refine Sx.block_exit ?_
                                  refine Sx.then_normal (hK81 _ _ ?_)
                                  clear hK81
                                  -- region 38 (law.go:132)
                                  refine Sx.wp_text [(0, .take), (1, .run), (2, .run), (3, .run), (4, .take)] rfl ?_
                                  refine Sx.st_take hT rfl rfl rfl rfl (Sx.x_move hT rfl rfl) ?_
                                  clear hT; intro a hT
                                  refine Sx.st_run hT rfl rfl rfl rfl (Sx.y_loadS hT rfl Tryd.underlying23 Tryd.ti23 rfl ((H.blk 2 rfl).seg (k := 3) rfl) (by rfl)) ?_
                                  clear hT; intro a hT
                                  refine Sx.st_eff hT rfl rfl rfl rfl (Sx.y_slice1 hT rfl Tryd.underlying52 Tryd.ti23 rfl rfl rfl rfl rfl rfl _) ?_
                                  clear hT; rintro _ w39 ⟨b10, rfl, N⟩ a hT
                                  replace H := H.new N; clear N
                                  refine Sx.st_eff hT rfl rfl rfl rfl (Sx.x_append hT rfl rfl Tryd.underlying52 Tryd.ti23 rfl (by decide) rfl rfl (H.row 6 rfl) ((H.blk 0 rfl).sv1 rfl) (by simp [Value.oneCell']) (fun h => by cases h) (by unfold maxLen; omega) (by omega)) ?_
                                  rintro _ w40 ⟨ad40, c40, rfl, hr, E, hown, -⟩
                                  clear hT; intro a hT
                                  replace H := H.setR 6 rfl hr E hown rfl; clear hr E hown
                                  refine Sx.st_take hT rfl rfl rfl rfl (Sx.x_assign hT rfl rfl) ?_
                                  clear hT; intro a hT
                                  replace hT := hT.keep [20, 227, 26, 219, 184, 19, 135, 24, 25, 22, 76, 21, 18, 17, 59, 16, 15, 14, 13, 28, 8, 0, 1, 2, 3, 4, 5] rfl
                                  refine Sx.ser_nil ?_
                                  refine Sx.block_normal ?_
                                  refine Sx.then_normal (hK21 _ _ ?_)
                                  clear hK21
                                  -- region 13 (law.go:98)
                                  refine Sx.wp_text [(0, .take), (1, .take), (2, .take)] rfl ?_
                                  refine Sx.st_take hT rfl rfl rfl rfl (Sx.x_move hT rfl rfl) ?_
                                  clear hT; intro a hT
                                  refine Sx.st_take hT rfl rfl rfl rfl ((fun w => Sx.x_add w hT rfl rfl rfl (Sx.wrap64 (by omega)))) ?_
                                  clear hT; intro a hT
                                  refine Sx.st_take hT rfl rfl rfl rfl (Sx.x_assign hT rfl rfl) ?_
                                  clear hT; intro a hT
                                  replace hT := hT.keep [21, 20, 227, 26, 219, 184, 19, 135, 24, 25, 22, 76, 18, 17, 59, 16, 15, 14, 13, 28, 8, 0, 1, 2, 3, 4, 5] rfl
                                  refine Sx.ser_nil ?_
                                  refine Sx.then_normal ?_
                                  rw [len_snoc told (peek me ph).1] at hT H
                                  rw [flat_snoc told (peek me ph).1] at H
                                  exact ⟨⟨i + 1, u0, (peek me ph).1, l0, (peek me ph).1, max ws ph, told ++ [(peek me ph).1], ad40, c40⟩, ⟨by show i + 1 ≤ _; omega, by show i + 1 ≤ _; omega, hr2.swap, by show (told ++ [_]).length ≤ i + 1; rw [List.length_append, List.length_singleton]; omega⟩, (hT.keep [21, 19, 20, 18, 17, 59, 16, 15, 14, 13, 28, 8, 0, 1, 2, 3, 4, 5] rfl), (H.keep [5, 2, 4, 6, 7, 8] rfl rfl), by show _ - (i + 1) < _ - i; omega⟩
                  · clear hK62; intro hJK62
                    -- region 23 (law.go:112)
                    have hg := (mayI hr.m0).2.2.1
                    have hbd9 := mayI hr.m0
                    refine Sx.wp_drawsF (fun u => Sx.Ext (Sx.No) u) [(0, .take), (1, .take), (2, .take), (3, .held), (4, .take), (5, .take), (6, .take), (7, .held)] 8 .run [(9, .take), (10, .take), (11, .take), (12, .keep), (13, .run), (14, .take)] 12 .keep [(8, .run), (9, .take), (10, .take), (11, .take), (13, .run), (14, .take)] (by kernel_rfl) (by kernel_rfl) (fun u E _ => ?_)
                    replace H := H.pure E; clear E
                    have hH : Sx.Ext (Sx.No) u u := Sx.Ext.refl _ _
                    have Hu := H
                    refine Sx.st_take hT rfl rfl rfl rfl (Sx.x_move hT rfl rfl) ?_
                    clear hT; intro a hT
                    refine Sx.st_take hT rfl rfl rfl rfl (Sx.x_move hT rfl rfl) ?_
                    clear hT; intro a hT
                    refine Sx.st_take hT rfl rfl rfl rfl (Sx.x_index (k := 1) hT rfl Tryd.underlying51 Tryd.ti33 ((H.blk 4 rfl).svn rfl) rfl rfl rfl (by omega)) ?_
                    clear hT; intro a hT
                    refine Sx.st_held hT rfl rfl rfl rfl hH (fun w' h' => Sx.x_load1 hT rfl Tryd.fl33 rfl ((Hu.heldB 4 rfl h' Sx.off_No).nth rfl)) ?_
                    clear hT; intro a hT
                    refine Sx.st_take hT rfl rfl rfl rfl (Sx.x_move hT rfl rfl) ?_
                    clear hT; intro a hT
                    refine Sx.st_take hT rfl rfl rfl rfl (Sx.x_move hT rfl rfl) ?_
                    clear hT; intro a hT
                    refine Sx.st_take hT rfl rfl rfl rfl (Sx.x_index hT rfl Tryd.underlying49 Tryd.ti3 (by first | exact (Rp.at H.ext).sv | exact (Rw.at H.ext).sv | exact (Rh.at H.ext).sv) rfl rfl rfl (by omega)) ?_
                    clear hT; intro a hT
                    refine Sx.st_held hT rfl rfl rfl rfl hH (fun w' h' => Sx.x_load1 hT rfl Tryd.fl3 rfl (by first | exact ((Hu.heldB 0 rfl h' Sx.off_No).nth rfl) | exact ((Hu.heldB 1 rfl h' Sx.off_No).nth rfl) | exact ((Hu.heldB 2 rfl h' Sx.off_No).nth rfl) | exact ((Hu.heldB 4 rfl h' Sx.off_No).nth rfl) | exact ((Hu.heldB 5 rfl h' Sx.off_No).nth rfl) | exact ((Rp.at (Hu.ext.step h')).cell (j := 0) icell_len hph rfl) | exact ((Rw.at (Hu.ext.step h')).cell (j := 0) bcell_len hbw rfl) | exact ((Rh.at (Hu.ext.step h')).cell (j := 0) bcell_len hbh rfl))) ?_
                    clear hT; intro a hT
                    refine Sx.ser_fork ?_ ?_
                    · skip
                      refine Sx.st_call hT rfl rfl rfl rfl rfl Tryd.can23 rfl (Now_calls (H.pre [0] rfl rfl) hg _) ?_
                      rintro _ w41 ⟨rfl, K⟩
                      refine ⟨_, rfl, ?_⟩
                      clear hT; intro a hT
                      replace H := H.back [0] [1, 2, 3, 4, 5] rfl rfl rfl K rfl; clear K
                      refine Sx.st_take hT rfl rfl rfl rfl (Sx.x_move hT rfl rfl) ?_
                      clear hT; intro a hT
                      refine Sx.st_take hT rfl rfl rfl rfl (Sx.x_extractL hT rfl rfl rfl) ?_
                      clear hT; intro a hT
                      refine Sx.st_take hT rfl rfl rfl rfl (Sx.x_extractL hT rfl rfl rfl) ?_
                      clear hT; intro a hT
                      refine Sx.st_effkeepif hT rfl rfl rfl rfl (Sx.y_alloc hT rfl Tryd.ti23 rfl _) ?_
                      rintro _ w42 ⟨b11, rfl, N⟩
                      refine ⟨fun h9 => h9.step N.ext, ?_⟩
                      clear hT; intro a hT
                      replace H := H.new N; clear N
                      refine Sx.st_act hT rfl rfl rfl (Sx.y_storeS hT rfl Tryd.ti23 rfl rfl rfl rfl rfl (H.blk 0 rfl) rfl) ?_
                      rintro w43 ⟨hb, E, _⟩
                      replace H := H.setB 0 rfl hb E rfl; clear hb E
                      refine Sx.st_take hT rfl rfl rfl rfl (Sx.x_assign hT rfl rfl) ?_
                      clear hT; intro a hT
                      replace hT := hT.keep [25, 24, 22, 76, 21, 19, 20, 18, 17, 59, 16, 15, 14, 13, 28, 8, 0, 1, 2, 3, 4, 5] rfl
                      clear Hu hH
                      refine Sx.ser_calm ?_
                      exact Sx.then_normal (hJK62 _ _ _ trivial (hT.keep [24, 25, 22, 76, 21, 19, 20, 18, 17, 59, 16, 15, 14, 13, 28, 8, 0, 1, 2, 3, 4, 5] rfl) (H.keep [1, 0, 2, 3, 4, 5, 6] rfl rfl))
                    · skip
                      refine Sx.st_effkeep hT rfl rfl rfl rfl (Sx.y_alloc hT rfl Tryd.ti23 rfl _) ?_
                      rintro _ w44 ⟨b12, rfl, N⟩
                      refine ⟨hH.step N.ext, ?_⟩
                      replace hH := hH.step N.ext
                      clear hT; intro a hT
                      replace H := H.new N; clear N
                      refine Sx.st_call hT rfl rfl rfl rfl rfl Tryd.can23 rfl (Now_calls (H.pre [1] rfl rfl) hg _) ?_
                      rintro _ w45 ⟨rfl, K⟩
                      refine ⟨_, rfl, ?_⟩
                      clear hT; intro a hT
                      replace H := H.back [1] [0, 2, 3, 4, 5, 6] rfl rfl rfl K rfl; clear K
                      refine Sx.st_take hT rfl rfl rfl rfl (Sx.x_move hT rfl rfl) ?_
                      clear hT; intro a hT
                      refine Sx.st_take hT rfl rfl rfl rfl (Sx.x_extractL hT rfl rfl rfl) ?_
                      clear hT; intro a hT
                      refine Sx.st_take hT rfl rfl rfl rfl (Sx.x_extractL hT rfl rfl rfl) ?_
                      clear hT; intro a hT
                      refine Sx.st_act hT rfl rfl rfl (Sx.y_storeS hT rfl Tryd.ti23 rfl rfl rfl rfl rfl (H.blk 1 rfl) rfl) ?_
                      rintro w46 ⟨hb, E, _⟩
                      replace H := H.setB 1 rfl hb E rfl; clear hb E
                      refine Sx.st_take hT rfl rfl rfl rfl (Sx.x_assign hT rfl rfl) ?_
                      clear hT; intro a hT
                      replace hT := hT.keep [25, 24, 22, 76, 21, 19, 20, 18, 17, 59, 16, 15, 14, 13, 28, 8, 0, 1, 2, 3, 4, 5] rfl
                      clear Hu hH
                      refine Sx.ser_calm ?_
                      exact Sx.then_normal (hJK62 _ _ _ trivial (hT.keep [24, 25, 22, 76, 21, 19, 20, 18, 17, 59, 16, 15, 14, 13, 28, 8, 0, 1, 2, 3, 4, 5] rfl) (H.keep [0, 1, 2, 3, 4, 5, 6] rfl rfl))
                · clear hK61; intro hJK61
                  refine wp_seq_k fun K89 hK89 => ?_
                  -- region 17 (law.go:103)
                  refine Sx.wp_text [(0, .take), (1, .take), (2, .take), (3, .take), (4, .take), (5, .take), (6, .take), (7, .take), (8, .run), (9, .take)] rfl ?_
                  refine Sx.st_take hT rfl rfl rfl rfl (Sx.x_move hT rfl rfl) ?_
                  clear hT; intro a hT
                  refine Sx.st_take hT rfl rfl rfl rfl (Sx.x_move hT rfl rfl) ?_
                  clear hT; intro a hT
                  refine Sx.st_take hT rfl rfl rfl rfl (Sx.x_len_slice hT rfl rfl Tryd.underlying50 rfl) ?_
                  clear hT; intro a hT
                  refine Sx.st_take hT rfl rfl rfl rfl ((fun w => Sx.x_lt w hT rfl rfl rfl)) ?_
                  clear hT; intro a hT
                  refine Sx.st_take hT rfl rfl rfl rfl (Sx.x_move hT rfl rfl) ?_
                  clear hT; intro a hT
                  -- guard (17, 4)
                  refine Sx.Sl.two hT 93 rfl (fun hc90 hT => ?_) (fun hc90 hT => ?_)
                  · try simp only [decide_eq_true_eq, decide_eq_false_iff_not, Bool.not_eq_true', Bool.not_eq_false', Bool.not_eq_true, Bool.not_eq_false, Bool.and_eq_true, Bool.or_eq_false_iff, beq_iff_eq, bne_iff_ne, Int.not_lt, Int.not_le, ne_eq] at hc90
                    obtain ⟨bh, hbh⟩ : ∃ o, hears[i]? = some o := ⟨_, List.getElem?_eq_getElem (by omega)⟩
                    refine Sx.st_take hT rfl rfl rfl rfl (Sx.x_move hT rfl rfl) ?_
                    clear hT; intro a hT
                    refine Sx.st_take hT rfl rfl rfl rfl (Sx.x_move hT rfl rfl) ?_
                    clear hT; intro a hT
                    refine Sx.st_take hT rfl rfl rfl rfl (Sx.x_index hT rfl Tryd.underlying50 Tryd.ti4 (by first | exact (Rp.at H.ext).sv | exact (Rw.at H.ext).sv | exact (Rh.at H.ext).sv) rfl rfl rfl (by omega)) ?_
                    clear hT; intro a hT
                    refine Sx.st_run hT rfl rfl rfl rfl (Sx.x_load1 hT rfl Tryd.fl4 rfl (by first | exact ((H.blk 0 rfl).nth rfl) | exact ((H.blk 1 rfl).nth rfl) | exact ((H.blk 2 rfl).nth rfl) | exact ((H.blk 4 rfl).nth rfl) | exact ((H.blk 5 rfl).nth rfl) | exact ((Rp.at H.ext).cell (j := 0) icell_len hph rfl) | exact ((Rw.at H.ext).cell (j := 0) bcell_len hbw rfl) | exact ((Rh.at H.ext).cell (j := 0) bcell_len hbh rfl))) ?_
                    clear hT; intro a hT
                    refine Sx.st_take hT rfl rfl rfl rfl (Sx.x_pick_t hT rfl rfl rfl) ?_
                    clear hT; intro a hT
                    replace hT := hT.keep [98, 22, 76, 21, 19, 20, 18, 17, 59, 16, 15, 14, 13, 28, 8, 0, 1, 2, 3, 4, 5] rfl
                    refine Sx.ser_nil ?_
                    refine Sx.then_normal (hK89 _ _ ?_)
                    clear hK89
                    -- cond 4
                    refine Sx.wp_if hT rfl (fun hc91 => ?_) (fun hc91 => ?_)
                    · try simp only [decide_eq_true_eq, decide_eq_false_iff_not, Bool.not_eq_true', Bool.not_eq_false', Bool.not_eq_true, Bool.not_eq_false, Bool.and_eq_true, Bool.or_eq_false_iff, beq_iff_eq, bne_iff_ne, Int.not_lt, Int.not_le, ne_eq] at hc91
                      refine wp_seq_k fun K92 hK92 => ?_
                      -- region 18 (law.go:104)
                      refine Sx.wp_text [(0, .take), (1, .take), (2, .take), (3, .take), (4, .run), (5, .run), (6, .run), (7, .run)] rfl ?_
                      refine Sx.st_take hT rfl rfl rfl rfl (Sx.x_move hT rfl rfl) ?_
                      clear hT; intro a hT
                      refine Sx.st_take hT rfl rfl rfl rfl (Sx.x_move hT rfl rfl) ?_
                      clear hT; intro a hT
                      refine Sx.st_take hT rfl rfl rfl rfl ((fun w => Sx.x_sub w hT rfl rfl rfl (Sx.wrap64 (by omega)))) ?_
                      clear hT; intro a hT
                      refine Sx.st_take hT rfl rfl rfl rfl (Sx.x_index (k := 0) hT rfl Tryd.underlying51 Tryd.ti33 ((H.blk 4 rfl).svn rfl) rfl rfl rfl (by omega)) ?_
                      clear hT; intro a hT
                      refine Sx.st_run hT rfl rfl rfl rfl (Sx.x_load1 hT rfl Tryd.fl33 rfl ((H.blk 4 rfl).nth rfl)) ?_
                      clear hT; intro a hT
                      refine Sx.st_call hT rfl rfl rfl rfl rfl Tryd.can29 rfl (Last_calls (H.blk 0 rfl)) ?_
                      rintro _ w47 ⟨rfl, E⟩
                      refine ⟨_, rfl, ?_⟩
                      clear hT; intro a hT
                      replace H := H.pure E; clear E
                      refine Sx.st_eff hT rfl rfl rfl rfl (Sx.y_alloc hT rfl Tryd.ti23 rfl _) ?_
                      clear hT; rintro _ w48 ⟨b13, rfl, N⟩ a hT
                      replace H := H.new N; clear N
                      refine Sx.st_act hT rfl rfl rfl (Sx.y_storeS hT rfl Tryd.ti23 rfl rfl rfl rfl rfl (H.blk 0 rfl) rfl) ?_
                      rintro w49 ⟨hb, E, _⟩
                      replace H := H.setB 0 rfl hb E rfl; clear hb E
                      replace hT := hT.keep [23, 98, 22, 76, 21, 19, 20, 18, 17, 59, 16, 15, 14, 13, 28, 8, 0, 1, 2, 3, 4, 5] rfl
                      refine Sx.ser_nil ?_
                      refine Sx.then_normal (hK92 _ _ ?_)
                      clear hK92
                      refine wp_seq_k fun K93 hK93 => ?_
                      refine wp_seq_k fun K94 hK94 => ?_
                      -- region 19 (law.go:105)
                      refine Sx.wp_draws (fun u => Sx.Ext (Sx.No) u) [(0, .take), (1, .take), (2, .take), (3, .held), (4, .held), (5, .run), (6, .take)] (by kernel_rfl) (by kernel_rfl) (fun u E _ => ?_)
                      replace H := H.pure E; clear E
                      have hH : Sx.Ext (Sx.No) u u := Sx.Ext.refl _ _
                      have Hu := H
                      refine Sx.st_take hT rfl rfl rfl rfl (Sx.x_move hT rfl rfl) ?_
                      clear hT; intro a hT
                      refine Sx.st_take hT rfl rfl rfl rfl (Sx.x_move hT rfl rfl) ?_
                      clear hT; intro a hT
                      refine Sx.st_take hT rfl rfl rfl rfl (Sx.x_index (k := 1) hT rfl Tryd.underlying51 Tryd.ti33 ((H.blk 5 rfl).svn rfl) rfl rfl rfl (by omega)) ?_
                      clear hT; intro a hT
                      refine Sx.st_held hT rfl rfl rfl rfl hH (fun w' h' => Sx.x_load1 hT rfl Tryd.fl33 rfl ((Hu.heldB 5 rfl h' Sx.off_No).nth rfl)) ?_
                      clear hT; intro a hT
                      refine Sx.st_held hT rfl rfl rfl rfl hH (fun w' h' => Sx.y_loadS hT rfl Tryd.underlying23 Tryd.ti23 rfl ((Hu.heldB 0 rfl h' Sx.off_No).seg (k := 3) rfl) (by rfl)) ?_
                      clear hT; intro a hT
                      refine Sx.st_call hT rfl rfl rfl rfl rfl Tryd.can27 rfl (Obs_calls (H.pre [2] rfl rfl) _ _ _) ?_
                      rintro _ w50 ⟨rfl, K⟩
                      refine ⟨_, rfl, ?_⟩
                      clear hT; intro a hT
                      replace H := H.back [2] [0, 1, 3, 4, 5, 6] rfl rfl rfl K rfl; clear K
                      refine Sx.st_take hT rfl rfl rfl rfl ((fun w => Sx.x_ne w hT rfl rfl rfl)) ?_
                      clear hT; intro a hT
                      replace hT := hT.keep [111, 23, 98, 22, 76, 21, 19, 20, 18, 17, 59, 16, 15, 14, 13, 28, 8, 0, 1, 2, 3, 4, 5] rfl
                      clear Hu hH
                      refine Sx.ser_calm ?_
                      refine Sx.then_normal (hK94 _ _ ?_)
                      clear hK94
                      -- cond 5
                      refine Sx.wp_if hT rfl (fun hc95 => ?_) (fun hc95 => ?_)
                      · exfalso
                        try simp only [decide_eq_true_eq, decide_eq_false_iff_not, Bool.not_eq_true', Bool.not_eq_false', Bool.not_eq_true, Bool.not_eq_false, Bool.and_eq_true, Bool.or_eq_false_iff, beq_iff_eq, bne_iff_ne, Int.not_lt, Int.not_le, ne_eq] at hc95
                        first | exact hc95 (if_pos hri.m1) | exact hc95 (if_pos hri.m0)
                      · try simp only [decide_eq_true_eq, decide_eq_false_iff_not, Bool.not_eq_true', Bool.not_eq_false', Bool.not_eq_true, Bool.not_eq_false, Bool.and_eq_true, Bool.or_eq_false_iff, beq_iff_eq, bne_iff_ne, Int.not_lt, Int.not_le, ne_eq] at hc95
                        refine wp_skip ?_
                        refine Sx.then_normal (hK93 _ _ ?_)
                        clear hK93
                        refine wp_seq_k fun K96 hK96 => ?_
                        -- region 21 (law.go:108)
                        rw [show (⟨u0.wall, u0.logical, u0.node⟩ : Stamp) = u0 from rfl] at H
                        refine Sx.wp_draws (fun u => Sx.Ext (Sx.No) u) [(0, .take), (1, .take), (2, .take), (3, .held), (4, .held), (5, .run)] (by kernel_rfl) (by kernel_rfl) (fun u E _ => ?_)
                        replace H := H.pure E; clear E
                        have hH : Sx.Ext (Sx.No) u u := Sx.Ext.refl _ _
                        have Hu := H
                        refine Sx.st_take hT rfl rfl rfl rfl (Sx.x_move hT rfl rfl) ?_
                        clear hT; intro a hT
                        refine Sx.st_take hT rfl rfl rfl rfl (Sx.x_move hT rfl rfl) ?_
                        clear hT; intro a hT
                        refine Sx.st_take hT rfl rfl rfl rfl (Sx.x_index (k := 1) hT rfl Tryd.underlying52 Tryd.ti23 ((H.blk 3 rfl).svn rfl) rfl rfl rfl (by omega)) ?_
                        clear hT; intro a hT
                        refine Sx.st_held hT rfl rfl rfl rfl hH (fun w' h' => Sx.y_loadS hT rfl Tryd.underlying23 Tryd.ti23 rfl ((Hu.heldB 3 rfl h' Sx.off_No).seg (k := 3) rfl) (by rfl)) ?_
                        clear hT; intro a hT
                        refine Sx.st_held hT rfl rfl rfl rfl hH (fun w' h' => Sx.y_loadS hT rfl Tryd.underlying23 Tryd.ti23 rfl ((Hu.heldB 1 rfl h' Sx.off_No).seg (k := 3) rfl) (by rfl)) ?_
                        clear hT; intro a hT
                        refine Sx.st_call hT rfl rfl rfl rfl rfl Tryd.can30 rfl (Less_calls _ _ _ _ _ _ _) ?_
                        rintro _ w51 ⟨rfl, E⟩
                        refine ⟨_, rfl, ?_⟩
                        clear hT; intro a hT
                        replace H := H.pure E; clear E
                        replace hT := hT.keep [117, 111, 23, 98, 22, 76, 21, 19, 20, 18, 17, 59, 16, 15, 14, 13, 28, 8, 0, 1, 2, 3, 4, 5] rfl
                        clear Hu hH
                        refine Sx.ser_calm ?_
                        refine Sx.then_normal (hK96 _ _ ?_)
                        clear hK96
                        -- cond 6
                        refine Sx.wp_if hT rfl (fun hc97 => ?_) (fun hc97 => ?_)
                        · try simp only [decide_eq_true_eq, decide_eq_false_iff_not, Bool.not_eq_true', Bool.not_eq_false', Bool.not_eq_true, Bool.not_eq_false, Bool.and_eq_true, Bool.or_eq_false_iff, beq_iff_eq, bne_iff_ne, Int.not_lt, Int.not_le, ne_eq] at hc97
                          -- region 22 (law.go:109)
                          refine Sx.wp_text [(0, .take), (1, .take), (2, .run), (3, .take), (4, .run)] rfl ?_
                          refine Sx.st_take hT rfl rfl rfl rfl (Sx.x_move hT rfl rfl) ?_
                          clear hT; intro a hT
                          refine Sx.st_take hT rfl rfl rfl rfl (Sx.x_move hT rfl rfl) ?_
                          clear hT; intro a hT
                          refine Sx.st_run hT rfl rfl rfl rfl (Sx.y_loadS hT rfl Tryd.underlying23 Tryd.ti23 rfl ((H.blk 1 rfl).seg (k := 3) rfl) (by rfl)) ?_
                          clear hT; intro a hT
                          refine Sx.st_take hT rfl rfl rfl rfl (Sx.x_index (k := 1) hT rfl Tryd.underlying52 Tryd.ti23 ((H.blk 3 rfl).svn rfl) rfl rfl rfl (by omega)) ?_
                          clear hT; intro a hT
                          refine Sx.st_act hT rfl rfl rfl (Sx.y_storeS hT rfl Tryd.ti23 rfl rfl rfl rfl rfl (H.blk 3 rfl) rfl) ?_
                          rintro w52 ⟨hb, E, _⟩
                          replace H := H.setB 3 rfl hb E rfl; clear hb E
                          replace hT := hT.keep [117, 111, 23, 98, 22, 76, 21, 19, 20, 18, 17, 59, 16, 15, 14, 13, 28, 8, 0, 1, 2, 3, 4, 5] rfl
                          refine Sx.ser_nil ?_
                          exact Sx.then_normal (hJK61 ((obs u1 u0), u0) _ _ hri.swap.hear_set (hT.keep [22, 76, 21, 19, 20, 18, 17, 59, 16, 15, 14, 13, 28, 8, 0, 1, 2, 3, 4, 5] rfl) (H.keep [0, 3, 2, 4, 5, 6] rfl rfl))
                        · try simp only [decide_eq_true_eq, decide_eq_false_iff_not, Bool.not_eq_true', Bool.not_eq_false', Bool.not_eq_true, Bool.not_eq_false, Bool.and_eq_true, Bool.or_eq_false_iff, beq_iff_eq, bne_iff_ne, Int.not_lt, Int.not_le, ne_eq] at hc97
                          refine wp_skip ?_
                          exact Sx.then_normal (hJK61 ((obs u1 u0), l1) _ _ hri.swap.hear_keep (hT.keep [22, 76, 21, 19, 20, 18, 17, 59, 16, 15, 14, 13, 28, 8, 0, 1, 2, 3, 4, 5] rfl) (H.keep [0, 3, 2, 4, 5, 6] rfl rfl))
                    · try simp only [decide_eq_true_eq, decide_eq_false_iff_not, Bool.not_eq_true', Bool.not_eq_false', Bool.not_eq_true, Bool.not_eq_false, Bool.and_eq_true, Bool.or_eq_false_iff, beq_iff_eq, bne_iff_ne, Int.not_lt, Int.not_le, ne_eq] at hc91
                      refine wp_skip ?_
                      exact Sx.then_normal (hJK61 (u1, l1) _ _ hri.swap (hT.keep [22, 76, 21, 19, 20, 18, 17, 59, 16, 15, 14, 13, 28, 8, 0, 1, 2, 3, 4, 5] rfl) (H.keep [1, 2, 0, 3, 4, 5] rfl rfl))
                  · try simp only [decide_eq_true_eq, decide_eq_false_iff_not, Bool.not_eq_true', Bool.not_eq_false', Bool.not_eq_true, Bool.not_eq_false, Bool.and_eq_true, Bool.or_eq_false_iff, beq_iff_eq, bne_iff_ne, Int.not_lt, Int.not_le, ne_eq] at hc90
                    refine Sx.st_skip hT rfl rfl rfl rfl ?_
                    clear hT; intro a hT
                    refine Sx.st_skip hT rfl rfl rfl rfl ?_
                    clear hT; intro a hT
                    refine Sx.st_skip hT rfl rfl rfl rfl ?_
                    clear hT; intro a hT
                    refine Sx.st_runskip hT rfl rfl rfl rfl ?_
                    clear hT; intro a hT
                    refine Sx.st_take hT rfl rfl rfl rfl (Sx.x_pick_f hT rfl rfl rfl) ?_
                    clear hT; intro a hT
                    replace hT := hT.keep [98, 22, 76, 21, 19, 20, 18, 17, 59, 16, 15, 14, 13, 28, 8, 0, 1, 2, 3, 4, 5] rfl
                    refine Sx.ser_nil ?_
                    refine Sx.then_normal (hK89 _ _ ?_)
                    clear hK89
                    refine Sx.wp_if hT rfl (fun h => by cases h) (fun _ => ?_)
                    refine wp_skip ?_
                    exact Sx.then_normal (hJK61 (u1, l1) _ _ hri.swap (hT.keep [22, 76, 21, 19, 20, 18, 17, 59, 16, 15, 14, 13, 28, 8, 0, 1, 2, 3, 4, 5] rfl) (H.keep [1, 2, 0, 3, 4, 5] rfl rfl))
            · clear hK23; intro hJK23
              refine wp_seq_k fun K98 hK98 => ?_
              -- region 15 (law.go:100)
              refine Sx.wp_text [(0, .take), (1, .take), (2, .take), (3, .take), (4, .take), (5, .take), (6, .take), (7, .take), (8, .run), (9, .take)] rfl ?_
              refine Sx.st_take hT rfl rfl rfl rfl (Sx.x_move hT rfl rfl) ?_
              clear hT; intro a hT
              refine Sx.st_take hT rfl rfl rfl rfl (Sx.x_move hT rfl rfl) ?_
              clear hT; intro a hT
              refine Sx.st_take hT rfl rfl rfl rfl (Sx.x_len_slice hT rfl rfl Tryd.underlying50 rfl) ?_
              clear hT; intro a hT
              refine Sx.st_take hT rfl rfl rfl rfl ((fun w => Sx.x_lt w hT rfl rfl rfl)) ?_
              clear hT; intro a hT
              refine Sx.st_take hT rfl rfl rfl rfl (Sx.x_move hT rfl rfl) ?_
              clear hT; intro a hT
              -- guard (15, 4)
              refine Sx.Sl.two hT 83 rfl (fun hc99 hT => ?_) (fun hc99 hT => ?_)
              · try simp only [decide_eq_true_eq, decide_eq_false_iff_not, Bool.not_eq_true', Bool.not_eq_false', Bool.not_eq_true, Bool.not_eq_false, Bool.and_eq_true, Bool.or_eq_false_iff, beq_iff_eq, bne_iff_ne, Int.not_lt, Int.not_le, ne_eq] at hc99
                obtain ⟨bw, hbw⟩ : ∃ o, which[i]? = some o := ⟨_, List.getElem?_eq_getElem (by omega)⟩
                refine Sx.st_take hT rfl rfl rfl rfl (Sx.x_move hT rfl rfl) ?_
                clear hT; intro a hT
                refine Sx.st_take hT rfl rfl rfl rfl (Sx.x_move hT rfl rfl) ?_
                clear hT; intro a hT
                refine Sx.st_take hT rfl rfl rfl rfl (Sx.x_index hT rfl Tryd.underlying50 Tryd.ti4 (by first | exact (Rp.at H.ext).sv | exact (Rw.at H.ext).sv | exact (Rh.at H.ext).sv) rfl rfl rfl (by omega)) ?_
                clear hT; intro a hT
                refine Sx.st_run hT rfl rfl rfl rfl (Sx.x_load1 hT rfl Tryd.fl4 rfl (by first | exact ((H.blk 0 rfl).nth rfl) | exact ((H.blk 1 rfl).nth rfl) | exact ((H.blk 2 rfl).nth rfl) | exact ((H.blk 4 rfl).nth rfl) | exact ((H.blk 5 rfl).nth rfl) | exact ((Rp.at H.ext).cell (j := 0) icell_len hph rfl) | exact ((Rw.at H.ext).cell (j := 0) bcell_len hbw rfl) | exact ((Rh.at H.ext).cell (j := 0) bcell_len hbh rfl))) ?_
                clear hT; intro a hT
                refine Sx.st_take hT rfl rfl rfl rfl (Sx.x_pick_t hT rfl rfl rfl) ?_
                clear hT; intro a hT
                replace hT := hT.keep [88, 22, 76, 21, 19, 20, 18, 17, 59, 16, 15, 14, 13, 28, 8, 0, 1, 2, 3, 4, 5] rfl
                refine Sx.ser_nil ?_
                refine Sx.then_normal (hK98 _ _ ?_)
                clear hK98
                -- cond 3
                refine Sx.wp_if hT rfl (fun hc100 => ?_) (fun hc100 => ?_)
                · try simp only [decide_eq_true_eq, decide_eq_false_iff_not, Bool.not_eq_true', Bool.not_eq_false', Bool.not_eq_true, Bool.not_eq_false, Bool.and_eq_true, Bool.or_eq_false_iff, beq_iff_eq, bne_iff_ne, Int.not_lt, Int.not_le, ne_eq] at hc100
                  -- region 16 (law.go:101)
                  refine Sx.wp_text [(0, .take)] rfl ?_
                  refine Sx.st_take hT rfl rfl rfl rfl (Sx.x_assign hT rfl rfl) ?_
                  clear hT; intro a hT
                  replace hT := hT.keep [22, 88, 76, 21, 19, 20, 18, 17, 59, 16, 15, 14, 13, 28, 8, 0, 1, 2, 3, 4, 5] rfl
                  refine Sx.ser_nil ?_
                  exact Sx.then_normal (hJK23 1 _ _ (.inr rfl) (hT.keep [22, 76, 21, 19, 20, 18, 17, 59, 16, 15, 14, 13, 28, 8, 0, 1, 2, 3, 4, 5] rfl) (H.keep [0, 1, 2, 3, 4, 5] rfl rfl))
                · try simp only [decide_eq_true_eq, decide_eq_false_iff_not, Bool.not_eq_true', Bool.not_eq_false', Bool.not_eq_true, Bool.not_eq_false, Bool.and_eq_true, Bool.or_eq_false_iff, beq_iff_eq, bne_iff_ne, Int.not_lt, Int.not_le, ne_eq] at hc100
                  refine wp_skip ?_
                  exact Sx.then_normal (hJK23 0 _ _ (.inl rfl) (hT.keep [22, 76, 21, 19, 20, 18, 17, 59, 16, 15, 14, 13, 28, 8, 0, 1, 2, 3, 4, 5] rfl) (H.keep [0, 1, 2, 3, 4, 5] rfl rfl))
              · try simp only [decide_eq_true_eq, decide_eq_false_iff_not, Bool.not_eq_true', Bool.not_eq_false', Bool.not_eq_true, Bool.not_eq_false, Bool.and_eq_true, Bool.or_eq_false_iff, beq_iff_eq, bne_iff_ne, Int.not_lt, Int.not_le, ne_eq] at hc99
                refine Sx.st_skip hT rfl rfl rfl rfl ?_
                clear hT; intro a hT
                refine Sx.st_skip hT rfl rfl rfl rfl ?_
                clear hT; intro a hT
                refine Sx.st_skip hT rfl rfl rfl rfl ?_
                clear hT; intro a hT
                refine Sx.st_runskip hT rfl rfl rfl rfl ?_
                clear hT; intro a hT
                refine Sx.st_take hT rfl rfl rfl rfl (Sx.x_pick_f hT rfl rfl rfl) ?_
                clear hT; intro a hT
                replace hT := hT.keep [88, 22, 76, 21, 19, 20, 18, 17, 59, 16, 15, 14, 13, 28, 8, 0, 1, 2, 3, 4, 5] rfl
                refine Sx.ser_nil ?_
                refine Sx.then_normal (hK98 _ _ ?_)
                clear hK98
                refine Sx.wp_if hT rfl (fun h => by cases h) (fun _ => ?_)
                refine wp_skip ?_
                exact Sx.then_normal (hJK23 0 _ _ (.inl rfl) (hT.keep [22, 76, 21, 19, 20, 18, 17, 59, 16, 15, 14, 13, 28, 8, 0, 1, 2, 3, 4, 5] rfl) (H.keep [0, 1, 2, 3, 4, 5] rfl rfl))
          · try simp only [decide_eq_true_eq, decide_eq_false_iff_not, Bool.not_eq_true', Bool.not_eq_false', Bool.not_eq_true, Bool.not_eq_false, Bool.and_eq_true, Bool.or_eq_false_iff, beq_iff_eq, bne_iff_ne, Int.not_lt, Int.not_le, ne_eq] at hc20
            refine wp_exit ?_
            refine Sx.then_exit ?_
            refine Sx.then_exit ?_
            refine Sx.block_exit ?_
            refine Sx.then_normal (hK15 _ _ ?_)
            clear hK15
            refine wp_seq_k fun K101 hK101 => ?_
            -- region 39 (law.go:134)
            refine Sx.wp_text [(0, .run), (1, .take)] rfl ?_
            refine Sx.st_call hT rfl rfl rfl rfl rfl Tryd.can10 rfl (first_calls _) ?_
            rintro _ w53 ⟨rfl, E⟩
            refine ⟨_, rfl, ?_⟩
            clear hT; intro a hT
            replace H := H.pure E; clear E
            refine Sx.st_take hT rfl rfl rfl rfl (Sx.x_assign hT rfl rfl) ?_
            clear hT; intro a hT
            replace hT := hT.keep [12, 76, 21, 19, 20, 18, 17, 59, 16, 15, 14, 13, 28, 8, 0, 1, 2, 3, 4, 5] rfl
            refine Sx.ser_nil ?_
            refine Sx.then_normal (hK101 _ _ ?_)
            clear hK101
            refine wp_ret ?_
            refine Sx.done1 (fn := Tryd.f5) hT rfl (.tmp (hT.get 12 _ rfl)) ?_
            first | exact ⟨rfl, H.ext⟩ | exact ⟨ret_b (by simp), H.ext⟩
        · try simp only [decide_eq_true_eq, decide_eq_false_iff_not, Bool.not_eq_true', Bool.not_eq_false', Bool.not_eq_true, Bool.not_eq_false, Bool.and_eq_true, Bool.or_eq_false_iff, beq_iff_eq, bne_iff_ne, Int.not_lt, Int.not_le, ne_eq] at hc19
          refine Sx.st_skip hT rfl rfl rfl rfl ?_
          clear hT; intro a hT
          refine Sx.st_skip hT rfl rfl rfl rfl ?_
          clear hT; intro a hT
          refine Sx.st_take hT rfl rfl rfl rfl (Sx.x_pick_f hT rfl rfl rfl) ?_
          clear hT; intro a hT
          replace hT := hT.keep [76, 21, 19, 20, 18, 17, 59, 16, 15, 14, 13, 28, 8, 0, 1, 2, 3, 4, 5] rfl
          refine Sx.ser_nil ?_
          refine Sx.then_normal (hK18 _ _ ?_)
          clear hK18
          refine Sx.wp_if hT rfl (fun h => by cases h) (fun _ => ?_)
          refine wp_exit ?_
          refine Sx.then_exit ?_
          refine Sx.then_exit ?_
          refine Sx.block_exit ?_
          refine Sx.then_normal (hK15 _ _ ?_)
          clear hK15
          refine wp_seq_k fun K102 hK102 => ?_
          -- region 39 (law.go:134)
          refine Sx.wp_text [(0, .run), (1, .take)] rfl ?_
          refine Sx.st_call hT rfl rfl rfl rfl rfl Tryd.can10 rfl (first_calls _) ?_
          rintro _ w54 ⟨rfl, E⟩
          refine ⟨_, rfl, ?_⟩
          clear hT; intro a hT
          replace H := H.pure E; clear E
          refine Sx.st_take hT rfl rfl rfl rfl (Sx.x_assign hT rfl rfl) ?_
          clear hT; intro a hT
          replace hT := hT.keep [12, 76, 21, 19, 20, 18, 17, 59, 16, 15, 14, 13, 28, 8, 0, 1, 2, 3, 4, 5] rfl
          refine Sx.ser_nil ?_
          refine Sx.then_normal (hK102 _ _ ?_)
          clear hK102
          refine wp_ret ?_
          refine Sx.done1 (fn := Tryd.f5) hT rfl (.tmp (hT.get 12 _ rfl)) ?_
          first | exact ⟨rfl, H.ext⟩ | exact ⟨ret_b (by simp), H.ext⟩

end Go.Proofs.YtioebjimkainjaaDoor
