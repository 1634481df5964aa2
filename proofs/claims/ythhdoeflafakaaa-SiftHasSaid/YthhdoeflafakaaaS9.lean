/- Walks: SiftHas. -/
import Derived.Test.YthhdoeflafakaaaS8
set_option linter.unusedSimpArgs false
set_option linter.unusedVariables false
namespace Go.Proofs.Ythhdoeflafakaaa
open Sx
theorem Try.fa37_0 : Sx.FA Try.prog 37 0 0 := ⟨_, _, _, _, _, Try.underlying37, rfl, rfl, Try.ti3, by decide⟩
theorem Try.fa37_3 : Sx.FA Try.prog 37 3 11 := ⟨_, _, _, _, _, Try.underlying37, rfl, rfl, Try.ti28, by decide⟩
theorem Try.can4 : Sx.Can Try.prog 4 := ⟨_, Try.func4, by kernel_rfl, rfl⟩
set_option maxHeartbeats 2000000 in
theorem Has_all {ad : Option Addr} {c : Nat} (l : List Op) {w : World} (hs : Ss w ad Op.cells 14 l) (hw : ∀ x ∈ l, Ss w x.f.ad Wt.cells 4 x.f.ws ∧ (∀ y ∈ x.f.ws, y.wf) ∧ (x.f.ad = none → x.f.ws.length = 0 ∧ x.f.c = 0) ∧ x.f.ws.length ≤ 9223372036854775806) (hl : l.length ≤ 9223372036854775806) : Calls Try.prog 4 #[.slice ad l.length c] w fun e w' => e = .returned (.bool true) ∧ Ext No w w' := by
  have R : Ro w No _ := Ro.of fun w' x => hs.ext_no x
  have RM : Ro w No (fun u => ∀ x ∈ l, Ss u x.f.ad Wt.cells 4 x.f.ws) := Ro.of fun w' x y hy => ((hw y hy).1).ext_no x
  refine Sx.calls_into Try.func4 rfl Try.ntmps4 rfl fun a hT => ?_
  replace hT := hT.keep [0] rfl
  have H : Sx.Hp w (Sx.No) w [] := Sx.Hp.start _ _
  refine wp_seq_k fun K1 hK1 => ?_
  -- region 0 (extra.go:46)
  refine Sx.wp_text [(0, .take)] rfl ?_
  refine Sx.st_take hT rfl rfl rfl rfl (Sx.x_assign hT rfl rfl) ?_
  clear hT; intro a hT
  replace hT := hT.keep [2, 0] rfl
  refine Sx.ser_nil ?_
  refine Sx.then_normal (hK1 _ _ ?_)
  clear hK1
  refine wp_seq_k fun K2 hK2 => ?_
  refine wp_seq_k fun K3 hK3 => ?_
  -- region 1 (extra.go:47)
  refine Sx.wp_text [(0, .run), (1, .take)] rfl ?_
  refine Sx.st_call hT rfl rfl rfl rfl rfl Try.can7 rfl (first_calls _) ?_
  rintro _ w1 ⟨rfl, E⟩
  refine ⟨_, rfl, ?_⟩
  clear hT; intro a hT
  replace H := H.pure E; clear E
  refine Sx.st_take hT rfl rfl rfl rfl (Sx.x_not hT rfl rfl) ?_
  clear hT; intro a hT
  replace hT := hT.keep [13, 2, 0] rfl
  refine Sx.ser_nil ?_
  refine Sx.then_normal (hK3 _ _ ?_)
  clear hK3
  refine Sx.wp_if hT rfl (fun h => by cases h) (fun _ => ?_)
  refine wp_skip ?_
  refine Sx.then_normal (hK2 _ _ ?_)
  clear hK2
  refine wp_seq_k fun K4 hK4 => ?_
  refine wp_seq_k fun K5 hK5 => ?_
  -- region 3 (extra.go:50)
  refine Sx.wp_text [(0, .take), (1, .run), (2, .take)] rfl ?_
  refine Sx.st_take hT rfl rfl rfl rfl (Sx.x_move hT rfl rfl) ?_
  clear hT; intro a hT
  refine Sx.st_call hT rfl rfl rfl rfl rfl Try.can8 rfl (few_calls l (R.at H.ext) (fun x hx => ⟨(RM.at H.ext) x hx, (hw x hx).2⟩) hl) ?_
  rintro _ w2 ⟨b9, rfl, hb9, E⟩
  refine ⟨_, rfl, ?_⟩
  clear hT; intro a hT
  replace H := H.pure E; clear E
  refine Sx.st_take hT rfl rfl rfl rfl (Sx.x_not hT rfl rfl) ?_
  clear hT; intro a hT
  replace hT := hT.keep [16, 13, 2, 0] rfl
  refine Sx.ser_nil ?_
  refine Sx.then_normal (hK5 _ _ ?_)
  clear hK5
  -- cond 1
  refine Sx.wp_if hT rfl (fun hc6 => ?_) (fun hc6 => ?_)
  · try simp only [decide_eq_true_eq, decide_eq_false_iff_not, Bool.not_eq_true', Bool.not_eq_false', Bool.not_eq_true, Bool.not_eq_false, Bool.and_eq_true, Bool.or_eq_false_iff, beq_iff_eq, bne_iff_ne, Int.not_lt, Int.not_le, ne_eq] at hc6
    refine wp_seq_k fun K7 hK7 => ?_
    -- region 4 (extra.go:51)
    refine Sx.wp_text [(0, .run), (1, .take)] rfl ?_
    refine Sx.st_call hT rfl rfl rfl rfl rfl Try.can7 rfl (first_calls _) ?_
    rintro _ w3 ⟨rfl, E⟩
    refine ⟨_, rfl, ?_⟩
    clear hT; intro a hT
    replace H := H.pure E; clear E
    refine Sx.st_take hT rfl rfl rfl rfl (Sx.x_assign hT rfl rfl) ?_
    clear hT; intro a hT
    replace hT := hT.keep [2, 16, 13, 0] rfl
    refine Sx.ser_nil ?_
    refine Sx.then_normal (hK7 _ _ ?_)
    clear hK7
    refine wp_ret ?_
    refine Sx.then_ret ?_
    refine Sx.done1 (fn := Try.f4) hT rfl (.tmp (hT.get 2 _ rfl)) ?_
    exact ⟨ret_b (by simp), H.ext⟩
  · try simp only [decide_eq_true_eq, decide_eq_false_iff_not, Bool.not_eq_true', Bool.not_eq_false', Bool.not_eq_true, Bool.not_eq_false, Bool.and_eq_true, Bool.or_eq_false_iff, beq_iff_eq, bne_iff_ne, Int.not_lt, Int.not_le, ne_eq] at hc6
    obtain ⟨hl3, hws⟩ := hb9 (by simpa using hc6)
    refine wp_skip ?_
    refine Sx.then_normal (hK4 _ _ ?_)
    clear hK4
    refine wp_seq_k fun K8 hK8 => ?_
    -- region 5 (extra.go:53)
    refine Sx.wp_text [(0, .run), (1, .take)] rfl ?_
    refine Sx.st_call hT rfl rfl rfl rfl rfl Try.can9 rfl (SNew_calls _) ?_
    rintro _ w4 ⟨p, rfl, K⟩
    refine ⟨_, rfl, ?_⟩
    clear hT; intro a hT
    replace H := H.more K rfl; clear K
    refine Sx.st_take hT rfl rfl rfl rfl (Sx.x_assign hT rfl rfl) ?_
    clear hT; intro a hT
    replace hT := hT.keep [3, 16, 13, 2, 0] rfl
    refine Sx.ser_nil ?_
    refine Sx.then_normal (hK8 _ _ ?_)
    clear hK8
    refine wp_seq_k fun K9 hK9 => ?_
    refine wp_seq_k fun K10 hK10 => ?_
    -- region 6 (extra.go:54)
    refine Sx.wp_text [(0, .take), (1, .take)] rfl ?_
    refine Sx.st_take hT rfl rfl rfl rfl (Sx.x_move hT rfl rfl) ?_
    clear hT; intro a hT
    refine Sx.st_take hT rfl rfl rfl rfl (Sx.x_eqnil_some hT rfl Try.underlying25 rfl rfl) ?_
    clear hT; intro a hT
    replace hT := hT.keep [20, 3, 16, 13, 2, 0] rfl
    refine Sx.ser_nil ?_
    refine Sx.then_normal (hK10 _ _ ?_)
    clear hK10
    refine Sx.wp_if hT rfl (fun h => by cases h) (fun _ => ?_)
    refine wp_skip ?_
    refine Sx.then_normal (hK9 _ _ ?_)
    clear hK9
    refine wp_seq_k fun K11 hK11 => ?_
    refine wp_seq_k fun K12 hK12 => ?_
    -- region 8 (extra.go:57)
    refine Sx.wp_text [(0, .take)] rfl ?_
    refine Sx.st_take hT rfl rfl rfl rfl (Sx.x_assign hT rfl rfl) ?_
    clear hT; intro a hT
    replace hT := hT.keep [4, 20, 3, 16, 13, 2, 0] rfl
    refine Sx.ser_nil ?_
    refine Sx.then_normal (hK12 _ _ ?_)
    clear hK12
    refine wp_block ?_
    -- loop 0
    refine Sx.wp_loopH (G := Nat × List Fr × Option Addr × Nat) (fun ⟨i, L, ad1, c1⟩ => [(4, .int .i64 (i : Int))]) (fun ⟨i, L, ad1, c1⟩ => [cB p [.slice ad1 (List.length L) c1] 68, cR 35 9 ad1 (L).length c1 ((L).flatMap Fr.cells), cF 50 4 Fr.rw (L)]) (fun ⟨i, L, ad1, c1⟩ => i ≤ l.length ∧ Held (L.map Fr.p) ∧ L.length ≤ i) (fun ⟨i, L, ad1, c1⟩ => l.length - i) (0, [], none, 0) (hT.keep [4, 20, 3, 16, 13, 0] rfl) (H.keep [0, 1, 2] rfl rfl) (⟨Nat.zero_le _, held_nil, Nat.le_refl _⟩) ?_
    clear hT H
    rintro ⟨i, L, ad1, c1⟩ a w5 hJ hT H
    replace hT := hT.keep [4, 20, 3, 16, 13, 0] rfl
    replace H := H.keep [0, 1, 2] rfl rfl
    obtain ⟨hi, hHd, hLi⟩ := hJ
    refine wp_seq_k fun K13 hK13 => ?_
    refine wp_seq_k fun K14 hK14 => ?_
    -- region 9 (extra.go:57)
    refine Sx.wp_text [(0, .take), (1, .take), (2, .take), (3, .take)] rfl ?_
    refine Sx.st_take hT rfl rfl rfl rfl (Sx.x_move hT rfl rfl) ?_
    clear hT; intro a hT
    refine Sx.st_take hT rfl rfl rfl rfl (Sx.x_move hT rfl rfl) ?_
    clear hT; intro a hT
    refine Sx.st_take hT rfl rfl rfl rfl (Sx.x_len_slice hT rfl rfl Try.underlying22 rfl) ?_
    clear hT; intro a hT
    refine Sx.st_take hT rfl rfl rfl rfl ((fun w => Sx.x_lt w hT rfl rfl rfl)) ?_
    clear hT; intro a hT
    replace hT := hT.keep [24, 4, 20, 3, 16, 13, 0] rfl
    refine Sx.ser_nil ?_
    refine Sx.then_normal (hK14 _ _ ?_)
    clear hK14
    -- cond 3
    refine Sx.wp_if hT rfl (fun hc15 => ?_) (fun hc15 => ?_)
    · try simp only [decide_eq_true_eq, decide_eq_false_iff_not, Bool.not_eq_true', Bool.not_eq_false', Bool.not_eq_true, Bool.not_eq_false, Bool.and_eq_true, Bool.or_eq_false_iff, beq_iff_eq, bne_iff_ne, Int.not_lt, Int.not_le, ne_eq] at hc15
      obtain ⟨o, ho⟩ : ∃ o, l[i]? = some o := ⟨_, List.getElem?_eq_getElem (by omega)⟩
      have hom := List.mem_of_getElem? ho
      obtain ⟨-, -, hon, -⟩ := hw o hom
      have how := hws o hom
      have RMx : Ro w No (fun u => Ss u o.f.ad Wt.cells 4 o.f.ws) := RM.mono fun u h => h o hom
      refine wp_skip ?_
      refine Sx.then_normal (hK13 _ _ ?_)
      clear hK13
      refine wp_seq_k fun K16 hK16 => ?_
      refine wp_block ?_
      refine wp_seq_k fun K17 hK17 => ?_
      -- region 11 (extra.go:58)
      refine Sx.wp_text [(0, .take), (1, .take), (2, .take), (3, .take), (4, .run), (5, .run), (6, .run)] rfl ?_
      refine Sx.st_take hT rfl rfl rfl rfl (Sx.x_move hT rfl rfl) ?_
      clear hT; intro a hT
      refine Sx.st_take hT rfl rfl rfl rfl (Sx.x_move hT rfl rfl) ?_
      clear hT; intro a hT
      refine Sx.st_take hT rfl rfl rfl rfl (Sx.x_index (k := i) hT rfl Try.underlying22 Try.ti37 (R.at H.ext).sv rfl rfl (by first | rfl | omega) (by omega)) ?_
      clear hT; intro a hT
      refine Sx.st_take hT rfl rfl rfl rfl (Sx.x_fieldAddr hT rfl Try.fa37_2 rfl) ?_
      clear hT; intro a hT
      refine Sx.st_run hT rfl rfl rfl rfl (Sx.y_loadS hT rfl Try.underlying35 Try.ti35 rfl (by first | exact ((H.blk 0 rfl).seg (k := 9) rfl) | exact (((R.at H.ext).cs Op.len ho).seg (i := 2) (k := 9) rfl)) (by rfl)) ?_
      clear hT; intro a hT
      refine Sx.st_eff hT rfl rfl rfl rfl (Sx.y_alloc hT rfl Try.ti35 rfl _) ?_
      clear hT; rintro _ w6 ⟨b1, rfl, N⟩ a hT
      replace H := H.new N; clear N
      refine Sx.st_act hT rfl rfl rfl (Sx.y_storeS hT rfl Try.ti35 rfl rfl rfl rfl rfl (H.blk 0 rfl) rfl) ?_
      rintro w7 ⟨hb, E, _⟩
      replace H := H.setB 0 rfl hb E rfl; clear hb E
      replace hT := hT.keep [5, 24, 4, 20, 3, 16, 13, 0] rfl
      refine Sx.ser_nil ?_
      refine Sx.then_normal (hK17 _ _ ?_)
      clear hK17
      refine wp_seq_k fun K18 hK18 => ?_
      -- region 12 (extra.go:59)
      refine Sx.wp_text [(0, .take), (1, .take), (2, .run), (3, .take), (4, .run), (5, .run), (6, .take)] rfl ?_
      refine Sx.st_take hT rfl rfl rfl rfl (Sx.x_move hT rfl rfl) ?_
      clear hT; intro a hT
      refine Sx.st_take hT rfl rfl rfl rfl (Sx.x_fieldAddr hT rfl Try.fa35_0 rfl) ?_
      clear hT; intro a hT
      refine Sx.st_run hT rfl rfl rfl rfl (Sx.x_load1 hT rfl Try.fl3 rfl ((H.blk 0 rfl).nth rfl)) ?_
      clear hT; intro a hT
      refine Sx.st_take hT rfl rfl rfl rfl (Sx.x_fieldAddr hT rfl Try.fa35_2 rfl) ?_
      clear hT; intro a hT
      refine Sx.st_run hT rfl rfl rfl rfl (Sx.y_loadS hT rfl Try.underlying32 Try.ti32 rfl ((H.blk 0 rfl).seg (k := 3) rfl) (by rfl)) ?_
      clear hT; intro a hT
      refine Sx.st_call hT rfl rfl rfl rfl rfl Try.can16 rfl (Has_calls L o.f.rg o.f.t (H.blk 1 rfl) ((H.row 2 rfl).ssn rfl) (by omega)) ?_
      rintro _ w8 ⟨rfl, E⟩
      refine ⟨_, rfl, ?_⟩
      clear hT; intro a hT
      replace H := H.pure E; clear E
      refine Sx.st_take hT rfl rfl rfl rfl (Sx.x_assign hT rfl rfl) ?_
      clear hT; intro a hT
      replace hT := hT.keep [6, 5, 24, 4, 20, 3, 16, 13, 0] rfl
      refine Sx.ser_nil ?_
      refine Sx.then_normal (hK18 _ _ ?_)
      clear hK18
      refine wp_seq_k fun K19 hK19 => ?_
      -- region 13 (extra.go:60)
      refine Sx.wp_text [(0, .take), (1, .run), (2, .take)] rfl ?_
      refine Sx.st_take hT rfl rfl rfl rfl (Sx.x_move hT rfl rfl) ?_
      clear hT; intro a hT
      refine Sx.st_call hT rfl rfl rfl rfl rfl Try.can15 rfl (Len_calls L (H.blk 1 rfl)) ?_
      rintro _ w9 ⟨rfl, E⟩
      refine ⟨_, rfl, ?_⟩
      clear hT; intro a hT
      replace H := H.pure E; clear E
      refine Sx.st_take hT rfl rfl rfl rfl (Sx.x_assign hT rfl rfl) ?_
      clear hT; intro a hT
      replace hT := hT.keep [7, 6, 5, 24, 4, 20, 3, 16, 13, 0] rfl
      refine Sx.ser_nil ?_
      refine Sx.then_normal (hK19 _ _ ?_)
      clear hK19
      refine wp_seq_k fun K20 hK20 => ?_
      -- region 14 (extra.go:61)
      refine Sx.wp_text [(0, .take), (1, .take), (2, .take), (3, .take), (4, .run)] rfl ?_
      refine Sx.st_take hT rfl rfl rfl rfl (Sx.x_move hT rfl rfl) ?_
      clear hT; intro a hT
      refine Sx.st_take hT rfl rfl rfl rfl (Sx.x_move hT rfl rfl) ?_
      clear hT; intro a hT
      refine Sx.st_take hT rfl rfl rfl rfl (Sx.x_index (k := i) hT rfl Try.underlying22 Try.ti37 (R.at H.ext).sv rfl rfl (by first | rfl | omega) (by omega)) ?_
      clear hT; intro a hT
      refine Sx.st_take hT rfl rfl rfl rfl (Sx.x_fieldAddr hT rfl Try.fa37_0 rfl) ?_
      clear hT; intro a hT
      refine Sx.st_run hT rfl rfl rfl rfl (Sx.x_load1 hT rfl Try.fl3 rfl (by first | exact ((H.blk 0 rfl).nth rfl) | exact ((H.blk 1 rfl).nth rfl) | exact ((R.at H.ext).cell (j := 0) Op.len ho rfl))) ?_
      clear hT; intro a hT
      replace hT := hT.keep [44, 7, 6, 5, 24, 4, 20, 3, 16, 13, 0] rfl
      refine Sx.ser_nil ?_
      refine Sx.then_normal (hK20 _ _ ?_)
      clear hK20
      refine wp_block ?_
      refine wp_seq_k fun K21 hK21 => ?_
      -- region 15 (extra.go:62)
      refine Sx.wp_text [(0, .take), (1, .take)] rfl ?_
      refine Sx.st_take hT rfl rfl rfl rfl ((fun w => Sx.x_eq w hT rfl rfl rfl)) ?_
      clear hT; intro a hT
      refine Sx.st_take hT rfl rfl rfl rfl (Sx.x_assign hT rfl rfl) ?_
      clear hT; intro a hT
      replace hT := hT.keep [45, 44, 7, 6, 5, 24, 4, 20, 3, 16, 13, 0] rfl
      refine Sx.ser_nil ?_
      refine Sx.then_normal (hK21 _ _ ?_)
      clear hK21
      -- cond 4
      refine Sx.wp_if hT rfl (fun hc22 => ?_) (fun hc22 => ?_)
      · try simp only [decide_eq_true_eq, decide_eq_false_iff_not, Bool.not_eq_true', Bool.not_eq_false', Bool.not_eq_true, Bool.not_eq_false, Bool.and_eq_true, Bool.or_eq_false_iff, beq_iff_eq, bne_iff_ne, Int.not_lt, Int.not_le, ne_eq] at hc22
        refine wp_seq_k fun K23 hK23 => ?_
        -- region 16 (extra.go:63)
        refine Sx.wp_text [(0, .take), (1, .run), (2, .run), (3, .take)] rfl ?_
        refine Sx.st_take hT rfl rfl rfl rfl (Sx.x_move hT rfl rfl) ?_
        clear hT; intro a hT
        refine Sx.st_run hT rfl rfl rfl rfl (Sx.y_loadS hT rfl Try.underlying35 Try.ti35 rfl ((H.blk 0 rfl).seg (k := 9) rfl) (by rfl)) ?_
        clear hT; intro a hT
        refine Sx.st_call hT rfl rfl rfl rfl rfl Try.can11 rfl (Add_calls o.f (H.pre [1, 2, 3] rfl rfl) (H.ro RMx [1, 2, 3] rfl) hon (by omega) hHd (by omega)) ?_
        rintro _ w10 ⟨ad9, c9, L1, rfl, K, hp1⟩
        refine ⟨_, rfl, ?_⟩
        clear hT; intro a hT
        replace H := H.back [1, 2, 3] [0] rfl rfl rfl K rfl; clear K
        obtain ⟨z9, hz9⟩ : ∃ z, addE (L.map Fr.p) o.f.p = z := ⟨_, rfl⟩
        rw [hz9] at hT
        have hHd1 : Held (L1.map Fr.p) := by rw [hp1]; exact held_add hHd _
        have hL1 : z9 = 0 → L1.length = L.length + 1 ∧ hasF (L.map Fr.p) o.f.rg o.f.t = false ∧ hasF (L1.map Fr.p) o.f.rg o.f.t = true := fun h9 => by have h8 := has_add (hz9.trans h9); rw [← hp1] at h8; exact ⟨by have := h8.2.2; simpa using this, h8.1, h8.2.1⟩
        have hL0 : z9 ≠ 0 → L1.map Fr.p = L.map Fr.p ∧ L1.length = L.length := fun h9 => ⟨hp1.trans (add_no hz9 h9), by have := congrArg List.length (hp1.trans (add_no hz9 h9)); simpa using this⟩
        refine Sx.st_take hT rfl rfl rfl rfl (Sx.x_assign hT rfl rfl) ?_
        clear hT; intro a hT
        replace hT := hT.keep [8, 45, 44, 7, 6, 5, 24, 4, 20, 3, 16, 13, 0] rfl
        refine Sx.ser_nil ?_
        refine Sx.then_normal (hK23 _ _ ?_)
        clear hK23
        refine wp_seq_k fun K24 hK24 => ?_
        -- region 17 (extra.go:64)
        refine Sx.wp_text [(0, .take), (1, .take), (2, .take), (3, .take), (4, .take), (5, .take), (6, .take), (7, .run), (8, .take), (9, .run), (10, .run), (11, .take), (12, .take), (13, .take), (14, .take), (15, .run), (16, .take), (17, .take), (18, .take), (19, .take), (20, .take), (21, .take), (22, .take), (23, .take), (24, .take), (25, .take), (26, .run), (27, .take), (28, .take), (29, .take), (30, .take), (31, .take), (32, .run), (33, .take), (34, .run), (35, .run), (36, .take), (37, .take), (38, .take), (39, .take), (40, .take)] rfl ?_
        refine Sx.st_take hT rfl rfl rfl rfl (Sx.x_move hT rfl rfl) ?_
        clear hT; intro a hT
        refine Sx.st_take hT rfl rfl rfl rfl ((fun w => Sx.x_eq w hT rfl rfl rfl)) ?_
        clear hT; intro a hT
        refine Sx.st_take hT rfl rfl rfl rfl (Sx.x_move hT rfl rfl) ?_
        clear hT; intro a hT
        -- guard (17, 2)
        refine Sx.Sl.two hT 52 rfl (fun hc25 hT => ?_) (fun hc25 hT => ?_)
        · try simp only [decide_eq_true_eq, decide_eq_false_iff_not, Bool.not_eq_true', Bool.not_eq_false', Bool.not_eq_true, Bool.not_eq_false, Bool.and_eq_true, Bool.or_eq_false_iff, beq_iff_eq, bne_iff_ne, Int.not_lt, Int.not_le, ne_eq] at hc25
          have hz0 : z9 = 0 := hc25
          refine Sx.st_take hT rfl rfl rfl rfl (Sx.x_move hT rfl rfl) ?_
          clear hT; intro a hT
          refine Sx.st_take hT rfl rfl rfl rfl (Sx.x_move hT rfl rfl) ?_
          clear hT; intro a hT
          -- guard (17, 4)
          refine Sx.Sl.two hT 54 rfl (fun hc26 hT => ?_) (fun hc26 hT => ?_)
          · exfalso
            try simp only [decide_eq_true_eq, decide_eq_false_iff_not, Bool.not_eq_true', Bool.not_eq_false', Bool.not_eq_true, Bool.not_eq_false, Bool.and_eq_true, Bool.or_eq_false_iff, beq_iff_eq, bne_iff_ne, Int.not_lt, Int.not_le, ne_eq] at hc26
            rw [(hL1 hz0).2.1] at hc26; cases hc26
          · try simp only [decide_eq_true_eq, decide_eq_false_iff_not, Bool.not_eq_true', Bool.not_eq_false', Bool.not_eq_true, Bool.not_eq_false, Bool.and_eq_true, Bool.or_eq_false_iff, beq_iff_eq, bne_iff_ne, Int.not_lt, Int.not_le, ne_eq] at hc26
            refine Sx.st_take hT rfl rfl rfl rfl (Sx.x_move hT rfl rfl) ?_
            clear hT; intro a hT
            refine Sx.st_take hT rfl rfl rfl rfl (Sx.x_fieldAddr hT rfl Try.fa35_0 rfl) ?_
            clear hT; intro a hT
            refine Sx.st_run hT rfl rfl rfl rfl (Sx.x_load1 hT rfl Try.fl3 rfl ((H.blk 3 rfl).nth rfl)) ?_
            clear hT; intro a hT
            refine Sx.st_take hT rfl rfl rfl rfl (Sx.x_fieldAddr hT rfl Try.fa35_2 rfl) ?_
            clear hT; intro a hT
            refine Sx.st_run hT rfl rfl rfl rfl (Sx.y_loadS hT rfl Try.underlying32 Try.ti32 rfl ((H.blk 3 rfl).seg (k := 3) rfl) (by rfl)) ?_
            clear hT; intro a hT
            refine Sx.st_call hT rfl rfl rfl rfl rfl Try.can16 rfl (Has_calls L1 o.f.rg o.f.t (H.blk 0 rfl) ((H.row 1 rfl).ssn rfl) (by omega)) ?_
            rintro _ w11 ⟨rfl, E⟩
            refine ⟨_, rfl, ?_⟩
            clear hT; intro a hT
            replace H := H.pure E; clear E
            refine Sx.st_take hT rfl rfl rfl rfl (Sx.x_not hT rfl rfl) ?_
            clear hT; intro a hT
            refine Sx.st_take hT rfl rfl rfl rfl (Sx.x_pick_f hT rfl rfl rfl) ?_
            clear hT; intro a hT
            refine Sx.st_take hT rfl rfl rfl rfl (Sx.x_move hT rfl rfl) ?_
            clear hT; intro a hT
            -- guard (17, 13)
            refine Sx.Sl.two hT 63 rfl (fun hc27 hT => ?_) (fun hc27 hT => ?_)
            · exfalso
              try simp only [decide_eq_true_eq, decide_eq_false_iff_not, Bool.not_eq_true', Bool.not_eq_false', Bool.not_eq_true, Bool.not_eq_false, Bool.and_eq_true, Bool.or_eq_false_iff, beq_iff_eq, bne_iff_ne, Int.not_lt, Int.not_le, ne_eq] at hc27
              rw [(hL1 hz0).2.2] at hc27; cases hc27
            · try simp only [decide_eq_true_eq, decide_eq_false_iff_not, Bool.not_eq_true', Bool.not_eq_false', Bool.not_eq_true, Bool.not_eq_false, Bool.and_eq_true, Bool.or_eq_false_iff, beq_iff_eq, bne_iff_ne, Int.not_lt, Int.not_le, ne_eq] at hc27
              refine Sx.st_take hT rfl rfl rfl rfl (Sx.x_move hT rfl rfl) ?_
              clear hT; intro a hT
              refine Sx.st_call hT rfl rfl rfl rfl rfl Try.can15 rfl (Len_calls L1 (H.blk 0 rfl)) ?_
              rintro _ w12 ⟨rfl, E⟩
              refine ⟨_, rfl, ?_⟩
              clear hT; intro a hT
              replace H := H.pure E; clear E
              refine Sx.st_take hT rfl rfl rfl rfl (Sx.x_move hT rfl rfl) ?_
              clear hT; intro a hT
              refine Sx.st_take hT rfl rfl rfl rfl ((fun w => Sx.x_add w hT rfl rfl rfl (Sx.wrap64 (by omega)))) ?_
              clear hT; intro a hT
              refine Sx.st_take hT rfl rfl rfl rfl ((fun w => Sx.x_ne w hT rfl rfl rfl)) ?_
              clear hT; intro a hT
              refine Sx.st_take hT rfl rfl rfl rfl (Sx.x_pick_f hT rfl rfl rfl) ?_
              clear hT; intro a hT
              refine Sx.st_take hT rfl rfl rfl rfl (Sx.x_pick_t hT rfl rfl rfl) ?_
              clear hT; intro a hT
              refine Sx.st_take hT rfl rfl rfl rfl (Sx.x_move hT rfl rfl) ?_
              clear hT; intro a hT
              -- guard (17, 21)
              refine Sx.Sl.two hT 71 rfl (fun hc28 hT => ?_) (fun hc28 hT => ?_)
              · exfalso
                try simp only [decide_eq_true_eq, decide_eq_false_iff_not, Bool.not_eq_true', Bool.not_eq_false', Bool.not_eq_true, Bool.not_eq_false, Bool.and_eq_true, Bool.or_eq_false_iff, beq_iff_eq, bne_iff_ne, Int.not_lt, Int.not_le, ne_eq] at hc28
                have := (hL1 hz0).1; first | omega | (simp at hc28; omega)
              · try simp only [decide_eq_true_eq, decide_eq_false_iff_not, Bool.not_eq_true', Bool.not_eq_false', Bool.not_eq_true, Bool.not_eq_false, Bool.and_eq_true, Bool.or_eq_false_iff, beq_iff_eq, bne_iff_ne, Int.not_lt, Int.not_le, ne_eq] at hc28
                refine Sx.st_take hT rfl rfl rfl rfl (Sx.x_move hT rfl rfl) ?_
                clear hT; intro a hT
                refine Sx.st_take hT rfl rfl rfl rfl ((fun w => Sx.x_ne w hT rfl rfl rfl)) ?_
                clear hT; intro a hT
                refine Sx.st_take hT rfl rfl rfl rfl (Sx.x_move hT rfl rfl) ?_
                clear hT; intro a hT
                -- guard (17, 24)
                refine Sx.Sl.two hT 74 rfl (fun hc29 hT => ?_) (fun hc29 hT => ?_)
                · exfalso
                  try simp only [decide_eq_true_eq, decide_eq_false_iff_not, Bool.not_eq_true', Bool.not_eq_false', Bool.not_eq_true, Bool.not_eq_false, Bool.and_eq_true, Bool.or_eq_false_iff, beq_iff_eq, bne_iff_ne, Int.not_lt, Int.not_le, ne_eq] at hc29
                  omega
                · try simp only [decide_eq_true_eq, decide_eq_false_iff_not, Bool.not_eq_true', Bool.not_eq_false', Bool.not_eq_true, Bool.not_eq_false, Bool.and_eq_true, Bool.or_eq_false_iff, beq_iff_eq, bne_iff_ne, Int.not_lt, Int.not_le, ne_eq] at hc29
                  refine Sx.st_skip hT rfl rfl rfl rfl ?_
                  clear hT; intro a hT
                  refine Sx.st_runskip hT rfl rfl rfl rfl ?_
                  clear hT; intro a hT
                  refine Sx.st_skip hT rfl rfl rfl rfl ?_
                  clear hT; intro a hT
                  refine Sx.st_skip hT rfl rfl rfl rfl ?_
                  clear hT; intro a hT
                  refine Sx.st_skip hT rfl rfl rfl rfl ?_
                  clear hT; intro a hT
                  refine Sx.st_skip hT rfl rfl rfl rfl ?_
                  clear hT; intro a hT
                  refine Sx.st_skip hT rfl rfl rfl rfl ?_
                  clear hT; intro a hT
                  refine Sx.st_runskip hT rfl rfl rfl rfl ?_
                  clear hT; intro a hT
                  refine Sx.st_skip hT rfl rfl rfl rfl ?_
                  clear hT; intro a hT
                  refine Sx.st_runskip hT rfl rfl rfl rfl ?_
                  clear hT; intro a hT
                  refine Sx.st_runskip hT rfl rfl rfl rfl ?_
                  clear hT; intro a hT
                  refine Sx.st_skip hT rfl rfl rfl rfl ?_
                  clear hT; intro a hT
                  refine Sx.st_skip hT rfl rfl rfl rfl ?_
                  clear hT; intro a hT
                  refine Sx.st_skip hT rfl rfl rfl rfl ?_
                  clear hT; intro a hT
                  refine Sx.st_take hT rfl rfl rfl rfl (Sx.x_pick_f hT rfl rfl rfl) ?_
                  clear hT; intro a hT
                  refine Sx.st_take hT rfl rfl rfl rfl (Sx.x_pick_f hT rfl rfl rfl) ?_
                  clear hT; intro a hT
                  replace hT := hT.keep [90, 8, 45, 44, 7, 6, 5, 24, 4, 20, 3, 16, 13, 0] rfl
                  refine Sx.ser_nil ?_
                  refine Sx.then_normal (hK24 _ _ ?_)
                  clear hK24
                  refine Sx.wp_if hT rfl (fun h => by cases h) (fun _ => ?_)
                  refine wp_skip ?_
                  refine Sx.block_normal ?_
                  refine Sx.block_normal ?_
                  refine Sx.then_normal (hK16 _ _ ?_)
                  clear hK16
                  -- region 10 (extra.go:57)
                  refine Sx.wp_text [(0, .take), (1, .take), (2, .take)] rfl ?_
                  refine Sx.st_take hT rfl rfl rfl rfl (Sx.x_move hT rfl rfl) ?_
                  clear hT; intro a hT
                  refine Sx.st_take hT rfl rfl rfl rfl ((fun w => Sx.x_add w hT rfl rfl rfl (Sx.wrap64 (by omega)))) ?_
                  clear hT; intro a hT
                  refine Sx.st_take hT rfl rfl rfl rfl (Sx.x_assign hT rfl rfl) ?_
                  clear hT; intro a hT
                  replace hT := hT.keep [4, 90, 8, 45, 44, 7, 6, 5, 24, 20, 3, 16, 13, 0] rfl
                  refine Sx.ser_nil ?_
                  refine Sx.then_normal ?_
                  have hln1 : L1.length ≤ i + 1 := by
                    rcases Decidable.em (z9 = 0) with h91 | h91
                    · have := (hL1 h91).1; omega
                    · have := (hL0 h91).2; omega
                  exact ⟨(i + 1, L1, ad9, c9), ⟨by show i + 1 ≤ _; omega, hHd1, by show List.length L1 ≤ i + 1; exact hln1⟩, (hT.keep [4, 20, 3, 16, 13, 0] rfl), (H.keep [0, 1, 2] rfl rfl), by show _ - (i + 1) < _ - i; omega⟩
        · try simp only [decide_eq_true_eq, decide_eq_false_iff_not, Bool.not_eq_true', Bool.not_eq_false', Bool.not_eq_true, Bool.not_eq_false, Bool.and_eq_true, Bool.or_eq_false_iff, beq_iff_eq, bne_iff_ne, Int.not_lt, Int.not_le, ne_eq] at hc25
          have hz0 : z9 ≠ 0 := hc25
          refine Sx.st_skip hT rfl rfl rfl rfl ?_
          clear hT; intro a hT
          refine Sx.st_skip hT rfl rfl rfl rfl ?_
          clear hT; intro a hT
          refine Sx.st_skip hT rfl rfl rfl rfl ?_
          clear hT; intro a hT
          refine Sx.st_skip hT rfl rfl rfl rfl ?_
          clear hT; intro a hT
          refine Sx.st_runskip hT rfl rfl rfl rfl ?_
          clear hT; intro a hT
          refine Sx.st_skip hT rfl rfl rfl rfl ?_
          clear hT; intro a hT
          refine Sx.st_runskip hT rfl rfl rfl rfl ?_
          clear hT; intro a hT
          refine Sx.st_runskip hT rfl rfl rfl rfl ?_
          clear hT; intro a hT
          refine Sx.st_skip hT rfl rfl rfl rfl ?_
          clear hT; intro a hT
          refine Sx.st_skip hT rfl rfl rfl rfl ?_
          clear hT; intro a hT
          refine Sx.st_skip hT rfl rfl rfl rfl ?_
          clear hT; intro a hT
          refine Sx.st_skip hT rfl rfl rfl rfl ?_
          clear hT; intro a hT
          refine Sx.st_runskip hT rfl rfl rfl rfl ?_
          clear hT; intro a hT
          refine Sx.st_skip hT rfl rfl rfl rfl ?_
          clear hT; intro a hT
          refine Sx.st_skip hT rfl rfl rfl rfl ?_
          clear hT; intro a hT
          refine Sx.st_skip hT rfl rfl rfl rfl ?_
          clear hT; intro a hT
          refine Sx.st_skip hT rfl rfl rfl rfl ?_
          clear hT; intro a hT
          refine Sx.st_take hT rfl rfl rfl rfl (Sx.x_pick_f hT rfl rfl rfl) ?_
          clear hT; intro a hT
          refine Sx.st_take hT rfl rfl rfl rfl (Sx.x_move hT rfl rfl) ?_
          clear hT; intro a hT
          refine Sx.st_take hT rfl rfl rfl rfl (Sx.x_move hT rfl rfl) ?_
          clear hT; intro a hT
          refine Sx.st_take hT rfl rfl rfl rfl ((fun w => Sx.x_ne w hT rfl rfl rfl)) ?_
          clear hT; intro a hT
          refine Sx.st_take hT rfl rfl rfl rfl (Sx.x_move hT rfl rfl) ?_
          clear hT; intro a hT
          -- guard (17, 24)
          refine Sx.Sl.two hT 74 rfl (fun hc30 hT => ?_) (fun hc30 hT => ?_)
          · try simp only [decide_eq_true_eq, decide_eq_false_iff_not, Bool.not_eq_true', Bool.not_eq_false', Bool.not_eq_true, Bool.not_eq_false, Bool.and_eq_true, Bool.or_eq_false_iff, beq_iff_eq, bne_iff_ne, Int.not_lt, Int.not_le, ne_eq] at hc30
            refine Sx.st_take hT rfl rfl rfl rfl (Sx.x_move hT rfl rfl) ?_
            clear hT; intro a hT
            refine Sx.st_call hT rfl rfl rfl rfl rfl Try.can15 rfl (Len_calls L1 (H.blk 0 rfl)) ?_
            rintro _ w13 ⟨rfl, E⟩
            refine ⟨_, rfl, ?_⟩
            clear hT; intro a hT
            replace H := H.pure E; clear E
            refine Sx.st_take hT rfl rfl rfl rfl (Sx.x_move hT rfl rfl) ?_
            clear hT; intro a hT
            refine Sx.st_take hT rfl rfl rfl rfl ((fun w => Sx.x_ne w hT rfl rfl rfl)) ?_
            clear hT; intro a hT
            refine Sx.st_take hT rfl rfl rfl rfl (Sx.x_move hT rfl rfl) ?_
            clear hT; intro a hT
            -- guard (17, 29)
            refine Sx.Sl.two hT 79 rfl (fun hc31 hT => ?_) (fun hc31 hT => ?_)
            · exfalso
              try simp only [decide_eq_true_eq, decide_eq_false_iff_not, Bool.not_eq_true', Bool.not_eq_false', Bool.not_eq_true, Bool.not_eq_false, Bool.and_eq_true, Bool.or_eq_false_iff, beq_iff_eq, bne_iff_ne, Int.not_lt, Int.not_le, ne_eq] at hc31
              have := (hL0 hz0).2; first | omega | (simp at hc31; omega)
            · try simp only [decide_eq_true_eq, decide_eq_false_iff_not, Bool.not_eq_true', Bool.not_eq_false', Bool.not_eq_true, Bool.not_eq_false, Bool.and_eq_true, Bool.or_eq_false_iff, beq_iff_eq, bne_iff_ne, Int.not_lt, Int.not_le, ne_eq] at hc31
              refine Sx.st_take hT rfl rfl rfl rfl (Sx.x_move hT rfl rfl) ?_
              clear hT; intro a hT
              refine Sx.st_take hT rfl rfl rfl rfl (Sx.x_fieldAddr hT rfl Try.fa35_0 rfl) ?_
              clear hT; intro a hT
              refine Sx.st_run hT rfl rfl rfl rfl (Sx.x_load1 hT rfl Try.fl3 rfl ((H.blk 3 rfl).nth rfl)) ?_
              clear hT; intro a hT
              refine Sx.st_take hT rfl rfl rfl rfl (Sx.x_fieldAddr hT rfl Try.fa35_2 rfl) ?_
              clear hT; intro a hT
              refine Sx.st_run hT rfl rfl rfl rfl (Sx.y_loadS hT rfl Try.underlying32 Try.ti32 rfl ((H.blk 3 rfl).seg (k := 3) rfl) (by rfl)) ?_
              clear hT; intro a hT
              refine Sx.st_call hT rfl rfl rfl rfl rfl Try.can16 rfl (Has_calls L1 o.f.rg o.f.t (H.blk 0 rfl) ((H.row 1 rfl).ssn rfl) (by omega)) ?_
              rintro _ w14 ⟨rfl, E⟩
              refine ⟨_, rfl, ?_⟩
              clear hT; intro a hT
              replace H := H.pure E; clear E
              refine Sx.st_take hT rfl rfl rfl rfl (Sx.x_move hT rfl rfl) ?_
              clear hT; intro a hT
              refine Sx.st_take hT rfl rfl rfl rfl (Sx.x_neb hT rfl Try.underlying4 rfl rfl) ?_
              clear hT; intro a hT
              refine Sx.st_take hT rfl rfl rfl rfl (Sx.x_pick_f hT rfl rfl rfl) ?_
              clear hT; intro a hT
              refine Sx.st_take hT rfl rfl rfl rfl (Sx.x_pick_t hT rfl rfl rfl) ?_
              clear hT; intro a hT
              refine Sx.st_take hT rfl rfl rfl rfl (Sx.x_pick_f hT rfl rfl rfl) ?_
              clear hT; intro a hT
              replace hT := hT.keep [90, 8, 45, 44, 7, 6, 5, 24, 4, 20, 3, 16, 13, 0] rfl
              refine Sx.ser_nil ?_
              refine Sx.then_normal (hK24 _ _ ?_)
              clear hK24
              -- cond 5
              refine Sx.wp_if hT rfl (fun hc32 => ?_) (fun hc32 => ?_)
              · exfalso
                try simp only [decide_eq_true_eq, decide_eq_false_iff_not, Bool.not_eq_true', Bool.not_eq_false', Bool.not_eq_true, Bool.not_eq_false, Bool.and_eq_true, Bool.or_eq_false_iff, beq_iff_eq, bne_iff_ne, Int.not_lt, Int.not_le, ne_eq] at hc32
                rw [(hL0 hz0).1] at hc32; simp at hc32
              · try simp only [decide_eq_true_eq, decide_eq_false_iff_not, Bool.not_eq_true', Bool.not_eq_false', Bool.not_eq_true, Bool.not_eq_false, Bool.and_eq_true, Bool.or_eq_false_iff, beq_iff_eq, bne_iff_ne, Int.not_lt, Int.not_le, ne_eq] at hc32
                refine wp_skip ?_
                refine Sx.block_normal ?_
                refine Sx.block_normal ?_
                refine Sx.then_normal (hK16 _ _ ?_)
                clear hK16
                -- region 10 (extra.go:57)
                refine Sx.wp_text [(0, .take), (1, .take), (2, .take)] rfl ?_
                refine Sx.st_take hT rfl rfl rfl rfl (Sx.x_move hT rfl rfl) ?_
                clear hT; intro a hT
                refine Sx.st_take hT rfl rfl rfl rfl ((fun w => Sx.x_add w hT rfl rfl rfl (Sx.wrap64 (by omega)))) ?_
                clear hT; intro a hT
                refine Sx.st_take hT rfl rfl rfl rfl (Sx.x_assign hT rfl rfl) ?_
                clear hT; intro a hT
                replace hT := hT.keep [4, 90, 8, 45, 44, 7, 6, 5, 24, 20, 3, 16, 13, 0] rfl
                refine Sx.ser_nil ?_
                refine Sx.then_normal ?_
                have hln1 : L1.length ≤ i + 1 := by
                  rcases Decidable.em (z9 = 0) with h91 | h91
                  · have := (hL1 h91).1; omega
                  · have := (hL0 h91).2; omega
                exact ⟨(i + 1, L1, ad9, c9), ⟨by show i + 1 ≤ _; omega, hHd1, by show List.length L1 ≤ i + 1; exact hln1⟩, (hT.keep [4, 20, 3, 16, 13, 0] rfl), (H.keep [0, 1, 2] rfl rfl), by show _ - (i + 1) < _ - i; omega⟩
          · exfalso
            try simp only [decide_eq_true_eq, decide_eq_false_iff_not, Bool.not_eq_true', Bool.not_eq_false', Bool.not_eq_true, Bool.not_eq_false, Bool.and_eq_true, Bool.or_eq_false_iff, beq_iff_eq, bne_iff_ne, Int.not_lt, Int.not_le, ne_eq] at hc30
            omega
      · try simp only [decide_eq_true_eq, decide_eq_false_iff_not, Bool.not_eq_true', Bool.not_eq_false', Bool.not_eq_true, Bool.not_eq_false, Bool.and_eq_true, Bool.or_eq_false_iff, beq_iff_eq, bne_iff_ne, Int.not_lt, Int.not_le, ne_eq] at hc22
        refine wp_seq_k fun K33 hK33 => ?_
        -- region 19 (extra.go:67)
        refine Sx.wp_text [(0, .take), (1, .take)] rfl ?_
        refine Sx.st_take hT rfl rfl rfl rfl ((fun w => Sx.x_eq w hT rfl rfl rfl)) ?_
        clear hT; intro a hT
        refine Sx.st_take hT rfl rfl rfl rfl (Sx.x_assign hT rfl rfl) ?_
        clear hT; intro a hT
        replace hT := hT.keep [91, 45, 44, 7, 6, 5, 24, 4, 20, 3, 16, 13, 0] rfl
        refine Sx.ser_nil ?_
        refine Sx.then_normal (hK33 _ _ ?_)
        clear hK33
        -- cond 6
        refine Sx.wp_if hT rfl (fun hc34 => ?_) (fun hc34 => ?_)
        · try simp only [decide_eq_true_eq, decide_eq_false_iff_not, Bool.not_eq_true', Bool.not_eq_false', Bool.not_eq_true, Bool.not_eq_false, Bool.and_eq_true, Bool.or_eq_false_iff, beq_iff_eq, bne_iff_ne, Int.not_lt, Int.not_le, ne_eq] at hc34
          refine wp_seq_k fun K35 hK35 => ?_
          -- region 20 (extra.go:68)
          refine Sx.wp_text [(0, .take), (1, .take), (2, .take), (3, .take), (4, .take), (5, .run), (6, .run), (7, .take)] rfl ?_
          refine Sx.st_take hT rfl rfl rfl rfl (Sx.x_move hT rfl rfl) ?_
          clear hT; intro a hT
          refine Sx.st_take hT rfl rfl rfl rfl (Sx.x_move hT rfl rfl) ?_
          clear hT; intro a hT
          refine Sx.st_take hT rfl rfl rfl rfl (Sx.x_move hT rfl rfl) ?_
          clear hT; intro a hT
          refine Sx.st_take hT rfl rfl rfl rfl (Sx.x_index (k := i) hT rfl Try.underlying22 Try.ti37 (R.at H.ext).sv rfl rfl (by first | rfl | omega) (by omega)) ?_
          clear hT; intro a hT
          refine Sx.st_take hT rfl rfl rfl rfl (Sx.x_fieldAddr hT rfl Try.fa37_3 rfl) ?_
          clear hT; intro a hT
          refine Sx.st_run hT rfl rfl rfl rfl (Sx.y_loadS hT rfl Try.underlying28 Try.ti28 rfl (((R.at H.ext).cs Op.len ho).seg (i := 11) (k := 3) rfl) (by rfl)) ?_
          clear hT; intro a hT
          refine Sx.st_call hT rfl rfl rfl rfl rfl Try.can13 rfl (Upto_calls o.s (H.pre [1, 2, 3] rfl rfl) hHd (by omega)) ?_
          rintro _ w15 ⟨ad9, c9, E9, ade, ce, L1, rfl, K, hE9, hp1⟩
          refine ⟨_, rfl, ?_⟩
          clear hT; intro a hT
          replace H := H.back [1, 2, 3] [0] rfl rfl rfl K rfl; clear K
          have hHd1 : Held (L1.map Fr.p) := by rw [hp1]; exact held_upto hHd _
          obtain ⟨hul1, hul2⟩ := upto_len (L.map Fr.p) o.s
          rw [← hE9, ← hp1, List.length_map, List.length_map] at hul1
          rw [← hp1, List.length_map, List.length_map] at hul2
          have hE9l : E9.length = 0 ↔ L1.length = L.length := by rw [← hul1, List.map_eq_nil_iff, List.length_eq_zero_iff]
          have hE9b : E9.length ≤ L.length := by rw [show E9.length = (E9.map En.p).length from by rw [List.length_map], hE9]; unfold uptoE; rw [List.length_map]; have h9 := (grp_all hHd (cntS o.s (L.map Fr.p)) (cntS_le _ _)).len; have h8 := cntS_le o.s (L.map Fr.p); rw [List.length_map] at h8; omega
          refine Sx.st_take hT rfl rfl rfl rfl (Sx.x_assign hT rfl rfl) ?_
          clear hT; intro a hT
          replace hT := hT.keep [9, 91, 45, 44, 7, 6, 5, 24, 4, 20, 3, 16, 13, 0] rfl
          refine Sx.ser_nil ?_
          refine Sx.then_normal (hK35 _ _ ?_)
          clear hK35
          refine wp_seq_k fun K36 hK36 => ?_
          refine wp_seq_k fun K37 hK37 => ?_
          -- region 21 (extra.go:69)
          refine Sx.wp_text [(0, .take)] rfl ?_
          refine Sx.st_take hT rfl rfl rfl rfl (Sx.x_assign hT rfl rfl) ?_
          clear hT; intro a hT
          replace hT := hT.keep [10, 9, 91, 45, 44, 7, 6, 5, 24, 4, 20, 3, 16, 13, 0] rfl
          refine Sx.ser_nil ?_
          refine Sx.then_normal (hK37 _ _ ?_)
          clear hK37
          refine wp_block ?_
          -- loop 1
          refine Sx.wp_loopH (G := Nat) (fun k => [(10, .int .i64 (k : Int))]) (fun k => []) (fun k => k ≤ E9.length) (fun k => E9.length - k) 0 (hT.keep [10, 9, 91, 45, 44, 7, 6, 5, 24, 4, 20, 3, 16, 13, 0] rfl) (H.keep [0, 1, 2, 3, 4, 5] rfl rfl) (Nat.zero_le _) ?_
          clear hT H
          rintro k a w16 hJ hT H
          replace hT := hT.keep [10, 9, 91, 45, 44, 7, 6, 5, 24, 4, 20, 3, 16, 13, 0] rfl
          replace H := H.keep [0, 1, 2, 3, 4, 5] rfl rfl
          have hk : k ≤ E9.length := hJ
          refine wp_seq_k fun K38 hK38 => ?_
          refine wp_seq_k fun K39 hK39 => ?_
          -- region 22 (extra.go:69)
          refine Sx.wp_text [(0, .take), (1, .take), (2, .take), (3, .take)] rfl ?_
          refine Sx.st_take hT rfl rfl rfl rfl (Sx.x_move hT rfl rfl) ?_
          clear hT; intro a hT
          refine Sx.st_take hT rfl rfl rfl rfl (Sx.x_move hT rfl rfl) ?_
          clear hT; intro a hT
          refine Sx.st_take hT rfl rfl rfl rfl (Sx.x_len_slice hT rfl rfl Try.underlying30 rfl) ?_
          clear hT; intro a hT
          refine Sx.st_take hT rfl rfl rfl rfl ((fun w => Sx.x_lt w hT rfl rfl rfl)) ?_
          clear hT; intro a hT
          replace hT := hT.keep [103, 10, 9, 91, 45, 44, 7, 6, 5, 24, 4, 20, 3, 16, 13, 0] rfl
          refine Sx.ser_nil ?_
          refine Sx.then_normal (hK39 _ _ ?_)
          clear hK39
          -- cond 7
          refine Sx.wp_if hT rfl (fun hc40 => ?_) (fun hc40 => ?_)
          · try simp only [decide_eq_true_eq, decide_eq_false_iff_not, Bool.not_eq_true', Bool.not_eq_false', Bool.not_eq_true, Bool.not_eq_false, Bool.and_eq_true, Bool.or_eq_false_iff, beq_iff_eq, bne_iff_ne, Int.not_lt, Int.not_le, ne_eq] at hc40
            obtain ⟨e, he⟩ : ∃ o, E9[k]? = some o := ⟨_, List.getElem?_eq_getElem (by omega)⟩
            have hem9 : e.p ∈ uptoE (L.map Fr.p) o.s := by rw [← hE9]; exact List.mem_map_of_mem (List.mem_of_getElem? he)
            refine wp_skip ?_
            refine Sx.then_normal (hK38 _ _ ?_)
            clear hK38
            refine wp_seq_k fun K41 hK41 => ?_
            refine wp_block ?_
            refine wp_seq_k fun K42 hK42 => ?_
            -- region 24 (extra.go:70)
            refine Sx.wp_text [(0, .take)] rfl ?_
            refine Sx.st_take hT rfl rfl rfl rfl (Sx.x_assign hT rfl rfl) ?_
            clear hT; intro a hT
            replace hT := hT.keep [11, 103, 10, 9, 91, 45, 44, 7, 6, 5, 24, 4, 20, 3, 16, 13, 0] rfl
            refine Sx.ser_nil ?_
            refine Sx.then_normal (hK42 _ _ ?_)
            clear hK42
            refine wp_block ?_
            -- loop 2
            refine Sx.wp_loopH (G := Nat) (fun id => [(11, .int .i64 (id : Int))]) (fun id => []) (fun id => id ≤ 13) (fun id => 13 - id) 1 (hT.keep [11, 103, 10, 9, 91, 45, 44, 7, 6, 5, 24, 4, 20, 3, 16, 13, 0] rfl) (H.keep [0, 1, 2, 3, 4, 5] rfl rfl) ((by decide)) ?_
            clear hT H
            rintro id a w17 hJ hT H
            replace hT := hT.keep [11, 103, 10, 9, 91, 45, 44, 7, 6, 5, 24, 4, 20, 3, 16, 13, 0] rfl
            replace H := H.keep [0, 1, 2, 3, 4, 5] rfl rfl
            have hid : id ≤ 13 := hJ
            refine wp_seq_k fun K43 hK43 => ?_
            refine wp_seq_k fun K44 hK44 => ?_
            -- region 25 (extra.go:70)
            refine Sx.wp_text [(0, .take), (1, .take)] rfl ?_
            refine Sx.st_take hT rfl rfl rfl rfl (Sx.x_move hT rfl rfl) ?_
            clear hT; intro a hT
            refine Sx.st_take hT rfl rfl rfl rfl ((fun w => Sx.x_le w hT rfl rfl rfl)) ?_
            clear hT; intro a hT
            replace hT := hT.keep [107, 11, 103, 10, 9, 91, 45, 44, 7, 6, 5, 24, 4, 20, 3, 16, 13, 0] rfl
            refine Sx.ser_nil ?_
            refine Sx.then_normal (hK44 _ _ ?_)
            clear hK44
            -- cond 8
            refine Sx.wp_if hT rfl (fun hc45 => ?_) (fun hc45 => ?_)
            · try simp only [decide_eq_true_eq, decide_eq_false_iff_not, Bool.not_eq_true', Bool.not_eq_false', Bool.not_eq_true, Bool.not_eq_false, Bool.and_eq_true, Bool.or_eq_false_iff, beq_iff_eq, bne_iff_ne, Int.not_lt, Int.not_le, ne_eq] at hc45
              have hnot : hasF (L1.map Fr.p) (id : Int) e.t = false := by rw [hp1]; exact upto_has hHd hem9 _
              refine wp_skip ?_
              refine Sx.then_normal (hK43 _ _ ?_)
              clear hK43
              refine wp_seq_k fun K46 hK46 => ?_
              refine wp_block ?_
              refine wp_seq_k fun K47 hK47 => ?_
              -- region 27 (extra.go:71)
              refine Sx.wp_text [(0, .take), (1, .take), (2, .take), (3, .take), (4, .take), (5, .take), (6, .run), (7, .run)] rfl ?_
              refine Sx.st_take hT rfl rfl rfl rfl (Sx.x_move hT rfl rfl) ?_
              clear hT; intro a hT
              refine Sx.st_take hT rfl rfl rfl rfl (Sx.x_move hT rfl rfl) ?_
              clear hT; intro a hT
              refine Sx.st_take hT rfl rfl rfl rfl (Sx.x_move hT rfl rfl) ?_
              clear hT; intro a hT
              refine Sx.st_take hT rfl rfl rfl rfl (Sx.x_move hT rfl rfl) ?_
              clear hT; intro a hT
              refine Sx.st_take hT rfl rfl rfl rfl (Sx.x_index (k := k) hT rfl Try.underlying30 Try.ti44 (H.row 3 rfl).sv rfl rfl (by first | rfl | omega) (by omega)) ?_
              clear hT; intro a hT
              refine Sx.st_take hT rfl rfl rfl rfl (Sx.x_fieldAddr hT rfl Try.fa44_0 rfl) ?_
              clear hT; intro a hT
              refine Sx.st_run hT rfl rfl rfl rfl (Sx.y_loadS hT rfl Try.underlying32 Try.ti32 rfl (((((H.row 3 rfl).ssn rfl).cs En.len he).seg (i := 0) (k := 3) rfl)) (by rfl)) ?_
              clear hT; intro a hT
              refine Sx.st_call hT rfl rfl rfl rfl rfl Try.can16 rfl (Has_calls L1 (id : Int) e.t (H.blk 0 rfl) ((H.row 1 rfl).ssn rfl) (by omega)) ?_
              rintro _ w18 ⟨rfl, E⟩
              refine ⟨_, rfl, ?_⟩
              clear hT; intro a hT
              replace H := H.pure E; clear E
              rw [hnot] at hT
              replace hT := hT.keep [117, 107, 11, 103, 10, 9, 91, 45, 44, 7, 6, 5, 24, 4, 20, 3, 16, 13, 0] rfl
              refine Sx.ser_nil ?_
              refine Sx.then_normal (hK47 _ _ ?_)
              clear hK47
              -- cond 9
              refine Sx.wp_if hT rfl (fun hc48 => ?_) (fun hc48 => ?_)
              · exfalso
                try simp only [decide_eq_true_eq, decide_eq_false_iff_not, Bool.not_eq_true', Bool.not_eq_false', Bool.not_eq_true, Bool.not_eq_false, Bool.and_eq_true, Bool.or_eq_false_iff, beq_iff_eq, bne_iff_ne, Int.not_lt, Int.not_le, ne_eq] at hc48
                cases hc48
              · try simp only [decide_eq_true_eq, decide_eq_false_iff_not, Bool.not_eq_true', Bool.not_eq_false', Bool.not_eq_true, Bool.not_eq_false, Bool.and_eq_true, Bool.or_eq_false_iff, beq_iff_eq, bne_iff_ne, Int.not_lt, Int.not_le, ne_eq] at hc48
                refine wp_skip ?_
                refine Sx.block_normal ?_
                refine Sx.then_normal (hK46 _ _ ?_)
                clear hK46
                -- region 26 (extra.go:70)
                refine Sx.wp_text [(0, .take), (1, .take), (2, .take)] rfl ?_
                refine Sx.st_take hT rfl rfl rfl rfl (Sx.x_move hT rfl rfl) ?_
                clear hT; intro a hT
                refine Sx.st_take hT rfl rfl rfl rfl ((fun w => Sx.x_add w hT rfl rfl rfl (Sx.wrap64 (by omega)))) ?_
                clear hT; intro a hT
                refine Sx.st_take hT rfl rfl rfl rfl (Sx.x_assign hT rfl rfl) ?_
                clear hT; intro a hT
                replace hT := hT.keep [11, 117, 107, 103, 10, 9, 91, 45, 44, 7, 6, 5, 24, 4, 20, 3, 16, 13, 0] rfl
                refine Sx.ser_nil ?_
                refine Sx.then_normal ?_
                exact ⟨id + 1, (by omega), (hT.keep [11, 103, 10, 9, 91, 45, 44, 7, 6, 5, 24, 4, 20, 3, 16, 13, 0] rfl), (H.keep [0, 1, 2, 3, 4, 5] rfl rfl), by omega⟩
            · try simp only [decide_eq_true_eq, decide_eq_false_iff_not, Bool.not_eq_true', Bool.not_eq_false', Bool.not_eq_true, Bool.not_eq_false, Bool.and_eq_true, Bool.or_eq_false_iff, beq_iff_eq, bne_iff_ne, Int.not_lt, Int.not_le, ne_eq] at hc45
              refine wp_exit ?_
              refine Sx.then_exit ?_
              refine Sx.then_exit ?_
              refine Sx.block_exit ?_
              refine Sx.block_normal ?_
              refine Sx.then_normal (hK41 _ _ ?_)
              clear hK41
              -- region 23 (extra.go:69)
              refine Sx.wp_text [(0, .take), (1, .take), (2, .take)] rfl ?_
              refine Sx.st_take hT rfl rfl rfl rfl (Sx.x_move hT rfl rfl) ?_
              clear hT; intro a hT
              refine Sx.st_take hT rfl rfl rfl rfl ((fun w => Sx.x_add w hT rfl rfl rfl (Sx.wrap64 (by omega)))) ?_
              clear hT; intro a hT
              refine Sx.st_take hT rfl rfl rfl rfl (Sx.x_assign hT rfl rfl) ?_
              clear hT; intro a hT
              replace hT := hT.keep [10, 107, 11, 103, 9, 91, 45, 44, 7, 6, 5, 24, 4, 20, 3, 16, 13, 0] rfl
              refine Sx.ser_nil ?_
              refine Sx.then_normal ?_
              exact ⟨k + 1, (by omega), (hT.keep [10, 9, 91, 45, 44, 7, 6, 5, 24, 4, 20, 3, 16, 13, 0] rfl), (H.keep [0, 1, 2, 3, 4, 5] rfl rfl), by omega⟩
          · try simp only [decide_eq_true_eq, decide_eq_false_iff_not, Bool.not_eq_true', Bool.not_eq_false', Bool.not_eq_true, Bool.not_eq_false, Bool.and_eq_true, Bool.or_eq_false_iff, beq_iff_eq, bne_iff_ne, Int.not_lt, Int.not_le, ne_eq] at hc40
            refine wp_exit ?_
            refine Sx.then_exit ?_
            refine Sx.then_exit ?_
            refine Sx.block_exit ?_
            refine Sx.then_normal (hK36 _ _ ?_)
            clear hK36
            refine wp_seq_k fun K49 hK49 => ?_
            -- region 29 (extra.go:76)
            refine Sx.wp_text [(0, .take), (1, .take), (2, .take), (3, .take), (4, .run), (5, .take), (6, .take), (7, .take), (8, .take), (9, .take), (10, .run), (11, .take), (12, .take), (13, .take)] rfl ?_
            refine Sx.st_take hT rfl rfl rfl rfl (Sx.x_move hT rfl rfl) ?_
            clear hT; intro a hT
            refine Sx.st_take hT rfl rfl rfl rfl (Sx.x_len_slice hT rfl rfl Try.underlying30 rfl) ?_
            clear hT; intro a hT
            refine Sx.st_take hT rfl rfl rfl rfl ((fun w => Sx.x_eq w hT rfl rfl rfl)) ?_
            clear hT; intro a hT
            refine Sx.st_take hT rfl rfl rfl rfl (Sx.x_move hT rfl rfl) ?_
            clear hT; intro a hT
            refine Sx.st_call hT rfl rfl rfl rfl rfl Try.can15 rfl (Len_calls L1 (H.blk 0 rfl)) ?_
            rintro _ w19 ⟨rfl, E⟩
            refine ⟨_, rfl, ?_⟩
            clear hT; intro a hT
            replace H := H.pure E; clear E
            refine Sx.st_take hT rfl rfl rfl rfl (Sx.x_move hT rfl rfl) ?_
            clear hT; intro a hT
            refine Sx.st_take hT rfl rfl rfl rfl ((fun w => Sx.x_eq w hT rfl rfl rfl)) ?_
            clear hT; intro a hT
            refine Sx.st_take hT rfl rfl rfl rfl (Sx.x_neb hT rfl Try.underlying4 rfl rfl) ?_
            clear hT; intro a hT
            refine Sx.st_take hT rfl rfl rfl rfl (Sx.x_move hT rfl rfl) ?_
            clear hT; intro a hT
            -- guard (29, 8)
            refine Sx.Sl.two hT 126 rfl (fun hc50 hT => ?_) (fun hc50 hT => ?_)
            · exfalso
              try simp only [decide_eq_true_eq, decide_eq_false_iff_not, Bool.not_eq_true', Bool.not_eq_false', Bool.not_eq_true, Bool.not_eq_false, Bool.and_eq_true, Bool.or_eq_false_iff, beq_iff_eq, bne_iff_ne, Int.not_lt, Int.not_le, ne_eq] at hc50
              have h94 : decide ((E9.length : Int) = 0) = decide ((L1.length : Int) = (L.length : Int)) := decide_eq_decide.2 ⟨fun h => by have := hE9l.1 (by omega); omega, fun h => by have := hE9l.2 (by omega); omega⟩; rw [h94] at hc50; simp at hc50
            · try simp only [decide_eq_true_eq, decide_eq_false_iff_not, Bool.not_eq_true', Bool.not_eq_false', Bool.not_eq_true, Bool.not_eq_false, Bool.and_eq_true, Bool.or_eq_false_iff, beq_iff_eq, bne_iff_ne, Int.not_lt, Int.not_le, ne_eq] at hc50
              refine Sx.st_take hT rfl rfl rfl rfl (Sx.x_move hT rfl rfl) ?_
              clear hT; intro a hT
              refine Sx.st_call hT rfl rfl rfl rfl rfl Try.can15 rfl (Len_calls L1 (H.blk 0 rfl)) ?_
              rintro _ w20 ⟨rfl, E⟩
              refine ⟨_, rfl, ?_⟩
              clear hT; intro a hT
              replace H := H.pure E; clear E
              refine Sx.st_take hT rfl rfl rfl rfl (Sx.x_move hT rfl rfl) ?_
              clear hT; intro a hT
              refine Sx.st_take hT rfl rfl rfl rfl ((fun w => Sx.x_gt w hT rfl rfl rfl)) ?_
              clear hT; intro a hT
              refine Sx.st_take hT rfl rfl rfl rfl (Sx.x_pick_f hT rfl rfl rfl) ?_
              clear hT; intro a hT
              replace hT := hT.keep [131, 103, 10, 9, 91, 45, 44, 7, 6, 5, 24, 4, 20, 3, 16, 13, 0] rfl
              refine Sx.ser_nil ?_
              refine Sx.then_normal (hK49 _ _ ?_)
              clear hK49
              -- cond 10
              refine Sx.wp_if hT rfl (fun hc51 => ?_) (fun hc51 => ?_)
              · exfalso
                try simp only [decide_eq_true_eq, decide_eq_false_iff_not, Bool.not_eq_true', Bool.not_eq_false', Bool.not_eq_true, Bool.not_eq_false, Bool.and_eq_true, Bool.or_eq_false_iff, beq_iff_eq, bne_iff_ne, Int.not_lt, Int.not_le, ne_eq] at hc51
                omega
              · try simp only [decide_eq_true_eq, decide_eq_false_iff_not, Bool.not_eq_true', Bool.not_eq_false', Bool.not_eq_true, Bool.not_eq_false, Bool.and_eq_true, Bool.or_eq_false_iff, beq_iff_eq, bne_iff_ne, Int.not_lt, Int.not_le, ne_eq] at hc51
                refine wp_skip ?_
                refine Sx.block_normal ?_
                refine Sx.block_normal ?_
                refine Sx.then_normal (hK16 _ _ ?_)
                clear hK16
                -- region 10 (extra.go:57)
                refine Sx.wp_text [(0, .take), (1, .take), (2, .take)] rfl ?_
                refine Sx.st_take hT rfl rfl rfl rfl (Sx.x_move hT rfl rfl) ?_
                clear hT; intro a hT
                refine Sx.st_take hT rfl rfl rfl rfl ((fun w => Sx.x_add w hT rfl rfl rfl (Sx.wrap64 (by omega)))) ?_
                clear hT; intro a hT
                refine Sx.st_take hT rfl rfl rfl rfl (Sx.x_assign hT rfl rfl) ?_
                clear hT; intro a hT
                replace hT := hT.keep [4, 131, 103, 10, 9, 91, 45, 44, 7, 6, 5, 24, 20, 3, 16, 13, 0] rfl
                refine Sx.ser_nil ?_
                refine Sx.then_normal ?_
                have hln1 : L1.length ≤ i + 1 := by omega
                exact ⟨(i + 1, L1, ad9, c9), ⟨by show i + 1 ≤ _; omega, hHd1, by show List.length L1 ≤ i + 1; exact hln1⟩, (hT.keep [4, 20, 3, 16, 13, 0] rfl), (H.keep [0, 1, 2] rfl rfl), by show _ - (i + 1) < _ - i; omega⟩
        · try simp only [decide_eq_true_eq, decide_eq_false_iff_not, Bool.not_eq_true', Bool.not_eq_false', Bool.not_eq_true, Bool.not_eq_false, Bool.and_eq_true, Bool.or_eq_false_iff, beq_iff_eq, bne_iff_ne, Int.not_lt, Int.not_le, ne_eq] at hc34
          refine wp_skip ?_
          refine Sx.block_normal ?_
          refine Sx.block_normal ?_
          refine Sx.then_normal (hK16 _ _ ?_)
          clear hK16
          -- region 10 (extra.go:57)
          refine Sx.wp_text [(0, .take), (1, .take), (2, .take)] rfl ?_
          refine Sx.st_take hT rfl rfl rfl rfl (Sx.x_move hT rfl rfl) ?_
          clear hT; intro a hT
          refine Sx.st_take hT rfl rfl rfl rfl ((fun w => Sx.x_add w hT rfl rfl rfl (Sx.wrap64 (by omega)))) ?_
          clear hT; intro a hT
          refine Sx.st_take hT rfl rfl rfl rfl (Sx.x_assign hT rfl rfl) ?_
          clear hT; intro a hT
          replace hT := hT.keep [4, 91, 45, 44, 7, 6, 5, 24, 20, 3, 16, 13, 0] rfl
          refine Sx.ser_nil ?_
          refine Sx.then_normal ?_
          skip
          exact ⟨(i + 1, L, ad1, c1), ⟨by show i + 1 ≤ _; omega, hHd, by show List.length L ≤ i + 1; omega⟩, (hT.keep [4, 20, 3, 16, 13, 0] rfl), (H.keep [1, 2, 3] rfl rfl), by show _ - (i + 1) < _ - i; omega⟩
    · try simp only [decide_eq_true_eq, decide_eq_false_iff_not, Bool.not_eq_true', Bool.not_eq_false', Bool.not_eq_true, Bool.not_eq_false, Bool.and_eq_true, Bool.or_eq_false_iff, beq_iff_eq, bne_iff_ne, Int.not_lt, Int.not_le, ne_eq] at hc15
      refine wp_exit ?_
      refine Sx.then_exit ?_
      refine Sx.then_exit ?_
      refine Sx.block_exit ?_
      refine Sx.then_normal (hK11 _ _ ?_)
      clear hK11
      refine wp_seq_k fun K52 hK52 => ?_
      -- region 31 (extra.go:81)
      refine Sx.wp_text [(0, .run), (1, .take)] rfl ?_
      refine Sx.st_call hT rfl rfl rfl rfl rfl Try.can7 rfl (first_calls _) ?_
      rintro _ w21 ⟨rfl, E⟩
      refine ⟨_, rfl, ?_⟩
      clear hT; intro a hT
      replace H := H.pure E; clear E
      refine Sx.st_take hT rfl rfl rfl rfl (Sx.x_assign hT rfl rfl) ?_
      clear hT; intro a hT
      replace hT := hT.keep [2, 24, 4, 20, 3, 16, 13, 0] rfl
      refine Sx.ser_nil ?_
      refine Sx.then_normal (hK52 _ _ ?_)
      clear hK52
      refine wp_ret ?_
      refine Sx.done1 (fn := Try.f4) hT rfl (.tmp (hT.get 2 _ rfl)) ?_
      exact ⟨ret_b (by simp), H.ext⟩

end Go.Proofs.Ythhdoeflafakaaa
